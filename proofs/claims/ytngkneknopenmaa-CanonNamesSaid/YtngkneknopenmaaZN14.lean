/- Texts of this claim, joined by a program of this session: the declarations that its theorem uses. -/
import Derived.Test.YtngkneknopenmaaZN13
section
namespace Go.Proofs.Ytngkneknopenmaa.T
open Go.Proofs.Ytngkneknopenmaa Go.Proofs.Ytngkneknopenmaa.Give Go.Proofs.Ytngkneknopenmaa.K
open Go.RowKit Go.Proofs.YtngkneknopenmaaW.PrintWords Go.Proofs.YtngkneknopenmaaW.PrintLast Go.Proofs.YtngkneknopenmaaW.PrintMore
attribute [local go_sem] qb3 qb1 qca qb9 qbu qbt qb2 qb0   -- for this text's walks alone
set_option linter.unusedVariables false
set_option linter.unusedSimpArgs false
attribute [local go_sem high] eqA51
mutual
def history_Same.l0 : Nat → List (S55) → List (S55) → Int → Int → Option (Bool)
 | 0, _, _, _, _ => none
 | k + 1, x1, x15, x16, x17 => if x17 < x16 then (if 0 ≤ x17 then (if x17 < (x15.length : Int) then (if x17 < (x1.length : Int) then (if ((qab x15 x17).f0) = ((qab x1 x17).f0) then (if ((qab x15 x17).f1) = ((qab x1 x17).f1) then (if ((qab x15 x17).f2) = ((qab x1 x17).f2) then (history_Same.j1 k x1 x15 x16 x17 ((((qab x15 x17).f3).length : Int) != (((qab x1 x17).f3).length : Int)) ((qab x15 x17).f0) ((qab x15 x17).f1) ((qab x15 x17).f2) ((qab x15 x17).f3) ((qab x1 x17).f0) ((qab x1 x17).f1) ((qab x1 x17).f2) ((qab x1 x17).f3)) else (history_Same.j1 k x1 x15 x16 x17 true ((qab x15 x17).f0) ((qab x15 x17).f1) ((qab x15 x17).f2) ((qab x15 x17).f3) ((qab x1 x17).f0) ((qab x1 x17).f1) ((qab x1 x17).f2) ((qab x1 x17).f3))) else (history_Same.j1 k x1 x15 x16 x17 true ((qab x15 x17).f0) ((qab x15 x17).f1) ((qab x15 x17).f2) ((qab x15 x17).f3) ((qab x1 x17).f0) ((qab x1 x17).f1) ((qab x1 x17).f2) ((qab x1 x17).f3))) else (history_Same.j1 k x1 x15 x16 x17 true ((qab x15 x17).f0) ((qab x15 x17).f1) ((qab x15 x17).f2) ((qab x15 x17).f3) ((qab x1 x17).f0) ((qab x1 x17).f1) ((qab x1 x17).f2) ((qab x1 x17).f3))) else (none)) else (none)) else (none)) else (some true)
def history_Same.j1 : Nat → List (S55) → List (S55) → Int → Int → Bool → Int → Int → Int → List (S51) → Int → Int → Int → List (S51) → Option (Bool)
 | 0, _, _, _, _, _, _, _, _, _, _, _, _, _ => none
 | k + 1, x1, x15, x16, x17, x53, x103000, x103001, x103002, x103003, x105000, x105001, x105002, x105003 => if x53 = true then (some false) else (history_Same.l1 k x1 x15 x16 x17 x103003 (x103003.length : Int) 0 x105000 x105001 x105002 x105003)
def history_Same.l1 : Nat → List (S55) → List (S55) → Int → Int → List (S51) → Int → Int → Int → Int → Int → List (S51) → Option (Bool)
 | 0, _, _, _, _, _, _, _, _, _, _, _ => none
 | k + 1, x1, x15, x16, x17, x55, x56, x57, x105000, x105001, x105002, x105003 => if x57 < x56 then (if 0 ≤ x57 then (if x57 < (x55.length : Int) then (if x57 < (x105003.length : Int) then (if (!(((qaj x105003 x57).f0) == ((qaj x55 x57).f0)) || (!(((qaj x105003 x57).f1) == ((qaj x55 x57).f1)) || (!(((qaj x105003 x57).f2) == ((qaj x55 x57).f2))))) = true then (some false) else (history_Same.l1 k x1 x15 x16 x17 x55 x56 (wrap64 (x57 + 1)) x105000 x105001 x105002 x105003)) else (none)) else (none)) else (none)) else (history_Same.l0 k x1 x15 x16 (wrap64 (x17 + 1)))
end
def history_Same.f (k : Nat) (l0 : List (S55)) (l1 : List (S55)) : Option (Bool) := if (l0.length : Int) = (l1.length : Int) then (history_Same.l0 k l1 l0 (l0.length : Int) 0) else (some false)
theorem history_Same.mono_l : ∀ k, (∀ y0 y1 y2 y3, LeO (history_Same.l0 k y0 y1 y2 y3) (history_Same.l0 (k + 1) y0 y1 y2 y3)) ∧ (∀ y0 y1 y2 y3 y4 y5 y6 y7 y8 y9 y10 y11 y12, LeO (history_Same.j1 k y0 y1 y2 y3 y4 y5 y6 y7 y8 y9 y10 y11 y12) (history_Same.j1 (k + 1) y0 y1 y2 y3 y4 y5 y6 y7 y8 y9 y10 y11 y12)) ∧ (∀ y0 y1 y2 y3 y4 y5 y6 y7 y8 y9 y10, LeO (history_Same.l1 k y0 y1 y2 y3 y4 y5 y6 y7 y8 y9 y10) (history_Same.l1 (k + 1) y0 y1 y2 y3 y4 y5 y6 y7 y8 y9 y10))
 | 0 => ⟨fun _ _ _ _ r h => by simp [history_Same.l0] at h, fun _ _ _ _ _ _ _ _ _ _ _ _ _ r h => by simp [history_Same.j1] at h, fun _ _ _ _ _ _ _ _ _ _ _ r h => by simp [history_Same.l1] at h⟩
 | k + 1 => by
  obtain ⟨ih0, ih1, ih2⟩ := history_Same.mono_l k
  refine ⟨?_, ?_, ?_⟩
  ·intro y0 y1 y2 y3
   unfold history_Same.l0
   repeat' first
   | (with_reducible exact ih0 _ _ _ _)
   | (with_reducible exact ih1 _ _ _ _ _ _ _ _ _ _ _ _ _)
   | (with_reducible exact ih2 _ _ _ _ _ _ _ _ _ _ _)
   | (with_reducible exact LeO.refl _)
   | (with_reducible exact LeO.none _)
   | (with_reducible refine LeO.ite ?_ ?_)
   | (with_reducible refine LeO.bind ?_ (fun _ => ?_))
   | exact ih0 _ _ _ _
   | exact ih1 _ _ _ _ _ _ _ _ _ _ _ _ _
   | exact ih2 _ _ _ _ _ _ _ _ _ _ _
   | exact LeO.none _
   | refine LeO.ite ?_ ?_
   | refine LeO.bind ?_ (fun _ => ?_)
  ·intro y0 y1 y2 y3 y4 y5 y6 y7 y8 y9 y10 y11 y12
   unfold history_Same.j1
   repeat' first
   | (with_reducible exact ih0 _ _ _ _)
   | (with_reducible exact ih1 _ _ _ _ _ _ _ _ _ _ _ _ _)
   | (with_reducible exact ih2 _ _ _ _ _ _ _ _ _ _ _)
   | (with_reducible exact LeO.refl _)
   | (with_reducible exact LeO.none _)
   | (with_reducible refine LeO.ite ?_ ?_)
   | (with_reducible refine LeO.bind ?_ (fun _ => ?_))
   | exact ih0 _ _ _ _
   | exact ih1 _ _ _ _ _ _ _ _ _ _ _ _ _
   | exact ih2 _ _ _ _ _ _ _ _ _ _ _
   | exact LeO.none _
   | refine LeO.ite ?_ ?_
   | refine LeO.bind ?_ (fun _ => ?_)
  ·intro y0 y1 y2 y3 y4 y5 y6 y7 y8 y9 y10
   unfold history_Same.l1
   repeat' first
   | (with_reducible exact ih0 _ _ _ _)
   | (with_reducible exact ih1 _ _ _ _ _ _ _ _ _ _ _ _ _)
   | (with_reducible exact ih2 _ _ _ _ _ _ _ _ _ _ _)
   | (with_reducible exact LeO.refl _)
   | (with_reducible exact LeO.none _)
   | (with_reducible refine LeO.ite ?_ ?_)
   | (with_reducible refine LeO.bind ?_ (fun _ => ?_))
   | exact ih0 _ _ _ _
   | exact ih1 _ _ _ _ _ _ _ _ _ _ _ _ _
   | exact ih2 _ _ _ _ _ _ _ _ _ _ _
   | exact LeO.none _
   | refine LeO.ite ?_ ?_
   | refine LeO.bind ?_ (fun _ => ?_)
theorem history_Same.mono : ∀ a0 a1 k, LeO (history_Same.f k a0 a1) (history_Same.f (k + 1) a0 a1) := by
 intro a0 a1 k
 obtain ⟨ih0, ih1, ih2⟩ := history_Same.mono_l k
 unfold history_Same.f
 repeat' first
   | (with_reducible exact ih0 _ _ _ _)
   | (with_reducible exact ih1 _ _ _ _ _ _ _ _ _ _ _ _ _)
   | (with_reducible exact ih2 _ _ _ _ _ _ _ _ _ _ _)
   | (with_reducible exact LeO.refl _)
   | (with_reducible exact LeO.none _)
   | (with_reducible refine LeO.ite ?_ ?_)
   | (with_reducible refine LeO.bind ?_ (fun _ => ?_))
   | exact ih0 _ _ _ _
   | exact ih1 _ _ _ _ _ _ _ _ _ _ _ _ _
   | exact ih2 _ _ _ _ _ _ _ _ _ _ _
   | exact LeO.none _
   | refine LeO.ite ?_ ?_
   | refine LeO.bind ?_ (fun _ => ?_)
set_option maxHeartbeats 8000000 in
set_option maxRecDepth 100000 in
theorem history_Same.calls (k : Nat) (A0 : Option Addr) (c0 : Nat) (l0 : List (S55)) (A1 : Option Addr) (c1 : Nat) (l1 : List (S55)) (r : Bool) (w : World) (hr0 : Kd.C k55 w A0 l0.length l0) (hc0 : l0.length ≤ c0) (hr1 : Kd.C k55 w A1 l1.length l1) (hc1 : l1.length ≤ c1) (h : history_Same.f k l0 l1 = some r) :
  Calls Try.prog 18 #[.slice A0 l0.length c0, .slice A1 l1.length c1] w fun e w' => e = .returned (.bool r) ∧ Below w.heap.size w w' := by
 have hu55 := Try.underlying55
 have hu51 := Try.underlying51
 have HR0 := Aside0.mk hr0
 have HC0 := Aside0.mk hc0
 clear hr0 hc0
 have HR1 := Aside0.mk hr1
 have HC1 := Aside0.mk hc1
 clear hr1 hc1
 have HB := Aside0.mk (Below.refl w.heap.size w)
 have H : (if (l0.length : Int) = (l1.length : Int) then (history_Same.l0 k l1 l0 (l0.length : Int) 0) else (some false)) = some r := h
 clear h
 by_cases c3 : (l0.length : Int) = (l1.length : Int)
 ·rw [if_pos c3] at H
  have c3b0 : ((l0.length : Int) == (l1.length : Int)) = true := beq_iff_eq.mpr c3
  have c3b1 : ((l0.length : Int) != (l1.length : Int)) = false := bne_eq_false_iff_eq.mpr c3
  have c3b2 : (l0.length == l1.length) = true := by first | simpa using c3 | (simp at c3 ⊢; omega)
  clear c3
  have H' := Aside0.mk H
  clear H
  go_enter Try.func18, Try.ntmps18
  go_wp2
  repeat (go_quiet (fail); try go_wp2)
  go_loopg [17] k (fun kq v17 w' => ∃ (x17_1 : Int), v17 = .int .i64 x17_1 ∧ Aside0 (history_Same.l0 kq l1 l0 (l0.length : Int) x17_1 = some r) ∧ Aside0 (kq ≤ k) ∧ Aside0 (Below w.heap.size w w'))
  case atStart => exact ⟨(0), (by first | rfl | (simp; done) | (simp [*]; done)), H', ⟨Nat.le_refl _⟩, ⟨by repeat (first | (with_reducible first | exact HB.out | apply qac | apply qaa | apply qad) | exact HB.out)⟩⟩
  case round =>
   clear H'
   try clear c1
   try clear p2
   try clear c3
   try clear c3b0
   try clear c3b1
   try clear c3b2
   obtain ⟨x17_1, rfl, HA, HK1, HB⟩ := hrel
   cases gk with
   | zero => exact absurd HA.out (by simp [history_Same.l0])
   | succ k1 =>
    have H := HA.out
    clear HA
    simp only [history_Same.l0] at H
    by_cases c4 : x17_1 < (l0.length : Int)
    ·rw [if_pos c4] at H
     have c4b0 : decide (x17_1 < (l0.length : Int)) = true := decide_eq_true c4
     clear c4
     by_cases c5 : 0 ≤ x17_1
     ·rw [if_pos c5] at H
      have c5b0 : decide (0 ≤ x17_1) = true := decide_eq_true c5
      clear c5
      by_cases c6 : x17_1 < (l0.length : Int)
      ·rw [if_pos c6] at H
       have c6b0 : decide (x17_1 < (l0.length : Int)) = true := decide_eq_true c6
       clear c6
       by_cases c7 : x17_1 < (l1.length : Int)
       ·rw [if_pos c7] at H
        have c7b0 : decide (x17_1 < (l1.length : Int)) = true := decide_eq_true c7
        clear c7
        have HC8 := Aside0.mk H
        clear H
        have p101 : 0 ≤ (x17_1 : Int) := of_decide_eq_true (by first | (with_reducible assumption) | assumption)
        have q101 : x17_1 < (l0.length : Int) := of_decide_eq_true (by first | (with_reducible assumption) | assumption)
        obtain ⟨ad101, A101_3, c101_3, e101, hx101_0, hx101_1, hx101_2, hx101_3, hl101_3, hi101_3⟩ := qa8 HR0.out x17_1 p101 q101
        cases e101
        replace hx101_0 := (HB.out.cell (World.block_lt_of_cell? w _ hx101_0)).trans hx101_0
        replace hx101_1 := (HB.out.cell (World.block_lt_of_cell? w _ hx101_1)).trans hx101_1
        replace hx101_2 := (HB.out.cell (World.block_lt_of_cell? w _ hx101_2)).trans hx101_2
        replace hx101_3 := (HB.out.cell (World.block_lt_of_cell? w _ hx101_3)).trans hx101_3
        have HR101_3 := Aside0.mk hi101_3
        have HC101_3 := Aside0.mk hl101_3
        clear hi101_3 hl101_3
        replace p101 := eq_true p101
        replace q101 := eq_true q101
        go_upto_region 7 with (first | ((with_reducible refine qau (N := 6) rfl ?_); (try (refine qbf (by rfl) ?_; dsimp only)); refine qat ?hg (N := 6) ?hd (cs := #[.int .i64 0, .int .i64 0, .int .i64 0, .slice none 0 0]) (t := 55) ?hr ?_; (case hd => rfl); (case hg => rfl); (case hr => first | (go_simp; done) | (go_simp; rfl)); intro gb102 hg w9 hbox hb; have n0_ := Aside0.mk (qam (by repeat (first | (with_reducible first | exact HB.out | apply qac | apply qaa | apply qad) | exact HB.out)) hb); have n1_ := Aside0.mk (hbox); have n2_ := Aside0.mk ((by rw [hg]; exact (qal (by repeat (first | (with_reducible first | exact HB.out | apply qac | apply qaa | apply qad) | exact HB.out))) : w.heap.size ≤ gb102)); have n3_ := Aside0.mk ((by rw [hg]; exact (qal (by repeat (first | (with_reducible first | exact HB.out | apply qac | apply qaa | apply qad) | exact HB.out))) : w.heap.size ≤ gb102)); clear HB; have HB := n0_; have BK102 := n1_; have GW102 := n2_; have GE102 := n3_; clear n0_ n1_ n2_ n3_; clear hb hbox hg; have hcz10_0 : w9.cell? ⟨gb102, 0, none⟩ = some (.int .i64 0) := (qah BK102.out 0).trans rfl; have hcz10_1 : w9.cell? ⟨gb102, 1, none⟩ = some (.int .i64 0) := (qah BK102.out 1).trans rfl; have hcz10_2 : w9.cell? ⟨gb102, 2, none⟩ = some (.int .i64 0) := (qah BK102.out 2).trans rfl; have hcz10_3 : w9.cell? ⟨gb102, 3, none⟩ = some (.slice none 0 0) := (qah BK102.out 3).trans rfl; have hfz10_0 := qae BK102.out 0; have hfz10_1 := qae BK102.out 1; have hfz10_2 := qae BK102.out 2; have hfz10_3 := qae BK102.out 3; have p103 : 0 ≤ (x17_1 : Int) := of_decide_eq_true (by first | (with_reducible assumption) | assumption); have q103 : x17_1 < (l1.length : Int) := of_decide_eq_true (by first | (with_reducible assumption) | assumption); obtain ⟨ad103, A103_3, c103_3, e103, hx103_0, hx103_1, hx103_2, hx103_3, hl103_3, hi103_3⟩ := qa8 HR1.out x17_1 p103 q103; cases e103; have hn103_0 : ad103.block ≠ gb102 := Nat.ne_of_lt (Nat.lt_of_lt_of_le (by have := World.block_lt_of_cell? _ _ hx103_0; first | rwa [add_block] at this | exact this) GW102.out); have hn103_1 : ad103.block ≠ gb102 := Nat.ne_of_lt (Nat.lt_of_lt_of_le (by have := World.block_lt_of_cell? _ _ hx103_0; first | rwa [add_block] at this | exact this) GW102.out); have hn103_2 : ad103.block ≠ gb102 := Nat.ne_of_lt (Nat.lt_of_lt_of_le (by have := World.block_lt_of_cell? _ _ hx103_0; first | rwa [add_block] at this | exact this) GW102.out); have hn103_3 : ad103.block ≠ gb102 := Nat.ne_of_lt (Nat.lt_of_lt_of_le (by have := World.block_lt_of_cell? _ _ hx103_0; first | rwa [add_block] at this | exact this) GW102.out); replace hx103_0 := (HB.out.cell (World.block_lt_of_cell? w _ hx103_0)).trans hx103_0; replace hx103_1 := (HB.out.cell (World.block_lt_of_cell? w _ hx103_1)).trans hx103_1; replace hx103_2 := (HB.out.cell (World.block_lt_of_cell? w _ hx103_2)).trans hx103_2; replace hx103_3 := (HB.out.cell (World.block_lt_of_cell? w _ hx103_3)).trans hx103_3; have HR103_3 := Aside0.mk hi103_3; have HC103_3 := Aside0.mk hl103_3; clear hi103_3 hl103_3; replace hx103_0 := (cell_far (p := ⟨gb102, 0, none⟩) (by first | (rw [add_block]; exact hn103_0) | (show (Addr.add _ _).block ≠ _; rw [add_block]; exact hn103_0) | exact hn103_0) (.int .i64 ((qab l0 x17_1).f0))).trans hx103_0; replace hx103_1 := (cell_far (p := ⟨gb102, 0, none⟩) (by first | (rw [add_block]; exact hn103_0) | (show (Addr.add _ _).block ≠ _; rw [add_block]; exact hn103_0) | exact hn103_0) (.int .i64 ((qab l0 x17_1).f0))).trans hx103_1; replace hx103_2 := (cell_far (p := ⟨gb102, 0, none⟩) (by first | (rw [add_block]; exact hn103_0) | (show (Addr.add _ _).block ≠ _; rw [add_block]; exact hn103_0) | exact hn103_0) (.int .i64 ((qab l0 x17_1).f0))).trans hx103_2; replace hx103_3 := (cell_far (p := ⟨gb102, 0, none⟩) (by first | (rw [add_block]; exact hn103_0) | (show (Addr.add _ _).block ≠ _; rw [add_block]; exact hn103_0) | exact hn103_0) (.int .i64 ((qab l0 x17_1).f0))).trans hx103_3; replace hx103_0 := (cell_far (p := ⟨gb102, 1, none⟩) (by first | (rw [add_block]; exact hn103_1) | (show (Addr.add _ _).block ≠ _; rw [add_block]; exact hn103_1) | exact hn103_1) (.int .i64 ((qab l0 x17_1).f1))).trans hx103_0; replace hx103_1 := (cell_far (p := ⟨gb102, 1, none⟩) (by first | (rw [add_block]; exact hn103_1) | (show (Addr.add _ _).block ≠ _; rw [add_block]; exact hn103_1) | exact hn103_1) (.int .i64 ((qab l0 x17_1).f1))).trans hx103_1; replace hx103_2 := (cell_far (p := ⟨gb102, 1, none⟩) (by first | (rw [add_block]; exact hn103_1) | (show (Addr.add _ _).block ≠ _; rw [add_block]; exact hn103_1) | exact hn103_1) (.int .i64 ((qab l0 x17_1).f1))).trans hx103_2; replace hx103_3 := (cell_far (p := ⟨gb102, 1, none⟩) (by first | (rw [add_block]; exact hn103_1) | (show (Addr.add _ _).block ≠ _; rw [add_block]; exact hn103_1) | exact hn103_1) (.int .i64 ((qab l0 x17_1).f1))).trans hx103_3; replace hx103_0 := (cell_far (p := ⟨gb102, 2, none⟩) (by first | (rw [add_block]; exact hn103_2) | (show (Addr.add _ _).block ≠ _; rw [add_block]; exact hn103_2) | exact hn103_2) (.int .i64 ((qab l0 x17_1).f2))).trans hx103_0; replace hx103_1 := (cell_far (p := ⟨gb102, 2, none⟩) (by first | (rw [add_block]; exact hn103_2) | (show (Addr.add _ _).block ≠ _; rw [add_block]; exact hn103_2) | exact hn103_2) (.int .i64 ((qab l0 x17_1).f2))).trans hx103_1; replace hx103_2 := (cell_far (p := ⟨gb102, 2, none⟩) (by first | (rw [add_block]; exact hn103_2) | (show (Addr.add _ _).block ≠ _; rw [add_block]; exact hn103_2) | exact hn103_2) (.int .i64 ((qab l0 x17_1).f2))).trans hx103_2; replace hx103_3 := (cell_far (p := ⟨gb102, 2, none⟩) (by first | (rw [add_block]; exact hn103_2) | (show (Addr.add _ _).block ≠ _; rw [add_block]; exact hn103_2) | exact hn103_2) (.int .i64 ((qab l0 x17_1).f2))).trans hx103_3; replace hx103_0 := (cell_far (p := ⟨gb102, 3, none⟩) (by first | (rw [add_block]; exact hn103_3) | (show (Addr.add _ _).block ≠ _; rw [add_block]; exact hn103_3) | exact hn103_3) (.slice A101_3 ((qab l0 x17_1).f3).length c101_3)).trans hx103_0; replace hx103_1 := (cell_far (p := ⟨gb102, 3, none⟩) (by first | (rw [add_block]; exact hn103_3) | (show (Addr.add _ _).block ≠ _; rw [add_block]; exact hn103_3) | exact hn103_3) (.slice A101_3 ((qab l0 x17_1).f3).length c101_3)).trans hx103_1; replace hx103_2 := (cell_far (p := ⟨gb102, 3, none⟩) (by first | (rw [add_block]; exact hn103_3) | (show (Addr.add _ _).block ≠ _; rw [add_block]; exact hn103_3) | exact hn103_3) (.slice A101_3 ((qab l0 x17_1).f3).length c101_3)).trans hx103_2; replace hx103_3 := (cell_far (p := ⟨gb102, 3, none⟩) (by first | (rw [add_block]; exact hn103_3) | (show (Addr.add _ _).block ≠ _; rw [add_block]; exact hn103_3) | exact hn103_3) (.slice A101_3 ((qab l0 x17_1).f3).length c101_3)).trans hx103_3; (try have hy103_0 := fun (n_ : Nat) => (show ((((((w9.drewN n_).setCell ⟨gb102, 0, none⟩ (.int .i64 ((qab l0 x17_1).f0))).setCell ⟨gb102, 1, none⟩ (.int .i64 ((qab l0 x17_1).f1))).setCell ⟨gb102, 2, none⟩ (.int .i64 ((qab l0 x17_1).f2))).setCell ⟨gb102, 3, none⟩ (.slice A101_3 ((qab l0 x17_1).f3).length c101_3))).cell? _ = some _ from hx103_0)); (try have hy103_1 := fun (n_ : Nat) => (show ((((((w9.drewN n_).setCell ⟨gb102, 0, none⟩ (.int .i64 ((qab l0 x17_1).f0))).setCell ⟨gb102, 1, none⟩ (.int .i64 ((qab l0 x17_1).f1))).setCell ⟨gb102, 2, none⟩ (.int .i64 ((qab l0 x17_1).f2))).setCell ⟨gb102, 3, none⟩ (.slice A101_3 ((qab l0 x17_1).f3).length c101_3))).cell? _ = some _ from hx103_1)); (try have hy103_2 := fun (n_ : Nat) => (show ((((((w9.drewN n_).setCell ⟨gb102, 0, none⟩ (.int .i64 ((qab l0 x17_1).f0))).setCell ⟨gb102, 1, none⟩ (.int .i64 ((qab l0 x17_1).f1))).setCell ⟨gb102, 2, none⟩ (.int .i64 ((qab l0 x17_1).f2))).setCell ⟨gb102, 3, none⟩ (.slice A101_3 ((qab l0 x17_1).f3).length c101_3))).cell? _ = some _ from hx103_2)); (try have hy103_3 := fun (n_ : Nat) => (show ((((((w9.drewN n_).setCell ⟨gb102, 0, none⟩ (.int .i64 ((qab l0 x17_1).f0))).setCell ⟨gb102, 1, none⟩ (.int .i64 ((qab l0 x17_1).f1))).setCell ⟨gb102, 2, none⟩ (.int .i64 ((qab l0 x17_1).f2))).setCell ⟨gb102, 3, none⟩ (.slice A101_3 ((qab l0 x17_1).f3).length c101_3))).cell? _ = some _ from hx103_3)); clear hn103_0; clear hn103_1; clear hn103_2; clear hn103_3; replace p103 := eq_true p103; replace q103 := eq_true q103) | ((with_reducible refine qau (N := 7) rfl ?_); (try (refine qbf (by rfl) ?_; dsimp only)); refine qat ?hg (N := 7) ?hd (cs := #[.int .i64 0, .int .i64 0, .int .i64 0, .slice none 0 0]) (t := 55) ?hr ?_; (case hd => rfl); (case hg => rfl); (case hr => first | (go_simp; done) | (go_simp; rfl)); intro gb104 hg w11 hbox hb; have n0_ := Aside0.mk (qa1 (g := gb102) (o := .cells #[.int .i64 ((qab l0 x17_1).f0), .int .i64 ((qab l0 x17_1).f1), .int .i64 ((qab l0 x17_1).f2), .slice A101_3 ((qab l0 x17_1).f3).length c101_3] 55 (0, 0)) (by (with_reducible repeat (first | refine qaf ?_ _ | refine qai ?_ | refine qag ?_ _)); refine qaq (cs := #[.int .i64 ((qab l0 x17_1).f0), .int .i64 ((qab l0 x17_1).f1), .int .i64 ((qab l0 x17_1).f2), .slice none 0 0]) ?_ 3 _ rfl; (with_reducible repeat (first | refine qaf ?_ _ | refine qai ?_ | refine qag ?_ _)); refine qaq (cs := #[.int .i64 ((qab l0 x17_1).f0), .int .i64 ((qab l0 x17_1).f1), .int .i64 0, .slice none 0 0]) ?_ 2 _ rfl; (with_reducible repeat (first | refine qaf ?_ _ | refine qai ?_ | refine qag ?_ _)); refine qaq (cs := #[.int .i64 ((qab l0 x17_1).f0), .int .i64 0, .int .i64 0, .slice none 0 0]) ?_ 1 _ rfl; (with_reducible repeat (first | refine qaf ?_ _ | refine qai ?_ | refine qag ?_ _)); refine qaq (cs := #[.int .i64 0, .int .i64 0, .int .i64 0, .slice none 0 0]) ?_ 0 _ rfl; (with_reducible repeat (first | refine qaf ?_ _ | refine qai ?_ | refine qag ?_ _)); exact BK102.out) hb); have n1_ := Aside0.mk (qam (by repeat (first | (with_reducible first | exact HB.out | apply qac | apply qaa | apply qad | refine qak ?_ GE102.out) | exact HB.out)) hb); have n2_ := Aside0.mk (hbox); have n3_ := Aside0.mk ((by rw [hg]; exact (qal (by repeat (first | (with_reducible first | exact HB.out | apply qac | apply qaa | apply qad | refine qak ?_ GE102.out) | exact HB.out))) : w.heap.size ≤ gb104)); have n4_ := Aside0.mk ((by rw [hg]; exact (qal (by repeat (first | (with_reducible first | exact HB.out | apply qac | apply qaa | apply qad | refine qak ?_ GE102.out) | exact HB.out))) : w.heap.size ≤ gb104)); have n5_ := Aside0.mk ((by rw [hg]; exact Nat.ne_of_lt (qa9 (g := gb102) (o := .cells #[.int .i64 ((qab l0 x17_1).f0), .int .i64 ((qab l0 x17_1).f1), .int .i64 ((qab l0 x17_1).f2), .slice A101_3 ((qab l0 x17_1).f3).length c101_3] 55 (0, 0)) (by (with_reducible repeat (first | refine qaf ?_ _ | refine qai ?_ | refine qag ?_ _)); refine qaq (cs := #[.int .i64 ((qab l0 x17_1).f0), .int .i64 ((qab l0 x17_1).f1), .int .i64 ((qab l0 x17_1).f2), .slice none 0 0]) ?_ 3 _ rfl; (with_reducible repeat (first | refine qaf ?_ _ | refine qai ?_ | refine qag ?_ _)); refine qaq (cs := #[.int .i64 ((qab l0 x17_1).f0), .int .i64 ((qab l0 x17_1).f1), .int .i64 0, .slice none 0 0]) ?_ 2 _ rfl; (with_reducible repeat (first | refine qaf ?_ _ | refine qai ?_ | refine qag ?_ _)); refine qaq (cs := #[.int .i64 ((qab l0 x17_1).f0), .int .i64 0, .int .i64 0, .slice none 0 0]) ?_ 1 _ rfl; (with_reducible repeat (first | refine qaf ?_ _ | refine qai ?_ | refine qag ?_ _)); refine qaq (cs := #[.int .i64 0, .int .i64 0, .int .i64 0, .slice none 0 0]) ?_ 0 _ rfl; (with_reducible repeat (first | refine qaf ?_ _ | refine qai ?_ | refine qag ?_ _)); exact BK102.out)) : gb102 ≠ gb104)); have n6_ := Aside0.mk ((by rw [hg]; exact Nat.ne_of_gt (qa9 (g := gb102) (o := .cells #[.int .i64 ((qab l0 x17_1).f0), .int .i64 ((qab l0 x17_1).f1), .int .i64 ((qab l0 x17_1).f2), .slice A101_3 ((qab l0 x17_1).f3).length c101_3] 55 (0, 0)) (by (with_reducible repeat (first | refine qaf ?_ _ | refine qai ?_ | refine qag ?_ _)); refine qaq (cs := #[.int .i64 ((qab l0 x17_1).f0), .int .i64 ((qab l0 x17_1).f1), .int .i64 ((qab l0 x17_1).f2), .slice none 0 0]) ?_ 3 _ rfl; (with_reducible repeat (first | refine qaf ?_ _ | refine qai ?_ | refine qag ?_ _)); refine qaq (cs := #[.int .i64 ((qab l0 x17_1).f0), .int .i64 ((qab l0 x17_1).f1), .int .i64 0, .slice none 0 0]) ?_ 2 _ rfl; (with_reducible repeat (first | refine qaf ?_ _ | refine qai ?_ | refine qag ?_ _)); refine qaq (cs := #[.int .i64 ((qab l0 x17_1).f0), .int .i64 0, .int .i64 0, .slice none 0 0]) ?_ 1 _ rfl; (with_reducible repeat (first | refine qaf ?_ _ | refine qai ?_ | refine qag ?_ _)); refine qaq (cs := #[.int .i64 0, .int .i64 0, .int .i64 0, .slice none 0 0]) ?_ 0 _ rfl; (with_reducible repeat (first | refine qaf ?_ _ | refine qai ?_ | refine qag ?_ _)); exact BK102.out)) : gb104 ≠ gb102)); clear BK102; clear HB; have BK102 := n0_; have HB := n1_; have BK104 := n2_; have GW104 := n3_; have GE104 := n4_; have NB102_104 := n5_; have NB104_102 := n6_; clear n0_ n1_ n2_ n3_ n4_ n5_ n6_; clear hb hbox hg; have hnb12 := NB104_102.out; have hnc12 := NB102_104.out; have hcz13_0 : w11.cell? ⟨gb104, 0, none⟩ = some (.int .i64 0) := (qah BK104.out 0).trans rfl; have hcz13_1 : w11.cell? ⟨gb104, 1, none⟩ = some (.int .i64 0) := (qah BK104.out 1).trans rfl; have hcz13_2 : w11.cell? ⟨gb104, 2, none⟩ = some (.int .i64 0) := (qah BK104.out 2).trans rfl; have hcz13_3 : w11.cell? ⟨gb104, 3, none⟩ = some (.slice none 0 0) := (qah BK104.out 3).trans rfl; have hfz13_0 := qae BK104.out 0; have hfz13_1 := qae BK104.out 1; have hfz13_2 := qae BK104.out 2; have hfz13_3 := qae BK104.out 3))
        repeat (go_quiet (first | ((with_reducible refine qau (N := 6) rfl ?_); (try (refine qbf (by rfl) ?_; dsimp only)); refine qat ?hg (N := 6) ?hd (cs := #[.int .i64 0, .int .i64 0, .int .i64 0, .slice none 0 0]) (t := 55) ?hr ?_; (case hd => rfl); (case hg => rfl); (case hr => first | (go_simp; done) | (go_simp; rfl)); intro gb102 hg w9 hbox hb; have n0_ := Aside0.mk (qam (by repeat (first | (with_reducible first | exact HB.out | apply qac | apply qaa | apply qad) | exact HB.out)) hb); have n1_ := Aside0.mk (hbox); have n2_ := Aside0.mk ((by rw [hg]; exact (qal (by repeat (first | (with_reducible first | exact HB.out | apply qac | apply qaa | apply qad) | exact HB.out))) : w.heap.size ≤ gb102)); have n3_ := Aside0.mk ((by rw [hg]; exact (qal (by repeat (first | (with_reducible first | exact HB.out | apply qac | apply qaa | apply qad) | exact HB.out))) : w.heap.size ≤ gb102)); clear HB; have HB := n0_; have BK102 := n1_; have GW102 := n2_; have GE102 := n3_; clear n0_ n1_ n2_ n3_; clear hb hbox hg; have hcz10_0 : w9.cell? ⟨gb102, 0, none⟩ = some (.int .i64 0) := (qah BK102.out 0).trans rfl; have hcz10_1 : w9.cell? ⟨gb102, 1, none⟩ = some (.int .i64 0) := (qah BK102.out 1).trans rfl; have hcz10_2 : w9.cell? ⟨gb102, 2, none⟩ = some (.int .i64 0) := (qah BK102.out 2).trans rfl; have hcz10_3 : w9.cell? ⟨gb102, 3, none⟩ = some (.slice none 0 0) := (qah BK102.out 3).trans rfl; have hfz10_0 := qae BK102.out 0; have hfz10_1 := qae BK102.out 1; have hfz10_2 := qae BK102.out 2; have hfz10_3 := qae BK102.out 3; have p103 : 0 ≤ (x17_1 : Int) := of_decide_eq_true (by first | (with_reducible assumption) | assumption); have q103 : x17_1 < (l1.length : Int) := of_decide_eq_true (by first | (with_reducible assumption) | assumption); obtain ⟨ad103, A103_3, c103_3, e103, hx103_0, hx103_1, hx103_2, hx103_3, hl103_3, hi103_3⟩ := qa8 HR1.out x17_1 p103 q103; cases e103; have hn103_0 : ad103.block ≠ gb102 := Nat.ne_of_lt (Nat.lt_of_lt_of_le (by have := World.block_lt_of_cell? _ _ hx103_0; first | rwa [add_block] at this | exact this) GW102.out); have hn103_1 : ad103.block ≠ gb102 := Nat.ne_of_lt (Nat.lt_of_lt_of_le (by have := World.block_lt_of_cell? _ _ hx103_0; first | rwa [add_block] at this | exact this) GW102.out); have hn103_2 : ad103.block ≠ gb102 := Nat.ne_of_lt (Nat.lt_of_lt_of_le (by have := World.block_lt_of_cell? _ _ hx103_0; first | rwa [add_block] at this | exact this) GW102.out); have hn103_3 : ad103.block ≠ gb102 := Nat.ne_of_lt (Nat.lt_of_lt_of_le (by have := World.block_lt_of_cell? _ _ hx103_0; first | rwa [add_block] at this | exact this) GW102.out); replace hx103_0 := (HB.out.cell (World.block_lt_of_cell? w _ hx103_0)).trans hx103_0; replace hx103_1 := (HB.out.cell (World.block_lt_of_cell? w _ hx103_1)).trans hx103_1; replace hx103_2 := (HB.out.cell (World.block_lt_of_cell? w _ hx103_2)).trans hx103_2; replace hx103_3 := (HB.out.cell (World.block_lt_of_cell? w _ hx103_3)).trans hx103_3; have HR103_3 := Aside0.mk hi103_3; have HC103_3 := Aside0.mk hl103_3; clear hi103_3 hl103_3; replace hx103_0 := (cell_far (p := ⟨gb102, 0, none⟩) (by first | (rw [add_block]; exact hn103_0) | (show (Addr.add _ _).block ≠ _; rw [add_block]; exact hn103_0) | exact hn103_0) (.int .i64 ((qab l0 x17_1).f0))).trans hx103_0; replace hx103_1 := (cell_far (p := ⟨gb102, 0, none⟩) (by first | (rw [add_block]; exact hn103_0) | (show (Addr.add _ _).block ≠ _; rw [add_block]; exact hn103_0) | exact hn103_0) (.int .i64 ((qab l0 x17_1).f0))).trans hx103_1; replace hx103_2 := (cell_far (p := ⟨gb102, 0, none⟩) (by first | (rw [add_block]; exact hn103_0) | (show (Addr.add _ _).block ≠ _; rw [add_block]; exact hn103_0) | exact hn103_0) (.int .i64 ((qab l0 x17_1).f0))).trans hx103_2; replace hx103_3 := (cell_far (p := ⟨gb102, 0, none⟩) (by first | (rw [add_block]; exact hn103_0) | (show (Addr.add _ _).block ≠ _; rw [add_block]; exact hn103_0) | exact hn103_0) (.int .i64 ((qab l0 x17_1).f0))).trans hx103_3; replace hx103_0 := (cell_far (p := ⟨gb102, 1, none⟩) (by first | (rw [add_block]; exact hn103_1) | (show (Addr.add _ _).block ≠ _; rw [add_block]; exact hn103_1) | exact hn103_1) (.int .i64 ((qab l0 x17_1).f1))).trans hx103_0; replace hx103_1 := (cell_far (p := ⟨gb102, 1, none⟩) (by first | (rw [add_block]; exact hn103_1) | (show (Addr.add _ _).block ≠ _; rw [add_block]; exact hn103_1) | exact hn103_1) (.int .i64 ((qab l0 x17_1).f1))).trans hx103_1; replace hx103_2 := (cell_far (p := ⟨gb102, 1, none⟩) (by first | (rw [add_block]; exact hn103_1) | (show (Addr.add _ _).block ≠ _; rw [add_block]; exact hn103_1) | exact hn103_1) (.int .i64 ((qab l0 x17_1).f1))).trans hx103_2; replace hx103_3 := (cell_far (p := ⟨gb102, 1, none⟩) (by first | (rw [add_block]; exact hn103_1) | (show (Addr.add _ _).block ≠ _; rw [add_block]; exact hn103_1) | exact hn103_1) (.int .i64 ((qab l0 x17_1).f1))).trans hx103_3; replace hx103_0 := (cell_far (p := ⟨gb102, 2, none⟩) (by first | (rw [add_block]; exact hn103_2) | (show (Addr.add _ _).block ≠ _; rw [add_block]; exact hn103_2) | exact hn103_2) (.int .i64 ((qab l0 x17_1).f2))).trans hx103_0; replace hx103_1 := (cell_far (p := ⟨gb102, 2, none⟩) (by first | (rw [add_block]; exact hn103_2) | (show (Addr.add _ _).block ≠ _; rw [add_block]; exact hn103_2) | exact hn103_2) (.int .i64 ((qab l0 x17_1).f2))).trans hx103_1; replace hx103_2 := (cell_far (p := ⟨gb102, 2, none⟩) (by first | (rw [add_block]; exact hn103_2) | (show (Addr.add _ _).block ≠ _; rw [add_block]; exact hn103_2) | exact hn103_2) (.int .i64 ((qab l0 x17_1).f2))).trans hx103_2; replace hx103_3 := (cell_far (p := ⟨gb102, 2, none⟩) (by first | (rw [add_block]; exact hn103_2) | (show (Addr.add _ _).block ≠ _; rw [add_block]; exact hn103_2) | exact hn103_2) (.int .i64 ((qab l0 x17_1).f2))).trans hx103_3; replace hx103_0 := (cell_far (p := ⟨gb102, 3, none⟩) (by first | (rw [add_block]; exact hn103_3) | (show (Addr.add _ _).block ≠ _; rw [add_block]; exact hn103_3) | exact hn103_3) (.slice A101_3 ((qab l0 x17_1).f3).length c101_3)).trans hx103_0; replace hx103_1 := (cell_far (p := ⟨gb102, 3, none⟩) (by first | (rw [add_block]; exact hn103_3) | (show (Addr.add _ _).block ≠ _; rw [add_block]; exact hn103_3) | exact hn103_3) (.slice A101_3 ((qab l0 x17_1).f3).length c101_3)).trans hx103_1; replace hx103_2 := (cell_far (p := ⟨gb102, 3, none⟩) (by first | (rw [add_block]; exact hn103_3) | (show (Addr.add _ _).block ≠ _; rw [add_block]; exact hn103_3) | exact hn103_3) (.slice A101_3 ((qab l0 x17_1).f3).length c101_3)).trans hx103_2; replace hx103_3 := (cell_far (p := ⟨gb102, 3, none⟩) (by first | (rw [add_block]; exact hn103_3) | (show (Addr.add _ _).block ≠ _; rw [add_block]; exact hn103_3) | exact hn103_3) (.slice A101_3 ((qab l0 x17_1).f3).length c101_3)).trans hx103_3; (try have hy103_0 := fun (n_ : Nat) => (show ((((((w9.drewN n_).setCell ⟨gb102, 0, none⟩ (.int .i64 ((qab l0 x17_1).f0))).setCell ⟨gb102, 1, none⟩ (.int .i64 ((qab l0 x17_1).f1))).setCell ⟨gb102, 2, none⟩ (.int .i64 ((qab l0 x17_1).f2))).setCell ⟨gb102, 3, none⟩ (.slice A101_3 ((qab l0 x17_1).f3).length c101_3))).cell? _ = some _ from hx103_0)); (try have hy103_1 := fun (n_ : Nat) => (show ((((((w9.drewN n_).setCell ⟨gb102, 0, none⟩ (.int .i64 ((qab l0 x17_1).f0))).setCell ⟨gb102, 1, none⟩ (.int .i64 ((qab l0 x17_1).f1))).setCell ⟨gb102, 2, none⟩ (.int .i64 ((qab l0 x17_1).f2))).setCell ⟨gb102, 3, none⟩ (.slice A101_3 ((qab l0 x17_1).f3).length c101_3))).cell? _ = some _ from hx103_1)); (try have hy103_2 := fun (n_ : Nat) => (show ((((((w9.drewN n_).setCell ⟨gb102, 0, none⟩ (.int .i64 ((qab l0 x17_1).f0))).setCell ⟨gb102, 1, none⟩ (.int .i64 ((qab l0 x17_1).f1))).setCell ⟨gb102, 2, none⟩ (.int .i64 ((qab l0 x17_1).f2))).setCell ⟨gb102, 3, none⟩ (.slice A101_3 ((qab l0 x17_1).f3).length c101_3))).cell? _ = some _ from hx103_2)); (try have hy103_3 := fun (n_ : Nat) => (show ((((((w9.drewN n_).setCell ⟨gb102, 0, none⟩ (.int .i64 ((qab l0 x17_1).f0))).setCell ⟨gb102, 1, none⟩ (.int .i64 ((qab l0 x17_1).f1))).setCell ⟨gb102, 2, none⟩ (.int .i64 ((qab l0 x17_1).f2))).setCell ⟨gb102, 3, none⟩ (.slice A101_3 ((qab l0 x17_1).f3).length c101_3))).cell? _ = some _ from hx103_3)); clear hn103_0; clear hn103_1; clear hn103_2; clear hn103_3; replace p103 := eq_true p103; replace q103 := eq_true q103) | ((with_reducible refine qau (N := 7) rfl ?_); (try (refine qbf (by rfl) ?_; dsimp only)); refine qat ?hg (N := 7) ?hd (cs := #[.int .i64 0, .int .i64 0, .int .i64 0, .slice none 0 0]) (t := 55) ?hr ?_; (case hd => rfl); (case hg => rfl); (case hr => first | (go_simp; done) | (go_simp; rfl)); intro gb104 hg w11 hbox hb; have n0_ := Aside0.mk (qa1 (g := gb102) (o := .cells #[.int .i64 ((qab l0 x17_1).f0), .int .i64 ((qab l0 x17_1).f1), .int .i64 ((qab l0 x17_1).f2), .slice A101_3 ((qab l0 x17_1).f3).length c101_3] 55 (0, 0)) (by (with_reducible repeat (first | refine qaf ?_ _ | refine qai ?_ | refine qag ?_ _)); refine qaq (cs := #[.int .i64 ((qab l0 x17_1).f0), .int .i64 ((qab l0 x17_1).f1), .int .i64 ((qab l0 x17_1).f2), .slice none 0 0]) ?_ 3 _ rfl; (with_reducible repeat (first | refine qaf ?_ _ | refine qai ?_ | refine qag ?_ _)); refine qaq (cs := #[.int .i64 ((qab l0 x17_1).f0), .int .i64 ((qab l0 x17_1).f1), .int .i64 0, .slice none 0 0]) ?_ 2 _ rfl; (with_reducible repeat (first | refine qaf ?_ _ | refine qai ?_ | refine qag ?_ _)); refine qaq (cs := #[.int .i64 ((qab l0 x17_1).f0), .int .i64 0, .int .i64 0, .slice none 0 0]) ?_ 1 _ rfl; (with_reducible repeat (first | refine qaf ?_ _ | refine qai ?_ | refine qag ?_ _)); refine qaq (cs := #[.int .i64 0, .int .i64 0, .int .i64 0, .slice none 0 0]) ?_ 0 _ rfl; (with_reducible repeat (first | refine qaf ?_ _ | refine qai ?_ | refine qag ?_ _)); exact BK102.out) hb); have n1_ := Aside0.mk (qam (by repeat (first | (with_reducible first | exact HB.out | apply qac | apply qaa | apply qad | refine qak ?_ GE102.out) | exact HB.out)) hb); have n2_ := Aside0.mk (hbox); have n3_ := Aside0.mk ((by rw [hg]; exact (qal (by repeat (first | (with_reducible first | exact HB.out | apply qac | apply qaa | apply qad | refine qak ?_ GE102.out) | exact HB.out))) : w.heap.size ≤ gb104)); have n4_ := Aside0.mk ((by rw [hg]; exact (qal (by repeat (first | (with_reducible first | exact HB.out | apply qac | apply qaa | apply qad | refine qak ?_ GE102.out) | exact HB.out))) : w.heap.size ≤ gb104)); have n5_ := Aside0.mk ((by rw [hg]; exact Nat.ne_of_lt (qa9 (g := gb102) (o := .cells #[.int .i64 ((qab l0 x17_1).f0), .int .i64 ((qab l0 x17_1).f1), .int .i64 ((qab l0 x17_1).f2), .slice A101_3 ((qab l0 x17_1).f3).length c101_3] 55 (0, 0)) (by (with_reducible repeat (first | refine qaf ?_ _ | refine qai ?_ | refine qag ?_ _)); refine qaq (cs := #[.int .i64 ((qab l0 x17_1).f0), .int .i64 ((qab l0 x17_1).f1), .int .i64 ((qab l0 x17_1).f2), .slice none 0 0]) ?_ 3 _ rfl; (with_reducible repeat (first | refine qaf ?_ _ | refine qai ?_ | refine qag ?_ _)); refine qaq (cs := #[.int .i64 ((qab l0 x17_1).f0), .int .i64 ((qab l0 x17_1).f1), .int .i64 0, .slice none 0 0]) ?_ 2 _ rfl; (with_reducible repeat (first | refine qaf ?_ _ | refine qai ?_ | refine qag ?_ _)); refine qaq (cs := #[.int .i64 ((qab l0 x17_1).f0), .int .i64 0, .int .i64 0, .slice none 0 0]) ?_ 1 _ rfl; (with_reducible repeat (first | refine qaf ?_ _ | refine qai ?_ | refine qag ?_ _)); refine qaq (cs := #[.int .i64 0, .int .i64 0, .int .i64 0, .slice none 0 0]) ?_ 0 _ rfl; (with_reducible repeat (first | refine qaf ?_ _ | refine qai ?_ | refine qag ?_ _)); exact BK102.out)) : gb102 ≠ gb104)); have n6_ := Aside0.mk ((by rw [hg]; exact Nat.ne_of_gt (qa9 (g := gb102) (o := .cells #[.int .i64 ((qab l0 x17_1).f0), .int .i64 ((qab l0 x17_1).f1), .int .i64 ((qab l0 x17_1).f2), .slice A101_3 ((qab l0 x17_1).f3).length c101_3] 55 (0, 0)) (by (with_reducible repeat (first | refine qaf ?_ _ | refine qai ?_ | refine qag ?_ _)); refine qaq (cs := #[.int .i64 ((qab l0 x17_1).f0), .int .i64 ((qab l0 x17_1).f1), .int .i64 ((qab l0 x17_1).f2), .slice none 0 0]) ?_ 3 _ rfl; (with_reducible repeat (first | refine qaf ?_ _ | refine qai ?_ | refine qag ?_ _)); refine qaq (cs := #[.int .i64 ((qab l0 x17_1).f0), .int .i64 ((qab l0 x17_1).f1), .int .i64 0, .slice none 0 0]) ?_ 2 _ rfl; (with_reducible repeat (first | refine qaf ?_ _ | refine qai ?_ | refine qag ?_ _)); refine qaq (cs := #[.int .i64 ((qab l0 x17_1).f0), .int .i64 0, .int .i64 0, .slice none 0 0]) ?_ 1 _ rfl; (with_reducible repeat (first | refine qaf ?_ _ | refine qai ?_ | refine qag ?_ _)); refine qaq (cs := #[.int .i64 0, .int .i64 0, .int .i64 0, .slice none 0 0]) ?_ 0 _ rfl; (with_reducible repeat (first | refine qaf ?_ _ | refine qai ?_ | refine qag ?_ _)); exact BK102.out)) : gb104 ≠ gb102)); clear BK102; clear HB; have BK102 := n0_; have HB := n1_; have BK104 := n2_; have GW104 := n3_; have GE104 := n4_; have NB102_104 := n5_; have NB104_102 := n6_; clear n0_ n1_ n2_ n3_ n4_ n5_ n6_; clear hb hbox hg; have hnb12 := NB104_102.out; have hnc12 := NB102_104.out; have hcz13_0 : w11.cell? ⟨gb104, 0, none⟩ = some (.int .i64 0) := (qah BK104.out 0).trans rfl; have hcz13_1 : w11.cell? ⟨gb104, 1, none⟩ = some (.int .i64 0) := (qah BK104.out 1).trans rfl; have hcz13_2 : w11.cell? ⟨gb104, 2, none⟩ = some (.int .i64 0) := (qah BK104.out 2).trans rfl; have hcz13_3 : w11.cell? ⟨gb104, 3, none⟩ = some (.slice none 0 0) := (qah BK104.out 3).trans rfl; have hfz13_0 := qae BK104.out 0; have hfz13_1 := qae BK104.out 1; have hfz13_2 := qae BK104.out 2; have hfz13_3 := qae BK104.out 3)); go_upto_region 7 with (first | ((with_reducible refine qau (N := 6) rfl ?_); (try (refine qbf (by rfl) ?_; dsimp only)); refine qat ?hg (N := 6) ?hd (cs := #[.int .i64 0, .int .i64 0, .int .i64 0, .slice none 0 0]) (t := 55) ?hr ?_; (case hd => rfl); (case hg => rfl); (case hr => first | (go_simp; done) | (go_simp; rfl)); intro gb102 hg w9 hbox hb; have n0_ := Aside0.mk (qam (by repeat (first | (with_reducible first | exact HB.out | apply qac | apply qaa | apply qad) | exact HB.out)) hb); have n1_ := Aside0.mk (hbox); have n2_ := Aside0.mk ((by rw [hg]; exact (qal (by repeat (first | (with_reducible first | exact HB.out | apply qac | apply qaa | apply qad) | exact HB.out))) : w.heap.size ≤ gb102)); have n3_ := Aside0.mk ((by rw [hg]; exact (qal (by repeat (first | (with_reducible first | exact HB.out | apply qac | apply qaa | apply qad) | exact HB.out))) : w.heap.size ≤ gb102)); clear HB; have HB := n0_; have BK102 := n1_; have GW102 := n2_; have GE102 := n3_; clear n0_ n1_ n2_ n3_; clear hb hbox hg; have hcz10_0 : w9.cell? ⟨gb102, 0, none⟩ = some (.int .i64 0) := (qah BK102.out 0).trans rfl; have hcz10_1 : w9.cell? ⟨gb102, 1, none⟩ = some (.int .i64 0) := (qah BK102.out 1).trans rfl; have hcz10_2 : w9.cell? ⟨gb102, 2, none⟩ = some (.int .i64 0) := (qah BK102.out 2).trans rfl; have hcz10_3 : w9.cell? ⟨gb102, 3, none⟩ = some (.slice none 0 0) := (qah BK102.out 3).trans rfl; have hfz10_0 := qae BK102.out 0; have hfz10_1 := qae BK102.out 1; have hfz10_2 := qae BK102.out 2; have hfz10_3 := qae BK102.out 3; have p103 : 0 ≤ (x17_1 : Int) := of_decide_eq_true (by first | (with_reducible assumption) | assumption); have q103 : x17_1 < (l1.length : Int) := of_decide_eq_true (by first | (with_reducible assumption) | assumption); obtain ⟨ad103, A103_3, c103_3, e103, hx103_0, hx103_1, hx103_2, hx103_3, hl103_3, hi103_3⟩ := qa8 HR1.out x17_1 p103 q103; cases e103; have hn103_0 : ad103.block ≠ gb102 := Nat.ne_of_lt (Nat.lt_of_lt_of_le (by have := World.block_lt_of_cell? _ _ hx103_0; first | rwa [add_block] at this | exact this) GW102.out); have hn103_1 : ad103.block ≠ gb102 := Nat.ne_of_lt (Nat.lt_of_lt_of_le (by have := World.block_lt_of_cell? _ _ hx103_0; first | rwa [add_block] at this | exact this) GW102.out); have hn103_2 : ad103.block ≠ gb102 := Nat.ne_of_lt (Nat.lt_of_lt_of_le (by have := World.block_lt_of_cell? _ _ hx103_0; first | rwa [add_block] at this | exact this) GW102.out); have hn103_3 : ad103.block ≠ gb102 := Nat.ne_of_lt (Nat.lt_of_lt_of_le (by have := World.block_lt_of_cell? _ _ hx103_0; first | rwa [add_block] at this | exact this) GW102.out); replace hx103_0 := (HB.out.cell (World.block_lt_of_cell? w _ hx103_0)).trans hx103_0; replace hx103_1 := (HB.out.cell (World.block_lt_of_cell? w _ hx103_1)).trans hx103_1; replace hx103_2 := (HB.out.cell (World.block_lt_of_cell? w _ hx103_2)).trans hx103_2; replace hx103_3 := (HB.out.cell (World.block_lt_of_cell? w _ hx103_3)).trans hx103_3; have HR103_3 := Aside0.mk hi103_3; have HC103_3 := Aside0.mk hl103_3; clear hi103_3 hl103_3; replace hx103_0 := (cell_far (p := ⟨gb102, 0, none⟩) (by first | (rw [add_block]; exact hn103_0) | (show (Addr.add _ _).block ≠ _; rw [add_block]; exact hn103_0) | exact hn103_0) (.int .i64 ((qab l0 x17_1).f0))).trans hx103_0; replace hx103_1 := (cell_far (p := ⟨gb102, 0, none⟩) (by first | (rw [add_block]; exact hn103_0) | (show (Addr.add _ _).block ≠ _; rw [add_block]; exact hn103_0) | exact hn103_0) (.int .i64 ((qab l0 x17_1).f0))).trans hx103_1; replace hx103_2 := (cell_far (p := ⟨gb102, 0, none⟩) (by first | (rw [add_block]; exact hn103_0) | (show (Addr.add _ _).block ≠ _; rw [add_block]; exact hn103_0) | exact hn103_0) (.int .i64 ((qab l0 x17_1).f0))).trans hx103_2; replace hx103_3 := (cell_far (p := ⟨gb102, 0, none⟩) (by first | (rw [add_block]; exact hn103_0) | (show (Addr.add _ _).block ≠ _; rw [add_block]; exact hn103_0) | exact hn103_0) (.int .i64 ((qab l0 x17_1).f0))).trans hx103_3; replace hx103_0 := (cell_far (p := ⟨gb102, 1, none⟩) (by first | (rw [add_block]; exact hn103_1) | (show (Addr.add _ _).block ≠ _; rw [add_block]; exact hn103_1) | exact hn103_1) (.int .i64 ((qab l0 x17_1).f1))).trans hx103_0; replace hx103_1 := (cell_far (p := ⟨gb102, 1, none⟩) (by first | (rw [add_block]; exact hn103_1) | (show (Addr.add _ _).block ≠ _; rw [add_block]; exact hn103_1) | exact hn103_1) (.int .i64 ((qab l0 x17_1).f1))).trans hx103_1; replace hx103_2 := (cell_far (p := ⟨gb102, 1, none⟩) (by first | (rw [add_block]; exact hn103_1) | (show (Addr.add _ _).block ≠ _; rw [add_block]; exact hn103_1) | exact hn103_1) (.int .i64 ((qab l0 x17_1).f1))).trans hx103_2; replace hx103_3 := (cell_far (p := ⟨gb102, 1, none⟩) (by first | (rw [add_block]; exact hn103_1) | (show (Addr.add _ _).block ≠ _; rw [add_block]; exact hn103_1) | exact hn103_1) (.int .i64 ((qab l0 x17_1).f1))).trans hx103_3; replace hx103_0 := (cell_far (p := ⟨gb102, 2, none⟩) (by first | (rw [add_block]; exact hn103_2) | (show (Addr.add _ _).block ≠ _; rw [add_block]; exact hn103_2) | exact hn103_2) (.int .i64 ((qab l0 x17_1).f2))).trans hx103_0; replace hx103_1 := (cell_far (p := ⟨gb102, 2, none⟩) (by first | (rw [add_block]; exact hn103_2) | (show (Addr.add _ _).block ≠ _; rw [add_block]; exact hn103_2) | exact hn103_2) (.int .i64 ((qab l0 x17_1).f2))).trans hx103_1; replace hx103_2 := (cell_far (p := ⟨gb102, 2, none⟩) (by first | (rw [add_block]; exact hn103_2) | (show (Addr.add _ _).block ≠ _; rw [add_block]; exact hn103_2) | exact hn103_2) (.int .i64 ((qab l0 x17_1).f2))).trans hx103_2; replace hx103_3 := (cell_far (p := ⟨gb102, 2, none⟩) (by first | (rw [add_block]; exact hn103_2) | (show (Addr.add _ _).block ≠ _; rw [add_block]; exact hn103_2) | exact hn103_2) (.int .i64 ((qab l0 x17_1).f2))).trans hx103_3; replace hx103_0 := (cell_far (p := ⟨gb102, 3, none⟩) (by first | (rw [add_block]; exact hn103_3) | (show (Addr.add _ _).block ≠ _; rw [add_block]; exact hn103_3) | exact hn103_3) (.slice A101_3 ((qab l0 x17_1).f3).length c101_3)).trans hx103_0; replace hx103_1 := (cell_far (p := ⟨gb102, 3, none⟩) (by first | (rw [add_block]; exact hn103_3) | (show (Addr.add _ _).block ≠ _; rw [add_block]; exact hn103_3) | exact hn103_3) (.slice A101_3 ((qab l0 x17_1).f3).length c101_3)).trans hx103_1; replace hx103_2 := (cell_far (p := ⟨gb102, 3, none⟩) (by first | (rw [add_block]; exact hn103_3) | (show (Addr.add _ _).block ≠ _; rw [add_block]; exact hn103_3) | exact hn103_3) (.slice A101_3 ((qab l0 x17_1).f3).length c101_3)).trans hx103_2; replace hx103_3 := (cell_far (p := ⟨gb102, 3, none⟩) (by first | (rw [add_block]; exact hn103_3) | (show (Addr.add _ _).block ≠ _; rw [add_block]; exact hn103_3) | exact hn103_3) (.slice A101_3 ((qab l0 x17_1).f3).length c101_3)).trans hx103_3; (try have hy103_0 := fun (n_ : Nat) => (show ((((((w9.drewN n_).setCell ⟨gb102, 0, none⟩ (.int .i64 ((qab l0 x17_1).f0))).setCell ⟨gb102, 1, none⟩ (.int .i64 ((qab l0 x17_1).f1))).setCell ⟨gb102, 2, none⟩ (.int .i64 ((qab l0 x17_1).f2))).setCell ⟨gb102, 3, none⟩ (.slice A101_3 ((qab l0 x17_1).f3).length c101_3))).cell? _ = some _ from hx103_0)); (try have hy103_1 := fun (n_ : Nat) => (show ((((((w9.drewN n_).setCell ⟨gb102, 0, none⟩ (.int .i64 ((qab l0 x17_1).f0))).setCell ⟨gb102, 1, none⟩ (.int .i64 ((qab l0 x17_1).f1))).setCell ⟨gb102, 2, none⟩ (.int .i64 ((qab l0 x17_1).f2))).setCell ⟨gb102, 3, none⟩ (.slice A101_3 ((qab l0 x17_1).f3).length c101_3))).cell? _ = some _ from hx103_1)); (try have hy103_2 := fun (n_ : Nat) => (show ((((((w9.drewN n_).setCell ⟨gb102, 0, none⟩ (.int .i64 ((qab l0 x17_1).f0))).setCell ⟨gb102, 1, none⟩ (.int .i64 ((qab l0 x17_1).f1))).setCell ⟨gb102, 2, none⟩ (.int .i64 ((qab l0 x17_1).f2))).setCell ⟨gb102, 3, none⟩ (.slice A101_3 ((qab l0 x17_1).f3).length c101_3))).cell? _ = some _ from hx103_2)); (try have hy103_3 := fun (n_ : Nat) => (show ((((((w9.drewN n_).setCell ⟨gb102, 0, none⟩ (.int .i64 ((qab l0 x17_1).f0))).setCell ⟨gb102, 1, none⟩ (.int .i64 ((qab l0 x17_1).f1))).setCell ⟨gb102, 2, none⟩ (.int .i64 ((qab l0 x17_1).f2))).setCell ⟨gb102, 3, none⟩ (.slice A101_3 ((qab l0 x17_1).f3).length c101_3))).cell? _ = some _ from hx103_3)); clear hn103_0; clear hn103_1; clear hn103_2; clear hn103_3; replace p103 := eq_true p103; replace q103 := eq_true q103) | ((with_reducible refine qau (N := 7) rfl ?_); (try (refine qbf (by rfl) ?_; dsimp only)); refine qat ?hg (N := 7) ?hd (cs := #[.int .i64 0, .int .i64 0, .int .i64 0, .slice none 0 0]) (t := 55) ?hr ?_; (case hd => rfl); (case hg => rfl); (case hr => first | (go_simp; done) | (go_simp; rfl)); intro gb104 hg w11 hbox hb; have n0_ := Aside0.mk (qa1 (g := gb102) (o := .cells #[.int .i64 ((qab l0 x17_1).f0), .int .i64 ((qab l0 x17_1).f1), .int .i64 ((qab l0 x17_1).f2), .slice A101_3 ((qab l0 x17_1).f3).length c101_3] 55 (0, 0)) (by (with_reducible repeat (first | refine qaf ?_ _ | refine qai ?_ | refine qag ?_ _)); refine qaq (cs := #[.int .i64 ((qab l0 x17_1).f0), .int .i64 ((qab l0 x17_1).f1), .int .i64 ((qab l0 x17_1).f2), .slice none 0 0]) ?_ 3 _ rfl; (with_reducible repeat (first | refine qaf ?_ _ | refine qai ?_ | refine qag ?_ _)); refine qaq (cs := #[.int .i64 ((qab l0 x17_1).f0), .int .i64 ((qab l0 x17_1).f1), .int .i64 0, .slice none 0 0]) ?_ 2 _ rfl; (with_reducible repeat (first | refine qaf ?_ _ | refine qai ?_ | refine qag ?_ _)); refine qaq (cs := #[.int .i64 ((qab l0 x17_1).f0), .int .i64 0, .int .i64 0, .slice none 0 0]) ?_ 1 _ rfl; (with_reducible repeat (first | refine qaf ?_ _ | refine qai ?_ | refine qag ?_ _)); refine qaq (cs := #[.int .i64 0, .int .i64 0, .int .i64 0, .slice none 0 0]) ?_ 0 _ rfl; (with_reducible repeat (first | refine qaf ?_ _ | refine qai ?_ | refine qag ?_ _)); exact BK102.out) hb); have n1_ := Aside0.mk (qam (by repeat (first | (with_reducible first | exact HB.out | apply qac | apply qaa | apply qad | refine qak ?_ GE102.out) | exact HB.out)) hb); have n2_ := Aside0.mk (hbox); have n3_ := Aside0.mk ((by rw [hg]; exact (qal (by repeat (first | (with_reducible first | exact HB.out | apply qac | apply qaa | apply qad | refine qak ?_ GE102.out) | exact HB.out))) : w.heap.size ≤ gb104)); have n4_ := Aside0.mk ((by rw [hg]; exact (qal (by repeat (first | (with_reducible first | exact HB.out | apply qac | apply qaa | apply qad | refine qak ?_ GE102.out) | exact HB.out))) : w.heap.size ≤ gb104)); have n5_ := Aside0.mk ((by rw [hg]; exact Nat.ne_of_lt (qa9 (g := gb102) (o := .cells #[.int .i64 ((qab l0 x17_1).f0), .int .i64 ((qab l0 x17_1).f1), .int .i64 ((qab l0 x17_1).f2), .slice A101_3 ((qab l0 x17_1).f3).length c101_3] 55 (0, 0)) (by (with_reducible repeat (first | refine qaf ?_ _ | refine qai ?_ | refine qag ?_ _)); refine qaq (cs := #[.int .i64 ((qab l0 x17_1).f0), .int .i64 ((qab l0 x17_1).f1), .int .i64 ((qab l0 x17_1).f2), .slice none 0 0]) ?_ 3 _ rfl; (with_reducible repeat (first | refine qaf ?_ _ | refine qai ?_ | refine qag ?_ _)); refine qaq (cs := #[.int .i64 ((qab l0 x17_1).f0), .int .i64 ((qab l0 x17_1).f1), .int .i64 0, .slice none 0 0]) ?_ 2 _ rfl; (with_reducible repeat (first | refine qaf ?_ _ | refine qai ?_ | refine qag ?_ _)); refine qaq (cs := #[.int .i64 ((qab l0 x17_1).f0), .int .i64 0, .int .i64 0, .slice none 0 0]) ?_ 1 _ rfl; (with_reducible repeat (first | refine qaf ?_ _ | refine qai ?_ | refine qag ?_ _)); refine qaq (cs := #[.int .i64 0, .int .i64 0, .int .i64 0, .slice none 0 0]) ?_ 0 _ rfl; (with_reducible repeat (first | refine qaf ?_ _ | refine qai ?_ | refine qag ?_ _)); exact BK102.out)) : gb102 ≠ gb104)); have n6_ := Aside0.mk ((by rw [hg]; exact Nat.ne_of_gt (qa9 (g := gb102) (o := .cells #[.int .i64 ((qab l0 x17_1).f0), .int .i64 ((qab l0 x17_1).f1), .int .i64 ((qab l0 x17_1).f2), .slice A101_3 ((qab l0 x17_1).f3).length c101_3] 55 (0, 0)) (by (with_reducible repeat (first | refine qaf ?_ _ | refine qai ?_ | refine qag ?_ _)); refine qaq (cs := #[.int .i64 ((qab l0 x17_1).f0), .int .i64 ((qab l0 x17_1).f1), .int .i64 ((qab l0 x17_1).f2), .slice none 0 0]) ?_ 3 _ rfl; (with_reducible repeat (first | refine qaf ?_ _ | refine qai ?_ | refine qag ?_ _)); refine qaq (cs := #[.int .i64 ((qab l0 x17_1).f0), .int .i64 ((qab l0 x17_1).f1), .int .i64 0, .slice none 0 0]) ?_ 2 _ rfl; (with_reducible repeat (first | refine qaf ?_ _ | refine qai ?_ | refine qag ?_ _)); refine qaq (cs := #[.int .i64 ((qab l0 x17_1).f0), .int .i64 0, .int .i64 0, .slice none 0 0]) ?_ 1 _ rfl; (with_reducible repeat (first | refine qaf ?_ _ | refine qai ?_ | refine qag ?_ _)); refine qaq (cs := #[.int .i64 0, .int .i64 0, .int .i64 0, .slice none 0 0]) ?_ 0 _ rfl; (with_reducible repeat (first | refine qaf ?_ _ | refine qai ?_ | refine qag ?_ _)); exact BK102.out)) : gb104 ≠ gb102)); clear BK102; clear HB; have BK102 := n0_; have HB := n1_; have BK104 := n2_; have GW104 := n3_; have GE104 := n4_; have NB102_104 := n5_; have NB104_102 := n6_; clear n0_ n1_ n2_ n3_ n4_ n5_ n6_; clear hb hbox hg; have hnb12 := NB104_102.out; have hnc12 := NB102_104.out; have hcz13_0 : w11.cell? ⟨gb104, 0, none⟩ = some (.int .i64 0) := (qah BK104.out 0).trans rfl; have hcz13_1 : w11.cell? ⟨gb104, 1, none⟩ = some (.int .i64 0) := (qah BK104.out 1).trans rfl; have hcz13_2 : w11.cell? ⟨gb104, 2, none⟩ = some (.int .i64 0) := (qah BK104.out 2).trans rfl; have hcz13_3 : w11.cell? ⟨gb104, 3, none⟩ = some (.slice none 0 0) := (qah BK104.out 3).trans rfl; have hfz13_0 := qae BK104.out 0; have hfz13_1 := qae BK104.out 1; have hfz13_2 := qae BK104.out 2; have hfz13_3 := qae BK104.out 3)))
        (try simp only [Act.put, List.setIfInBounds_toArray, List.set_cons_zero, List.set_cons_succ])
        go_cut [53] (fun v53 wc => ∃ (kq : Nat) (x53_7 : Bool), v53 = .bool x53_7 ∧ Aside0 (history_Same.j1 kq l1 l0 (l0.length : Int) x17_1 x53_7 ((qab l0 x17_1).f0) ((qab l0 x17_1).f1) ((qab l0 x17_1).f2) ((qab l0 x17_1).f3) ((qab l1 x17_1).f0) ((qab l1 x17_1).f1) ((qab l1 x17_1).f2) ((qab l1 x17_1).f3) = some r) ∧ Aside0 (kq ≤ k1) ∧ Aside0 (wc.heap[gb102]? = some (.cells #[.int .i64 ((qab l0 x17_1).f0), .int .i64 ((qab l0 x17_1).f1), .int .i64 ((qab l0 x17_1).f2), (.slice A101_3 ((qab l0 x17_1).f3).length c101_3)] 55 (0, 0))) ∧ Aside0 (wc.heap[gb104]? = some (.cells #[.int .i64 ((qab l1 x17_1).f0), .int .i64 ((qab l1 x17_1).f1), .int .i64 ((qab l1 x17_1).f2), (.slice A103_3 ((qab l1 x17_1).f3).length c103_3)] 55 (0, 0))) ∧ Aside0 (Below w.heap.size w wc))
        case first =>
         have H := HC8.out
         clear HC8
         by_cases c14 : ((qab l0 x17_1).f0) = ((qab l1 x17_1).f0)
         ·rw [if_pos c14] at H
          have c14b0 : (((qab l0 x17_1).f0) == ((qab l1 x17_1).f0)) = true := beq_iff_eq.mpr c14
          have c14b1 : (((qab l0 x17_1).f0) != ((qab l1 x17_1).f0)) = false := bne_eq_false_iff_eq.mpr c14
          clear c14
          (first | rw [c14b0] | (simp only [qbb, qbc]; rw [c14b0]) | skip)
          by_cases c15 : ((qab l0 x17_1).f1) = ((qab l1 x17_1).f1)
          ·rw [if_pos c15] at H
           have c15b0 : (((qab l0 x17_1).f1) == ((qab l1 x17_1).f1)) = true := beq_iff_eq.mpr c15
           have c15b1 : (((qab l0 x17_1).f1) != ((qab l1 x17_1).f1)) = false := bne_eq_false_iff_eq.mpr c15
           clear c15
           by_cases c16 : ((qab l0 x17_1).f2) = ((qab l1 x17_1).f2)
           ·rw [if_pos c16] at H
            have c16b0 : (((qab l0 x17_1).f2) == ((qab l1 x17_1).f2)) = true := beq_iff_eq.mpr c16
            have c16b1 : (((qab l0 x17_1).f2) != ((qab l1 x17_1).f2)) = false := bne_eq_false_iff_eq.mpr c16
            clear c16
            have H' := Aside0.mk H
            clear H
            have hnb17 := NB102_104.out
            have hnc17 := NB104_102.out
            have hcz18_0 : w11.cell? ⟨gb102, 0, none⟩ = some (.int .i64 ((qab l0 x17_1).f0)) := (qah BK102.out 0).trans rfl
            have hcz18_1 : w11.cell? ⟨gb102, 1, none⟩ = some (.int .i64 ((qab l0 x17_1).f1)) := (qah BK102.out 1).trans rfl
            have hcz18_2 : w11.cell? ⟨gb102, 2, none⟩ = some (.int .i64 ((qab l0 x17_1).f2)) := (qah BK102.out 2).trans rfl
            have hcz18_3 : w11.cell? ⟨gb102, 3, none⟩ = some (.slice A101_3 ((qab l0 x17_1).f3).length c101_3) := (qah BK102.out 3).trans rfl
            have hfz18_0 := qae BK102.out 0
            have hfz18_1 := qae BK102.out 1
            have hfz18_2 := qae BK102.out 2
            have hfz18_3 := qae BK102.out 3
            have hcz19_0 : w11.cell? ⟨gb104, 0, none⟩ = some (.int .i64 0) := (qah BK104.out 0).trans rfl
            have hcz19_1 : w11.cell? ⟨gb104, 1, none⟩ = some (.int .i64 0) := (qah BK104.out 1).trans rfl
            have hcz19_2 : w11.cell? ⟨gb104, 2, none⟩ = some (.int .i64 0) := (qah BK104.out 2).trans rfl
            have hcz19_3 : w11.cell? ⟨gb104, 3, none⟩ = some (.slice none 0 0) := (qah BK104.out 3).trans rfl
            have hfz19_0 := qae BK104.out 0
            have hfz19_1 := qae BK104.out 1
            have hfz19_2 := qae BK104.out 2
            have hfz19_3 := qae BK104.out 3
            go_wp2
            repeat (go_quiet (fail); try go_wp2)
            go_meet
            case rel => exact ⟨_, (((((qab l0 x17_1).f3).length : Int) != (((qab l1 x17_1).f3).length : Int))), (by first | rfl | (simp; done) | (simp [*]; done)), H', ⟨by have := HK1.out; first | omega | exact Nat.le_refl _⟩, ⟨by (with_reducible repeat (first | refine qaf ?_ _ | refine qai ?_ | refine qag ?_ _)); refine qa0 ?_ NB102_104.out _; (with_reducible repeat (first | refine qaf ?_ _ | refine qai ?_ | refine qag ?_ _)); refine qa0 ?_ NB102_104.out _; (with_reducible repeat (first | refine qaf ?_ _ | refine qai ?_ | refine qag ?_ _)); refine qa0 ?_ NB102_104.out _; (with_reducible repeat (first | refine qaf ?_ _ | refine qai ?_ | refine qag ?_ _)); refine qa0 ?_ NB102_104.out _; (with_reducible repeat (first | refine qaf ?_ _ | refine qai ?_ | refine qag ?_ _)); exact BK102.out⟩, ⟨by (with_reducible repeat (first | refine qaf ?_ _ | refine qai ?_ | refine qag ?_ _)); refine qaq (cs := #[.int .i64 ((qab l1 x17_1).f0), .int .i64 ((qab l1 x17_1).f1), .int .i64 ((qab l1 x17_1).f2), .slice none 0 0]) ?_ 3 _ rfl; (with_reducible repeat (first | refine qaf ?_ _ | refine qai ?_ | refine qag ?_ _)); refine qaq (cs := #[.int .i64 ((qab l1 x17_1).f0), .int .i64 ((qab l1 x17_1).f1), .int .i64 0, .slice none 0 0]) ?_ 2 _ rfl; (with_reducible repeat (first | refine qaf ?_ _ | refine qai ?_ | refine qag ?_ _)); refine qaq (cs := #[.int .i64 ((qab l1 x17_1).f0), .int .i64 0, .int .i64 0, .slice none 0 0]) ?_ 1 _ rfl; (with_reducible repeat (first | refine qaf ?_ _ | refine qai ?_ | refine qag ?_ _)); refine qaq (cs := #[.int .i64 0, .int .i64 0, .int .i64 0, .slice none 0 0]) ?_ 0 _ rfl; (with_reducible repeat (first | refine qaf ?_ _ | refine qai ?_ | refine qag ?_ _)); exact BK104.out⟩, ⟨by repeat (first | (with_reducible first | exact HB.out | apply qac | apply qaa | apply qad | refine qak ?_ GE102.out | refine qak ?_ GE104.out) | exact HB.out)⟩⟩
           ·rw [if_neg c16] at H
            have c16b0 : (((qab l0 x17_1).f2) == ((qab l1 x17_1).f2)) = false := beq_eq_false_iff_ne.mpr c16
            have c16b1 : (((qab l0 x17_1).f2) != ((qab l1 x17_1).f2)) = true := bne_iff_ne.mpr c16
            have H' := Aside0.mk H
            clear H
            have hnb20 := NB102_104.out
            have hnc20 := NB104_102.out
            have hcz21_0 : w11.cell? ⟨gb102, 0, none⟩ = some (.int .i64 ((qab l0 x17_1).f0)) := (qah BK102.out 0).trans rfl
            have hcz21_1 : w11.cell? ⟨gb102, 1, none⟩ = some (.int .i64 ((qab l0 x17_1).f1)) := (qah BK102.out 1).trans rfl
            have hcz21_2 : w11.cell? ⟨gb102, 2, none⟩ = some (.int .i64 ((qab l0 x17_1).f2)) := (qah BK102.out 2).trans rfl
            have hcz21_3 : w11.cell? ⟨gb102, 3, none⟩ = some (.slice A101_3 ((qab l0 x17_1).f3).length c101_3) := (qah BK102.out 3).trans rfl
            have hfz21_0 := qae BK102.out 0
            have hfz21_1 := qae BK102.out 1
            have hfz21_2 := qae BK102.out 2
            have hfz21_3 := qae BK102.out 3
            have hcz22_0 : w11.cell? ⟨gb104, 0, none⟩ = some (.int .i64 0) := (qah BK104.out 0).trans rfl
            have hcz22_1 : w11.cell? ⟨gb104, 1, none⟩ = some (.int .i64 0) := (qah BK104.out 1).trans rfl
            have hcz22_2 : w11.cell? ⟨gb104, 2, none⟩ = some (.int .i64 0) := (qah BK104.out 2).trans rfl
            have hcz22_3 : w11.cell? ⟨gb104, 3, none⟩ = some (.slice none 0 0) := (qah BK104.out 3).trans rfl
            have hfz22_0 := qae BK104.out 0
            have hfz22_1 := qae BK104.out 1
            have hfz22_2 := qae BK104.out 2
            have hfz22_3 := qae BK104.out 3
            go_wp2
            repeat (go_quiet (fail); try go_wp2)
            go_meet
            case rel => exact ⟨_, (true), (by first | rfl | (simp; done) | (simp [*]; done)), H', ⟨by have := HK1.out; first | omega | exact Nat.le_refl _⟩, ⟨by (with_reducible repeat (first | refine qaf ?_ _ | refine qai ?_ | refine qag ?_ _)); refine qa0 ?_ NB102_104.out _; (with_reducible repeat (first | refine qaf ?_ _ | refine qai ?_ | refine qag ?_ _)); refine qa0 ?_ NB102_104.out _; (with_reducible repeat (first | refine qaf ?_ _ | refine qai ?_ | refine qag ?_ _)); refine qa0 ?_ NB102_104.out _; (with_reducible repeat (first | refine qaf ?_ _ | refine qai ?_ | refine qag ?_ _)); refine qa0 ?_ NB102_104.out _; (with_reducible repeat (first | refine qaf ?_ _ | refine qai ?_ | refine qag ?_ _)); exact BK102.out⟩, ⟨by (with_reducible repeat (first | refine qaf ?_ _ | refine qai ?_ | refine qag ?_ _)); refine qaq (cs := #[.int .i64 ((qab l1 x17_1).f0), .int .i64 ((qab l1 x17_1).f1), .int .i64 ((qab l1 x17_1).f2), .slice none 0 0]) ?_ 3 _ rfl; (with_reducible repeat (first | refine qaf ?_ _ | refine qai ?_ | refine qag ?_ _)); refine qaq (cs := #[.int .i64 ((qab l1 x17_1).f0), .int .i64 ((qab l1 x17_1).f1), .int .i64 0, .slice none 0 0]) ?_ 2 _ rfl; (with_reducible repeat (first | refine qaf ?_ _ | refine qai ?_ | refine qag ?_ _)); refine qaq (cs := #[.int .i64 ((qab l1 x17_1).f0), .int .i64 0, .int .i64 0, .slice none 0 0]) ?_ 1 _ rfl; (with_reducible repeat (first | refine qaf ?_ _ | refine qai ?_ | refine qag ?_ _)); refine qaq (cs := #[.int .i64 0, .int .i64 0, .int .i64 0, .slice none 0 0]) ?_ 0 _ rfl; (with_reducible repeat (first | refine qaf ?_ _ | refine qai ?_ | refine qag ?_ _)); exact BK104.out⟩, ⟨by repeat (first | (with_reducible first | exact HB.out | apply qac | apply qaa | apply qad | refine qak ?_ GE102.out | refine qak ?_ GE104.out) | exact HB.out)⟩⟩
          ·rw [if_neg c15] at H
           have c15b0 : (((qab l0 x17_1).f1) == ((qab l1 x17_1).f1)) = false := beq_eq_false_iff_ne.mpr c15
           have c15b1 : (((qab l0 x17_1).f1) != ((qab l1 x17_1).f1)) = true := bne_iff_ne.mpr c15
           have H' := Aside0.mk H
           clear H
           have hnb23 := NB102_104.out
           have hnc23 := NB104_102.out
           have hcz24_0 : w11.cell? ⟨gb102, 0, none⟩ = some (.int .i64 ((qab l0 x17_1).f0)) := (qah BK102.out 0).trans rfl
           have hcz24_1 : w11.cell? ⟨gb102, 1, none⟩ = some (.int .i64 ((qab l0 x17_1).f1)) := (qah BK102.out 1).trans rfl
           have hcz24_2 : w11.cell? ⟨gb102, 2, none⟩ = some (.int .i64 ((qab l0 x17_1).f2)) := (qah BK102.out 2).trans rfl
           have hcz24_3 : w11.cell? ⟨gb102, 3, none⟩ = some (.slice A101_3 ((qab l0 x17_1).f3).length c101_3) := (qah BK102.out 3).trans rfl
           have hfz24_0 := qae BK102.out 0
           have hfz24_1 := qae BK102.out 1
           have hfz24_2 := qae BK102.out 2
           have hfz24_3 := qae BK102.out 3
           have hcz25_0 : w11.cell? ⟨gb104, 0, none⟩ = some (.int .i64 0) := (qah BK104.out 0).trans rfl
           have hcz25_1 : w11.cell? ⟨gb104, 1, none⟩ = some (.int .i64 0) := (qah BK104.out 1).trans rfl
           have hcz25_2 : w11.cell? ⟨gb104, 2, none⟩ = some (.int .i64 0) := (qah BK104.out 2).trans rfl
           have hcz25_3 : w11.cell? ⟨gb104, 3, none⟩ = some (.slice none 0 0) := (qah BK104.out 3).trans rfl
           have hfz25_0 := qae BK104.out 0
           have hfz25_1 := qae BK104.out 1
           have hfz25_2 := qae BK104.out 2
           have hfz25_3 := qae BK104.out 3
           go_wp2
           repeat (go_quiet (fail); try go_wp2)
           go_meet
           case rel => exact ⟨_, (true), (by first | rfl | (simp; done) | (simp [*]; done)), H', ⟨by have := HK1.out; first | omega | exact Nat.le_refl _⟩, ⟨by (with_reducible repeat (first | refine qaf ?_ _ | refine qai ?_ | refine qag ?_ _)); refine qa0 ?_ NB102_104.out _; (with_reducible repeat (first | refine qaf ?_ _ | refine qai ?_ | refine qag ?_ _)); refine qa0 ?_ NB102_104.out _; (with_reducible repeat (first | refine qaf ?_ _ | refine qai ?_ | refine qag ?_ _)); refine qa0 ?_ NB102_104.out _; (with_reducible repeat (first | refine qaf ?_ _ | refine qai ?_ | refine qag ?_ _)); refine qa0 ?_ NB102_104.out _; (with_reducible repeat (first | refine qaf ?_ _ | refine qai ?_ | refine qag ?_ _)); exact BK102.out⟩, ⟨by (with_reducible repeat (first | refine qaf ?_ _ | refine qai ?_ | refine qag ?_ _)); refine qaq (cs := #[.int .i64 ((qab l1 x17_1).f0), .int .i64 ((qab l1 x17_1).f1), .int .i64 ((qab l1 x17_1).f2), .slice none 0 0]) ?_ 3 _ rfl; (with_reducible repeat (first | refine qaf ?_ _ | refine qai ?_ | refine qag ?_ _)); refine qaq (cs := #[.int .i64 ((qab l1 x17_1).f0), .int .i64 ((qab l1 x17_1).f1), .int .i64 0, .slice none 0 0]) ?_ 2 _ rfl; (with_reducible repeat (first | refine qaf ?_ _ | refine qai ?_ | refine qag ?_ _)); refine qaq (cs := #[.int .i64 ((qab l1 x17_1).f0), .int .i64 0, .int .i64 0, .slice none 0 0]) ?_ 1 _ rfl; (with_reducible repeat (first | refine qaf ?_ _ | refine qai ?_ | refine qag ?_ _)); refine qaq (cs := #[.int .i64 0, .int .i64 0, .int .i64 0, .slice none 0 0]) ?_ 0 _ rfl; (with_reducible repeat (first | refine qaf ?_ _ | refine qai ?_ | refine qag ?_ _)); exact BK104.out⟩, ⟨by repeat (first | (with_reducible first | exact HB.out | apply qac | apply qaa | apply qad | refine qak ?_ GE102.out | refine qak ?_ GE104.out) | exact HB.out)⟩⟩
         ·rw [if_neg c14] at H
          have c14b0 : (((qab l0 x17_1).f0) == ((qab l1 x17_1).f0)) = false := beq_eq_false_iff_ne.mpr c14
          have c14b1 : (((qab l0 x17_1).f0) != ((qab l1 x17_1).f0)) = true := bne_iff_ne.mpr c14
          (first | rw [c14b0] | (simp only [qbb, qbc]; rw [c14b0]) | skip)
          have H' := Aside0.mk H
          clear H
          have hnb26 := NB102_104.out
          have hnc26 := NB104_102.out
          have hcz27_0 : w11.cell? ⟨gb102, 0, none⟩ = some (.int .i64 ((qab l0 x17_1).f0)) := (qah BK102.out 0).trans rfl
          have hcz27_1 : w11.cell? ⟨gb102, 1, none⟩ = some (.int .i64 ((qab l0 x17_1).f1)) := (qah BK102.out 1).trans rfl
          have hcz27_2 : w11.cell? ⟨gb102, 2, none⟩ = some (.int .i64 ((qab l0 x17_1).f2)) := (qah BK102.out 2).trans rfl
          have hcz27_3 : w11.cell? ⟨gb102, 3, none⟩ = some (.slice A101_3 ((qab l0 x17_1).f3).length c101_3) := (qah BK102.out 3).trans rfl
          have hfz27_0 := qae BK102.out 0
          have hfz27_1 := qae BK102.out 1
          have hfz27_2 := qae BK102.out 2
          have hfz27_3 := qae BK102.out 3
          have hcz28_0 : w11.cell? ⟨gb104, 0, none⟩ = some (.int .i64 0) := (qah BK104.out 0).trans rfl
          have hcz28_1 : w11.cell? ⟨gb104, 1, none⟩ = some (.int .i64 0) := (qah BK104.out 1).trans rfl
          have hcz28_2 : w11.cell? ⟨gb104, 2, none⟩ = some (.int .i64 0) := (qah BK104.out 2).trans rfl
          have hcz28_3 : w11.cell? ⟨gb104, 3, none⟩ = some (.slice none 0 0) := (qah BK104.out 3).trans rfl
          have hfz28_0 := qae BK104.out 0
          have hfz28_1 := qae BK104.out 1
          have hfz28_2 := qae BK104.out 2
          have hfz28_3 := qae BK104.out 3
          go_wp2
          repeat (go_quiet (fail); try go_wp2)
          go_meet
          case rel => exact ⟨_, (true), (by first | rfl | (simp; done) | (simp [*]; done)), H', ⟨by have := HK1.out; first | omega | exact Nat.le_refl _⟩, ⟨by (with_reducible repeat (first | refine qaf ?_ _ | refine qai ?_ | refine qag ?_ _)); refine qa0 ?_ NB102_104.out _; (with_reducible repeat (first | refine qaf ?_ _ | refine qai ?_ | refine qag ?_ _)); refine qa0 ?_ NB102_104.out _; (with_reducible repeat (first | refine qaf ?_ _ | refine qai ?_ | refine qag ?_ _)); refine qa0 ?_ NB102_104.out _; (with_reducible repeat (first | refine qaf ?_ _ | refine qai ?_ | refine qag ?_ _)); refine qa0 ?_ NB102_104.out _; (with_reducible repeat (first | refine qaf ?_ _ | refine qai ?_ | refine qag ?_ _)); exact BK102.out⟩, ⟨by (with_reducible repeat (first | refine qaf ?_ _ | refine qai ?_ | refine qag ?_ _)); refine qaq (cs := #[.int .i64 ((qab l1 x17_1).f0), .int .i64 ((qab l1 x17_1).f1), .int .i64 ((qab l1 x17_1).f2), .slice none 0 0]) ?_ 3 _ rfl; (with_reducible repeat (first | refine qaf ?_ _ | refine qai ?_ | refine qag ?_ _)); refine qaq (cs := #[.int .i64 ((qab l1 x17_1).f0), .int .i64 ((qab l1 x17_1).f1), .int .i64 0, .slice none 0 0]) ?_ 2 _ rfl; (with_reducible repeat (first | refine qaf ?_ _ | refine qai ?_ | refine qag ?_ _)); refine qaq (cs := #[.int .i64 ((qab l1 x17_1).f0), .int .i64 0, .int .i64 0, .slice none 0 0]) ?_ 1 _ rfl; (with_reducible repeat (first | refine qaf ?_ _ | refine qai ?_ | refine qag ?_ _)); refine qaq (cs := #[.int .i64 0, .int .i64 0, .int .i64 0, .slice none 0 0]) ?_ 0 _ rfl; (with_reducible repeat (first | refine qaf ?_ _ | refine qai ?_ | refine qag ?_ _)); exact BK104.out⟩, ⟨by repeat (first | (with_reducible first | exact HB.out | apply qac | apply qaa | apply qad | refine qak ?_ GE102.out | refine qak ?_ GE104.out) | exact HB.out)⟩⟩
        case rest =>
         clear HC8
         try clear c1
         try clear p1
         try clear q1
         try clear hx1
         try clear c2
         try clear p2
         try clear c3
         try clear c3b0
         try clear c3b1
         try clear c3b2
         try clear c4
         try clear c4b0
         try clear c5
         try clear c5b0
         try clear c6
         try clear c6b0
         try clear c7
         try clear c7b0
         try clear c10
         try clear p10
         try clear q10
         try clear hx10
         try clear c12
         try clear c14
         try clear c14b0
         try clear c14b1
         try clear c15
         try clear c15b0
         try clear c15b1
         try clear c16
         try clear c16b0
         try clear c16b1
         try clear c17
         try clear c18
         try clear c20
         try clear c23
         try clear c26
         try clear hcz10_0
         try clear hcz10_1
         try clear hcz10_2
         try clear hcz10_3
         try clear hcz13_0
         try clear hcz13_1
         try clear hcz13_2
         try clear hcz13_3
         try clear hcz18_0
         try clear hcz18_1
         try clear hcz18_2
         try clear hcz18_3
         try clear hcz19_0
         try clear hcz19_1
         try clear hcz19_2
         try clear hcz19_3
         try clear hcz21_0
         try clear hcz21_1
         try clear hcz21_2
         try clear hcz21_3
         try clear hcz22_0
         try clear hcz22_1
         try clear hcz22_2
         try clear hcz22_3
         try clear hcz24_0
         try clear hcz24_1
         try clear hcz24_2
         try clear hcz24_3
         try clear hcz25_0
         try clear hcz25_1
         try clear hcz25_2
         try clear hcz25_3
         try clear hcz27_0
         try clear hcz27_1
         try clear hcz27_2
         try clear hcz27_3
         try clear hcz28_0
         try clear hcz28_1
         try clear hcz28_2
         try clear hcz28_3
         try clear hfz10_0
         try clear hfz10_1
         try clear hfz10_2
         try clear hfz10_3
         try clear hfz13_0
         try clear hfz13_1
         try clear hfz13_2
         try clear hfz13_3
         try clear hfz18_0
         try clear hfz18_1
         try clear hfz18_2
         try clear hfz18_3
         try clear hfz19_0
         try clear hfz19_1
         try clear hfz19_2
         try clear hfz19_3
         try clear hfz21_0
         try clear hfz21_1
         try clear hfz21_2
         try clear hfz21_3
         try clear hfz22_0
         try clear hfz22_1
         try clear hfz22_2
         try clear hfz22_3
         try clear hfz24_0
         try clear hfz24_1
         try clear hfz24_2
         try clear hfz24_3
         try clear hfz25_0
         try clear hfz25_1
         try clear hfz25_2
         try clear hfz25_3
         try clear hfz27_0
         try clear hfz27_1
         try clear hfz27_2
         try clear hfz27_3
         try clear hfz28_0
         try clear hfz28_1
         try clear hfz28_2
         try clear hfz28_3
         try clear hx101_0
         try clear hx101_1
         try clear hx101_2
         try clear hx101_3
         try clear hx103_0
         try clear hx103_1
         try clear hx103_2
         try clear hx103_3
         try clear p101
         try clear p103
         try clear p2
         try clear q101
         try clear q103
         obtain ⟨kq, x53_7, rfl, HA, HJ7, BK102, BK104, HB⟩ := hcut
         cases kq with
         | zero => exact absurd HA.out (by simp [history_Same.j1])
         | succ kj7 =>
          have H := HA.out
          clear HA
          simp only [history_Same.j1] at H
          by_cases c29 : x53_7 = true
          ·subst c29
           have H1 : (some false) = some r := by rw [if_pos rfl] at H; exact H
           clear H
           have H := H1
           clear H1
           obtain rfl := Option.some.inj H
           go_wp2
           repeat (go_quiet (fail); try go_wp2)
           go_ret
           exact ⟨by first | rfl | (simp [qao, qan] <;> rfl) | (simp [*, qao, qan] <;> rfl), by repeat (first | (with_reducible first | exact HB.out | apply qac | apply qaa | apply qad | refine qak ?_ GE102.out | refine qak ?_ GE104.out) | exact HB.out)⟩
          ·replace c29 := Bool.eq_false_iff.mpr c29
           subst c29
           have H1 : (history_Same.l1 kj7 l1 l0 (l0.length : Int) x17_1 ((qab l0 x17_1).f3) (((qab l0 x17_1).f3).length : Int) 0 ((qab l1 x17_1).f0) ((qab l1 x17_1).f1) ((qab l1 x17_1).f2) ((qab l1 x17_1).f3)) = some r := by rw [if_neg (show ¬ (false = true) by decide)] at H; exact H
           clear H
           have H := H1
           clear H1
           have H' := Aside0.mk H
           clear H
           have hnb30 := NB102_104.out
           have hnc30 := NB104_102.out
           have hcz31_0 : wc.cell? ⟨gb102, 0, none⟩ = some (.int .i64 ((qab l0 x17_1).f0)) := (qah BK102.out 0).trans rfl
           have hcz31_1 : wc.cell? ⟨gb102, 1, none⟩ = some (.int .i64 ((qab l0 x17_1).f1)) := (qah BK102.out 1).trans rfl
           have hcz31_2 : wc.cell? ⟨gb102, 2, none⟩ = some (.int .i64 ((qab l0 x17_1).f2)) := (qah BK102.out 2).trans rfl
           have hcz31_3 : wc.cell? ⟨gb102, 3, none⟩ = some (.slice A101_3 ((qab l0 x17_1).f3).length c101_3) := (qah BK102.out 3).trans rfl
           have hfz31_0 := qae BK102.out 0
           have hfz31_1 := qae BK102.out 1
           have hfz31_2 := qae BK102.out 2
           have hfz31_3 := qae BK102.out 3
           go_wp2
           repeat (go_quiet (fail); try go_wp2)
           go_loopg [57] kj7 (fun kq v57 w' => ∃ (x57_3 : Int), v57 = .int .i64 x57_3 ∧ Aside0 (history_Same.l1 kq l1 l0 (l0.length : Int) x17_1 ((qab l0 x17_1).f3) (((qab l0 x17_1).f3).length : Int) x57_3 ((qab l1 x17_1).f0) ((qab l1 x17_1).f1) ((qab l1 x17_1).f2) ((qab l1 x17_1).f3) = some r) ∧ Aside0 (kq ≤ kj7) ∧ Aside0 (w'.heap[gb102]? = some (.cells #[.int .i64 ((qab l0 x17_1).f0), .int .i64 ((qab l0 x17_1).f1), .int .i64 ((qab l0 x17_1).f2), (.slice A101_3 ((qab l0 x17_1).f3).length c101_3)] 55 (0, 0))) ∧ Aside0 (w'.heap[gb104]? = some (.cells #[.int .i64 ((qab l1 x17_1).f0), .int .i64 ((qab l1 x17_1).f1), .int .i64 ((qab l1 x17_1).f2), (.slice A103_3 ((qab l1 x17_1).f3).length c103_3)] 55 (0, 0))) ∧ Aside0 (Below w.heap.size w w'))
           case atStart => exact ⟨(0), (by first | rfl | (simp; done) | (simp [*]; done)), H', ⟨Nat.le_refl _⟩, ⟨by (with_reducible repeat (first | refine qaf ?_ _ | refine qai ?_ | refine qag ?_ _)); exact BK102.out⟩, ⟨by (with_reducible repeat (first | refine qaf ?_ _ | refine qai ?_ | refine qag ?_ _)); exact BK104.out⟩, ⟨by repeat (first | (with_reducible first | exact HB.out | apply qac | apply qaa | apply qad | refine qak ?_ GE102.out | refine qak ?_ GE104.out) | exact HB.out)⟩⟩
           case round =>
            clear H'
            try clear c1
            try clear p1
            try clear q1
            try clear hx1
            try clear c2
            try clear p2
            try clear c3
            try clear c3b0
            try clear c3b1
            try clear c3b2
            try clear c4
            try clear c4b0
            try clear c5
            try clear c5b0
            try clear c6
            try clear c6b0
            try clear c7
            try clear c7b0
            try clear c10
            try clear p10
            try clear q10
            try clear hx10
            try clear c12
            try clear c14
            try clear c14b0
            try clear c14b1
            try clear c15
            try clear c15b0
            try clear c15b1
            try clear c16
            try clear c16b0
            try clear c16b1
            try clear c17
            try clear c18
            try clear c20
            try clear c23
            try clear c26
            try clear c29
            try clear c30
            try clear hcz10_0
            try clear hcz10_1
            try clear hcz10_2
            try clear hcz10_3
            try clear hcz13_0
            try clear hcz13_1
            try clear hcz13_2
            try clear hcz13_3
            try clear hcz18_0
            try clear hcz18_1
            try clear hcz18_2
            try clear hcz18_3
            try clear hcz19_0
            try clear hcz19_1
            try clear hcz19_2
            try clear hcz19_3
            try clear hcz21_0
            try clear hcz21_1
            try clear hcz21_2
            try clear hcz21_3
            try clear hcz22_0
            try clear hcz22_1
            try clear hcz22_2
            try clear hcz22_3
            try clear hcz24_0
            try clear hcz24_1
            try clear hcz24_2
            try clear hcz24_3
            try clear hcz25_0
            try clear hcz25_1
            try clear hcz25_2
            try clear hcz25_3
            try clear hcz27_0
            try clear hcz27_1
            try clear hcz27_2
            try clear hcz27_3
            try clear hcz28_0
            try clear hcz28_1
            try clear hcz28_2
            try clear hcz28_3
            try clear hcz31_0
            try clear hcz31_1
            try clear hcz31_2
            try clear hcz31_3
            try clear hfz10_0
            try clear hfz10_1
            try clear hfz10_2
            try clear hfz10_3
            try clear hfz13_0
            try clear hfz13_1
            try clear hfz13_2
            try clear hfz13_3
            try clear hfz18_0
            try clear hfz18_1
            try clear hfz18_2
            try clear hfz18_3
            try clear hfz19_0
            try clear hfz19_1
            try clear hfz19_2
            try clear hfz19_3
            try clear hfz21_0
            try clear hfz21_1
            try clear hfz21_2
            try clear hfz21_3
            try clear hfz22_0
            try clear hfz22_1
            try clear hfz22_2
            try clear hfz22_3
            try clear hfz24_0
            try clear hfz24_1
            try clear hfz24_2
            try clear hfz24_3
            try clear hfz25_0
            try clear hfz25_1
            try clear hfz25_2
            try clear hfz25_3
            try clear hfz27_0
            try clear hfz27_1
            try clear hfz27_2
            try clear hfz27_3
            try clear hfz28_0
            try clear hfz28_1
            try clear hfz28_2
            try clear hfz28_3
            try clear hfz31_0
            try clear hfz31_1
            try clear hfz31_2
            try clear hfz31_3
            try clear hx101_0
            try clear hx101_1
            try clear hx101_2
            try clear hx101_3
            try clear hx103_0
            try clear hx103_1
            try clear hx103_2
            try clear hx103_3
            try clear p1
            try clear p10
            try clear p101
            try clear p103
            try clear p2
            try clear q1
            try clear q10
            try clear q101
            try clear q103
            obtain ⟨x57_3, rfl, HA, HK3, BK102, BK104, HB⟩ := hrel
            cases gk with
            | zero => exact absurd HA.out (by simp [history_Same.l1])
            | succ k3 =>
             have H := HA.out
             clear HA
             simp only [history_Same.l1] at H
             by_cases c32 : x57_3 < (((qab l0 x17_1).f3).length : Int)
             ·rw [if_pos c32] at H
              have c32b0 : decide (x57_3 < (((qab l0 x17_1).f3).length : Int)) = true := decide_eq_true c32
              clear c32
              by_cases c33 : 0 ≤ x57_3
              ·rw [if_pos c33] at H
               have c33b0 : decide (0 ≤ x57_3) = true := decide_eq_true c33
               clear c33
               by_cases c34 : x57_3 < (((qab l0 x17_1).f3).length : Int)
               ·rw [if_pos c34] at H
                have c34b0 : decide (x57_3 < (((qab l0 x17_1).f3).length : Int)) = true := decide_eq_true c34
                clear c34
                by_cases c35 : x57_3 < (((qab l1 x17_1).f3).length : Int)
                ·rw [if_pos c35] at H
                 have c35b0 : decide (x57_3 < (((qab l1 x17_1).f3).length : Int)) = true := decide_eq_true c35
                 clear c35
                 by_cases c36 : (!(((qaj ((qab l1 x17_1).f3) x57_3).f0) == ((qaj ((qab l0 x17_1).f3) x57_3).f0)) || (!(((qaj ((qab l1 x17_1).f3) x57_3).f1) == ((qaj ((qab l0 x17_1).f3) x57_3).f1)) || (!(((qaj ((qab l1 x17_1).f3) x57_3).f2) == ((qaj ((qab l0 x17_1).f3) x57_3).f2))))) = true
                 ·rw [if_pos c36] at H
                  have c36b0 : (!(((qaj ((qab l1 x17_1).f3) x57_3).f0) == ((qaj ((qab l0 x17_1).f3) x57_3).f0)) || (!(((qaj ((qab l1 x17_1).f3) x57_3).f1) == ((qaj ((qab l0 x17_1).f3) x57_3).f1)) || (!(((qaj ((qab l1 x17_1).f3) x57_3).f2) == ((qaj ((qab l0 x17_1).f3) x57_3).f2))))) = true := c36
                  clear c36
                  obtain rfl := Option.some.inj H
                  have p105 : 0 ≤ (x57_3 : Int) := of_decide_eq_true (by first | (with_reducible assumption) | assumption)
                  have q105 : x57_3 < (((qab l0 x17_1).f3).length : Int) := of_decide_eq_true (by first | (with_reducible assumption) | assumption)
                  obtain ⟨ad105, e105, hx105_0, hx105_1, hx105_2⟩ := qbx HR101_3.out x57_3 p105 q105
                  cases e105
                  replace hx105_0 := (HB.out.cell (World.block_lt_of_cell? w _ hx105_0)).trans hx105_0
                  replace hx105_1 := (HB.out.cell (World.block_lt_of_cell? w _ hx105_1)).trans hx105_1
                  replace hx105_2 := (HB.out.cell (World.block_lt_of_cell? w _ hx105_2)).trans hx105_2
                  replace p105 := eq_true p105
                  replace q105 := eq_true q105
                  go_wp2_with (first | ((with_reducible refine qau (N := 9) rfl ?_); (try (refine qbf (by rfl) ?_; dsimp only)); refine qat ?hg (N := 9) ?hd (cs := #[.bool false, .int .i64 0, .int .i64 0]) (t := 51) ?hr ?_; (case hd => rfl); (case hg => rfl); (case hr => first | (go_simp; done) | (go_simp; rfl)); intro gb106 hg w37 hbox hb; have n0_ := Aside0.mk (qa1 (g := gb102) (o := .cells #[.int .i64 ((qab l0 x17_1).f0), .int .i64 ((qab l0 x17_1).f1), .int .i64 ((qab l0 x17_1).f2), .slice (some ad105) ((qab l0 x17_1).f3).length c101_3] 55 (0, 0)) (by (with_reducible repeat (first | refine qaf ?_ _ | refine qai ?_ | refine qag ?_ _)); exact BK102.out) hb); have n1_ := Aside0.mk (qa1 (g := gb104) (o := .cells #[.int .i64 ((qab l1 x17_1).f0), .int .i64 ((qab l1 x17_1).f1), .int .i64 ((qab l1 x17_1).f2), .slice A103_3 ((qab l1 x17_1).f3).length c103_3] 55 (0, 0)) (by (with_reducible repeat (first | refine qaf ?_ _ | refine qai ?_ | refine qag ?_ _)); exact BK104.out) hb); have n2_ := Aside0.mk (qam (by repeat (first | (with_reducible first | exact HB.out | apply qac | apply qaa | apply qad | refine qak ?_ GE102.out | refine qak ?_ GE104.out) | exact HB.out)) hb); have n3_ := Aside0.mk (hbox); have n4_ := Aside0.mk ((by rw [hg]; exact (qal (by repeat (first | (with_reducible first | exact HB.out | apply qac | apply qaa | apply qad | refine qak ?_ GE102.out | refine qak ?_ GE104.out) | exact HB.out))) : w.heap.size ≤ gb106)); have n5_ := Aside0.mk ((by rw [hg]; exact (qal (by repeat (first | (with_reducible first | exact HB.out | apply qac | apply qaa | apply qad | refine qak ?_ GE102.out | refine qak ?_ GE104.out) | exact HB.out))) : w.heap.size ≤ gb106)); have n6_ := Aside0.mk ((by rw [hg]; exact Nat.ne_of_lt (qa9 (g := gb102) (o := .cells #[.int .i64 ((qab l0 x17_1).f0), .int .i64 ((qab l0 x17_1).f1), .int .i64 ((qab l0 x17_1).f2), .slice (some ad105) ((qab l0 x17_1).f3).length c101_3] 55 (0, 0)) (by (with_reducible repeat (first | refine qaf ?_ _ | refine qai ?_ | refine qag ?_ _)); exact BK102.out)) : gb102 ≠ gb106)); have n7_ := Aside0.mk ((by rw [hg]; exact Nat.ne_of_gt (qa9 (g := gb102) (o := .cells #[.int .i64 ((qab l0 x17_1).f0), .int .i64 ((qab l0 x17_1).f1), .int .i64 ((qab l0 x17_1).f2), .slice (some ad105) ((qab l0 x17_1).f3).length c101_3] 55 (0, 0)) (by (with_reducible repeat (first | refine qaf ?_ _ | refine qai ?_ | refine qag ?_ _)); exact BK102.out)) : gb106 ≠ gb102)); have n8_ := Aside0.mk ((by rw [hg]; exact Nat.ne_of_lt (qa9 (g := gb104) (o := .cells #[.int .i64 ((qab l1 x17_1).f0), .int .i64 ((qab l1 x17_1).f1), .int .i64 ((qab l1 x17_1).f2), .slice A103_3 ((qab l1 x17_1).f3).length c103_3] 55 (0, 0)) (by (with_reducible repeat (first | refine qaf ?_ _ | refine qai ?_ | refine qag ?_ _)); exact BK104.out)) : gb104 ≠ gb106)); have n9_ := Aside0.mk ((by rw [hg]; exact Nat.ne_of_gt (qa9 (g := gb104) (o := .cells #[.int .i64 ((qab l1 x17_1).f0), .int .i64 ((qab l1 x17_1).f1), .int .i64 ((qab l1 x17_1).f2), .slice A103_3 ((qab l1 x17_1).f3).length c103_3] 55 (0, 0)) (by (with_reducible repeat (first | refine qaf ?_ _ | refine qai ?_ | refine qag ?_ _)); exact BK104.out)) : gb106 ≠ gb104)); clear BK102; clear BK104; clear HB; have BK102 := n0_; have BK104 := n1_; have HB := n2_; have BK106 := n3_; have GW106 := n4_; have GE106 := n5_; have NB102_106 := n6_; have NB106_102 := n7_; have NB104_106 := n8_; have NB106_104 := n9_; clear n0_ n1_ n2_ n3_ n4_ n5_ n6_ n7_ n8_ n9_; clear hb hbox hg; have hnb38 := NB106_102.out; have hnc38 := NB102_106.out; have hnb39 := NB106_104.out; have hnc39 := NB104_106.out; have hcz40_0 : w37.cell? ⟨gb106, 0, none⟩ = some (.bool false) := (qah BK106.out 0).trans rfl; have hcz40_1 : w37.cell? ⟨gb106, 1, none⟩ = some (.int .i64 0) := (qah BK106.out 1).trans rfl; have hcz40_2 : w37.cell? ⟨gb106, 2, none⟩ = some (.int .i64 0) := (qah BK106.out 2).trans rfl; have hfz40_0 := qae BK106.out 0; have hfz40_1 := qae BK106.out 1; have hfz40_2 := qae BK106.out 2; have hnb41 := NB104_102.out; have hnc41 := NB102_104.out; have hcz42_0 : w37.cell? ⟨gb104, 0, none⟩ = some (.int .i64 ((qab l1 x17_1).f0)) := (qah BK104.out 0).trans rfl; have hcz42_1 : w37.cell? ⟨gb104, 1, none⟩ = some (.int .i64 ((qab l1 x17_1).f1)) := (qah BK104.out 1).trans rfl; have hcz42_2 : w37.cell? ⟨gb104, 2, none⟩ = some (.int .i64 ((qab l1 x17_1).f2)) := (qah BK104.out 2).trans rfl; have hcz42_3 : w37.cell? ⟨gb104, 3, none⟩ = some (.slice A103_3 ((qab l1 x17_1).f3).length c103_3) := (qah BK104.out 3).trans rfl; have hfz42_0 := qae BK104.out 0; have hfz42_1 := qae BK104.out 1; have hfz42_2 := qae BK104.out 2; have hfz42_3 := qae BK104.out 3; have p107 : 0 ≤ (x57_3 : Int) := of_decide_eq_true (by first | (with_reducible assumption) | assumption); have q107 : x57_3 < (((qab l1 x17_1).f3).length : Int) := of_decide_eq_true (by first | (with_reducible assumption) | assumption); obtain ⟨ad107, e107, hx107_0, hx107_1, hx107_2⟩ := qbx HR103_3.out x57_3 p107 q107; cases e107; have hn107_0 : ad107.block ≠ gb106 := Nat.ne_of_lt (Nat.lt_of_lt_of_le (by have := World.block_lt_of_cell? _ _ hx107_0; first | rwa [add_block] at this | exact this) GW106.out); have hn107_1 : ad107.block ≠ gb106 := Nat.ne_of_lt (Nat.lt_of_lt_of_le (by have := World.block_lt_of_cell? _ _ hx107_0; first | rwa [add_block] at this | exact this) GW106.out); have hn107_2 : ad107.block ≠ gb106 := Nat.ne_of_lt (Nat.lt_of_lt_of_le (by have := World.block_lt_of_cell? _ _ hx107_0; first | rwa [add_block] at this | exact this) GW106.out); replace hx107_0 := (HB.out.cell (World.block_lt_of_cell? w _ hx107_0)).trans hx107_0; replace hx107_1 := (HB.out.cell (World.block_lt_of_cell? w _ hx107_1)).trans hx107_1; replace hx107_2 := (HB.out.cell (World.block_lt_of_cell? w _ hx107_2)).trans hx107_2; replace hx107_0 := (cell_far (p := ⟨gb106, 0, none⟩) (by first | (rw [add_block]; exact hn107_0) | (show (Addr.add _ _).block ≠ _; rw [add_block]; exact hn107_0) | exact hn107_0) (.bool ((qaj ((qab l0 x17_1).f3) x57_3).f0))).trans hx107_0; replace hx107_1 := (cell_far (p := ⟨gb106, 0, none⟩) (by first | (rw [add_block]; exact hn107_0) | (show (Addr.add _ _).block ≠ _; rw [add_block]; exact hn107_0) | exact hn107_0) (.bool ((qaj ((qab l0 x17_1).f3) x57_3).f0))).trans hx107_1; replace hx107_2 := (cell_far (p := ⟨gb106, 0, none⟩) (by first | (rw [add_block]; exact hn107_0) | (show (Addr.add _ _).block ≠ _; rw [add_block]; exact hn107_0) | exact hn107_0) (.bool ((qaj ((qab l0 x17_1).f3) x57_3).f0))).trans hx107_2; replace hx107_0 := (cell_far (p := ⟨gb106, 1, none⟩) (by first | (rw [add_block]; exact hn107_1) | (show (Addr.add _ _).block ≠ _; rw [add_block]; exact hn107_1) | exact hn107_1) (.int .i64 ((qaj ((qab l0 x17_1).f3) x57_3).f1))).trans hx107_0; replace hx107_1 := (cell_far (p := ⟨gb106, 1, none⟩) (by first | (rw [add_block]; exact hn107_1) | (show (Addr.add _ _).block ≠ _; rw [add_block]; exact hn107_1) | exact hn107_1) (.int .i64 ((qaj ((qab l0 x17_1).f3) x57_3).f1))).trans hx107_1; replace hx107_2 := (cell_far (p := ⟨gb106, 1, none⟩) (by first | (rw [add_block]; exact hn107_1) | (show (Addr.add _ _).block ≠ _; rw [add_block]; exact hn107_1) | exact hn107_1) (.int .i64 ((qaj ((qab l0 x17_1).f3) x57_3).f1))).trans hx107_2; replace hx107_0 := (cell_far (p := ⟨gb106, 2, none⟩) (by first | (rw [add_block]; exact hn107_2) | (show (Addr.add _ _).block ≠ _; rw [add_block]; exact hn107_2) | exact hn107_2) (.int .i64 ((qaj ((qab l0 x17_1).f3) x57_3).f2))).trans hx107_0; replace hx107_1 := (cell_far (p := ⟨gb106, 2, none⟩) (by first | (rw [add_block]; exact hn107_2) | (show (Addr.add _ _).block ≠ _; rw [add_block]; exact hn107_2) | exact hn107_2) (.int .i64 ((qaj ((qab l0 x17_1).f3) x57_3).f2))).trans hx107_1; replace hx107_2 := (cell_far (p := ⟨gb106, 2, none⟩) (by first | (rw [add_block]; exact hn107_2) | (show (Addr.add _ _).block ≠ _; rw [add_block]; exact hn107_2) | exact hn107_2) (.int .i64 ((qaj ((qab l0 x17_1).f3) x57_3).f2))).trans hx107_2; (try have hy107_0 := fun (n_ : Nat) => (show (((((w37.drewN n_).setCell ⟨gb106, 0, none⟩ (.bool ((qaj ((qab l0 x17_1).f3) x57_3).f0))).setCell ⟨gb106, 1, none⟩ (.int .i64 ((qaj ((qab l0 x17_1).f3) x57_3).f1))).setCell ⟨gb106, 2, none⟩ (.int .i64 ((qaj ((qab l0 x17_1).f3) x57_3).f2)))).cell? _ = some _ from hx107_0)); (try have hy107_1 := fun (n_ : Nat) => (show (((((w37.drewN n_).setCell ⟨gb106, 0, none⟩ (.bool ((qaj ((qab l0 x17_1).f3) x57_3).f0))).setCell ⟨gb106, 1, none⟩ (.int .i64 ((qaj ((qab l0 x17_1).f3) x57_3).f1))).setCell ⟨gb106, 2, none⟩ (.int .i64 ((qaj ((qab l0 x17_1).f3) x57_3).f2)))).cell? _ = some _ from hx107_1)); (try have hy107_2 := fun (n_ : Nat) => (show (((((w37.drewN n_).setCell ⟨gb106, 0, none⟩ (.bool ((qaj ((qab l0 x17_1).f3) x57_3).f0))).setCell ⟨gb106, 1, none⟩ (.int .i64 ((qaj ((qab l0 x17_1).f3) x57_3).f1))).setCell ⟨gb106, 2, none⟩ (.int .i64 ((qaj ((qab l0 x17_1).f3) x57_3).f2)))).cell? _ = some _ from hx107_2)); clear hn107_0; clear hn107_1; clear hn107_2; replace p107 := eq_true p107; replace q107 := eq_true q107))
                  repeat (go_quiet (first | ((with_reducible refine qau (N := 9) rfl ?_); (try (refine qbf (by rfl) ?_; dsimp only)); refine qat ?hg (N := 9) ?hd (cs := #[.bool false, .int .i64 0, .int .i64 0]) (t := 51) ?hr ?_; (case hd => rfl); (case hg => rfl); (case hr => first | (go_simp; done) | (go_simp; rfl)); intro gb106 hg w37 hbox hb; have n0_ := Aside0.mk (qa1 (g := gb102) (o := .cells #[.int .i64 ((qab l0 x17_1).f0), .int .i64 ((qab l0 x17_1).f1), .int .i64 ((qab l0 x17_1).f2), .slice (some ad105) ((qab l0 x17_1).f3).length c101_3] 55 (0, 0)) (by (with_reducible repeat (first | refine qaf ?_ _ | refine qai ?_ | refine qag ?_ _)); exact BK102.out) hb); have n1_ := Aside0.mk (qa1 (g := gb104) (o := .cells #[.int .i64 ((qab l1 x17_1).f0), .int .i64 ((qab l1 x17_1).f1), .int .i64 ((qab l1 x17_1).f2), .slice A103_3 ((qab l1 x17_1).f3).length c103_3] 55 (0, 0)) (by (with_reducible repeat (first | refine qaf ?_ _ | refine qai ?_ | refine qag ?_ _)); exact BK104.out) hb); have n2_ := Aside0.mk (qam (by repeat (first | (with_reducible first | exact HB.out | apply qac | apply qaa | apply qad | refine qak ?_ GE102.out | refine qak ?_ GE104.out) | exact HB.out)) hb); have n3_ := Aside0.mk (hbox); have n4_ := Aside0.mk ((by rw [hg]; exact (qal (by repeat (first | (with_reducible first | exact HB.out | apply qac | apply qaa | apply qad | refine qak ?_ GE102.out | refine qak ?_ GE104.out) | exact HB.out))) : w.heap.size ≤ gb106)); have n5_ := Aside0.mk ((by rw [hg]; exact (qal (by repeat (first | (with_reducible first | exact HB.out | apply qac | apply qaa | apply qad | refine qak ?_ GE102.out | refine qak ?_ GE104.out) | exact HB.out))) : w.heap.size ≤ gb106)); have n6_ := Aside0.mk ((by rw [hg]; exact Nat.ne_of_lt (qa9 (g := gb102) (o := .cells #[.int .i64 ((qab l0 x17_1).f0), .int .i64 ((qab l0 x17_1).f1), .int .i64 ((qab l0 x17_1).f2), .slice (some ad105) ((qab l0 x17_1).f3).length c101_3] 55 (0, 0)) (by (with_reducible repeat (first | refine qaf ?_ _ | refine qai ?_ | refine qag ?_ _)); exact BK102.out)) : gb102 ≠ gb106)); have n7_ := Aside0.mk ((by rw [hg]; exact Nat.ne_of_gt (qa9 (g := gb102) (o := .cells #[.int .i64 ((qab l0 x17_1).f0), .int .i64 ((qab l0 x17_1).f1), .int .i64 ((qab l0 x17_1).f2), .slice (some ad105) ((qab l0 x17_1).f3).length c101_3] 55 (0, 0)) (by (with_reducible repeat (first | refine qaf ?_ _ | refine qai ?_ | refine qag ?_ _)); exact BK102.out)) : gb106 ≠ gb102)); have n8_ := Aside0.mk ((by rw [hg]; exact Nat.ne_of_lt (qa9 (g := gb104) (o := .cells #[.int .i64 ((qab l1 x17_1).f0), .int .i64 ((qab l1 x17_1).f1), .int .i64 ((qab l1 x17_1).f2), .slice A103_3 ((qab l1 x17_1).f3).length c103_3] 55 (0, 0)) (by (with_reducible repeat (first | refine qaf ?_ _ | refine qai ?_ | refine qag ?_ _)); exact BK104.out)) : gb104 ≠ gb106)); have n9_ := Aside0.mk ((by rw [hg]; exact Nat.ne_of_gt (qa9 (g := gb104) (o := .cells #[.int .i64 ((qab l1 x17_1).f0), .int .i64 ((qab l1 x17_1).f1), .int .i64 ((qab l1 x17_1).f2), .slice A103_3 ((qab l1 x17_1).f3).length c103_3] 55 (0, 0)) (by (with_reducible repeat (first | refine qaf ?_ _ | refine qai ?_ | refine qag ?_ _)); exact BK104.out)) : gb106 ≠ gb104)); clear BK102; clear BK104; clear HB; have BK102 := n0_; have BK104 := n1_; have HB := n2_; have BK106 := n3_; have GW106 := n4_; have GE106 := n5_; have NB102_106 := n6_; have NB106_102 := n7_; have NB104_106 := n8_; have NB106_104 := n9_; clear n0_ n1_ n2_ n3_ n4_ n5_ n6_ n7_ n8_ n9_; clear hb hbox hg; have hnb38 := NB106_102.out; have hnc38 := NB102_106.out; have hnb39 := NB106_104.out; have hnc39 := NB104_106.out; have hcz40_0 : w37.cell? ⟨gb106, 0, none⟩ = some (.bool false) := (qah BK106.out 0).trans rfl; have hcz40_1 : w37.cell? ⟨gb106, 1, none⟩ = some (.int .i64 0) := (qah BK106.out 1).trans rfl; have hcz40_2 : w37.cell? ⟨gb106, 2, none⟩ = some (.int .i64 0) := (qah BK106.out 2).trans rfl; have hfz40_0 := qae BK106.out 0; have hfz40_1 := qae BK106.out 1; have hfz40_2 := qae BK106.out 2; have hnb41 := NB104_102.out; have hnc41 := NB102_104.out; have hcz42_0 : w37.cell? ⟨gb104, 0, none⟩ = some (.int .i64 ((qab l1 x17_1).f0)) := (qah BK104.out 0).trans rfl; have hcz42_1 : w37.cell? ⟨gb104, 1, none⟩ = some (.int .i64 ((qab l1 x17_1).f1)) := (qah BK104.out 1).trans rfl; have hcz42_2 : w37.cell? ⟨gb104, 2, none⟩ = some (.int .i64 ((qab l1 x17_1).f2)) := (qah BK104.out 2).trans rfl; have hcz42_3 : w37.cell? ⟨gb104, 3, none⟩ = some (.slice A103_3 ((qab l1 x17_1).f3).length c103_3) := (qah BK104.out 3).trans rfl; have hfz42_0 := qae BK104.out 0; have hfz42_1 := qae BK104.out 1; have hfz42_2 := qae BK104.out 2; have hfz42_3 := qae BK104.out 3; have p107 : 0 ≤ (x57_3 : Int) := of_decide_eq_true (by first | (with_reducible assumption) | assumption); have q107 : x57_3 < (((qab l1 x17_1).f3).length : Int) := of_decide_eq_true (by first | (with_reducible assumption) | assumption); obtain ⟨ad107, e107, hx107_0, hx107_1, hx107_2⟩ := qbx HR103_3.out x57_3 p107 q107; cases e107; have hn107_0 : ad107.block ≠ gb106 := Nat.ne_of_lt (Nat.lt_of_lt_of_le (by have := World.block_lt_of_cell? _ _ hx107_0; first | rwa [add_block] at this | exact this) GW106.out); have hn107_1 : ad107.block ≠ gb106 := Nat.ne_of_lt (Nat.lt_of_lt_of_le (by have := World.block_lt_of_cell? _ _ hx107_0; first | rwa [add_block] at this | exact this) GW106.out); have hn107_2 : ad107.block ≠ gb106 := Nat.ne_of_lt (Nat.lt_of_lt_of_le (by have := World.block_lt_of_cell? _ _ hx107_0; first | rwa [add_block] at this | exact this) GW106.out); replace hx107_0 := (HB.out.cell (World.block_lt_of_cell? w _ hx107_0)).trans hx107_0; replace hx107_1 := (HB.out.cell (World.block_lt_of_cell? w _ hx107_1)).trans hx107_1; replace hx107_2 := (HB.out.cell (World.block_lt_of_cell? w _ hx107_2)).trans hx107_2; replace hx107_0 := (cell_far (p := ⟨gb106, 0, none⟩) (by first | (rw [add_block]; exact hn107_0) | (show (Addr.add _ _).block ≠ _; rw [add_block]; exact hn107_0) | exact hn107_0) (.bool ((qaj ((qab l0 x17_1).f3) x57_3).f0))).trans hx107_0; replace hx107_1 := (cell_far (p := ⟨gb106, 0, none⟩) (by first | (rw [add_block]; exact hn107_0) | (show (Addr.add _ _).block ≠ _; rw [add_block]; exact hn107_0) | exact hn107_0) (.bool ((qaj ((qab l0 x17_1).f3) x57_3).f0))).trans hx107_1; replace hx107_2 := (cell_far (p := ⟨gb106, 0, none⟩) (by first | (rw [add_block]; exact hn107_0) | (show (Addr.add _ _).block ≠ _; rw [add_block]; exact hn107_0) | exact hn107_0) (.bool ((qaj ((qab l0 x17_1).f3) x57_3).f0))).trans hx107_2; replace hx107_0 := (cell_far (p := ⟨gb106, 1, none⟩) (by first | (rw [add_block]; exact hn107_1) | (show (Addr.add _ _).block ≠ _; rw [add_block]; exact hn107_1) | exact hn107_1) (.int .i64 ((qaj ((qab l0 x17_1).f3) x57_3).f1))).trans hx107_0; replace hx107_1 := (cell_far (p := ⟨gb106, 1, none⟩) (by first | (rw [add_block]; exact hn107_1) | (show (Addr.add _ _).block ≠ _; rw [add_block]; exact hn107_1) | exact hn107_1) (.int .i64 ((qaj ((qab l0 x17_1).f3) x57_3).f1))).trans hx107_1; replace hx107_2 := (cell_far (p := ⟨gb106, 1, none⟩) (by first | (rw [add_block]; exact hn107_1) | (show (Addr.add _ _).block ≠ _; rw [add_block]; exact hn107_1) | exact hn107_1) (.int .i64 ((qaj ((qab l0 x17_1).f3) x57_3).f1))).trans hx107_2; replace hx107_0 := (cell_far (p := ⟨gb106, 2, none⟩) (by first | (rw [add_block]; exact hn107_2) | (show (Addr.add _ _).block ≠ _; rw [add_block]; exact hn107_2) | exact hn107_2) (.int .i64 ((qaj ((qab l0 x17_1).f3) x57_3).f2))).trans hx107_0; replace hx107_1 := (cell_far (p := ⟨gb106, 2, none⟩) (by first | (rw [add_block]; exact hn107_2) | (show (Addr.add _ _).block ≠ _; rw [add_block]; exact hn107_2) | exact hn107_2) (.int .i64 ((qaj ((qab l0 x17_1).f3) x57_3).f2))).trans hx107_1; replace hx107_2 := (cell_far (p := ⟨gb106, 2, none⟩) (by first | (rw [add_block]; exact hn107_2) | (show (Addr.add _ _).block ≠ _; rw [add_block]; exact hn107_2) | exact hn107_2) (.int .i64 ((qaj ((qab l0 x17_1).f3) x57_3).f2))).trans hx107_2; (try have hy107_0 := fun (n_ : Nat) => (show (((((w37.drewN n_).setCell ⟨gb106, 0, none⟩ (.bool ((qaj ((qab l0 x17_1).f3) x57_3).f0))).setCell ⟨gb106, 1, none⟩ (.int .i64 ((qaj ((qab l0 x17_1).f3) x57_3).f1))).setCell ⟨gb106, 2, none⟩ (.int .i64 ((qaj ((qab l0 x17_1).f3) x57_3).f2)))).cell? _ = some _ from hx107_0)); (try have hy107_1 := fun (n_ : Nat) => (show (((((w37.drewN n_).setCell ⟨gb106, 0, none⟩ (.bool ((qaj ((qab l0 x17_1).f3) x57_3).f0))).setCell ⟨gb106, 1, none⟩ (.int .i64 ((qaj ((qab l0 x17_1).f3) x57_3).f1))).setCell ⟨gb106, 2, none⟩ (.int .i64 ((qaj ((qab l0 x17_1).f3) x57_3).f2)))).cell? _ = some _ from hx107_1)); (try have hy107_2 := fun (n_ : Nat) => (show (((((w37.drewN n_).setCell ⟨gb106, 0, none⟩ (.bool ((qaj ((qab l0 x17_1).f3) x57_3).f0))).setCell ⟨gb106, 1, none⟩ (.int .i64 ((qaj ((qab l0 x17_1).f3) x57_3).f1))).setCell ⟨gb106, 2, none⟩ (.int .i64 ((qaj ((qab l0 x17_1).f3) x57_3).f2)))).cell? _ = some _ from hx107_2)); clear hn107_0; clear hn107_1; clear hn107_2; replace p107 := eq_true p107; replace q107 := eq_true q107)); try go_wp2_with (first | ((with_reducible refine qau (N := 9) rfl ?_); (try (refine qbf (by rfl) ?_; dsimp only)); refine qat ?hg (N := 9) ?hd (cs := #[.bool false, .int .i64 0, .int .i64 0]) (t := 51) ?hr ?_; (case hd => rfl); (case hg => rfl); (case hr => first | (go_simp; done) | (go_simp; rfl)); intro gb106 hg w37 hbox hb; have n0_ := Aside0.mk (qa1 (g := gb102) (o := .cells #[.int .i64 ((qab l0 x17_1).f0), .int .i64 ((qab l0 x17_1).f1), .int .i64 ((qab l0 x17_1).f2), .slice (some ad105) ((qab l0 x17_1).f3).length c101_3] 55 (0, 0)) (by (with_reducible repeat (first | refine qaf ?_ _ | refine qai ?_ | refine qag ?_ _)); exact BK102.out) hb); have n1_ := Aside0.mk (qa1 (g := gb104) (o := .cells #[.int .i64 ((qab l1 x17_1).f0), .int .i64 ((qab l1 x17_1).f1), .int .i64 ((qab l1 x17_1).f2), .slice A103_3 ((qab l1 x17_1).f3).length c103_3] 55 (0, 0)) (by (with_reducible repeat (first | refine qaf ?_ _ | refine qai ?_ | refine qag ?_ _)); exact BK104.out) hb); have n2_ := Aside0.mk (qam (by repeat (first | (with_reducible first | exact HB.out | apply qac | apply qaa | apply qad | refine qak ?_ GE102.out | refine qak ?_ GE104.out) | exact HB.out)) hb); have n3_ := Aside0.mk (hbox); have n4_ := Aside0.mk ((by rw [hg]; exact (qal (by repeat (first | (with_reducible first | exact HB.out | apply qac | apply qaa | apply qad | refine qak ?_ GE102.out | refine qak ?_ GE104.out) | exact HB.out))) : w.heap.size ≤ gb106)); have n5_ := Aside0.mk ((by rw [hg]; exact (qal (by repeat (first | (with_reducible first | exact HB.out | apply qac | apply qaa | apply qad | refine qak ?_ GE102.out | refine qak ?_ GE104.out) | exact HB.out))) : w.heap.size ≤ gb106)); have n6_ := Aside0.mk ((by rw [hg]; exact Nat.ne_of_lt (qa9 (g := gb102) (o := .cells #[.int .i64 ((qab l0 x17_1).f0), .int .i64 ((qab l0 x17_1).f1), .int .i64 ((qab l0 x17_1).f2), .slice (some ad105) ((qab l0 x17_1).f3).length c101_3] 55 (0, 0)) (by (with_reducible repeat (first | refine qaf ?_ _ | refine qai ?_ | refine qag ?_ _)); exact BK102.out)) : gb102 ≠ gb106)); have n7_ := Aside0.mk ((by rw [hg]; exact Nat.ne_of_gt (qa9 (g := gb102) (o := .cells #[.int .i64 ((qab l0 x17_1).f0), .int .i64 ((qab l0 x17_1).f1), .int .i64 ((qab l0 x17_1).f2), .slice (some ad105) ((qab l0 x17_1).f3).length c101_3] 55 (0, 0)) (by (with_reducible repeat (first | refine qaf ?_ _ | refine qai ?_ | refine qag ?_ _)); exact BK102.out)) : gb106 ≠ gb102)); have n8_ := Aside0.mk ((by rw [hg]; exact Nat.ne_of_lt (qa9 (g := gb104) (o := .cells #[.int .i64 ((qab l1 x17_1).f0), .int .i64 ((qab l1 x17_1).f1), .int .i64 ((qab l1 x17_1).f2), .slice A103_3 ((qab l1 x17_1).f3).length c103_3] 55 (0, 0)) (by (with_reducible repeat (first | refine qaf ?_ _ | refine qai ?_ | refine qag ?_ _)); exact BK104.out)) : gb104 ≠ gb106)); have n9_ := Aside0.mk ((by rw [hg]; exact Nat.ne_of_gt (qa9 (g := gb104) (o := .cells #[.int .i64 ((qab l1 x17_1).f0), .int .i64 ((qab l1 x17_1).f1), .int .i64 ((qab l1 x17_1).f2), .slice A103_3 ((qab l1 x17_1).f3).length c103_3] 55 (0, 0)) (by (with_reducible repeat (first | refine qaf ?_ _ | refine qai ?_ | refine qag ?_ _)); exact BK104.out)) : gb106 ≠ gb104)); clear BK102; clear BK104; clear HB; have BK102 := n0_; have BK104 := n1_; have HB := n2_; have BK106 := n3_; have GW106 := n4_; have GE106 := n5_; have NB102_106 := n6_; have NB106_102 := n7_; have NB104_106 := n8_; have NB106_104 := n9_; clear n0_ n1_ n2_ n3_ n4_ n5_ n6_ n7_ n8_ n9_; clear hb hbox hg; have hnb38 := NB106_102.out; have hnc38 := NB102_106.out; have hnb39 := NB106_104.out; have hnc39 := NB104_106.out; have hcz40_0 : w37.cell? ⟨gb106, 0, none⟩ = some (.bool false) := (qah BK106.out 0).trans rfl; have hcz40_1 : w37.cell? ⟨gb106, 1, none⟩ = some (.int .i64 0) := (qah BK106.out 1).trans rfl; have hcz40_2 : w37.cell? ⟨gb106, 2, none⟩ = some (.int .i64 0) := (qah BK106.out 2).trans rfl; have hfz40_0 := qae BK106.out 0; have hfz40_1 := qae BK106.out 1; have hfz40_2 := qae BK106.out 2; have hnb41 := NB104_102.out; have hnc41 := NB102_104.out; have hcz42_0 : w37.cell? ⟨gb104, 0, none⟩ = some (.int .i64 ((qab l1 x17_1).f0)) := (qah BK104.out 0).trans rfl; have hcz42_1 : w37.cell? ⟨gb104, 1, none⟩ = some (.int .i64 ((qab l1 x17_1).f1)) := (qah BK104.out 1).trans rfl; have hcz42_2 : w37.cell? ⟨gb104, 2, none⟩ = some (.int .i64 ((qab l1 x17_1).f2)) := (qah BK104.out 2).trans rfl; have hcz42_3 : w37.cell? ⟨gb104, 3, none⟩ = some (.slice A103_3 ((qab l1 x17_1).f3).length c103_3) := (qah BK104.out 3).trans rfl; have hfz42_0 := qae BK104.out 0; have hfz42_1 := qae BK104.out 1; have hfz42_2 := qae BK104.out 2; have hfz42_3 := qae BK104.out 3; have p107 : 0 ≤ (x57_3 : Int) := of_decide_eq_true (by first | (with_reducible assumption) | assumption); have q107 : x57_3 < (((qab l1 x17_1).f3).length : Int) := of_decide_eq_true (by first | (with_reducible assumption) | assumption); obtain ⟨ad107, e107, hx107_0, hx107_1, hx107_2⟩ := qbx HR103_3.out x57_3 p107 q107; cases e107; have hn107_0 : ad107.block ≠ gb106 := Nat.ne_of_lt (Nat.lt_of_lt_of_le (by have := World.block_lt_of_cell? _ _ hx107_0; first | rwa [add_block] at this | exact this) GW106.out); have hn107_1 : ad107.block ≠ gb106 := Nat.ne_of_lt (Nat.lt_of_lt_of_le (by have := World.block_lt_of_cell? _ _ hx107_0; first | rwa [add_block] at this | exact this) GW106.out); have hn107_2 : ad107.block ≠ gb106 := Nat.ne_of_lt (Nat.lt_of_lt_of_le (by have := World.block_lt_of_cell? _ _ hx107_0; first | rwa [add_block] at this | exact this) GW106.out); replace hx107_0 := (HB.out.cell (World.block_lt_of_cell? w _ hx107_0)).trans hx107_0; replace hx107_1 := (HB.out.cell (World.block_lt_of_cell? w _ hx107_1)).trans hx107_1; replace hx107_2 := (HB.out.cell (World.block_lt_of_cell? w _ hx107_2)).trans hx107_2; replace hx107_0 := (cell_far (p := ⟨gb106, 0, none⟩) (by first | (rw [add_block]; exact hn107_0) | (show (Addr.add _ _).block ≠ _; rw [add_block]; exact hn107_0) | exact hn107_0) (.bool ((qaj ((qab l0 x17_1).f3) x57_3).f0))).trans hx107_0; replace hx107_1 := (cell_far (p := ⟨gb106, 0, none⟩) (by first | (rw [add_block]; exact hn107_0) | (show (Addr.add _ _).block ≠ _; rw [add_block]; exact hn107_0) | exact hn107_0) (.bool ((qaj ((qab l0 x17_1).f3) x57_3).f0))).trans hx107_1; replace hx107_2 := (cell_far (p := ⟨gb106, 0, none⟩) (by first | (rw [add_block]; exact hn107_0) | (show (Addr.add _ _).block ≠ _; rw [add_block]; exact hn107_0) | exact hn107_0) (.bool ((qaj ((qab l0 x17_1).f3) x57_3).f0))).trans hx107_2; replace hx107_0 := (cell_far (p := ⟨gb106, 1, none⟩) (by first | (rw [add_block]; exact hn107_1) | (show (Addr.add _ _).block ≠ _; rw [add_block]; exact hn107_1) | exact hn107_1) (.int .i64 ((qaj ((qab l0 x17_1).f3) x57_3).f1))).trans hx107_0; replace hx107_1 := (cell_far (p := ⟨gb106, 1, none⟩) (by first | (rw [add_block]; exact hn107_1) | (show (Addr.add _ _).block ≠ _; rw [add_block]; exact hn107_1) | exact hn107_1) (.int .i64 ((qaj ((qab l0 x17_1).f3) x57_3).f1))).trans hx107_1; replace hx107_2 := (cell_far (p := ⟨gb106, 1, none⟩) (by first | (rw [add_block]; exact hn107_1) | (show (Addr.add _ _).block ≠ _; rw [add_block]; exact hn107_1) | exact hn107_1) (.int .i64 ((qaj ((qab l0 x17_1).f3) x57_3).f1))).trans hx107_2; replace hx107_0 := (cell_far (p := ⟨gb106, 2, none⟩) (by first | (rw [add_block]; exact hn107_2) | (show (Addr.add _ _).block ≠ _; rw [add_block]; exact hn107_2) | exact hn107_2) (.int .i64 ((qaj ((qab l0 x17_1).f3) x57_3).f2))).trans hx107_0; replace hx107_1 := (cell_far (p := ⟨gb106, 2, none⟩) (by first | (rw [add_block]; exact hn107_2) | (show (Addr.add _ _).block ≠ _; rw [add_block]; exact hn107_2) | exact hn107_2) (.int .i64 ((qaj ((qab l0 x17_1).f3) x57_3).f2))).trans hx107_1; replace hx107_2 := (cell_far (p := ⟨gb106, 2, none⟩) (by first | (rw [add_block]; exact hn107_2) | (show (Addr.add _ _).block ≠ _; rw [add_block]; exact hn107_2) | exact hn107_2) (.int .i64 ((qaj ((qab l0 x17_1).f3) x57_3).f2))).trans hx107_2; (try have hy107_0 := fun (n_ : Nat) => (show (((((w37.drewN n_).setCell ⟨gb106, 0, none⟩ (.bool ((qaj ((qab l0 x17_1).f3) x57_3).f0))).setCell ⟨gb106, 1, none⟩ (.int .i64 ((qaj ((qab l0 x17_1).f3) x57_3).f1))).setCell ⟨gb106, 2, none⟩ (.int .i64 ((qaj ((qab l0 x17_1).f3) x57_3).f2)))).cell? _ = some _ from hx107_0)); (try have hy107_1 := fun (n_ : Nat) => (show (((((w37.drewN n_).setCell ⟨gb106, 0, none⟩ (.bool ((qaj ((qab l0 x17_1).f3) x57_3).f0))).setCell ⟨gb106, 1, none⟩ (.int .i64 ((qaj ((qab l0 x17_1).f3) x57_3).f1))).setCell ⟨gb106, 2, none⟩ (.int .i64 ((qaj ((qab l0 x17_1).f3) x57_3).f2)))).cell? _ = some _ from hx107_1)); (try have hy107_2 := fun (n_ : Nat) => (show (((((w37.drewN n_).setCell ⟨gb106, 0, none⟩ (.bool ((qaj ((qab l0 x17_1).f3) x57_3).f0))).setCell ⟨gb106, 1, none⟩ (.int .i64 ((qaj ((qab l0 x17_1).f3) x57_3).f1))).setCell ⟨gb106, 2, none⟩ (.int .i64 ((qaj ((qab l0 x17_1).f3) x57_3).f2)))).cell? _ = some _ from hx107_2)); clear hn107_0; clear hn107_1; clear hn107_2; replace p107 := eq_true p107; replace q107 := eq_true q107)))
                  go_ret
                  exact ⟨by first | rfl | (simp [qao, qan] <;> rfl) | (simp [*, qao, qan] <;> rfl), by repeat (first | (with_reducible first | exact HB.out | apply qac | apply qaa | apply qad | refine qak ?_ GE102.out | refine qak ?_ GE104.out | refine qak ?_ GE106.out) | exact HB.out)⟩
                 ·rw [if_neg c36] at H
                  have c36b0 : (!(((qaj ((qab l1 x17_1).f3) x57_3).f0) == ((qaj ((qab l0 x17_1).f3) x57_3).f0)) || (!(((qaj ((qab l1 x17_1).f3) x57_3).f1) == ((qaj ((qab l0 x17_1).f3) x57_3).f1)) || (!(((qaj ((qab l1 x17_1).f3) x57_3).f2) == ((qaj ((qab l0 x17_1).f3) x57_3).f2))))) = false := by simpa using c36
                  clear c36
                  have H' := Aside0.mk H
                  clear H
                  have p105 : 0 ≤ (x57_3 : Int) := of_decide_eq_true (by first | (with_reducible assumption) | assumption)
                  have q105 : x57_3 < (((qab l0 x17_1).f3).length : Int) := of_decide_eq_true (by first | (with_reducible assumption) | assumption)
                  obtain ⟨ad105, e105, hx105_0, hx105_1, hx105_2⟩ := qbx HR101_3.out x57_3 p105 q105
                  cases e105
                  replace hx105_0 := (HB.out.cell (World.block_lt_of_cell? w _ hx105_0)).trans hx105_0
                  replace hx105_1 := (HB.out.cell (World.block_lt_of_cell? w _ hx105_1)).trans hx105_1
                  replace hx105_2 := (HB.out.cell (World.block_lt_of_cell? w _ hx105_2)).trans hx105_2
                  replace p105 := eq_true p105
                  replace q105 := eq_true q105
                  go_wp2_with (first | ((with_reducible refine qau (N := 9) rfl ?_); (try (refine qbf (by rfl) ?_; dsimp only)); refine qat ?hg (N := 9) ?hd (cs := #[.bool false, .int .i64 0, .int .i64 0]) (t := 51) ?hr ?_; (case hd => rfl); (case hg => rfl); (case hr => first | (go_simp; done) | (go_simp; rfl)); intro gb106 hg w43 hbox hb; have n0_ := Aside0.mk (qa1 (g := gb102) (o := .cells #[.int .i64 ((qab l0 x17_1).f0), .int .i64 ((qab l0 x17_1).f1), .int .i64 ((qab l0 x17_1).f2), .slice (some ad105) ((qab l0 x17_1).f3).length c101_3] 55 (0, 0)) (by (with_reducible repeat (first | refine qaf ?_ _ | refine qai ?_ | refine qag ?_ _)); exact BK102.out) hb); have n1_ := Aside0.mk (qa1 (g := gb104) (o := .cells #[.int .i64 ((qab l1 x17_1).f0), .int .i64 ((qab l1 x17_1).f1), .int .i64 ((qab l1 x17_1).f2), .slice A103_3 ((qab l1 x17_1).f3).length c103_3] 55 (0, 0)) (by (with_reducible repeat (first | refine qaf ?_ _ | refine qai ?_ | refine qag ?_ _)); exact BK104.out) hb); have n2_ := Aside0.mk (qam (by repeat (first | (with_reducible first | exact HB.out | apply qac | apply qaa | apply qad | refine qak ?_ GE102.out | refine qak ?_ GE104.out) | exact HB.out)) hb); have n3_ := Aside0.mk (hbox); have n4_ := Aside0.mk ((by rw [hg]; exact (qal (by repeat (first | (with_reducible first | exact HB.out | apply qac | apply qaa | apply qad | refine qak ?_ GE102.out | refine qak ?_ GE104.out) | exact HB.out))) : w.heap.size ≤ gb106)); have n5_ := Aside0.mk ((by rw [hg]; exact (qal (by repeat (first | (with_reducible first | exact HB.out | apply qac | apply qaa | apply qad | refine qak ?_ GE102.out | refine qak ?_ GE104.out) | exact HB.out))) : w.heap.size ≤ gb106)); have n6_ := Aside0.mk ((by rw [hg]; exact Nat.ne_of_lt (qa9 (g := gb102) (o := .cells #[.int .i64 ((qab l0 x17_1).f0), .int .i64 ((qab l0 x17_1).f1), .int .i64 ((qab l0 x17_1).f2), .slice (some ad105) ((qab l0 x17_1).f3).length c101_3] 55 (0, 0)) (by (with_reducible repeat (first | refine qaf ?_ _ | refine qai ?_ | refine qag ?_ _)); exact BK102.out)) : gb102 ≠ gb106)); have n7_ := Aside0.mk ((by rw [hg]; exact Nat.ne_of_gt (qa9 (g := gb102) (o := .cells #[.int .i64 ((qab l0 x17_1).f0), .int .i64 ((qab l0 x17_1).f1), .int .i64 ((qab l0 x17_1).f2), .slice (some ad105) ((qab l0 x17_1).f3).length c101_3] 55 (0, 0)) (by (with_reducible repeat (first | refine qaf ?_ _ | refine qai ?_ | refine qag ?_ _)); exact BK102.out)) : gb106 ≠ gb102)); have n8_ := Aside0.mk ((by rw [hg]; exact Nat.ne_of_lt (qa9 (g := gb104) (o := .cells #[.int .i64 ((qab l1 x17_1).f0), .int .i64 ((qab l1 x17_1).f1), .int .i64 ((qab l1 x17_1).f2), .slice A103_3 ((qab l1 x17_1).f3).length c103_3] 55 (0, 0)) (by (with_reducible repeat (first | refine qaf ?_ _ | refine qai ?_ | refine qag ?_ _)); exact BK104.out)) : gb104 ≠ gb106)); have n9_ := Aside0.mk ((by rw [hg]; exact Nat.ne_of_gt (qa9 (g := gb104) (o := .cells #[.int .i64 ((qab l1 x17_1).f0), .int .i64 ((qab l1 x17_1).f1), .int .i64 ((qab l1 x17_1).f2), .slice A103_3 ((qab l1 x17_1).f3).length c103_3] 55 (0, 0)) (by (with_reducible repeat (first | refine qaf ?_ _ | refine qai ?_ | refine qag ?_ _)); exact BK104.out)) : gb106 ≠ gb104)); clear BK102; clear BK104; clear HB; have BK102 := n0_; have BK104 := n1_; have HB := n2_; have BK106 := n3_; have GW106 := n4_; have GE106 := n5_; have NB102_106 := n6_; have NB106_102 := n7_; have NB104_106 := n8_; have NB106_104 := n9_; clear n0_ n1_ n2_ n3_ n4_ n5_ n6_ n7_ n8_ n9_; clear hb hbox hg; have hnb44 := NB106_102.out; have hnc44 := NB102_106.out; have hnb45 := NB106_104.out; have hnc45 := NB104_106.out; have hcz46_0 : w43.cell? ⟨gb106, 0, none⟩ = some (.bool false) := (qah BK106.out 0).trans rfl; have hcz46_1 : w43.cell? ⟨gb106, 1, none⟩ = some (.int .i64 0) := (qah BK106.out 1).trans rfl; have hcz46_2 : w43.cell? ⟨gb106, 2, none⟩ = some (.int .i64 0) := (qah BK106.out 2).trans rfl; have hfz46_0 := qae BK106.out 0; have hfz46_1 := qae BK106.out 1; have hfz46_2 := qae BK106.out 2; have hnb47 := NB104_102.out; have hnc47 := NB102_104.out; have hcz48_0 : w43.cell? ⟨gb104, 0, none⟩ = some (.int .i64 ((qab l1 x17_1).f0)) := (qah BK104.out 0).trans rfl; have hcz48_1 : w43.cell? ⟨gb104, 1, none⟩ = some (.int .i64 ((qab l1 x17_1).f1)) := (qah BK104.out 1).trans rfl; have hcz48_2 : w43.cell? ⟨gb104, 2, none⟩ = some (.int .i64 ((qab l1 x17_1).f2)) := (qah BK104.out 2).trans rfl; have hcz48_3 : w43.cell? ⟨gb104, 3, none⟩ = some (.slice A103_3 ((qab l1 x17_1).f3).length c103_3) := (qah BK104.out 3).trans rfl; have hfz48_0 := qae BK104.out 0; have hfz48_1 := qae BK104.out 1; have hfz48_2 := qae BK104.out 2; have hfz48_3 := qae BK104.out 3; have p107 : 0 ≤ (x57_3 : Int) := of_decide_eq_true (by first | (with_reducible assumption) | assumption); have q107 : x57_3 < (((qab l1 x17_1).f3).length : Int) := of_decide_eq_true (by first | (with_reducible assumption) | assumption); obtain ⟨ad107, e107, hx107_0, hx107_1, hx107_2⟩ := qbx HR103_3.out x57_3 p107 q107; cases e107; have hn107_0 : ad107.block ≠ gb106 := Nat.ne_of_lt (Nat.lt_of_lt_of_le (by have := World.block_lt_of_cell? _ _ hx107_0; first | rwa [add_block] at this | exact this) GW106.out); have hn107_1 : ad107.block ≠ gb106 := Nat.ne_of_lt (Nat.lt_of_lt_of_le (by have := World.block_lt_of_cell? _ _ hx107_0; first | rwa [add_block] at this | exact this) GW106.out); have hn107_2 : ad107.block ≠ gb106 := Nat.ne_of_lt (Nat.lt_of_lt_of_le (by have := World.block_lt_of_cell? _ _ hx107_0; first | rwa [add_block] at this | exact this) GW106.out); replace hx107_0 := (HB.out.cell (World.block_lt_of_cell? w _ hx107_0)).trans hx107_0; replace hx107_1 := (HB.out.cell (World.block_lt_of_cell? w _ hx107_1)).trans hx107_1; replace hx107_2 := (HB.out.cell (World.block_lt_of_cell? w _ hx107_2)).trans hx107_2; replace hx107_0 := (cell_far (p := ⟨gb106, 0, none⟩) (by first | (rw [add_block]; exact hn107_0) | (show (Addr.add _ _).block ≠ _; rw [add_block]; exact hn107_0) | exact hn107_0) (.bool ((qaj ((qab l0 x17_1).f3) x57_3).f0))).trans hx107_0; replace hx107_1 := (cell_far (p := ⟨gb106, 0, none⟩) (by first | (rw [add_block]; exact hn107_0) | (show (Addr.add _ _).block ≠ _; rw [add_block]; exact hn107_0) | exact hn107_0) (.bool ((qaj ((qab l0 x17_1).f3) x57_3).f0))).trans hx107_1; replace hx107_2 := (cell_far (p := ⟨gb106, 0, none⟩) (by first | (rw [add_block]; exact hn107_0) | (show (Addr.add _ _).block ≠ _; rw [add_block]; exact hn107_0) | exact hn107_0) (.bool ((qaj ((qab l0 x17_1).f3) x57_3).f0))).trans hx107_2; replace hx107_0 := (cell_far (p := ⟨gb106, 1, none⟩) (by first | (rw [add_block]; exact hn107_1) | (show (Addr.add _ _).block ≠ _; rw [add_block]; exact hn107_1) | exact hn107_1) (.int .i64 ((qaj ((qab l0 x17_1).f3) x57_3).f1))).trans hx107_0; replace hx107_1 := (cell_far (p := ⟨gb106, 1, none⟩) (by first | (rw [add_block]; exact hn107_1) | (show (Addr.add _ _).block ≠ _; rw [add_block]; exact hn107_1) | exact hn107_1) (.int .i64 ((qaj ((qab l0 x17_1).f3) x57_3).f1))).trans hx107_1; replace hx107_2 := (cell_far (p := ⟨gb106, 1, none⟩) (by first | (rw [add_block]; exact hn107_1) | (show (Addr.add _ _).block ≠ _; rw [add_block]; exact hn107_1) | exact hn107_1) (.int .i64 ((qaj ((qab l0 x17_1).f3) x57_3).f1))).trans hx107_2; replace hx107_0 := (cell_far (p := ⟨gb106, 2, none⟩) (by first | (rw [add_block]; exact hn107_2) | (show (Addr.add _ _).block ≠ _; rw [add_block]; exact hn107_2) | exact hn107_2) (.int .i64 ((qaj ((qab l0 x17_1).f3) x57_3).f2))).trans hx107_0; replace hx107_1 := (cell_far (p := ⟨gb106, 2, none⟩) (by first | (rw [add_block]; exact hn107_2) | (show (Addr.add _ _).block ≠ _; rw [add_block]; exact hn107_2) | exact hn107_2) (.int .i64 ((qaj ((qab l0 x17_1).f3) x57_3).f2))).trans hx107_1; replace hx107_2 := (cell_far (p := ⟨gb106, 2, none⟩) (by first | (rw [add_block]; exact hn107_2) | (show (Addr.add _ _).block ≠ _; rw [add_block]; exact hn107_2) | exact hn107_2) (.int .i64 ((qaj ((qab l0 x17_1).f3) x57_3).f2))).trans hx107_2; (try have hy107_0 := fun (n_ : Nat) => (show (((((w43.drewN n_).setCell ⟨gb106, 0, none⟩ (.bool ((qaj ((qab l0 x17_1).f3) x57_3).f0))).setCell ⟨gb106, 1, none⟩ (.int .i64 ((qaj ((qab l0 x17_1).f3) x57_3).f1))).setCell ⟨gb106, 2, none⟩ (.int .i64 ((qaj ((qab l0 x17_1).f3) x57_3).f2)))).cell? _ = some _ from hx107_0)); (try have hy107_1 := fun (n_ : Nat) => (show (((((w43.drewN n_).setCell ⟨gb106, 0, none⟩ (.bool ((qaj ((qab l0 x17_1).f3) x57_3).f0))).setCell ⟨gb106, 1, none⟩ (.int .i64 ((qaj ((qab l0 x17_1).f3) x57_3).f1))).setCell ⟨gb106, 2, none⟩ (.int .i64 ((qaj ((qab l0 x17_1).f3) x57_3).f2)))).cell? _ = some _ from hx107_1)); (try have hy107_2 := fun (n_ : Nat) => (show (((((w43.drewN n_).setCell ⟨gb106, 0, none⟩ (.bool ((qaj ((qab l0 x17_1).f3) x57_3).f0))).setCell ⟨gb106, 1, none⟩ (.int .i64 ((qaj ((qab l0 x17_1).f3) x57_3).f1))).setCell ⟨gb106, 2, none⟩ (.int .i64 ((qaj ((qab l0 x17_1).f3) x57_3).f2)))).cell? _ = some _ from hx107_2)); clear hn107_0; clear hn107_1; clear hn107_2; replace p107 := eq_true p107; replace q107 := eq_true q107))
                  repeat (go_quiet (first | ((with_reducible refine qau (N := 9) rfl ?_); (try (refine qbf (by rfl) ?_; dsimp only)); refine qat ?hg (N := 9) ?hd (cs := #[.bool false, .int .i64 0, .int .i64 0]) (t := 51) ?hr ?_; (case hd => rfl); (case hg => rfl); (case hr => first | (go_simp; done) | (go_simp; rfl)); intro gb106 hg w43 hbox hb; have n0_ := Aside0.mk (qa1 (g := gb102) (o := .cells #[.int .i64 ((qab l0 x17_1).f0), .int .i64 ((qab l0 x17_1).f1), .int .i64 ((qab l0 x17_1).f2), .slice (some ad105) ((qab l0 x17_1).f3).length c101_3] 55 (0, 0)) (by (with_reducible repeat (first | refine qaf ?_ _ | refine qai ?_ | refine qag ?_ _)); exact BK102.out) hb); have n1_ := Aside0.mk (qa1 (g := gb104) (o := .cells #[.int .i64 ((qab l1 x17_1).f0), .int .i64 ((qab l1 x17_1).f1), .int .i64 ((qab l1 x17_1).f2), .slice A103_3 ((qab l1 x17_1).f3).length c103_3] 55 (0, 0)) (by (with_reducible repeat (first | refine qaf ?_ _ | refine qai ?_ | refine qag ?_ _)); exact BK104.out) hb); have n2_ := Aside0.mk (qam (by repeat (first | (with_reducible first | exact HB.out | apply qac | apply qaa | apply qad | refine qak ?_ GE102.out | refine qak ?_ GE104.out) | exact HB.out)) hb); have n3_ := Aside0.mk (hbox); have n4_ := Aside0.mk ((by rw [hg]; exact (qal (by repeat (first | (with_reducible first | exact HB.out | apply qac | apply qaa | apply qad | refine qak ?_ GE102.out | refine qak ?_ GE104.out) | exact HB.out))) : w.heap.size ≤ gb106)); have n5_ := Aside0.mk ((by rw [hg]; exact (qal (by repeat (first | (with_reducible first | exact HB.out | apply qac | apply qaa | apply qad | refine qak ?_ GE102.out | refine qak ?_ GE104.out) | exact HB.out))) : w.heap.size ≤ gb106)); have n6_ := Aside0.mk ((by rw [hg]; exact Nat.ne_of_lt (qa9 (g := gb102) (o := .cells #[.int .i64 ((qab l0 x17_1).f0), .int .i64 ((qab l0 x17_1).f1), .int .i64 ((qab l0 x17_1).f2), .slice (some ad105) ((qab l0 x17_1).f3).length c101_3] 55 (0, 0)) (by (with_reducible repeat (first | refine qaf ?_ _ | refine qai ?_ | refine qag ?_ _)); exact BK102.out)) : gb102 ≠ gb106)); have n7_ := Aside0.mk ((by rw [hg]; exact Nat.ne_of_gt (qa9 (g := gb102) (o := .cells #[.int .i64 ((qab l0 x17_1).f0), .int .i64 ((qab l0 x17_1).f1), .int .i64 ((qab l0 x17_1).f2), .slice (some ad105) ((qab l0 x17_1).f3).length c101_3] 55 (0, 0)) (by (with_reducible repeat (first | refine qaf ?_ _ | refine qai ?_ | refine qag ?_ _)); exact BK102.out)) : gb106 ≠ gb102)); have n8_ := Aside0.mk ((by rw [hg]; exact Nat.ne_of_lt (qa9 (g := gb104) (o := .cells #[.int .i64 ((qab l1 x17_1).f0), .int .i64 ((qab l1 x17_1).f1), .int .i64 ((qab l1 x17_1).f2), .slice A103_3 ((qab l1 x17_1).f3).length c103_3] 55 (0, 0)) (by (with_reducible repeat (first | refine qaf ?_ _ | refine qai ?_ | refine qag ?_ _)); exact BK104.out)) : gb104 ≠ gb106)); have n9_ := Aside0.mk ((by rw [hg]; exact Nat.ne_of_gt (qa9 (g := gb104) (o := .cells #[.int .i64 ((qab l1 x17_1).f0), .int .i64 ((qab l1 x17_1).f1), .int .i64 ((qab l1 x17_1).f2), .slice A103_3 ((qab l1 x17_1).f3).length c103_3] 55 (0, 0)) (by (with_reducible repeat (first | refine qaf ?_ _ | refine qai ?_ | refine qag ?_ _)); exact BK104.out)) : gb106 ≠ gb104)); clear BK102; clear BK104; clear HB; have BK102 := n0_; have BK104 := n1_; have HB := n2_; have BK106 := n3_; have GW106 := n4_; have GE106 := n5_; have NB102_106 := n6_; have NB106_102 := n7_; have NB104_106 := n8_; have NB106_104 := n9_; clear n0_ n1_ n2_ n3_ n4_ n5_ n6_ n7_ n8_ n9_; clear hb hbox hg; have hnb44 := NB106_102.out; have hnc44 := NB102_106.out; have hnb45 := NB106_104.out; have hnc45 := NB104_106.out; have hcz46_0 : w43.cell? ⟨gb106, 0, none⟩ = some (.bool false) := (qah BK106.out 0).trans rfl; have hcz46_1 : w43.cell? ⟨gb106, 1, none⟩ = some (.int .i64 0) := (qah BK106.out 1).trans rfl; have hcz46_2 : w43.cell? ⟨gb106, 2, none⟩ = some (.int .i64 0) := (qah BK106.out 2).trans rfl; have hfz46_0 := qae BK106.out 0; have hfz46_1 := qae BK106.out 1; have hfz46_2 := qae BK106.out 2; have hnb47 := NB104_102.out; have hnc47 := NB102_104.out; have hcz48_0 : w43.cell? ⟨gb104, 0, none⟩ = some (.int .i64 ((qab l1 x17_1).f0)) := (qah BK104.out 0).trans rfl; have hcz48_1 : w43.cell? ⟨gb104, 1, none⟩ = some (.int .i64 ((qab l1 x17_1).f1)) := (qah BK104.out 1).trans rfl; have hcz48_2 : w43.cell? ⟨gb104, 2, none⟩ = some (.int .i64 ((qab l1 x17_1).f2)) := (qah BK104.out 2).trans rfl; have hcz48_3 : w43.cell? ⟨gb104, 3, none⟩ = some (.slice A103_3 ((qab l1 x17_1).f3).length c103_3) := (qah BK104.out 3).trans rfl; have hfz48_0 := qae BK104.out 0; have hfz48_1 := qae BK104.out 1; have hfz48_2 := qae BK104.out 2; have hfz48_3 := qae BK104.out 3; have p107 : 0 ≤ (x57_3 : Int) := of_decide_eq_true (by first | (with_reducible assumption) | assumption); have q107 : x57_3 < (((qab l1 x17_1).f3).length : Int) := of_decide_eq_true (by first | (with_reducible assumption) | assumption); obtain ⟨ad107, e107, hx107_0, hx107_1, hx107_2⟩ := qbx HR103_3.out x57_3 p107 q107; cases e107; have hn107_0 : ad107.block ≠ gb106 := Nat.ne_of_lt (Nat.lt_of_lt_of_le (by have := World.block_lt_of_cell? _ _ hx107_0; first | rwa [add_block] at this | exact this) GW106.out); have hn107_1 : ad107.block ≠ gb106 := Nat.ne_of_lt (Nat.lt_of_lt_of_le (by have := World.block_lt_of_cell? _ _ hx107_0; first | rwa [add_block] at this | exact this) GW106.out); have hn107_2 : ad107.block ≠ gb106 := Nat.ne_of_lt (Nat.lt_of_lt_of_le (by have := World.block_lt_of_cell? _ _ hx107_0; first | rwa [add_block] at this | exact this) GW106.out); replace hx107_0 := (HB.out.cell (World.block_lt_of_cell? w _ hx107_0)).trans hx107_0; replace hx107_1 := (HB.out.cell (World.block_lt_of_cell? w _ hx107_1)).trans hx107_1; replace hx107_2 := (HB.out.cell (World.block_lt_of_cell? w _ hx107_2)).trans hx107_2; replace hx107_0 := (cell_far (p := ⟨gb106, 0, none⟩) (by first | (rw [add_block]; exact hn107_0) | (show (Addr.add _ _).block ≠ _; rw [add_block]; exact hn107_0) | exact hn107_0) (.bool ((qaj ((qab l0 x17_1).f3) x57_3).f0))).trans hx107_0; replace hx107_1 := (cell_far (p := ⟨gb106, 0, none⟩) (by first | (rw [add_block]; exact hn107_0) | (show (Addr.add _ _).block ≠ _; rw [add_block]; exact hn107_0) | exact hn107_0) (.bool ((qaj ((qab l0 x17_1).f3) x57_3).f0))).trans hx107_1; replace hx107_2 := (cell_far (p := ⟨gb106, 0, none⟩) (by first | (rw [add_block]; exact hn107_0) | (show (Addr.add _ _).block ≠ _; rw [add_block]; exact hn107_0) | exact hn107_0) (.bool ((qaj ((qab l0 x17_1).f3) x57_3).f0))).trans hx107_2; replace hx107_0 := (cell_far (p := ⟨gb106, 1, none⟩) (by first | (rw [add_block]; exact hn107_1) | (show (Addr.add _ _).block ≠ _; rw [add_block]; exact hn107_1) | exact hn107_1) (.int .i64 ((qaj ((qab l0 x17_1).f3) x57_3).f1))).trans hx107_0; replace hx107_1 := (cell_far (p := ⟨gb106, 1, none⟩) (by first | (rw [add_block]; exact hn107_1) | (show (Addr.add _ _).block ≠ _; rw [add_block]; exact hn107_1) | exact hn107_1) (.int .i64 ((qaj ((qab l0 x17_1).f3) x57_3).f1))).trans hx107_1; replace hx107_2 := (cell_far (p := ⟨gb106, 1, none⟩) (by first | (rw [add_block]; exact hn107_1) | (show (Addr.add _ _).block ≠ _; rw [add_block]; exact hn107_1) | exact hn107_1) (.int .i64 ((qaj ((qab l0 x17_1).f3) x57_3).f1))).trans hx107_2; replace hx107_0 := (cell_far (p := ⟨gb106, 2, none⟩) (by first | (rw [add_block]; exact hn107_2) | (show (Addr.add _ _).block ≠ _; rw [add_block]; exact hn107_2) | exact hn107_2) (.int .i64 ((qaj ((qab l0 x17_1).f3) x57_3).f2))).trans hx107_0; replace hx107_1 := (cell_far (p := ⟨gb106, 2, none⟩) (by first | (rw [add_block]; exact hn107_2) | (show (Addr.add _ _).block ≠ _; rw [add_block]; exact hn107_2) | exact hn107_2) (.int .i64 ((qaj ((qab l0 x17_1).f3) x57_3).f2))).trans hx107_1; replace hx107_2 := (cell_far (p := ⟨gb106, 2, none⟩) (by first | (rw [add_block]; exact hn107_2) | (show (Addr.add _ _).block ≠ _; rw [add_block]; exact hn107_2) | exact hn107_2) (.int .i64 ((qaj ((qab l0 x17_1).f3) x57_3).f2))).trans hx107_2; (try have hy107_0 := fun (n_ : Nat) => (show (((((w43.drewN n_).setCell ⟨gb106, 0, none⟩ (.bool ((qaj ((qab l0 x17_1).f3) x57_3).f0))).setCell ⟨gb106, 1, none⟩ (.int .i64 ((qaj ((qab l0 x17_1).f3) x57_3).f1))).setCell ⟨gb106, 2, none⟩ (.int .i64 ((qaj ((qab l0 x17_1).f3) x57_3).f2)))).cell? _ = some _ from hx107_0)); (try have hy107_1 := fun (n_ : Nat) => (show (((((w43.drewN n_).setCell ⟨gb106, 0, none⟩ (.bool ((qaj ((qab l0 x17_1).f3) x57_3).f0))).setCell ⟨gb106, 1, none⟩ (.int .i64 ((qaj ((qab l0 x17_1).f3) x57_3).f1))).setCell ⟨gb106, 2, none⟩ (.int .i64 ((qaj ((qab l0 x17_1).f3) x57_3).f2)))).cell? _ = some _ from hx107_1)); (try have hy107_2 := fun (n_ : Nat) => (show (((((w43.drewN n_).setCell ⟨gb106, 0, none⟩ (.bool ((qaj ((qab l0 x17_1).f3) x57_3).f0))).setCell ⟨gb106, 1, none⟩ (.int .i64 ((qaj ((qab l0 x17_1).f3) x57_3).f1))).setCell ⟨gb106, 2, none⟩ (.int .i64 ((qaj ((qab l0 x17_1).f3) x57_3).f2)))).cell? _ = some _ from hx107_2)); clear hn107_0; clear hn107_1; clear hn107_2; replace p107 := eq_true p107; replace q107 := eq_true q107)); try go_wp2_with (first | ((with_reducible refine qau (N := 9) rfl ?_); (try (refine qbf (by rfl) ?_; dsimp only)); refine qat ?hg (N := 9) ?hd (cs := #[.bool false, .int .i64 0, .int .i64 0]) (t := 51) ?hr ?_; (case hd => rfl); (case hg => rfl); (case hr => first | (go_simp; done) | (go_simp; rfl)); intro gb106 hg w43 hbox hb; have n0_ := Aside0.mk (qa1 (g := gb102) (o := .cells #[.int .i64 ((qab l0 x17_1).f0), .int .i64 ((qab l0 x17_1).f1), .int .i64 ((qab l0 x17_1).f2), .slice (some ad105) ((qab l0 x17_1).f3).length c101_3] 55 (0, 0)) (by (with_reducible repeat (first | refine qaf ?_ _ | refine qai ?_ | refine qag ?_ _)); exact BK102.out) hb); have n1_ := Aside0.mk (qa1 (g := gb104) (o := .cells #[.int .i64 ((qab l1 x17_1).f0), .int .i64 ((qab l1 x17_1).f1), .int .i64 ((qab l1 x17_1).f2), .slice A103_3 ((qab l1 x17_1).f3).length c103_3] 55 (0, 0)) (by (with_reducible repeat (first | refine qaf ?_ _ | refine qai ?_ | refine qag ?_ _)); exact BK104.out) hb); have n2_ := Aside0.mk (qam (by repeat (first | (with_reducible first | exact HB.out | apply qac | apply qaa | apply qad | refine qak ?_ GE102.out | refine qak ?_ GE104.out) | exact HB.out)) hb); have n3_ := Aside0.mk (hbox); have n4_ := Aside0.mk ((by rw [hg]; exact (qal (by repeat (first | (with_reducible first | exact HB.out | apply qac | apply qaa | apply qad | refine qak ?_ GE102.out | refine qak ?_ GE104.out) | exact HB.out))) : w.heap.size ≤ gb106)); have n5_ := Aside0.mk ((by rw [hg]; exact (qal (by repeat (first | (with_reducible first | exact HB.out | apply qac | apply qaa | apply qad | refine qak ?_ GE102.out | refine qak ?_ GE104.out) | exact HB.out))) : w.heap.size ≤ gb106)); have n6_ := Aside0.mk ((by rw [hg]; exact Nat.ne_of_lt (qa9 (g := gb102) (o := .cells #[.int .i64 ((qab l0 x17_1).f0), .int .i64 ((qab l0 x17_1).f1), .int .i64 ((qab l0 x17_1).f2), .slice (some ad105) ((qab l0 x17_1).f3).length c101_3] 55 (0, 0)) (by (with_reducible repeat (first | refine qaf ?_ _ | refine qai ?_ | refine qag ?_ _)); exact BK102.out)) : gb102 ≠ gb106)); have n7_ := Aside0.mk ((by rw [hg]; exact Nat.ne_of_gt (qa9 (g := gb102) (o := .cells #[.int .i64 ((qab l0 x17_1).f0), .int .i64 ((qab l0 x17_1).f1), .int .i64 ((qab l0 x17_1).f2), .slice (some ad105) ((qab l0 x17_1).f3).length c101_3] 55 (0, 0)) (by (with_reducible repeat (first | refine qaf ?_ _ | refine qai ?_ | refine qag ?_ _)); exact BK102.out)) : gb106 ≠ gb102)); have n8_ := Aside0.mk ((by rw [hg]; exact Nat.ne_of_lt (qa9 (g := gb104) (o := .cells #[.int .i64 ((qab l1 x17_1).f0), .int .i64 ((qab l1 x17_1).f1), .int .i64 ((qab l1 x17_1).f2), .slice A103_3 ((qab l1 x17_1).f3).length c103_3] 55 (0, 0)) (by (with_reducible repeat (first | refine qaf ?_ _ | refine qai ?_ | refine qag ?_ _)); exact BK104.out)) : gb104 ≠ gb106)); have n9_ := Aside0.mk ((by rw [hg]; exact Nat.ne_of_gt (qa9 (g := gb104) (o := .cells #[.int .i64 ((qab l1 x17_1).f0), .int .i64 ((qab l1 x17_1).f1), .int .i64 ((qab l1 x17_1).f2), .slice A103_3 ((qab l1 x17_1).f3).length c103_3] 55 (0, 0)) (by (with_reducible repeat (first | refine qaf ?_ _ | refine qai ?_ | refine qag ?_ _)); exact BK104.out)) : gb106 ≠ gb104)); clear BK102; clear BK104; clear HB; have BK102 := n0_; have BK104 := n1_; have HB := n2_; have BK106 := n3_; have GW106 := n4_; have GE106 := n5_; have NB102_106 := n6_; have NB106_102 := n7_; have NB104_106 := n8_; have NB106_104 := n9_; clear n0_ n1_ n2_ n3_ n4_ n5_ n6_ n7_ n8_ n9_; clear hb hbox hg; have hnb44 := NB106_102.out; have hnc44 := NB102_106.out; have hnb45 := NB106_104.out; have hnc45 := NB104_106.out; have hcz46_0 : w43.cell? ⟨gb106, 0, none⟩ = some (.bool false) := (qah BK106.out 0).trans rfl; have hcz46_1 : w43.cell? ⟨gb106, 1, none⟩ = some (.int .i64 0) := (qah BK106.out 1).trans rfl; have hcz46_2 : w43.cell? ⟨gb106, 2, none⟩ = some (.int .i64 0) := (qah BK106.out 2).trans rfl; have hfz46_0 := qae BK106.out 0; have hfz46_1 := qae BK106.out 1; have hfz46_2 := qae BK106.out 2; have hnb47 := NB104_102.out; have hnc47 := NB102_104.out; have hcz48_0 : w43.cell? ⟨gb104, 0, none⟩ = some (.int .i64 ((qab l1 x17_1).f0)) := (qah BK104.out 0).trans rfl; have hcz48_1 : w43.cell? ⟨gb104, 1, none⟩ = some (.int .i64 ((qab l1 x17_1).f1)) := (qah BK104.out 1).trans rfl; have hcz48_2 : w43.cell? ⟨gb104, 2, none⟩ = some (.int .i64 ((qab l1 x17_1).f2)) := (qah BK104.out 2).trans rfl; have hcz48_3 : w43.cell? ⟨gb104, 3, none⟩ = some (.slice A103_3 ((qab l1 x17_1).f3).length c103_3) := (qah BK104.out 3).trans rfl; have hfz48_0 := qae BK104.out 0; have hfz48_1 := qae BK104.out 1; have hfz48_2 := qae BK104.out 2; have hfz48_3 := qae BK104.out 3; have p107 : 0 ≤ (x57_3 : Int) := of_decide_eq_true (by first | (with_reducible assumption) | assumption); have q107 : x57_3 < (((qab l1 x17_1).f3).length : Int) := of_decide_eq_true (by first | (with_reducible assumption) | assumption); obtain ⟨ad107, e107, hx107_0, hx107_1, hx107_2⟩ := qbx HR103_3.out x57_3 p107 q107; cases e107; have hn107_0 : ad107.block ≠ gb106 := Nat.ne_of_lt (Nat.lt_of_lt_of_le (by have := World.block_lt_of_cell? _ _ hx107_0; first | rwa [add_block] at this | exact this) GW106.out); have hn107_1 : ad107.block ≠ gb106 := Nat.ne_of_lt (Nat.lt_of_lt_of_le (by have := World.block_lt_of_cell? _ _ hx107_0; first | rwa [add_block] at this | exact this) GW106.out); have hn107_2 : ad107.block ≠ gb106 := Nat.ne_of_lt (Nat.lt_of_lt_of_le (by have := World.block_lt_of_cell? _ _ hx107_0; first | rwa [add_block] at this | exact this) GW106.out); replace hx107_0 := (HB.out.cell (World.block_lt_of_cell? w _ hx107_0)).trans hx107_0; replace hx107_1 := (HB.out.cell (World.block_lt_of_cell? w _ hx107_1)).trans hx107_1; replace hx107_2 := (HB.out.cell (World.block_lt_of_cell? w _ hx107_2)).trans hx107_2; replace hx107_0 := (cell_far (p := ⟨gb106, 0, none⟩) (by first | (rw [add_block]; exact hn107_0) | (show (Addr.add _ _).block ≠ _; rw [add_block]; exact hn107_0) | exact hn107_0) (.bool ((qaj ((qab l0 x17_1).f3) x57_3).f0))).trans hx107_0; replace hx107_1 := (cell_far (p := ⟨gb106, 0, none⟩) (by first | (rw [add_block]; exact hn107_0) | (show (Addr.add _ _).block ≠ _; rw [add_block]; exact hn107_0) | exact hn107_0) (.bool ((qaj ((qab l0 x17_1).f3) x57_3).f0))).trans hx107_1; replace hx107_2 := (cell_far (p := ⟨gb106, 0, none⟩) (by first | (rw [add_block]; exact hn107_0) | (show (Addr.add _ _).block ≠ _; rw [add_block]; exact hn107_0) | exact hn107_0) (.bool ((qaj ((qab l0 x17_1).f3) x57_3).f0))).trans hx107_2; replace hx107_0 := (cell_far (p := ⟨gb106, 1, none⟩) (by first | (rw [add_block]; exact hn107_1) | (show (Addr.add _ _).block ≠ _; rw [add_block]; exact hn107_1) | exact hn107_1) (.int .i64 ((qaj ((qab l0 x17_1).f3) x57_3).f1))).trans hx107_0; replace hx107_1 := (cell_far (p := ⟨gb106, 1, none⟩) (by first | (rw [add_block]; exact hn107_1) | (show (Addr.add _ _).block ≠ _; rw [add_block]; exact hn107_1) | exact hn107_1) (.int .i64 ((qaj ((qab l0 x17_1).f3) x57_3).f1))).trans hx107_1; replace hx107_2 := (cell_far (p := ⟨gb106, 1, none⟩) (by first | (rw [add_block]; exact hn107_1) | (show (Addr.add _ _).block ≠ _; rw [add_block]; exact hn107_1) | exact hn107_1) (.int .i64 ((qaj ((qab l0 x17_1).f3) x57_3).f1))).trans hx107_2; replace hx107_0 := (cell_far (p := ⟨gb106, 2, none⟩) (by first | (rw [add_block]; exact hn107_2) | (show (Addr.add _ _).block ≠ _; rw [add_block]; exact hn107_2) | exact hn107_2) (.int .i64 ((qaj ((qab l0 x17_1).f3) x57_3).f2))).trans hx107_0; replace hx107_1 := (cell_far (p := ⟨gb106, 2, none⟩) (by first | (rw [add_block]; exact hn107_2) | (show (Addr.add _ _).block ≠ _; rw [add_block]; exact hn107_2) | exact hn107_2) (.int .i64 ((qaj ((qab l0 x17_1).f3) x57_3).f2))).trans hx107_1; replace hx107_2 := (cell_far (p := ⟨gb106, 2, none⟩) (by first | (rw [add_block]; exact hn107_2) | (show (Addr.add _ _).block ≠ _; rw [add_block]; exact hn107_2) | exact hn107_2) (.int .i64 ((qaj ((qab l0 x17_1).f3) x57_3).f2))).trans hx107_2; (try have hy107_0 := fun (n_ : Nat) => (show (((((w43.drewN n_).setCell ⟨gb106, 0, none⟩ (.bool ((qaj ((qab l0 x17_1).f3) x57_3).f0))).setCell ⟨gb106, 1, none⟩ (.int .i64 ((qaj ((qab l0 x17_1).f3) x57_3).f1))).setCell ⟨gb106, 2, none⟩ (.int .i64 ((qaj ((qab l0 x17_1).f3) x57_3).f2)))).cell? _ = some _ from hx107_0)); (try have hy107_1 := fun (n_ : Nat) => (show (((((w43.drewN n_).setCell ⟨gb106, 0, none⟩ (.bool ((qaj ((qab l0 x17_1).f3) x57_3).f0))).setCell ⟨gb106, 1, none⟩ (.int .i64 ((qaj ((qab l0 x17_1).f3) x57_3).f1))).setCell ⟨gb106, 2, none⟩ (.int .i64 ((qaj ((qab l0 x17_1).f3) x57_3).f2)))).cell? _ = some _ from hx107_1)); (try have hy107_2 := fun (n_ : Nat) => (show (((((w43.drewN n_).setCell ⟨gb106, 0, none⟩ (.bool ((qaj ((qab l0 x17_1).f3) x57_3).f0))).setCell ⟨gb106, 1, none⟩ (.int .i64 ((qaj ((qab l0 x17_1).f3) x57_3).f1))).setCell ⟨gb106, 2, none⟩ (.int .i64 ((qaj ((qab l0 x17_1).f3) x57_3).f2)))).cell? _ = some _ from hx107_2)); clear hn107_0; clear hn107_1; clear hn107_2; replace p107 := eq_true p107; replace q107 := eq_true q107)))
                  go_roundg k3
                  case measure => have := HK1.out; have := HJ7.out; have := HK3.out; omega
                  case rel => exact ⟨(wrap64 (x57_3 + 1)), (by first | rfl | (simp; done) | (simp [*]; done)), H', ⟨by have := HK1.out; have := HJ7.out; have := HK3.out; omega⟩, ⟨by (with_reducible repeat (first | refine qaf ?_ _ | refine qai ?_ | refine qag ?_ _)); refine qa0 ?_ NB102_106.out _; (with_reducible repeat (first | refine qaf ?_ _ | refine qai ?_ | refine qag ?_ _)); refine qa0 ?_ NB102_106.out _; (with_reducible repeat (first | refine qaf ?_ _ | refine qai ?_ | refine qag ?_ _)); refine qa0 ?_ NB102_106.out _; (with_reducible repeat (first | refine qaf ?_ _ | refine qai ?_ | refine qag ?_ _)); exact BK102.out⟩, ⟨by (with_reducible repeat (first | refine qaf ?_ _ | refine qai ?_ | refine qag ?_ _)); refine qa0 ?_ NB104_106.out _; (with_reducible repeat (first | refine qaf ?_ _ | refine qai ?_ | refine qag ?_ _)); refine qa0 ?_ NB104_106.out _; (with_reducible repeat (first | refine qaf ?_ _ | refine qai ?_ | refine qag ?_ _)); refine qa0 ?_ NB104_106.out _; (with_reducible repeat (first | refine qaf ?_ _ | refine qai ?_ | refine qag ?_ _)); exact BK104.out⟩, ⟨by repeat (first | (with_reducible first | exact HB.out | apply qac | apply qaa | apply qad | refine qak ?_ GE102.out | refine qak ?_ GE104.out | refine qak ?_ GE106.out) | exact HB.out)⟩⟩
                ·rw [if_neg c35] at H
                 exact absurd H (by simp)
               ·rw [if_neg c34] at H
                exact absurd H (by simp)
              ·rw [if_neg c33] at H
               exact absurd H (by simp)
             ·rw [if_neg c32] at H
              have c32b0 : decide (x57_3 < (((qab l0 x17_1).f3).length : Int)) = false := decide_eq_false c32
              clear c32
              have H' := Aside0.mk H
              clear H
              go_wp2
              repeat (go_quiet (fail); try go_wp2)
              go_roundg k3
              case measure => have := HK1.out; have := HJ7.out; have := HK3.out; omega
              case rel => exact ⟨(wrap64 (x17_1 + 1)), (by first | rfl | (simp; done) | (simp [*]; done)), H', ⟨by have := HK1.out; have := HJ7.out; have := HK3.out; omega⟩, ⟨by repeat (first | (with_reducible first | exact HB.out | apply qac | apply qaa | apply qad | refine qak ?_ GE102.out | refine qak ?_ GE104.out) | exact HB.out)⟩⟩
       ·rw [if_neg c7] at H
        exact absurd H (by simp)
      ·rw [if_neg c6] at H
       exact absurd H (by simp)
     ·rw [if_neg c5] at H
      exact absurd H (by simp)
    ·rw [if_neg c4] at H
     have c4b0 : decide (x17_1 < (l0.length : Int)) = false := decide_eq_false c4
     clear c4
     obtain rfl := Option.some.inj H
     go_wp2
     repeat (go_quiet (fail); try go_wp2)
     go_ret
     exact ⟨by first | rfl | (simp [qao, qan] <;> rfl) | (simp [*, qao, qan] <;> rfl), by repeat (first | (with_reducible first | exact HB.out | apply qac | apply qaa | apply qad) | exact HB.out)⟩
 ·rw [if_neg c3] at H
  have c3b0 : ((l0.length : Int) == (l1.length : Int)) = false := beq_eq_false_iff_ne.mpr c3
  have c3b1 : ((l0.length : Int) != (l1.length : Int)) = true := bne_iff_ne.mpr c3
  have c3b2 : (l0.length == l1.length) = false := by first | simpa using c3 | (simp at c3 ⊢; omega)
  obtain rfl := Option.some.inj H
  go_enter Try.func18, Try.ntmps18
  go_wp2
  repeat (go_quiet (fail); try go_wp2)
  go_ret
  exact ⟨by first | rfl | (simp [qao, qan] <;> rfl) | (simp [*, qao, qan] <;> rfl), by repeat (first | (with_reducible first | exact HB.out | apply qac | apply qaa | apply qad) | exact HB.out)⟩
def canon_Is.f (k : Nat) (l0 : List (S55)) : Option (Bool) := (history_Check.f k l0).bind fun t108 => (if t108 = 0 then ((canon_Of.f k l0).bind fun t109 => ((history_Same.f k t109 l0).bind fun t112 => (some t112))) else (some false))
theorem canon_Is.mono : ∀ a0 k, LeO (canon_Is.f k a0) (canon_Is.f (k + 1) a0) := by
 intro a0 k
 unfold canon_Is.f
 repeat' first
   | (with_reducible exact canon_Of.mono _ _)
   | (with_reducible exact history_Check.mono _ _)
   | (with_reducible exact history_Same.mono _ _ _)
   | (with_reducible exact LeO.refl _)
   | (with_reducible exact LeO.none _)
   | (with_reducible refine LeO.ite ?_ ?_)
   | (with_reducible refine LeO.bind ?_ (fun _ => ?_))
   | exact canon_Of.mono _ _
   | exact history_Check.mono _ _
   | exact history_Same.mono _ _ _
   | exact LeO.none _
   | refine LeO.ite ?_ ?_
   | refine LeO.bind ?_ (fun _ => ?_)
set_option maxHeartbeats 8000000 in
set_option maxRecDepth 100000 in
theorem canon_Is.calls (k : Nat) (A0 : Option Addr) (c0 : Nat) (l0 : List (S55)) (r : Bool) (w : World) (hr0 : Kd.C k55 w A0 l0.length l0) (hc0 : l0.length ≤ c0) (h : canon_Is.f k l0 = some r) :
  Calls Try.prog 15 #[.slice A0 l0.length c0] w fun e w' => e = .returned (.bool r) ∧ Below w.heap.size w w' := by
 have HR0 := Aside0.mk hr0
 have HC0 := Aside0.mk hc0
 clear hr0 hc0
 have HB := Aside0.mk (Below.refl w.heap.size w)
 have H : ((history_Check.f k l0).bind fun t108 => (if t108 = 0 then ((canon_Of.f k l0).bind fun t109 => ((history_Same.f k t109 l0).bind fun t112 => (some t112))) else (some false))) = some r := h
 clear h
 replace H := Option.bind_eq_some_iff.mp H
 obtain ⟨t108, A20, H⟩ := H
 replace H : (if t108 = 0 then ((canon_Of.f k l0).bind fun t109 => ((history_Same.f k t109 l0).bind fun t112 => (some t112))) else (some false)) = some r := H
 have A2 := Aside0.mk A20
 clear A20
 by_cases c3 : t108 = 0
 ·rw [if_pos c3] at H
  have c3b0 : (t108 == 0) = true := beq_iff_eq.mpr c3
  have c3b1 : (t108 != 0) = false := bne_eq_false_iff_eq.mpr c3
  clear c3
  replace H := Option.bind_eq_some_iff.mp H
  obtain ⟨t109, A40, H⟩ := H
  replace H : ((history_Same.f k t109 l0).bind fun t112 => (some t112)) = some r := H
  have A4 := Aside0.mk A40
  clear A40
  replace H := Option.bind_eq_some_iff.mp H
  obtain ⟨t112, A50, H⟩ := H
  replace H : (some t112) = some r := H
  have A5 := Aside0.mk A50
  clear A50
  obtain rfl := Option.some.inj H
  go_enter Try.func15, Try.ntmps15
  go_wp2_with (first | ((with_reducible refine qbd (f := 32) rfl ?_); refine qce (some 4) rfl rfl Try.func32 (by kernel_rfl) rfl #[.slice A0 l0.length c0] rfl (by (try simp only [List.map_toArray, List.map_cons, List.map_nil]); first | done | rfl | (simp only [List.length_drop, List.length_take]; rfl)) ?_; (with_reducible refine (history_Check.calls k _ _ l0 t108 _ ?side1 ?side2 A2.out).mono ?_); (case side1 => repeat (first | exact HR0.out | (with_reducible refine Kd.C_alloc ?_ _) | (with_reducible refine Kd.C_drewN ?_ _) | (with_reducible refine Kd.C_drew ?_))); (case side2 => exact HC0.out); rintro e w6 ⟨rfl, hb⟩; refine ⟨_, rfl, ?_⟩; have n0_ := Aside0.mk (qam (by repeat (first | (with_reducible first | exact HB.out | apply qac | apply qaa | apply qad) | exact HB.out)) hb); clear HB; have HB := n0_; clear n0_; (try clear hb); (try clear hb2); (try clear hk); (try clear hi)) | (go_at_call 13; (with_reducible refine (canon_Of.calls k _ _ l0 t109 _ ?side1 ?side2 A4.out).mono ?_); (case side1 => repeat (first | exact (Kd.C_below HR0.out HB.out) | (with_reducible refine Kd.C_alloc ?_ _) | (with_reducible refine Kd.C_drewN ?_ _) | (with_reducible refine Kd.C_drew ?_))); (case side2 => exact HC0.out); rintro e w7 ⟨v110, rfl, ho0, hb⟩; have n0_ := Aside0.mk (Kd.S_lower ho0 (qal (by repeat (first | (with_reducible first | exact HB.out | apply qac | apply qaa | apply qad) | exact HB.out)))); have n1_ := Aside0.mk (qam (by repeat (first | (with_reducible first | exact HB.out | apply qac | apply qaa | apply qad) | exact HB.out)) hb); clear HB; have HO111 := n0_; have HB := n1_; clear n0_ n1_; (try clear hb); (try clear hb2); (try clear hk); (try clear hi); (try clear ho0); obtain ⟨Ao8, co8, eo8⟩ := Kd.S_slice HO111.out; subst eo8) | (go_at_call 18; (with_reducible refine (history_Same.calls k _ _ t109 _ _ l0 t112 _ ?side1 ?side2 ?side3 ?side4 A5.out).mono ?_); (case side1 => repeat (first | exact (Kd.S_reads' HO111.out).2.2 | (with_reducible refine Kd.C_alloc ?_ _) | (with_reducible refine Kd.C_drewN ?_ _) | (with_reducible refine Kd.C_drew ?_))); (case side2 => exact (Kd.S_reads' HO111.out).2.1); (case side3 => repeat (first | exact (Kd.C_below HR0.out HB.out) | (with_reducible refine Kd.C_alloc ?_ _) | (with_reducible refine Kd.C_drewN ?_ _) | (with_reducible refine Kd.C_drew ?_))); (case side4 => exact HC0.out); rintro e w9 ⟨rfl, hb⟩; have n0_ := Aside0.mk (Kd.S_below (by (with_reducible repeat (first | apply Kd.S_alloc | apply Kd.S_drewN | apply Kd.S_drew)); exact HO111.out) hb); have n1_ := Aside0.mk (qam (by repeat (first | (with_reducible first | exact HB.out | apply qac | apply qaa | apply qad) | exact HB.out)) hb); clear HO111; clear HB; have HO111 := n0_; have HB := n1_; clear n0_ n1_; (try clear hb); (try clear hb2); (try clear hk); (try clear hi)))
  go_ret
  exact ⟨by first | rfl | (simp [qao, qan] <;> rfl) | (simp [*, qao, qan] <;> rfl), by repeat (first | (with_reducible first | exact HB.out | apply qac | apply qaa | apply qad) | exact HB.out)⟩
 ·rw [if_neg c3] at H
  have c3b0 : (t108 == 0) = false := beq_eq_false_iff_ne.mpr c3
  have c3b1 : (t108 != 0) = true := bne_iff_ne.mpr c3
  obtain rfl := Option.some.inj H
  go_enter Try.func15, Try.ntmps15
  go_wp2_with (first | ((with_reducible refine qbd (f := 32) rfl ?_); refine qce (some 4) rfl rfl Try.func32 (by kernel_rfl) rfl #[.slice A0 l0.length c0] rfl (by (try simp only [List.map_toArray, List.map_cons, List.map_nil]); first | done | rfl | (simp only [List.length_drop, List.length_take]; rfl)) ?_; (with_reducible refine (history_Check.calls k _ _ l0 t108 _ ?side1 ?side2 A2.out).mono ?_); (case side1 => repeat (first | exact HR0.out | (with_reducible refine Kd.C_alloc ?_ _) | (with_reducible refine Kd.C_drewN ?_ _) | (with_reducible refine Kd.C_drew ?_))); (case side2 => exact HC0.out); rintro e w10 ⟨rfl, hb⟩; refine ⟨_, rfl, ?_⟩; have n0_ := Aside0.mk (qam (by repeat (first | (with_reducible first | exact HB.out | apply qac | apply qaa | apply qad) | exact HB.out)) hb); clear HB; have HB := n0_; clear n0_; (try clear hb); (try clear hb2); (try clear hk); (try clear hi)))
  go_ret
  exact ⟨by first | rfl | (simp [qao, qan] <;> rfl) | (simp [*, qao, qan] <;> rfl), by repeat (first | (with_reducible first | exact HB.out | apply qac | apply qaa | apply qad) | exact HB.out)⟩
def canon_Same.f (k : Nat) (l0 : List (S55)) (l1 : List (S55)) : Option (Bool) := (history_Check.f k l0).bind fun t113 => (if t113 = 0 then ((history_Check.f k l1).bind fun t114 => (if t114 = 0 then ((canon_Of.f k l0).bind fun t115 => ((canon_Of.f k l1).bind fun t118 => ((history_Same.f k t115 t118).bind fun t121 => (some t121)))) else (some false))) else (some false))
theorem canon_Same.mono : ∀ a0 a1 k, LeO (canon_Same.f k a0 a1) (canon_Same.f (k + 1) a0 a1) := by
 intro a0 a1 k
 unfold canon_Same.f
 repeat' first
   | (with_reducible exact canon_Of.mono _ _)
   | (with_reducible exact history_Check.mono _ _)
   | (with_reducible exact history_Same.mono _ _ _)
   | (with_reducible exact LeO.refl _)
   | (with_reducible exact LeO.none _)
   | (with_reducible refine LeO.ite ?_ ?_)
   | (with_reducible refine LeO.bind ?_ (fun _ => ?_))
   | exact canon_Of.mono _ _
   | exact history_Check.mono _ _
   | exact history_Same.mono _ _ _
   | exact LeO.none _
   | refine LeO.ite ?_ ?_
   | refine LeO.bind ?_ (fun _ => ?_)
set_option maxHeartbeats 8000000 in
set_option maxRecDepth 100000 in
theorem canon_Same.calls (k : Nat) (A0 : Option Addr) (c0 : Nat) (l0 : List (S55)) (A1 : Option Addr) (c1 : Nat) (l1 : List (S55)) (r : Bool) (w : World) (hr0 : Kd.C k55 w A0 l0.length l0) (hc0 : l0.length ≤ c0) (hr1 : Kd.C k55 w A1 l1.length l1) (hc1 : l1.length ≤ c1) (h : canon_Same.f k l0 l1 = some r) :
  Calls Try.prog 16 #[.slice A0 l0.length c0, .slice A1 l1.length c1] w fun e w' => e = .returned (.bool r) ∧ Below w.heap.size w w' := by
 have HR0 := Aside0.mk hr0
 have HC0 := Aside0.mk hc0
 clear hr0 hc0
 have HR1 := Aside0.mk hr1
 have HC1 := Aside0.mk hc1
 clear hr1 hc1
 have HB := Aside0.mk (Below.refl w.heap.size w)
 have H : ((history_Check.f k l0).bind fun t113 => (if t113 = 0 then ((history_Check.f k l1).bind fun t114 => (if t114 = 0 then ((canon_Of.f k l0).bind fun t115 => ((canon_Of.f k l1).bind fun t118 => ((history_Same.f k t115 t118).bind fun t121 => (some t121)))) else (some false))) else (some false))) = some r := h
 clear h
 replace H := Option.bind_eq_some_iff.mp H
 obtain ⟨t113, A30, H⟩ := H
 replace H : (if t113 = 0 then ((history_Check.f k l1).bind fun t114 => (if t114 = 0 then ((canon_Of.f k l0).bind fun t115 => ((canon_Of.f k l1).bind fun t118 => ((history_Same.f k t115 t118).bind fun t121 => (some t121)))) else (some false))) else (some false)) = some r := H
 have A3 := Aside0.mk A30
 clear A30
 by_cases c4 : t113 = 0
 ·rw [if_pos c4] at H
  have c4b0 : (t113 == 0) = true := beq_iff_eq.mpr c4
  have c4b1 : (t113 != 0) = false := bne_eq_false_iff_eq.mpr c4
  clear c4
  replace H := Option.bind_eq_some_iff.mp H
  obtain ⟨t114, A50, H⟩ := H
  replace H : (if t114 = 0 then ((canon_Of.f k l0).bind fun t115 => ((canon_Of.f k l1).bind fun t118 => ((history_Same.f k t115 t118).bind fun t121 => (some t121)))) else (some false)) = some r := H
  have A5 := Aside0.mk A50
  clear A50
  by_cases c6 : t114 = 0
  ·rw [if_pos c6] at H
   have c6b0 : (t114 == 0) = true := beq_iff_eq.mpr c6
   have c6b1 : (t114 != 0) = false := bne_eq_false_iff_eq.mpr c6
   clear c6
   replace H := Option.bind_eq_some_iff.mp H
   obtain ⟨t115, A70, H⟩ := H
   replace H : ((canon_Of.f k l1).bind fun t118 => ((history_Same.f k t115 t118).bind fun t121 => (some t121))) = some r := H
   have A7 := Aside0.mk A70
   clear A70
   replace H := Option.bind_eq_some_iff.mp H
   obtain ⟨t118, A80, H⟩ := H
   replace H : ((history_Same.f k t115 t118).bind fun t121 => (some t121)) = some r := H
   have A8 := Aside0.mk A80
   clear A80
   replace H := Option.bind_eq_some_iff.mp H
   obtain ⟨t121, A90, H⟩ := H
   replace H : (some t121) = some r := H
   have A9 := Aside0.mk A90
   clear A90
   obtain rfl := Option.some.inj H
   go_enter Try.func16, Try.ntmps16
   go_wp2_with (first | ((with_reducible refine qbd (f := 32) rfl ?_); refine qce (some 6) rfl rfl Try.func32 (by kernel_rfl) rfl #[.slice A0 l0.length c0] rfl (by (try simp only [List.map_toArray, List.map_cons, List.map_nil]); first | done | rfl | (simp only [List.length_drop, List.length_take]; rfl)) ?_; (with_reducible refine (history_Check.calls k _ _ l0 t113 _ ?side1 ?side2 A3.out).mono ?_); (case side1 => repeat (first | exact HR0.out | (with_reducible refine Kd.C_alloc ?_ _) | (with_reducible refine Kd.C_drewN ?_ _) | (with_reducible refine Kd.C_drew ?_))); (case side2 => exact HC0.out); rintro e w10 ⟨rfl, hb⟩; refine ⟨_, rfl, ?_⟩; have n0_ := Aside0.mk (qam (by repeat (first | (with_reducible first | exact HB.out | apply qac | apply qaa | apply qad) | exact HB.out)) hb); clear HB; have HB := n0_; clear n0_; (try clear hb); (try clear hb2); (try clear hk); (try clear hi)) | (go_at_call 32; (with_reducible refine (history_Check.calls k _ _ l1 t114 _ ?side1 ?side2 A5.out).mono ?_); (case side1 => repeat (first | exact (Kd.C_below HR1.out HB.out) | (with_reducible refine Kd.C_alloc ?_ _) | (with_reducible refine Kd.C_drewN ?_ _) | (with_reducible refine Kd.C_drew ?_))); (case side2 => exact HC1.out); rintro e w11 ⟨rfl, hb⟩; have n0_ := Aside0.mk (qam (by repeat (first | (with_reducible first | exact HB.out | apply qac | apply qaa | apply qad) | exact HB.out)) hb); clear HB; have HB := n0_; clear n0_; (try clear hb); (try clear hb2); (try clear hk); (try clear hi)) | (go_at_call 13; (with_reducible refine (canon_Of.calls k _ _ l0 t115 _ ?side1 ?side2 A7.out).mono ?_); (case side1 => repeat (first | exact (Kd.C_below HR0.out HB.out) | (with_reducible refine Kd.C_alloc ?_ _) | (with_reducible refine Kd.C_drewN ?_ _) | (with_reducible refine Kd.C_drew ?_))); (case side2 => exact HC0.out); rintro e w12 ⟨v116, rfl, ho0, hb⟩; have n0_ := Aside0.mk (Kd.S_lower ho0 (qal (by repeat (first | (with_reducible first | exact HB.out | apply qac | apply qaa | apply qad) | exact HB.out)))); have n1_ := Aside0.mk (qam (by repeat (first | (with_reducible first | exact HB.out | apply qac | apply qaa | apply qad) | exact HB.out)) hb); clear HB; have HO117 := n0_; have HB := n1_; clear n0_ n1_; (try clear hb); (try clear hb2); (try clear hk); (try clear hi); (try clear ho0)) | (go_at_call 13; (with_reducible refine (canon_Of.calls k _ _ l1 t118 _ ?side1 ?side2 A8.out).mono ?_); (case side1 => repeat (first | exact (Kd.C_below HR1.out HB.out) | (with_reducible refine Kd.C_alloc ?_ _) | (with_reducible refine Kd.C_drewN ?_ _) | (with_reducible refine Kd.C_drew ?_))); (case side2 => exact HC1.out); rintro e w13 ⟨v119, rfl, ho0, hb⟩; have n0_ := Aside0.mk (Kd.S_elder' (by (with_reducible repeat (first | apply Kd.S_alloc | apply Kd.S_drewN | apply Kd.S_drew)); exact HO117.out) (Kd.S_base ho0) hb); have n1_ := Aside0.mk (Kd.S_lower (Kd.S_new' ho0 (Kd.S_lt (by (with_reducible repeat (first | apply Kd.S_alloc | apply Kd.S_drewN | apply Kd.S_drew)); exact HO117.out))) (qal (by repeat (first | (with_reducible first | exact HB.out | apply qac | apply qaa | apply qad) | exact HB.out)))); have n2_ := Aside0.mk (qam (by repeat (first | (with_reducible first | exact HB.out | apply qac | apply qaa | apply qad) | exact HB.out)) hb); clear HO117; clear HB; have HO117 := n0_; have HO120 := n1_; have HB := n2_; clear n0_ n1_ n2_; (try clear hb); (try clear hb2); (try clear hk); (try clear hi); (try clear ho0); obtain ⟨Ao14, co14, eo14⟩ := Kd.S_slice HO117.out; subst eo14; obtain ⟨Ao15, co15, eo15⟩ := Kd.S_slice HO120.out; subst eo15) | (go_at_call 18; (with_reducible refine (history_Same.calls k _ _ t115 _ _ t118 t121 _ ?side1 ?side2 ?side3 ?side4 A9.out).mono ?_); (case side1 => repeat (first | exact (Kd.S_reads' HO117.out).2.2 | (with_reducible refine Kd.C_alloc ?_ _) | (with_reducible refine Kd.C_drewN ?_ _) | (with_reducible refine Kd.C_drew ?_))); (case side2 => exact (Kd.S_reads' HO117.out).2.1); (case side3 => repeat (first | exact (Kd.S_reads' HO120.out).2.2 | (with_reducible refine Kd.C_alloc ?_ _) | (with_reducible refine Kd.C_drewN ?_ _) | (with_reducible refine Kd.C_drew ?_))); (case side4 => exact (Kd.S_reads' HO120.out).2.1); rintro e w16 ⟨rfl, hb⟩; have n0_ := Aside0.mk (Kd.S_below (by (with_reducible repeat (first | apply Kd.S_alloc | apply Kd.S_drewN | apply Kd.S_drew)); exact HO117.out) hb); have n1_ := Aside0.mk (Kd.S_below (by (with_reducible repeat (first | apply Kd.S_alloc | apply Kd.S_drewN | apply Kd.S_drew)); exact HO120.out) hb); have n2_ := Aside0.mk (qam (by repeat (first | (with_reducible first | exact HB.out | apply qac | apply qaa | apply qad) | exact HB.out)) hb); clear HO117; clear HO120; clear HB; have HO117 := n0_; have HO120 := n1_; have HB := n2_; clear n0_ n1_ n2_; (try clear hb); (try clear hb2); (try clear hk); (try clear hi)))
   go_ret
   exact ⟨by first | rfl | (simp [qao, qan] <;> rfl) | (simp [*, qao, qan] <;> rfl), by repeat (first | (with_reducible first | exact HB.out | apply qac | apply qaa | apply qad) | exact HB.out)⟩
  ·rw [if_neg c6] at H
   have c6b0 : (t114 == 0) = false := beq_eq_false_iff_ne.mpr c6
   have c6b1 : (t114 != 0) = true := bne_iff_ne.mpr c6
   obtain rfl := Option.some.inj H
   go_enter Try.func16, Try.ntmps16
   go_wp2_with (first | ((with_reducible refine qbd (f := 32) rfl ?_); refine qce (some 6) rfl rfl Try.func32 (by kernel_rfl) rfl #[.slice A0 l0.length c0] rfl (by (try simp only [List.map_toArray, List.map_cons, List.map_nil]); first | done | rfl | (simp only [List.length_drop, List.length_take]; rfl)) ?_; (with_reducible refine (history_Check.calls k _ _ l0 t113 _ ?side1 ?side2 A3.out).mono ?_); (case side1 => repeat (first | exact HR0.out | (with_reducible refine Kd.C_alloc ?_ _) | (with_reducible refine Kd.C_drewN ?_ _) | (with_reducible refine Kd.C_drew ?_))); (case side2 => exact HC0.out); rintro e w17 ⟨rfl, hb⟩; refine ⟨_, rfl, ?_⟩; have n0_ := Aside0.mk (qam (by repeat (first | (with_reducible first | exact HB.out | apply qac | apply qaa | apply qad) | exact HB.out)) hb); clear HB; have HB := n0_; clear n0_; (try clear hb); (try clear hb2); (try clear hk); (try clear hi)) | (go_at_call 32; (with_reducible refine (history_Check.calls k _ _ l1 t114 _ ?side1 ?side2 A5.out).mono ?_); (case side1 => repeat (first | exact (Kd.C_below HR1.out HB.out) | (with_reducible refine Kd.C_alloc ?_ _) | (with_reducible refine Kd.C_drewN ?_ _) | (with_reducible refine Kd.C_drew ?_))); (case side2 => exact HC1.out); rintro e w18 ⟨rfl, hb⟩; have n0_ := Aside0.mk (qam (by repeat (first | (with_reducible first | exact HB.out | apply qac | apply qaa | apply qad) | exact HB.out)) hb); clear HB; have HB := n0_; clear n0_; (try clear hb); (try clear hb2); (try clear hk); (try clear hi)))
   go_ret
   exact ⟨by first | rfl | (simp [qao, qan] <;> rfl) | (simp [*, qao, qan] <;> rfl), by repeat (first | (with_reducible first | exact HB.out | apply qac | apply qaa | apply qad) | exact HB.out)⟩
 ·rw [if_neg c4] at H
  have c4b0 : (t113 == 0) = false := beq_eq_false_iff_ne.mpr c4
  have c4b1 : (t113 != 0) = true := bne_iff_ne.mpr c4
  obtain rfl := Option.some.inj H
  go_enter Try.func16, Try.ntmps16
  go_wp2_with (first | ((with_reducible refine qbd (f := 32) rfl ?_); refine qce (some 6) rfl rfl Try.func32 (by kernel_rfl) rfl #[.slice A0 l0.length c0] rfl (by (try simp only [List.map_toArray, List.map_cons, List.map_nil]); first | done | rfl | (simp only [List.length_drop, List.length_take]; rfl)) ?_; (with_reducible refine (history_Check.calls k _ _ l0 t113 _ ?side1 ?side2 A3.out).mono ?_); (case side1 => repeat (first | exact HR0.out | (with_reducible refine Kd.C_alloc ?_ _) | (with_reducible refine Kd.C_drewN ?_ _) | (with_reducible refine Kd.C_drew ?_))); (case side2 => exact HC0.out); rintro e w19 ⟨rfl, hb⟩; refine ⟨_, rfl, ?_⟩; have n0_ := Aside0.mk (qam (by repeat (first | (with_reducible first | exact HB.out | apply qac | apply qaa | apply qad) | exact HB.out)) hb); clear HB; have HB := n0_; clear n0_; (try clear hb); (try clear hb2); (try clear hk); (try clear hi)))
  go_ret
  exact ⟨by first | rfl | (simp [qao, qan] <;> rfl) | (simp [*, qao, qan] <;> rfl), by repeat (first | (with_reducible first | exact HB.out | apply qac | apply qaa | apply qad) | exact HB.out)⟩
def op_Write.f (a0 : Int) (a1 : Int) : Option (Bool × Int × Int) := some (true, a0, a1)
set_option maxHeartbeats 8000000 in
set_option maxRecDepth 100000 in
theorem op_Write.calls (a0 : Int) (a1 : Int) (r1 : Bool) (r2 : Int) (r3 : Int) (w : World) (h : op_Write.f a0 a1 = some (r1, r2, r3)) :
  Calls Try.prog 27 #[.int .i64 a0, .int .i64 a1] w fun e w' => e = .returned (.agg #[.bool r1, .int .i64 r2, .int .i64 r3]) ∧ Below w.heap.size w w' := by
 have hu51 := Try.underlying51
 have HB := Aside0.mk (Below.refl w.heap.size w)
 have H : (some (true, a0, a1)) = some (r1, r2, r3) := h
 clear h
 simp only [Option.some.injEq, Prod.mk.injEq] at H
 obtain ⟨rfl, rfl, rfl⟩ := H
 go_enter Try.func27, Try.ntmps27
 go_wp2_with (first | ((with_reducible refine qau (N := 4) rfl ?_); refine qat ?hg (N := 4) ?hd (cs := #[.bool false, .int .i64 0, .int .i64 0]) (t := 51) ?hr ?_; (case hd => rfl); (case hg => rfl); (case hr => first | (go_simp; done) | (go_simp; rfl)); intro gb122 hg w3 hbox hb; have n0_ := Aside0.mk (qam (by repeat (first | (with_reducible first | exact HB.out | apply qac | apply qaa | apply qad) | exact HB.out)) hb); have n1_ := Aside0.mk (hbox); have n2_ := Aside0.mk ((by rw [hg]; exact (qal (by repeat (first | (with_reducible first | exact HB.out | apply qac | apply qaa | apply qad) | exact HB.out))) : w.heap.size ≤ gb122)); have n3_ := Aside0.mk ((by rw [hg]; exact (qal (by repeat (first | (with_reducible first | exact HB.out | apply qac | apply qaa | apply qad) | exact HB.out))) : w.heap.size ≤ gb122)); clear HB; have HB := n0_; have BK122 := n1_; have GW122 := n2_; have GE122 := n3_; clear n0_ n1_ n2_ n3_; clear hb hbox hg; have hcz4_0 : w3.cell? ⟨gb122, 0, none⟩ = some (.bool false) := (qah BK122.out 0).trans rfl; have hcz4_1 : w3.cell? ⟨gb122, 1, none⟩ = some (.int .i64 0) := (qah BK122.out 1).trans rfl; have hcz4_2 : w3.cell? ⟨gb122, 2, none⟩ = some (.int .i64 0) := (qah BK122.out 2).trans rfl; have hfz4_0 := qae BK122.out 0; have hfz4_1 := qae BK122.out 1; have hfz4_2 := qae BK122.out 2))
 refine bodyPost_ret (results_cell_row rfl _ _ gb122 51 #[.bool true, .int .i64 a0, .int .i64 a1] (0, 0) _ rfl (by (with_reducible repeat (first | refine qaf ?_ _ | refine qai ?_ | refine qag ?_ _)); refine qaq (cs := #[.bool true, .int .i64 a0, .int .i64 0]) ?_ 2 _ rfl; (with_reducible repeat (first | refine qaf ?_ _ | refine qai ?_ | refine qag ?_ _)); refine qaq (cs := #[.bool true, .int .i64 0, .int .i64 0]) ?_ 1 _ rfl; (with_reducible repeat (first | refine qaf ?_ _ | refine qai ?_ | refine qag ?_ _)); refine qaq (cs := #[.bool false, .int .i64 0, .int .i64 0]) ?_ 0 _ rfl; (with_reducible repeat (first | refine qaf ?_ _ | refine qai ?_ | refine qag ?_ _)); exact BK122.out) Try.underlying51 rfl (by kernel_rfl)) rfl ?_
 exact ⟨by first | rfl | (simp [qao, qan] <;> rfl) | (simp [*, qao, qan] <;> rfl), by repeat (first | (with_reducible first | exact HB.out | apply qac | apply qaa | apply qad | refine qak ?_ GE122.out) | exact HB.out)⟩
end Go.Proofs.Ytngkneknopenmaa.T
end
section
namespace Go.Proofs.Ytngkneknopenmaa.T
open Go.Proofs.Ytngkneknopenmaa Go.Proofs.Ytngkneknopenmaa.Give Go.Proofs.Ytngkneknopenmaa.K
open Go.RowKit Go.Proofs.YtngkneknopenmaaW.PrintWords Go.Proofs.YtngkneknopenmaaW.PrintLast Go.Proofs.YtngkneknopenmaaW.PrintMore
attribute [local go_sem] qb3 qb1 qca qb9 qbu qbt qb2 qb0   -- for this text's walks alone
set_option linter.unusedVariables false
set_option linter.unusedSimpArgs false
mutual
def burgageref22_sorted.l0 : Nat → List (S55) → List (S55) → Option ((List (S55)))
 | 0, _, _ => none
 | k + 1, x3, x4 => if (x4.length : Int) > 0 then (burgageref22_sorted.l1 k x3 x4 0 0) else (some x3)
def burgageref22_sorted.l1 : Nat → List (S55) → List (S55) → Int → Int → Option ((List (S55)))
 | 0, _, _, _, _ => none
 | k + 1, x3, x4, x5, x6 => if x6 < (x4.length : Int) then (if 0 ≤ x6 then (if 0 ≤ x5 then (if x5 < (x4.length : Int) then (if ((qab x4 x6).f1) < ((qab x4 x5).f1) then (burgageref22_sorted.l1 k x3 x4 x6 (wrap64 (x6 + 1))) else (burgageref22_sorted.l1 k x3 x4 x5 (wrap64 (x6 + 1)))) else (none)) else (none)) else (none)) else (if 0 ≤ x5 then (if x5 < (x4.length : Int) then (if x3.length < 2932031007402 then ((some (([] : List (S55)) : List (S55))).bind fun y165 => (if x5 ≤ (x4.length : Int) then ((some (x4.take (x5 : Int).toNat : List (S55))).bind fun y168 => (if y165.length + y168.length < 2932031007402 then ((some (y165 ++ y168 : List (S55))).bind fun y173 => (if 0 ≤ (wrap64 (x5 + 1)) then (if (wrap64 (x5 + 1)) ≤ (x4.length : Int) then ((some (x4.drop ((wrap64 (x5 + 1)) : Int).toNat : List (S55))).bind fun y176 => (if y173.length + y176.length < 2932031007402 then (burgageref22_sorted.l0 k (x3 ++ [(⟨(qab x4 x5).f0, (qab x4 x5).f1, (qab x4 x5).f2, (qab x4 x5).f3⟩ : S55)]) (y173 ++ y176)) else (none))) else (none)) else (none))) else (none))) else (none))) else (none)) else (none)) else (none))
end
def burgageref22_sorted.f (k : Nat) (l0 : List (S55)) : Option ((List (S55))) := (some (([] : List (S55)) : List (S55))).bind fun y153 => (if y153.length + l0.length < 2932031007402 then (burgageref22_sorted.l0 k (([] : List (S55))) (y153 ++ l0)) else (none))
theorem burgageref22_sorted.mono_l : ∀ k, (∀ y0 y1, LeO (burgageref22_sorted.l0 k y0 y1) (burgageref22_sorted.l0 (k + 1) y0 y1)) ∧ (∀ y0 y1 y2 y3, LeO (burgageref22_sorted.l1 k y0 y1 y2 y3) (burgageref22_sorted.l1 (k + 1) y0 y1 y2 y3))
 | 0 => ⟨fun _ _ r h => by simp [burgageref22_sorted.l0] at h, fun _ _ _ _ r h => by simp [burgageref22_sorted.l1] at h⟩
 | k + 1 => by
  obtain ⟨ih0, ih1⟩ := burgageref22_sorted.mono_l k
  refine ⟨?_, ?_⟩
  ·intro y0 y1
   unfold burgageref22_sorted.l0
   repeat' first
   | (with_reducible exact ih0 _ _)
   | (with_reducible exact ih1 _ _ _ _)
   | (with_reducible exact LeO.refl _)
   | (with_reducible exact LeO.none _)
   | (with_reducible refine LeO.ite ?_ ?_)
   | (with_reducible refine LeO.bind ?_ (fun _ => ?_))
   | exact ih0 _ _
   | exact ih1 _ _ _ _
   | exact LeO.none _
   | refine LeO.ite ?_ ?_
   | refine LeO.bind ?_ (fun _ => ?_)
  ·intro y0 y1 y2 y3
   unfold burgageref22_sorted.l1
   repeat' first
   | (with_reducible exact ih0 _ _)
   | (with_reducible exact ih1 _ _ _ _)
   | (with_reducible exact LeO.refl _)
   | (with_reducible exact LeO.none _)
   | (with_reducible refine LeO.ite ?_ ?_)
   | (with_reducible refine LeO.bind ?_ (fun _ => ?_))
   | exact ih0 _ _
   | exact ih1 _ _ _ _
   | exact LeO.none _
   | refine LeO.ite ?_ ?_
   | refine LeO.bind ?_ (fun _ => ?_)
theorem burgageref22_sorted.mono : ∀ a0 k, LeO (burgageref22_sorted.f k a0) (burgageref22_sorted.f (k + 1) a0) := by
 intro a0 k
 obtain ⟨ih0, ih1⟩ := burgageref22_sorted.mono_l k
 unfold burgageref22_sorted.f
 repeat' first
   | (with_reducible exact ih0 _ _)
   | (with_reducible exact ih1 _ _ _ _)
   | (with_reducible exact LeO.refl _)
   | (with_reducible exact LeO.none _)
   | (with_reducible refine LeO.ite ?_ ?_)
   | (with_reducible refine LeO.bind ?_ (fun _ => ?_))
   | exact ih0 _ _
   | exact ih1 _ _ _ _
   | exact LeO.none _
   | refine LeO.ite ?_ ?_
   | refine LeO.bind ?_ (fun _ => ?_)
def burgageref22_sorted.T8 : Bool × List (List Nat × List Nat) := (true, [([], []), ([], []), ([0, 1], [0, 1]), ([2], [2]), ([3], [3]), ([], []), ([], []), ([5, 6], [5, 6]), ([7], [7]), ([8], [8]), ([4, 9], [4, 9])])
def burgageref22_sorted.B8 : List Nat := [0, 0, 3, 7, 15, 0, 0, 96, 224, 480, 1023]
theorem burgageref22_sorted.tab8 : rtab .any (opsOf Try.f43 8) = burgageref22_sorted.T8 := by kernel_rfl
theorem burgageref22_sorted.bits8 : waitsOk burgageref22_sorted.T8.2 burgageref22_sorted.B8 = true := by kernel_rfl
def burgageref22_sorted.T11 : Bool × List (List Nat × List Nat) := (true, [([], []), ([], []), ([], []), ([1, 2], [1, 2]), ([0, 3], [0, 3]), ([], []), ([], []), ([6], [6]), ([5, 7], [5, 7]), ([4, 8, 4], [4, 8]), ([9, 9, 0, 1, 2, 3, 4, 5, 6, 7, 8, 9], [1, 5, 9])])
def burgageref22_sorted.B11 : List Nat := [0, 0, 0, 6, 15, 0, 0, 64, 224, 511, 1023]
theorem burgageref22_sorted.tab11 : rtab .any (opsOf Try.f43 11) = burgageref22_sorted.T11 := by kernel_rfl
theorem burgageref22_sorted.bits11 : waitsOk burgageref22_sorted.T11.2 burgageref22_sorted.B11 = true := by kernel_rfl
set_option maxHeartbeats 8000000 in
set_option maxRecDepth 100000 in
theorem burgageref22_sorted.calls (k : Nat) (P0_ : Nat → Prop) (A0 : Option Addr) (c0 : Nat) (l0 : List (S55)) (r : List (S55)) (w : World) (hs0 : Kd.V k55 55 w w.heap.size (fun k_ => P0_ k_) (.slice A0 l0.length c0) l0) (h : burgageref22_sorted.f k l0 = some r) :
  Calls Try.prog 43 #[.slice A0 l0.length c0] w fun e w' => ∃ v0_ : Value, e = .returned (v0_) ∧ Kd.N k55 55 w' w.heap.size (fun k_ => (P0_ k_ ∨ w.heap.size ≤ k_)) v0_ r ∧ Below w.heap.size w w' := by
 have hu55 := Try.underlying55
 have HO0 := Aside0.mk (show Kd.V k55 55 w w.heap.size (fun k_ => (P0_ k_ ∨ w.heap.size ≤ k_)) (.slice A0 l0.length c0) l0 from Kd.V_mono hs0 (fun k_ hk => .inl hk))
 have HB := Aside0.mk (Below.refl w.heap.size w)
 have H : ((some (([] : List (S55)) : List (S55))).bind fun y153 => (if y153.length + l0.length < 2932031007402 then (burgageref22_sorted.l0 k (([] : List (S55))) (y153 ++ l0)) else (none))) = some r := h
 clear h
 obtain ⟨y150, hy150⟩ : ∃ y_ : List (S55), y_ = (([] : List (S55))) := ⟨_, rfl⟩
 replace H : ((some (([] : List (S55)) : List (S55))).bind fun y153 => (if y153.length + l0.length < 2932031007402 then (burgageref22_sorted.l0 k y150 (y153 ++ l0)) else (none))) = some r := by first | (rw [hy150]; with_reducible exact H) | (have H2_ := (Option.bind_some _ _).symm.trans H; rw [hy150]; with_reducible exact H2_) | (have H2_ := (Option.bind_some _ _).symm.trans H; with_reducible exact H2_) | with_reducible exact H | (rw [hy150]; exact H) | exact H
 have Ny150 := Aside0.mk hy150
 clear hy150
 obtain ⟨y153, hy153⟩ : ∃ y_ : List (S55), y_ = (([] : List (S55))) := ⟨_, rfl⟩
 replace H : (if y153.length + l0.length < 2932031007402 then (burgageref22_sorted.l0 k y150 (y153 ++ l0)) else (none)) = some r := by first | (rw [hy153]; with_reducible exact H) | (have H2_ := (Option.bind_some _ _).symm.trans H; rw [hy153]; with_reducible exact H2_) | (have H2_ := (Option.bind_some _ _).symm.trans H; with_reducible exact H2_) | with_reducible exact H | (rw [hy153]; exact H) | exact H
 have Ny153 := Aside0.mk hy153
 clear hy153
 by_cases c2 : y153.length + l0.length < 2932031007402
 ·rw [if_pos c2] at H
  have LMc2 := Aside0.mk c2
  clear c2
  obtain ⟨y156, hy156⟩ : ∃ y_ : List (S55), y_ = (y153 ++ l0) := ⟨_, rfl⟩
  replace H : (burgageref22_sorted.l0 k y150 y156) = some r := by first | (rw [hy156]; with_reducible exact H) | (have H2_ := (Option.bind_some _ _).symm.trans H; rw [hy156]; with_reducible exact H2_) | (have H2_ := (Option.bind_some _ _).symm.trans H; with_reducible exact H2_) | with_reducible exact H | (rw [hy156]; exact H) | exact H
  have Ny156 := Aside0.mk hy156
  clear hy156
  have H' := Aside0.mk H
  clear H
  go_enter Try.func43, Try.ntmps43
  go_wp2_with (first | ((with_reducible refine qau (N := 7) rfl ?_); refine Kd.N_lit k55 _ 55 ?hg (N' := 7) ?hd (xs := ([] : List (S55))) (inner := []) (ok := (fun k_ => (P0_ k_ ∨ w.heap.size ≤ k_))) (okp := (fun k_ => (P0_ k_ ∨ w.heap.size ≤ k_))) ?hr ?hp (fun _ hk => hk) ((show ∀ k_, w.heap.size ≤ k_ → (fun k_ => (P0_ k_ ∨ w.heap.size ≤ k_)) k_ from fun k_ hk => (.inr (Nat.le_trans (qal (by repeat (first | (with_reducible first | exact HB.out | apply qac | apply qaa | apply qad) | exact HB.out))) hk))) _ (Nat.le_refl _)) (Below.refl _ _) (Nat.le_refl _) (by simp) ?_; (case hd => rfl); (case hg => rfl); (case hr => first | (go_simp; done) | (go_simp; rfl)); (case hp => exact (Reps.none _ _)); intro v151 w3 ho4 hb hg_ hnew_; clear hg_ hnew_; (first | rw [← Ny150.out] at ho4 | (simp only [Int.reduceToNat] at ho4; rw [← Ny150.out] at ho4)); have n0_ := Aside0.mk (Kd.V_elder' (by (with_reducible repeat (first | apply Kd.V_alloc | apply Kd.V_drewN | apply Kd.V_drew)); exact HO0.out) (Kd.N_base ho4) hb); have n1_ := Aside0.mk (Kd.N_lower ho4 (qal (by repeat (first | (with_reducible first | exact HB.out | apply qac | apply qaa | apply qad) | exact HB.out)))); have n2_ := Aside0.mk (qam (by repeat (first | (with_reducible first | exact HB.out | apply qac | apply qaa | apply qad) | exact HB.out)) hb); clear HO0; clear HB; have HO0 := n0_; have HO152 := n1_; have HB := n2_; clear n0_ n1_ n2_; clear hb ho4) | ((with_reducible refine qau (N := 8) rfl ?_); refine Kd.N_lit k55 _ 55 ?hg (N' := 8) ?hd (xs := ([] : List (S55))) (inner := []) (ok := (fun k_ => (P0_ k_ ∨ w.heap.size ≤ k_) ∧ some k_ ≠ (v151 : Value).ownBlock)) (okp := (fun k_ => (P0_ k_ ∨ w.heap.size ≤ k_) ∧ some k_ ≠ (v151 : Value).ownBlock)) ?hr ?hp (fun _ hk => hk) ((show ∀ k_, w3.heap.size ≤ k_ → (fun k_ => (P0_ k_ ∨ w.heap.size ≤ k_) ∧ some k_ ≠ (v151 : Value).ownBlock) k_ from fun k_ hk => ⟨(.inr (Nat.le_trans (qal (by repeat (first | (with_reducible first | exact HB.out | apply qac | apply qaa | apply qad) | exact HB.out))) hk)), Kd.fresh' (Kd.N_lt (by (with_reducible repeat (first | apply Kd.N_alloc | apply Kd.N_drewN | apply Kd.N_drew)); exact HO152.out)) k_ hk⟩) _ (Nat.le_refl _)) (Below.refl _ _) (Nat.le_refl _) (by simp) ?_; (case hd => rfl); (case hg => rfl); (case hr => first | (go_simp; done) | (go_simp; rfl)); (case hp => exact (Reps.none _ _)); intro v154 w5 ho6 hb hg_ hnew_; clear hg_ hnew_; (first | rw [← Ny153.out] at ho6 | (simp only [Int.reduceToNat] at ho6; rw [← Ny153.out] at ho6)); have n0_ := Aside0.mk (Kd.V_elder' (by (with_reducible repeat (first | apply Kd.V_alloc | apply Kd.V_drewN | apply Kd.V_drew)); exact HO0.out) (Kd.N_base ho6) hb); have n1_ := Aside0.mk (Kd.N_elder' (by (with_reducible repeat (first | apply Kd.N_alloc | apply Kd.N_drewN | apply Kd.N_drew)); exact HO152.out) (Kd.N_base ho6) hb); have n2_ := Aside0.mk (Kd.N_lower ho6 (qal (by repeat (first | (with_reducible first | exact HB.out | apply qac | apply qaa | apply qad) | exact HB.out)))); have n3_ := Aside0.mk (qam (by repeat (first | (with_reducible first | exact HB.out | apply qac | apply qaa | apply qad) | exact HB.out)) hb); clear HO0; clear HO152; clear HB; have HO0 := n0_; have HO152 := n1_; have HO155 := n2_; have HB := n3_; clear n0_ n1_ n2_ n3_; clear hb ho6) | ((with_reducible refine gate_builtin (b := .append) (xs := #[.tmp 8, .tmp 9]) rfl ?_); at_builtin; refine Kd.N_append_rows k55 (w0 := w) w.heap.size rfl (.tmp 8) (.tmp 9) 22 55 (.agg #[(.int .i64 0), (.int .i64 0), (.int .i64 0), (.slice none 0 0)]) 48 rfl Try.underlying22 info55 rfl (by decide) (by omega) v154 y153 l0 _ _ _ (fun k_ => (P0_ k_ ∨ w.heap.size ≤ k_) ∧ some k_ ≠ (v151 : Value).ownBlock) (fun k_ => ((fun k_ => (P0_ k_ ∨ w.heap.size ≤ k_) ∧ some k_ ≠ (v151 : Value).ownBlock)) k_ ∧ some k_ ≠ (v154 : Value).ownBlock) rfl rfl ?aO ?aR (fun _ hk => hk) ?aF ?aB ?aS ?aL ?_; (case aR => exact (by skip; exact Kd.V_F (Kd.V_mono (ok' := (fun k_ => ((fun k_ => (P0_ k_ ∨ w.heap.size ≤ k_) ∧ some k_ ≠ (v151 : Value).ownBlock)) k_ ∧ some k_ ≠ (v154 : Value).ownBlock)) (HO0.out) (fun k_ hk => ⟨⟨hk.1.1, hk.1.2⟩, hk.2⟩)))); (case aB => exact (by repeat (first | (with_reducible first | exact HB.out | apply qac | apply qaa | apply qad) | exact HB.out))); (case aF => exact (fun k_ hk => ⟨(.inr (Nat.le_trans (qal (by repeat (first | (with_reducible first | exact HB.out | apply qac | apply qaa | apply qad) | exact HB.out))) hk)), Kd.fresh' (Kd.N_lt (by (with_reducible repeat (first | apply Kd.N_alloc | apply Kd.N_drewN | apply Kd.N_drew)); exact HO152.out)) k_ hk⟩)); (case aO => exact (by (with_reducible repeat (first | apply Kd.N_alloc | apply Kd.N_drewN | apply Kd.N_drew)); exact HO155.out)); (case aS => exact (qal (by repeat (first | (with_reducible first | exact HB.out | apply qac | apply qaa | apply qad) | exact HB.out)))); (case aL => have := LMc2.out; omega); intro v157 w7 ho hb hg hat; rw [← Ny156.out] at ho; have n0_ := Aside0.mk (Kd.V_afterv (ok := (fun k_ => (P0_ k_ ∨ w.heap.size ≤ k_) ∧ some k_ ≠ (v151 : Value).ownBlock)) (by (with_reducible repeat (first | apply Kd.V_alloc | apply Kd.V_drewN | apply Kd.V_drew)); exact HO0.out) hg hat); have n1_ := Aside0.mk (Kd.N_afterv (ok := (fun k_ => (P0_ k_ ∨ w.heap.size ≤ k_))) (by (with_reducible repeat (first | apply Kd.N_alloc | apply Kd.N_drewN | apply Kd.N_drew)); exact HO152.out) hg hat); have n2_ := Aside0.mk (hb); have n3_ := Aside0.mk (ho); clear HO0; clear HO152; clear HB; clear HO155; have HO0 := n0_; have HO152 := n1_; have HB := n2_; have HO158 := n3_; clear n0_ n1_ n2_ n3_; clear ho hb hg hat))
  go_loopg [3, 4] k (fun kq v3 v4 w' => ∃ (x3_1 : List (S55)) (x4_1 : List (S55)), Aside0 (burgageref22_sorted.l0 kq x3_1 x4_1 = some r) ∧ Aside0 (kq ≤ k) ∧ Aside0 (Kd.N k55 55 w' w.heap.size (fun k_ => (P0_ k_ ∨ w.heap.size ≤ k_) ∧ some k_ ≠ (v4 : Value).ownBlock) v3 x3_1) ∧ Aside0 (Kd.N k55 55 w' w.heap.size (fun k_ => (P0_ k_ ∨ w.heap.size ≤ k_) ∧ some k_ ≠ (v3 : Value).ownBlock) v4 x4_1) ∧ Aside0 (Below w.heap.size w w'))
  case atStart => exact ⟨(y150), (y156), H', ⟨Nat.le_refl _⟩, ⟨by (with_reducible repeat (first | apply Kd.N_alloc | apply Kd.N_drewN | apply Kd.N_drew)); exact HO152.out⟩, ⟨by (with_reducible repeat (first | apply Kd.N_alloc | apply Kd.N_drewN | apply Kd.N_drew)); exact HO158.out⟩, ⟨by repeat (first | (with_reducible first | exact HB.out | apply qac | apply qaa | apply qad) | exact HB.out)⟩⟩
  case round =>
   clear H'
   try clear c2
   try clear p2
   try clear c4
   obtain ⟨x3_1, x4_1, HA, HK1, HO_3, HO_4, HB⟩ := hrel
   cases gk with
   | zero => exact absurd HA.out (by simp [burgageref22_sorted.l0])
   | succ k1 =>
    have H := HA.out
    clear HA
    simp only [burgageref22_sorted.l0] at H
    by_cases c8 : (x4_1.length : Int) > 0
    ·rw [if_pos c8] at H
     have c8b0 : decide (0 < (x4_1.length : Int)) = true := decide_eq_true c8
     have c8b1 : decide (0 < x4_1.length) = true := decide_eq_true (by omega)
     clear c8
     have H' := Aside0.mk H
     clear H
     obtain ⟨Ao9, co9, eo9⟩ := Kd.N_slice HO_4.out
     subst eo9
     go_wp2
     go_loopg [5, 6] k1 (fun kq v5 v6 w' => ∃ (x5_2 : Int) (x6_2 : Int), v5 = .int .i64 x5_2 ∧ v6 = .int .i64 x6_2 ∧ Aside0 (burgageref22_sorted.l1 kq x3_1 x4_1 x5_2 x6_2 = some r) ∧ Aside0 (kq ≤ k1) ∧ Aside0 (Kd.N k55 55 w' w.heap.size (fun k_ => (P0_ k_ ∨ w.heap.size ≤ k_) ∧ some k_ ≠ ((.slice Ao9 x4_1.length co9) : Value).ownBlock) u3 x3_1) ∧ Aside0 (Kd.N k55 55 w' w.heap.size (fun k_ => (P0_ k_ ∨ w.heap.size ≤ k_) ∧ some k_ ≠ (u3 : Value).ownBlock) (.slice Ao9 x4_1.length co9) x4_1) ∧ Aside0 (Below w.heap.size w w'))
     case atStart => exact ⟨(0), (0), (by first | rfl | (simp; done) | (simp [*]; done)), (by first | rfl | (simp; done) | (simp [*]; done)), H', ⟨Nat.le_refl _⟩, ⟨by (with_reducible repeat (first | apply Kd.N_alloc | apply Kd.N_drewN | apply Kd.N_drew)); exact HO_3.out⟩, ⟨by (with_reducible repeat (first | apply Kd.N_alloc | apply Kd.N_drewN | apply Kd.N_drew)); exact HO_4.out⟩, ⟨by repeat (first | (with_reducible first | exact HB.out | apply qac | apply qaa | apply qad) | exact HB.out)⟩⟩
     case round =>
      clear H'
      try clear c2
      try clear p2
      try clear c4
      try clear c8
      try clear c8b0
      try clear c8b1
      try clear p2
      obtain ⟨x5_2, x6_2, rfl, rfl, HA, HK2, HO_3, HO_4, HB⟩ := hrel
      cases gk with
      | zero => exact absurd HA.out (by simp [burgageref22_sorted.l1])
      | succ k2 =>
       have H := HA.out
       clear HA
       simp only [burgageref22_sorted.l1] at H
       by_cases c10 : x6_2 < (x4_1.length : Int)
       ·rw [if_pos c10] at H
        have c10b0 : decide (x6_2 < (x4_1.length : Int)) = true := decide_eq_true c10
        clear c10
        by_cases c11 : 0 ≤ x6_2
        ·rw [if_pos c11] at H
         have c11b0 : decide (0 ≤ x6_2) = true := decide_eq_true c11
         clear c11
         by_cases c12 : 0 ≤ x5_2
         ·rw [if_pos c12] at H
          have c12b0 : decide (0 ≤ x5_2) = true := decide_eq_true c12
          clear c12
          by_cases c13 : x5_2 < (x4_1.length : Int)
          ·rw [if_pos c13] at H
           have c13b0 : decide (x5_2 < (x4_1.length : Int)) = true := decide_eq_true c13
           clear c13
           by_cases c14 : ((qab x4_1 x6_2).f1) < ((qab x4_1 x5_2).f1)
           ·rw [if_pos c14] at H
            have c14b0 : decide (((qab x4_1 x6_2).f1) < ((qab x4_1 x5_2).f1)) = true := decide_eq_true c14
            clear c14
            have H' := Aside0.mk H
            clear H
            try go_wp2
            have n0_ := Aside0.mk (Kd.N_drew HO_3.out)
            have n1_ := Aside0.mk (Kd.N_drew HO_4.out)
            have n2_ := Aside0.mk (qad HB.out)
            clear HO_3
            clear HO_4
            clear HB
            have HO_3 := n0_
            have HO_4 := n1_
            have HB := n2_
            clear n0_ n1_ n2_
            have p159 : 0 ≤ (x6_2 : Int) := of_decide_eq_true (by first | (with_reducible assumption) | assumption)
            have q159 : x6_2 < (x4_1.length : Int) := of_decide_eq_true (by first | (with_reducible assumption) | assumption)
            obtain ⟨ad159, A159_3, c159_3, e159, hx159_0, hx159_1, hx159_2, hx159_3, hl159_3, hi159_3⟩ := qa8 (Kd.N_reads' HO_4.out).2.2 x6_2 p159 q159
            cases e159
            obtain ⟨ce159, hce159, hMe159, hcc159⟩ := Kd.N_get HO_4.out z55 x6_2 p159 (by first | exact q159 | exact of_decide_eq_true (by first | (with_reducible assumption) | assumption) | (have e_ := (Kd.N_reads' HO_4.out).1; omega))
            obtain ⟨ua159_3, uc159_3, rfl, ul159_3, ge159_3⟩ := qbo hMe159
            have hv159_3 := hcc159 3 _ rfl
            rw [qax _ _ 3 (by omega)] at hv159_3
            replace hv159_3 := Option.some.inj (hv159_3.symm.trans hx159_3)
            injection hv159_3 with hva_ hvn_ hvc_
            rw [hva_] at ge159_3
            rw [hvc_] at ul159_3
            have HL159_3 := Aside0.mk (show Kd.V k51 51 _ w.heap.size _ _ ((qab x4_1 x6_2).f3) from Kd.V_mk ul159_3 ge159_3)
            clear hva_ hvn_ hvc_ ge159_3 ul159_3
            clear hcc159 hce159
            have HR159_3 := Aside0.mk hi159_3
            have HC159_3 := Aside0.mk hl159_3
            clear hi159_3 hl159_3
            replace p159 := eq_true p159
            replace q159 := eq_true q159
            have p160 : 0 ≤ (x5_2 : Int) := of_decide_eq_true (by first | (with_reducible assumption) | assumption)
            have q160 : x5_2 < (x4_1.length : Int) := of_decide_eq_true (by first | (with_reducible assumption) | assumption)
            obtain ⟨ad160, A160_3, c160_3, e160, hx160_0, hx160_1, hx160_2, hx160_3, hl160_3, hi160_3⟩ := qa8 (Kd.N_reads' HO_4.out).2.2 x5_2 p160 q160
            obtain rfl : ad159 = ad160 := (by injection e160)
            obtain ⟨ce160, hce160, hMe160, hcc160⟩ := Kd.N_get HO_4.out z55 x5_2 p160 (by first | exact q160 | exact of_decide_eq_true (by first | (with_reducible assumption) | assumption) | (have e_ := (Kd.N_reads' HO_4.out).1; omega))
            obtain ⟨ua160_3, uc160_3, rfl, ul160_3, ge160_3⟩ := qbo hMe160
            have hv160_3 := hcc160 3 _ rfl
            rw [qax _ _ 3 (by omega)] at hv160_3
            replace hv160_3 := Option.some.inj (hv160_3.symm.trans hx160_3)
            injection hv160_3 with hva_ hvn_ hvc_
            rw [hva_] at ge160_3
            rw [hvc_] at ul160_3
            have HL160_3 := Aside0.mk (show Kd.V k51 51 _ w.heap.size _ _ ((qab x4_1 x5_2).f3) from Kd.V_mk ul160_3 ge160_3)
            clear hva_ hvn_ hvc_ ge160_3 ul160_3
            clear hcc160 hce160
            have HR160_3 := Aside0.mk hi160_3
            have HC160_3 := Aside0.mk hl160_3
            clear hi160_3 hl160_3
            replace p160 := eq_true p160
            replace q160 := eq_true q160
            refine start_ (n := 11) (S := fun w' => w'.cell? (ad159.add ((x6_2).toNat * 4)) = some (.int .i64 ((qab x4_1 x6_2).f0)) ∧ w'.cell? ⟨(ad159.add ((x6_2).toNat * 4)).block, (ad159.add ((x6_2).toNat * 4)).off + 1, none⟩ = some (.int .i64 ((qab x4_1 x6_2).f1)) ∧ w'.cell? ⟨(ad159.add ((x6_2).toNat * 4)).block, (ad159.add ((x6_2).toNat * 4)).off + 2, none⟩ = some (.int .i64 ((qab x4_1 x6_2).f2)) ∧ w'.cell? ⟨(ad159.add ((x6_2).toNat * 4)).block, (ad159.add ((x6_2).toNat * 4)).off + 3, none⟩ = some (.slice A159_3 ((qab x4_1 x6_2).f3).length c159_3) ∧ w'.cell? (ad159.add ((x5_2).toNat * 4)) = some (.int .i64 ((qab x4_1 x5_2).f0)) ∧ w'.cell? ⟨(ad159.add ((x5_2).toNat * 4)).block, (ad159.add ((x5_2).toNat * 4)).off + 1, none⟩ = some (.int .i64 ((qab x4_1 x5_2).f1)) ∧ w'.cell? ⟨(ad159.add ((x5_2).toNat * 4)).block, (ad159.add ((x5_2).toNat * 4)).off + 2, none⟩ = some (.int .i64 ((qab x4_1 x5_2).f2)) ∧ w'.cell? ⟨(ad159.add ((x5_2).toNat * 4)).block, (ad159.add ((x5_2).toNat * 4)).off + 3, none⟩ = some (.slice A160_3 ((qab x4_1 x5_2).f3).length c160_3)) (ds := []) #[false, false, false, false, false, false, false, false, false, false, false] (by kernel_rfl) rfl rfl ⟨hx159_0, hx159_1, hx159_2, hx159_3, hx160_0, hx160_1, hx160_2, hx160_3⟩ (fun hHeld => ?_); refine with_tabW burgageref22_sorted.tab8 burgageref22_sorted.bits8 (fun HT_ HW_ => ?_)
            generalize wr.drew = w15 at HO_3 HO_4 HB HL159_3 HL160_3 HR159_3 HR160_3 hx159_0 hx159_1 hx159_2 hx159_3 hx160_0 hx160_1 hx160_2 hx160_3 hHeld ⊢
            refine qbq (i := 0) (N := some 20) (v := ?_) (a' := ?_) #[true, false, false, false, false, false, false, false, false, false, false] rfl rfl (qbe HT_.out (by kernel_rfl)) (fun _ _ _ h => h) (Or.inl ⟨by rfl, ?_⟩) ?_ ?_
            rotate_left
            ·intro w'
             go_simp
             with_reducible rfl
            rotate_left
            ·simp only [Act.put, List.setIfInBounds_toArray, List.set_cons_zero, List.set_cons_succ, qbb, qbc]
             rfl
            refine qbq (i := 1) (N := some 21) (v := ?_) (a' := ?_) #[true, true, false, false, false, false, false, false, false, false, false] rfl rfl (qbe HT_.out (by kernel_rfl)) (fun _ _ _ h => h) (Or.inl ⟨by rfl, ?_⟩) ?_ ?_
            rotate_left
            ·intro w'
             go_simp
             with_reducible rfl
            rotate_left
            ·simp only [Act.put, List.setIfInBounds_toArray, List.set_cons_zero, List.set_cons_succ, qbb, qbc]
             rfl
            refine qbq (i := 2) (N := some 22) (v := ?_) (a' := ?_) #[true, true, true, false, false, false, false, false, false, false, false] rfl rfl (qbe HT_.out (by kernel_rfl)) (fun _ _ _ h => h) (Or.inl ⟨by rfl, ?_⟩) ?_ ?_
            rotate_left
            ·intro w'
             go_simp
             with_reducible rfl
            rotate_left
            ·simp only [Act.put, List.setIfInBounds_toArray, List.set_cons_zero, List.set_cons_succ, qbb, qbc]
             rfl
            refine qbq (i := 3) (N := some 23) (v := ?_) (a' := ?_) #[true, true, true, true, false, false, false, false, false, false, false] rfl rfl (qbe HT_.out (by kernel_rfl)) (fun _ _ _ h => h) (Or.inl ⟨by rfl, ?_⟩) ?_ ?_
            rotate_left
            ·intro w'
             go_simp
             with_reducible rfl
            rotate_left
            ·simp only [Act.put, List.setIfInBounds_toArray, List.set_cons_zero, List.set_cons_succ, qbb, qbc]
             rfl
            refine qbq (i := 5) (N := some 25) (v := ?_) (a' := ?_) #[true, true, true, true, false, true, false, false, false, false, false] rfl rfl (qbe HT_.out (by kernel_rfl)) (fun _ _ _ h => h) (Or.inl ⟨by rfl, ?_⟩) ?_ ?_
            rotate_left
            ·intro w'
             go_simp
             with_reducible rfl
            rotate_left
            ·simp only [Act.put, List.setIfInBounds_toArray, List.set_cons_zero, List.set_cons_succ, qbb, qbc]
             rfl
            refine qbq (i := 6) (N := some 26) (v := ?_) (a' := ?_) #[true, true, true, true, false, true, true, false, false, false, false] rfl rfl (qbe HT_.out (by kernel_rfl)) (fun _ _ _ h => h) (Or.inl ⟨by rfl, ?_⟩) ?_ ?_
            rotate_left
            ·intro w'
             go_simp
             with_reducible rfl
            rotate_left
            ·simp only [Act.put, List.setIfInBounds_toArray, List.set_cons_zero, List.set_cons_succ, qbb, qbc]
             rfl
            refine qbq (i := 7) (N := some 27) (v := ?_) (a' := ?_) #[true, true, true, true, false, true, true, true, false, false, false] rfl rfl (qbe HT_.out (by kernel_rfl)) (fun _ _ _ h => h) (Or.inl ⟨by rfl, ?_⟩) ?_ ?_
            rotate_left
            ·intro w'
             go_simp
             with_reducible rfl
            rotate_left
            ·simp only [Act.put, List.setIfInBounds_toArray, List.set_cons_zero, List.set_cons_succ, qbb, qbc]
             rfl
            refine qbq (i := 8) (N := some 28) (v := ?_) (a' := ?_) #[true, true, true, true, false, true, true, true, true, false, false] rfl rfl (qbe HT_.out (by kernel_rfl)) (fun _ _ _ h => h) (Or.inl ⟨by rfl, ?_⟩) ?_ ?_
            rotate_left
            ·intro w'
             go_simp
             with_reducible rfl
            rotate_left
            ·simp only [Act.put, List.setIfInBounds_toArray, List.set_cons_zero, List.set_cons_succ, qbb, qbc]
             rfl
            refine take_ (i := 4) (N := some 24) (v := ?_) (a' := ?_) #[true, true, true, true, true, true, true, true, true, false, false] rfl rfl (take_ofW HT_.out HW_.out (by kernel_rfl)) (fun _ _ _ h => h) (Or.inl ⟨by rfl, ?_⟩) hHeld ?_ ?_
            rotate_left
            ·rintro w' ⟨s0, s1, s2, s3, s4, s5, s6, s7⟩
             go_simp
             with_reducible rfl
            rotate_left
            ·simp only [Act.put, List.setIfInBounds_toArray, List.set_cons_zero, List.set_cons_succ, qbb, qbc]
             rfl
            refine take_ (i := 9) (N := some 29) (v := ?_) (a' := ?_) #[true, true, true, true, true, true, true, true, true, true, false] rfl rfl (take_ofW HT_.out HW_.out (by kernel_rfl)) (fun _ _ _ h => h) (Or.inl ⟨by rfl, ?_⟩) hHeld ?_ ?_
            rotate_left
            ·rintro w' ⟨s0, s1, s2, s3, s4, s5, s6, s7⟩
             go_simp
             with_reducible rfl
            rotate_left
            ·simp only [Act.put, List.setIfInBounds_toArray, List.set_cons_zero, List.set_cons_succ, qbb, qbc]
             rfl
            refine qbq (i := 10) (N := some 30) (v := ?_) (a' := ?_) #[true, true, true, true, true, true, true, true, true, true, true] rfl rfl (qbe HT_.out (by kernel_rfl)) (fun _ _ _ h => h) (Or.inl ⟨by rfl, ?_⟩) ?_ ?_
            rotate_left
            ·intro w'
             go_simp
             with_reducible rfl
            rotate_left
            ·simp only [Act.put, List.setIfInBounds_toArray, List.set_cons_zero, List.set_cons_succ, qbb, qbc]
             rfl
            refine done_ (done_of HT_.out (by kernel_rfl)) ?_
            try go_wp2
            go_roundg k2
            case measure => have := HK1.out; have := HK2.out; omega
            case rel => exact ⟨(x6_2), (wrap64 (x6_2 + 1)), (by first | rfl | (simp; done) | (simp [*]; done)), (by first | rfl | (simp; done) | (simp [*]; done)), H', ⟨by have := HK1.out; have := HK2.out; omega⟩, ⟨by (with_reducible repeat (first | apply Kd.N_alloc | apply Kd.N_drewN | apply Kd.N_drew)); exact HO_3.out⟩, ⟨by (with_reducible repeat (first | apply Kd.N_alloc | apply Kd.N_drewN | apply Kd.N_drew)); exact HO_4.out⟩, ⟨by repeat (first | (with_reducible first | exact HB.out | apply qac | apply qaa | apply qad) | exact HB.out)⟩⟩
           ·rw [if_neg c14] at H
            have c14b0 : decide (((qab x4_1 x6_2).f1) < ((qab x4_1 x5_2).f1)) = false := decide_eq_false c14
            clear c14
            have H' := Aside0.mk H
            clear H
            try go_wp2
            have n0_ := Aside0.mk (Kd.N_drew HO_3.out)
            have n1_ := Aside0.mk (Kd.N_drew HO_4.out)
            have n2_ := Aside0.mk (qad HB.out)
            clear HO_3
            clear HO_4
            clear HB
            have HO_3 := n0_
            have HO_4 := n1_
            have HB := n2_
            clear n0_ n1_ n2_
            have p159 : 0 ≤ (x6_2 : Int) := of_decide_eq_true (by first | (with_reducible assumption) | assumption)
            have q159 : x6_2 < (x4_1.length : Int) := of_decide_eq_true (by first | (with_reducible assumption) | assumption)
            obtain ⟨ad159, A159_3, c159_3, e159, hx159_0, hx159_1, hx159_2, hx159_3, hl159_3, hi159_3⟩ := qa8 (Kd.N_reads' HO_4.out).2.2 x6_2 p159 q159
            cases e159
            obtain ⟨ce159, hce159, hMe159, hcc159⟩ := Kd.N_get HO_4.out z55 x6_2 p159 (by first | exact q159 | exact of_decide_eq_true (by first | (with_reducible assumption) | assumption) | (have e_ := (Kd.N_reads' HO_4.out).1; omega))
            obtain ⟨ua159_3, uc159_3, rfl, ul159_3, ge159_3⟩ := qbo hMe159
            have hv159_3 := hcc159 3 _ rfl
            rw [qax _ _ 3 (by omega)] at hv159_3
            replace hv159_3 := Option.some.inj (hv159_3.symm.trans hx159_3)
            injection hv159_3 with hva_ hvn_ hvc_
            rw [hva_] at ge159_3
            rw [hvc_] at ul159_3
            have HL159_3 := Aside0.mk (show Kd.V k51 51 _ w.heap.size _ _ ((qab x4_1 x6_2).f3) from Kd.V_mk ul159_3 ge159_3)
            clear hva_ hvn_ hvc_ ge159_3 ul159_3
            clear hcc159 hce159
            have HR159_3 := Aside0.mk hi159_3
            have HC159_3 := Aside0.mk hl159_3
            clear hi159_3 hl159_3
            replace p159 := eq_true p159
            replace q159 := eq_true q159
            have p160 : 0 ≤ (x5_2 : Int) := of_decide_eq_true (by first | (with_reducible assumption) | assumption)
            have q160 : x5_2 < (x4_1.length : Int) := of_decide_eq_true (by first | (with_reducible assumption) | assumption)
            obtain ⟨ad160, A160_3, c160_3, e160, hx160_0, hx160_1, hx160_2, hx160_3, hl160_3, hi160_3⟩ := qa8 (Kd.N_reads' HO_4.out).2.2 x5_2 p160 q160
            obtain rfl : ad159 = ad160 := (by injection e160)
            obtain ⟨ce160, hce160, hMe160, hcc160⟩ := Kd.N_get HO_4.out z55 x5_2 p160 (by first | exact q160 | exact of_decide_eq_true (by first | (with_reducible assumption) | assumption) | (have e_ := (Kd.N_reads' HO_4.out).1; omega))
            obtain ⟨ua160_3, uc160_3, rfl, ul160_3, ge160_3⟩ := qbo hMe160
            have hv160_3 := hcc160 3 _ rfl
            rw [qax _ _ 3 (by omega)] at hv160_3
            replace hv160_3 := Option.some.inj (hv160_3.symm.trans hx160_3)
            injection hv160_3 with hva_ hvn_ hvc_
            rw [hva_] at ge160_3
            rw [hvc_] at ul160_3
            have HL160_3 := Aside0.mk (show Kd.V k51 51 _ w.heap.size _ _ ((qab x4_1 x5_2).f3) from Kd.V_mk ul160_3 ge160_3)
            clear hva_ hvn_ hvc_ ge160_3 ul160_3
            clear hcc160 hce160
            have HR160_3 := Aside0.mk hi160_3
            have HC160_3 := Aside0.mk hl160_3
            clear hi160_3 hl160_3
            replace p160 := eq_true p160
            replace q160 := eq_true q160
            refine start_ (n := 11) (S := fun w' => w'.cell? (ad159.add ((x6_2).toNat * 4)) = some (.int .i64 ((qab x4_1 x6_2).f0)) ∧ w'.cell? ⟨(ad159.add ((x6_2).toNat * 4)).block, (ad159.add ((x6_2).toNat * 4)).off + 1, none⟩ = some (.int .i64 ((qab x4_1 x6_2).f1)) ∧ w'.cell? ⟨(ad159.add ((x6_2).toNat * 4)).block, (ad159.add ((x6_2).toNat * 4)).off + 2, none⟩ = some (.int .i64 ((qab x4_1 x6_2).f2)) ∧ w'.cell? ⟨(ad159.add ((x6_2).toNat * 4)).block, (ad159.add ((x6_2).toNat * 4)).off + 3, none⟩ = some (.slice A159_3 ((qab x4_1 x6_2).f3).length c159_3) ∧ w'.cell? (ad159.add ((x5_2).toNat * 4)) = some (.int .i64 ((qab x4_1 x5_2).f0)) ∧ w'.cell? ⟨(ad159.add ((x5_2).toNat * 4)).block, (ad159.add ((x5_2).toNat * 4)).off + 1, none⟩ = some (.int .i64 ((qab x4_1 x5_2).f1)) ∧ w'.cell? ⟨(ad159.add ((x5_2).toNat * 4)).block, (ad159.add ((x5_2).toNat * 4)).off + 2, none⟩ = some (.int .i64 ((qab x4_1 x5_2).f2)) ∧ w'.cell? ⟨(ad159.add ((x5_2).toNat * 4)).block, (ad159.add ((x5_2).toNat * 4)).off + 3, none⟩ = some (.slice A160_3 ((qab x4_1 x5_2).f3).length c160_3)) (ds := []) #[false, false, false, false, false, false, false, false, false, false, false] (by kernel_rfl) rfl rfl ⟨hx159_0, hx159_1, hx159_2, hx159_3, hx160_0, hx160_1, hx160_2, hx160_3⟩ (fun hHeld => ?_); refine with_tabW burgageref22_sorted.tab8 burgageref22_sorted.bits8 (fun HT_ HW_ => ?_)
            generalize wr.drew = w16 at HO_3 HO_4 HB HL159_3 HL160_3 HR159_3 HR160_3 hx159_0 hx159_1 hx159_2 hx159_3 hx160_0 hx160_1 hx160_2 hx160_3 hHeld ⊢
            refine qbq (i := 0) (N := some 20) (v := ?_) (a' := ?_) #[true, false, false, false, false, false, false, false, false, false, false] rfl rfl (qbe HT_.out (by kernel_rfl)) (fun _ _ _ h => h) (Or.inl ⟨by rfl, ?_⟩) ?_ ?_
            rotate_left
            ·intro w'
             go_simp
             with_reducible rfl
            rotate_left
            ·simp only [Act.put, List.setIfInBounds_toArray, List.set_cons_zero, List.set_cons_succ, qbb, qbc]
             rfl
            refine qbq (i := 1) (N := some 21) (v := ?_) (a' := ?_) #[true, true, false, false, false, false, false, false, false, false, false] rfl rfl (qbe HT_.out (by kernel_rfl)) (fun _ _ _ h => h) (Or.inl ⟨by rfl, ?_⟩) ?_ ?_
            rotate_left
            ·intro w'
             go_simp
             with_reducible rfl
            rotate_left
            ·simp only [Act.put, List.setIfInBounds_toArray, List.set_cons_zero, List.set_cons_succ, qbb, qbc]
             rfl
            refine qbq (i := 2) (N := some 22) (v := ?_) (a' := ?_) #[true, true, true, false, false, false, false, false, false, false, false] rfl rfl (qbe HT_.out (by kernel_rfl)) (fun _ _ _ h => h) (Or.inl ⟨by rfl, ?_⟩) ?_ ?_
            rotate_left
            ·intro w'
             go_simp
             with_reducible rfl
            rotate_left
            ·simp only [Act.put, List.setIfInBounds_toArray, List.set_cons_zero, List.set_cons_succ, qbb, qbc]
             rfl
            refine qbq (i := 3) (N := some 23) (v := ?_) (a' := ?_) #[true, true, true, true, false, false, false, false, false, false, false] rfl rfl (qbe HT_.out (by kernel_rfl)) (fun _ _ _ h => h) (Or.inl ⟨by rfl, ?_⟩) ?_ ?_
            rotate_left
            ·intro w'
             go_simp
             with_reducible rfl
            rotate_left
            ·simp only [Act.put, List.setIfInBounds_toArray, List.set_cons_zero, List.set_cons_succ, qbb, qbc]
             rfl
            refine qbq (i := 5) (N := some 25) (v := ?_) (a' := ?_) #[true, true, true, true, false, true, false, false, false, false, false] rfl rfl (qbe HT_.out (by kernel_rfl)) (fun _ _ _ h => h) (Or.inl ⟨by rfl, ?_⟩) ?_ ?_
            rotate_left
            ·intro w'
             go_simp
             with_reducible rfl
            rotate_left
            ·simp only [Act.put, List.setIfInBounds_toArray, List.set_cons_zero, List.set_cons_succ, qbb, qbc]
             rfl
            refine qbq (i := 6) (N := some 26) (v := ?_) (a' := ?_) #[true, true, true, true, false, true, true, false, false, false, false] rfl rfl (qbe HT_.out (by kernel_rfl)) (fun _ _ _ h => h) (Or.inl ⟨by rfl, ?_⟩) ?_ ?_
            rotate_left
            ·intro w'
             go_simp
             with_reducible rfl
            rotate_left
            ·simp only [Act.put, List.setIfInBounds_toArray, List.set_cons_zero, List.set_cons_succ, qbb, qbc]
             rfl
            refine qbq (i := 7) (N := some 27) (v := ?_) (a' := ?_) #[true, true, true, true, false, true, true, true, false, false, false] rfl rfl (qbe HT_.out (by kernel_rfl)) (fun _ _ _ h => h) (Or.inl ⟨by rfl, ?_⟩) ?_ ?_
            rotate_left
            ·intro w'
             go_simp
             with_reducible rfl
            rotate_left
            ·simp only [Act.put, List.setIfInBounds_toArray, List.set_cons_zero, List.set_cons_succ, qbb, qbc]
             rfl
            refine qbq (i := 8) (N := some 28) (v := ?_) (a' := ?_) #[true, true, true, true, false, true, true, true, true, false, false] rfl rfl (qbe HT_.out (by kernel_rfl)) (fun _ _ _ h => h) (Or.inl ⟨by rfl, ?_⟩) ?_ ?_
            rotate_left
            ·intro w'
             go_simp
             with_reducible rfl
            rotate_left
            ·simp only [Act.put, List.setIfInBounds_toArray, List.set_cons_zero, List.set_cons_succ, qbb, qbc]
             rfl
            refine take_ (i := 4) (N := some 24) (v := ?_) (a' := ?_) #[true, true, true, true, true, true, true, true, true, false, false] rfl rfl (take_ofW HT_.out HW_.out (by kernel_rfl)) (fun _ _ _ h => h) (Or.inl ⟨by rfl, ?_⟩) hHeld ?_ ?_
            rotate_left
            ·rintro w' ⟨s0, s1, s2, s3, s4, s5, s6, s7⟩
             go_simp
             with_reducible rfl
            rotate_left
            ·simp only [Act.put, List.setIfInBounds_toArray, List.set_cons_zero, List.set_cons_succ, qbb, qbc]
             rfl
            refine take_ (i := 9) (N := some 29) (v := ?_) (a' := ?_) #[true, true, true, true, true, true, true, true, true, true, false] rfl rfl (take_ofW HT_.out HW_.out (by kernel_rfl)) (fun _ _ _ h => h) (Or.inl ⟨by rfl, ?_⟩) hHeld ?_ ?_
            rotate_left
            ·rintro w' ⟨s0, s1, s2, s3, s4, s5, s6, s7⟩
             go_simp
             with_reducible rfl
            rotate_left
            ·simp only [Act.put, List.setIfInBounds_toArray, List.set_cons_zero, List.set_cons_succ, qbb, qbc]
             rfl
            refine qbq (i := 10) (N := some 30) (v := ?_) (a' := ?_) #[true, true, true, true, true, true, true, true, true, true, true] rfl rfl (qbe HT_.out (by kernel_rfl)) (fun _ _ _ h => h) (Or.inl ⟨by rfl, ?_⟩) ?_ ?_
            rotate_left
            ·intro w'
             go_simp
             with_reducible rfl
            rotate_left
            ·simp only [Act.put, List.setIfInBounds_toArray, List.set_cons_zero, List.set_cons_succ, qbb, qbc]
             rfl
            refine done_ (done_of HT_.out (by kernel_rfl)) ?_
            try go_wp2
            go_roundg k2
            case measure => have := HK1.out; have := HK2.out; omega
            case rel => exact ⟨(x5_2), (wrap64 (x6_2 + 1)), (by first | rfl | (simp; done) | (simp [*]; done)), (by first | rfl | (simp; done) | (simp [*]; done)), H', ⟨by have := HK1.out; have := HK2.out; omega⟩, ⟨by (with_reducible repeat (first | apply Kd.N_alloc | apply Kd.N_drewN | apply Kd.N_drew)); exact HO_3.out⟩, ⟨by (with_reducible repeat (first | apply Kd.N_alloc | apply Kd.N_drewN | apply Kd.N_drew)); exact HO_4.out⟩, ⟨by repeat (first | (with_reducible first | exact HB.out | apply qac | apply qaa | apply qad) | exact HB.out)⟩⟩
          ·rw [if_neg c13] at H
           exact absurd H (by simp)
         ·rw [if_neg c12] at H
          exact absurd H (by simp)
        ·rw [if_neg c11] at H
         exact absurd H (by simp)
       ·rw [if_neg c10] at H
        have c10b0 : decide (x6_2 < (x4_1.length : Int)) = false := decide_eq_false c10
        clear c10
        by_cases c17 : 0 ≤ x5_2
        ·rw [if_pos c17] at H
         have c17b0 : decide (0 ≤ x5_2) = true := decide_eq_true c17
         clear c17
         by_cases c18 : x5_2 < (x4_1.length : Int)
         ·rw [if_pos c18] at H
          have c18b0 : decide (x5_2 < (x4_1.length : Int)) = true := decide_eq_true c18
          clear c18
          by_cases c19 : x3_1.length < 2932031007402
          ·rw [if_pos c19] at H
           have LMc19 := Aside0.mk c19
           clear c19
           obtain ⟨y162, hy162⟩ : ∃ y_ : List (S55), y_ = (x3_1 ++ [(⟨(qab x4_1 x5_2).f0, (qab x4_1 x5_2).f1, (qab x4_1 x5_2).f2, (qab x4_1 x5_2).f3⟩ : S55)]) := ⟨_, rfl⟩
           replace H : ((some (([] : List (S55)) : List (S55))).bind fun y165 => (if x5_2 ≤ (x4_1.length : Int) then ((some (x4_1.take (x5_2 : Int).toNat : List (S55))).bind fun y168 => (if y165.length + y168.length < 2932031007402 then ((some (y165 ++ y168 : List (S55))).bind fun y173 => (if 0 ≤ (wrap64 (x5_2 + 1)) then (if (wrap64 (x5_2 + 1)) ≤ (x4_1.length : Int) then ((some (x4_1.drop ((wrap64 (x5_2 + 1)) : Int).toNat : List (S55))).bind fun y176 => (if y173.length + y176.length < 2932031007402 then (burgageref22_sorted.l0 k2 y162 (y173 ++ y176)) else (none))) else (none)) else (none))) else (none))) else (none))) = some r := by first | (rw [hy162]; with_reducible exact H) | (have H2_ := (Option.bind_some _ _).symm.trans H; rw [hy162]; with_reducible exact H2_) | (have H2_ := (Option.bind_some _ _).symm.trans H; with_reducible exact H2_) | with_reducible exact H | (rw [hy162]; exact H) | exact H
           have Ny162 := Aside0.mk hy162
           clear hy162
           obtain ⟨y165, hy165⟩ : ∃ y_ : List (S55), y_ = (([] : List (S55))) := ⟨_, rfl⟩
           replace H : (if x5_2 ≤ (x4_1.length : Int) then ((some (x4_1.take (x5_2 : Int).toNat : List (S55))).bind fun y168 => (if y165.length + y168.length < 2932031007402 then ((some (y165 ++ y168 : List (S55))).bind fun y173 => (if 0 ≤ (wrap64 (x5_2 + 1)) then (if (wrap64 (x5_2 + 1)) ≤ (x4_1.length : Int) then ((some (x4_1.drop ((wrap64 (x5_2 + 1)) : Int).toNat : List (S55))).bind fun y176 => (if y173.length + y176.length < 2932031007402 then (burgageref22_sorted.l0 k2 y162 (y173 ++ y176)) else (none))) else (none)) else (none))) else (none))) else (none)) = some r := by first | (rw [hy165]; with_reducible exact H) | (have H2_ := (Option.bind_some _ _).symm.trans H; rw [hy165]; with_reducible exact H2_) | (have H2_ := (Option.bind_some _ _).symm.trans H; with_reducible exact H2_) | with_reducible exact H | (rw [hy165]; exact H) | exact H
           have Ny165 := Aside0.mk hy165
           clear hy165
           have c20b0 := eq_true (of_decide_eq_true (by first | (with_reducible assumption) | assumption) : 0 ≤ x5_2)
           by_cases c21 : x5_2 ≤ (x4_1.length : Int)
           ·rw [if_pos c21] at H
            have c21b0 := eq_true c21
            have c21b1 : decide (x5_2 ≤ (x4_1.length : Int)) = true := decide_eq_true c21
            clear c21
            obtain ⟨y168, hy168⟩ : ∃ y_ : List (S55), y_ = (x4_1.take (x5_2 : Int).toNat) := ⟨_, rfl⟩
            replace H : (if y165.length + y168.length < 2932031007402 then ((some (y165 ++ y168 : List (S55))).bind fun y173 => (if 0 ≤ (wrap64 (x5_2 + 1)) then (if (wrap64 (x5_2 + 1)) ≤ (x4_1.length : Int) then ((some (x4_1.drop ((wrap64 (x5_2 + 1)) : Int).toNat : List (S55))).bind fun y176 => (if y173.length + y176.length < 2932031007402 then (burgageref22_sorted.l0 k2 y162 (y173 ++ y176)) else (none))) else (none)) else (none))) else (none)) = some r := by first | (rw [hy168]; with_reducible exact H) | (have H2_ := (Option.bind_some _ _).symm.trans H; rw [hy168]; with_reducible exact H2_) | (have H2_ := (Option.bind_some _ _).symm.trans H; with_reducible exact H2_) | with_reducible exact H | (rw [hy168]; exact H) | exact H
            have Ny168 := Aside0.mk hy168
            clear hy168
            by_cases c22 : y165.length + y168.length < 2932031007402
            ·rw [if_pos c22] at H
             have LMc22 := Aside0.mk c22
             clear c22
             obtain ⟨y173, hy173⟩ : ∃ y_ : List (S55), y_ = (y165 ++ y168) := ⟨_, rfl⟩
             replace H : (if 0 ≤ (wrap64 (x5_2 + 1)) then (if (wrap64 (x5_2 + 1)) ≤ (x4_1.length : Int) then ((some (x4_1.drop ((wrap64 (x5_2 + 1)) : Int).toNat : List (S55))).bind fun y176 => (if y173.length + y176.length < 2932031007402 then (burgageref22_sorted.l0 k2 y162 (y173 ++ y176)) else (none))) else (none)) else (none)) = some r := by first | (rw [hy173]; with_reducible exact H) | (have H2_ := (Option.bind_some _ _).symm.trans H; rw [hy173]; with_reducible exact H2_) | (have H2_ := (Option.bind_some _ _).symm.trans H; with_reducible exact H2_) | with_reducible exact H | (rw [hy173]; exact H) | exact H
             have Ny173 := Aside0.mk hy173
             clear hy173
             obtain ⟨ji23, hji23⟩ : ∃ j_ : Int, (wrap64 (x5_2 + 1)) = j_ := ⟨_, rfl⟩
             replace H : (if 0 ≤ (ji23) then (if (ji23) ≤ (x4_1.length : Int) then ((some (x4_1.drop ((ji23) : Int).toNat : List (S55))).bind fun y176 => (if y173.length + y176.length < 2932031007402 then (burgageref22_sorted.l0 k2 y162 (y173 ++ y176)) else (none))) else (none)) else (none)) = some r := by first | (rw [hji23] at H; exact H) | (simp only [hji23] at H ⊢; exact H)
             have hji23w : (IntKind.i64.wrap (x5_2 + 1)) = ji23 := (qbb _).trans hji23
             by_cases c24 : 0 ≤ (ji23)
             ·rw [if_pos c24] at H
              have c24b0 := eq_true c24
              have c24b1 : decide (0 ≤ (ji23)) = true := decide_eq_true c24
              clear c24
              by_cases c25 : (ji23) ≤ (x4_1.length : Int)
              ·rw [if_pos c25] at H
               have c25b0 := eq_true c25
               have c25b1 : decide ((ji23) ≤ (x4_1.length : Int)) = true := decide_eq_true c25
               clear c25
               obtain ⟨y176, hy176⟩ : ∃ y_ : List (S55), y_ = (x4_1.drop ((ji23) : Int).toNat) := ⟨_, rfl⟩
               replace H : (if y173.length + y176.length < 2932031007402 then (burgageref22_sorted.l0 k2 y162 (y173 ++ y176)) else (none)) = some r := by first | (rw [hy176]; with_reducible exact H) | (have H2_ := (Option.bind_some _ _).symm.trans H; rw [hy176]; with_reducible exact H2_) | (have H2_ := (Option.bind_some _ _).symm.trans H; with_reducible exact H2_) | with_reducible exact H | (rw [hy176]; exact H) | exact H
               have Ny176 := Aside0.mk hy176
               clear hy176
               by_cases c26 : y173.length + y176.length < 2932031007402
               ·rw [if_pos c26] at H
                have LMc26 := Aside0.mk c26
                clear c26
                obtain ⟨y181, hy181⟩ : ∃ y_ : List (S55), y_ = (y173 ++ y176) := ⟨_, rfl⟩
                replace H : (burgageref22_sorted.l0 k2 y162 y181) = some r := by first | (rw [hy181]; with_reducible exact H) | (have H2_ := (Option.bind_some _ _).symm.trans H; rw [hy181]; with_reducible exact H2_) | (have H2_ := (Option.bind_some _ _).symm.trans H; with_reducible exact H2_) | with_reducible exact H | (rw [hy181]; exact H) | exact H
                have Ny181 := Aside0.mk hy181
                clear hy181
                have H' := Aside0.mk H
                clear H
                have p161 : 0 ≤ (x5_2 : Int) := of_decide_eq_true (by first | (with_reducible assumption) | assumption)
                have q161 : x5_2 < (x4_1.length : Int) := of_decide_eq_true (by first | (with_reducible assumption) | assumption)
                obtain ⟨ad161, A161_3, c161_3, e161, hx161_0, hx161_1, hx161_2, hx161_3, hl161_3, hi161_3⟩ := qa8 (Kd.N_reads' HO_4.out).2.2 x5_2 p161 q161
                cases e161
                obtain ⟨ce161, hce161, hMe161, hcc161⟩ := Kd.N_get HO_4.out z55 x5_2 p161 (by first | exact q161 | exact of_decide_eq_true (by first | (with_reducible assumption) | assumption) | (have e_ := (Kd.N_reads' HO_4.out).1; omega))
                obtain ⟨ua161_3, uc161_3, rfl, ul161_3, ge161_3⟩ := qbo hMe161
                have hv161_3 := hcc161 3 _ rfl
                rw [qax _ _ 3 (by omega)] at hv161_3
                replace hv161_3 := Option.some.inj (hv161_3.symm.trans hx161_3)
                injection hv161_3 with hva_ hvn_ hvc_
                rw [hva_] at ge161_3
                rw [hvc_] at ul161_3
                have HL161_3 := Aside0.mk (show Kd.V k51 51 _ w.heap.size _ _ ((qab x4_1 x5_2).f3) from Kd.V_mk ul161_3 ge161_3)
                clear hva_ hvn_ hvc_ ge161_3 ul161_3
                clear hcc161 hce161
                have HR161_3 := Aside0.mk hi161_3
                have HC161_3 := Aside0.mk hl161_3
                clear hi161_3 hl161_3
                replace p161 := eq_true p161
                replace q161 := eq_true q161
                try go_wp2_with (first | ((with_reducible refine gate_builtin (b := .append) (xs := #[.tmp 32, .tmp 37]) rfl ?_); at_builtin; refine Kd.N_append k55 (w0 := w) w.heap.size rfl (.tmp 32) (.tmp 37) 22 55 (.agg #[(.int .i64 0), (.int .i64 0), (.int .i64 0), (.slice none 0 0)]) 48 rfl Try.underlying22 info55 rfl (by decide) (by omega) u3 x3_1 (⟨(qab x4_1 x5_2).f0, (qab x4_1 x5_2).f1, (qab x4_1 x5_2).f2, (qab x4_1 x5_2).f3⟩ : S55) [.int .i64 ((qab x4_1 x5_2).f0), .int .i64 ((qab x4_1 x5_2).f1), .int .i64 ((qab x4_1 x5_2).f2), .slice A161_3 ((qab x4_1 x5_2).f3).length c161_3] (fun k_ => (P0_ k_ ∨ w.heap.size ≤ k_) ∧ some k_ ≠ (.slice (some ad161) x4_1.length co9 : Value).ownBlock) (fun k_ => ((fun k_ => (P0_ k_ ∨ w.heap.size ≤ k_) ∧ some k_ ≠ (.slice (some ad161) x4_1.length co9 : Value).ownBlock)) k_ ∧ some k_ ≠ (u3 : Value).ownBlock) rfl rfl ?aP (fun _ hk => hk) ?aF ?aO ?aB ?aS ?aL ?_; (case aP => exact (k55_mkF _ _ (⟨(qab x4_1 x5_2).f0, (qab x4_1 x5_2).f1, (qab x4_1 x5_2).f2, (qab x4_1 x5_2).f3⟩ : S55) (Kd.V_reads' (Kd.V_mono (ok' := (fun k_ => ((fun k_ => (P0_ k_ ∨ w.heap.size ≤ k_) ∧ some k_ ≠ (.slice (some ad161) x4_1.length co9 : Value).ownBlock)) k_ ∧ some k_ ≠ (u3 : Value).ownBlock)) (HL161_3.out) (fun k_ hk => ⟨⟨hk.1.1, hk.2⟩, hk.1.2⟩))).2.1 (Kd.V_F (Kd.V_mono (ok' := (fun k_ => ((fun k_ => (P0_ k_ ∨ w.heap.size ≤ k_) ∧ some k_ ≠ (.slice (some ad161) x4_1.length co9 : Value).ownBlock)) k_ ∧ some k_ ≠ (u3 : Value).ownBlock)) (HL161_3.out) (fun k_ hk => ⟨⟨hk.1.1, hk.2⟩, hk.1.2⟩))))); (case aB => exact (by repeat (first | (with_reducible first | exact HB.out | apply qac | apply qaa | apply qad) | exact HB.out))); (case aF => exact (fun k_ hk => ⟨(.inr (Nat.le_trans (qal (by repeat (first | (with_reducible first | exact HB.out | apply qac | apply qaa | apply qad) | exact HB.out))) hk)), Kd.fresh' (Kd.N_lt (by (with_reducible repeat (first | apply Kd.N_alloc | apply Kd.N_drewN | apply Kd.N_drew)); exact HO_4.out)) k_ hk⟩)); (case aO => exact (by (with_reducible repeat (first | apply Kd.N_alloc | apply Kd.N_drewN | apply Kd.N_drew)); exact HO_3.out)); (case aS => exact (qal (by repeat (first | (with_reducible first | exact HB.out | apply qac | apply qaa | apply qad) | exact HB.out)))); (case aL => have := LMc19.out; omega); intro v163 w27 ho hb hg hat; rw [← Ny162.out] at ho; have n0_ := Aside0.mk (Kd.N_afterv (ok := (fun k_ => (P0_ k_ ∨ w.heap.size ≤ k_))) (by (with_reducible repeat (first | apply Kd.N_alloc | apply Kd.N_drewN | apply Kd.N_drew)); exact HO_4.out) hg hat); have n1_ := Aside0.mk (Kd.V_afterv (ok := (fun k_ => (P0_ k_ ∨ w.heap.size ≤ k_) ∧ some k_ ≠ (.slice (some ad161) x4_1.length co9 : Value).ownBlock)) (by (with_reducible repeat (first | apply Kd.V_alloc | apply Kd.V_drewN | apply Kd.V_drew)); exact Kd.V_mono HL161_3.out (fun _ hk => ⟨⟨hk.1.1, hk.2⟩, hk.1.2⟩)) hg hat); have n2_ := Aside0.mk (hb); have n3_ := Aside0.mk (ho); clear HO_4; clear HL161_3; clear HB; clear HO_3; have HO_4 := n0_; have HL161_3 := n1_; have HB := n2_; have HO164 := n3_; clear n0_ n1_ n2_ n3_; clear ho hb hg hat))
                have n0_ := Aside0.mk (Kd.N_drew HO_4.out)
                have n1_ := Aside0.mk (Kd.V_drew HL161_3.out)
                have n2_ := Aside0.mk (Kd.N_drew HO164.out)
                have n3_ := Aside0.mk (qad HB.out)
                clear HO_4
                clear HL161_3
                clear HO164
                clear HB
                have HO_4 := n0_
                have HL161_3 := n1_
                have HO164 := n2_
                have HB := n3_
                clear n0_ n1_ n2_ n3_
                have q29 : (x5_2 : Int) ≤ ((x4_1.length : Int) : Int) := of_decide_eq_true (by first | (with_reducible assumption) | assumption)
                obtain ⟨i029, hi029, _, hsz29, _⟩ := info_parts info55
                have hroom29 : x4_1.length ≤ co9 := (Kd.N_reads' HO_4.out).2.1
                have hC29 : Kd.F k55 _ _ (some ad161) x4_1.length x4_1 := (Kd.V_at (base := w.heap.size) (Kd.N_V HO_4.out)).2.2
                have hcut29 := cut_to (P := Try.prog) 22 55 .i64 Try.underlying22 hi029 (some ad161) x4_1.length co9 x5_2 (of_decide_eq_true (by first | (with_reducible assumption) | assumption)) q29 hroom29
                have hr29 := Kd.F_take (m := (x5_2 : Int).toNat) hC29 (by omega)
                have hy29 : y168.length = (x5_2 : Int).toNat := (by rw [Ny168.out, List.length_take]; omega)
                rw [← Ny168.out] at hr29
                rw [← hy29] at hcut29
                have HO172 := Aside0.mk (show Kd.V k55 55 _ w.heap.size _ (.slice (some ad161) y168.length co9) y168 from Kd.V_mk (by omega) hr29)
                have HC172 := Aside0.mk (show y168.length ≤ co9 from by omega)
                clear hr29 hC29 hroom29 hi029 hsz29
                have KY29 := Aside0.mk hy29
                clear hy29
                replace q29 := eq_true q29
                have q30 : ((ji23) : Int) ≤ ((x4_1.length : Int) : Int) := of_decide_eq_true (by first | (with_reducible assumption) | assumption)
                obtain ⟨i030, hi030, _, hsz30, _⟩ := info_parts info55
                have hroom30 : x4_1.length ≤ co9 := (Kd.N_reads' HO_4.out).2.1
                have hC30 : Kd.F k55 _ _ (some ad161) x4_1.length x4_1 := (Kd.V_at (base := w.heap.size) (Kd.N_V HO_4.out)).2.2
                have q030 : (0 : Int) ≤ ((ji23) : Int) := of_decide_eq_true (by first | (with_reducible assumption) | assumption)
                have hcut30 := cut_from (P := Try.prog) 22 55 .i64 Try.underlying22 hi030 4 hsz30 (some ad161) x4_1.length co9 (ji23) q030 q30
                have hr30 := Kd.F_cut (m := ((ji23) : Int).toNat) (c := co9) hC30 (by omega) hroom30
                obtain ⟨A30, hA30⟩ : ∃ A1, A1 = (if co9 = ((ji23) : Int).toNat then (some ad161) else ((some ad161) : Option Addr).map (·.add (((ji23) : Int).toNat * 4))) := ⟨_, rfl⟩
                obtain ⟨c30, hc30⟩ : ∃ c1, c1 = co9 - ((ji23) : Int).toNat := ⟨_, rfl⟩
                have hy30 : y176.length = x4_1.length - ((ji23) : Int).toNat := (by rw [Ny176.out, List.length_drop] <;> omega)
                rw [show (x4_1).drop ((ji23) : Int).toNat = y176 from Ny176.out.symm] at hr30
                replace hr30 : Kd.F k55 _ _ A30 y176.length y176 := (by rw [hA30]; exact hr30)
                rw [← hy30, ← hA30, ← hc30] at hcut30
                have HO180 := Aside0.mk (show Kd.V k55 55 _ w.heap.size _ (.slice A30 y176.length c30) y176 from Kd.V_mk (by rw [hy30, hc30]; exact Nat.sub_le_sub_right hroom30 _) hr30)
                have HC180 := Aside0.mk (show y176.length ≤ c30 from by rw [hy30, hc30]; exact Nat.sub_le_sub_right hroom30 _)
                clear hr30 hC30 hroom30 hi030 hsz30 hc30
                have KY30 := Aside0.mk hy30
                have KA30 := Aside0.mk hA30
                clear hy30 hA30
                replace q30 := eq_true q30
                refine start_ (n := 11) (S := fun w' => True) (ds := []) #[false, false, false, false, false, false, false, false, false, false, false] (by kernel_rfl) rfl rfl trivial (fun hHeld => ?_); refine with_tabW burgageref22_sorted.tab11 burgageref22_sorted.bits11 (fun HT_ HW_ => ?_)
                generalize w27.drew = w28 at HO_4 HL161_3 HO164 HB HO172 HO180 hHeld ⊢
                refine qbq (i := 1) (N := some 40) (v := ?_) (a' := ?_) #[false, true, false, false, false, false, false, false, false, false, false] rfl rfl (qbe HT_.out (by kernel_rfl)) (fun _ _ _ h => h) (Or.inl ⟨by rfl, ?_⟩) ?_ ?_
                rotate_left
                ·intro w'
                 go_simp
                 with_reducible rfl
                rotate_left
                ·simp only [Act.put, List.setIfInBounds_toArray, List.set_cons_zero, List.set_cons_succ, qbb, qbc]
                 rfl
                refine qbq (i := 2) (N := some 41) (v := ?_) (a' := ?_) #[false, true, true, false, false, false, false, false, false, false, false] rfl rfl (qbe HT_.out (by kernel_rfl)) (fun _ _ _ h => h) (Or.inl ⟨by rfl, ?_⟩) ?_ ?_
                rotate_left
                ·intro w'
                 go_simp
                 with_reducible rfl
                rotate_left
                ·simp only [Act.put, List.setIfInBounds_toArray, List.set_cons_zero, List.set_cons_succ, qbb, qbc]
                 rfl
                refine qbq (i := 3) (N := some 42) (v := ?_) (a' := ?_) #[false, true, true, true, false, false, false, false, false, false, false] rfl rfl (qbe HT_.out (by kernel_rfl)) (fun _ _ _ h => h) (Or.inl ⟨by rfl, ?_⟩) ?_ ?_
                rotate_left
                ·intro w'
                 go_simp
                 with_reducible rfl
                rotate_left
                ·simp only [Act.put, List.setIfInBounds_toArray, List.set_cons_zero, List.set_cons_succ, qbb, qbc]
                 rfl
                refine qbq (i := 5) (N := some 44) (v := ?_) (a' := ?_) #[false, true, true, true, false, true, false, false, false, false, false] rfl rfl (qbe HT_.out (by kernel_rfl)) (fun _ _ _ h => h) (Or.inl ⟨by rfl, ?_⟩) ?_ ?_
                rotate_left
                ·intro w'
                 go_simp
                 with_reducible rfl
                rotate_left
                ·simp only [Act.put, List.setIfInBounds_toArray, List.set_cons_zero, List.set_cons_succ, qbb, qbc]
                 rfl
                refine qbq (i := 6) (N := some 45) (v := ?_) (a' := ?_) #[false, true, true, true, false, true, true, false, false, false, false] rfl rfl (qbe HT_.out (by kernel_rfl)) (fun _ _ _ h => h) (Or.inl ⟨by rfl, ?_⟩) ?_ ?_
                rotate_left
                ·intro w'
                 go_simp
                 with_reducible rfl
                rotate_left
                ·simp only [Act.put, List.setIfInBounds_toArray, List.set_cons_zero, List.set_cons_succ, qbb, qbc]
                 rfl
                refine qbq (i := 7) (N := some 46) (v := ?_) (a' := ?_) #[false, true, true, true, false, true, true, true, false, false, false] rfl rfl (qbe HT_.out (by kernel_rfl)) (fun _ _ _ h => h) (Or.inl ⟨by rfl, ?_⟩) ?_ ?_
                rotate_left
                ·intro w'
                 go_simp
                 with_reducible rfl
                rotate_left
                ·simp only [Act.put, List.setIfInBounds_toArray, List.set_cons_zero, List.set_cons_succ, qbb, qbc]
                 rfl
                refine qbq (i := 8) (N := some 47) (v := ?_) (a' := ?_) #[false, true, true, true, false, true, true, true, true, false, false] rfl rfl (qbe HT_.out (by kernel_rfl)) (fun _ _ _ h => h) (Or.inl ⟨by rfl, ?_⟩) ?_ ?_
                rotate_left
                ·intro w'
                 go_simp
                 with_reducible rfl
                rotate_left
                ·simp only [Act.put, List.setIfInBounds_toArray, List.set_cons_zero, List.set_cons_succ, qbb, qbc]
                 rfl
                refine one_ (i := 0) (N := some 39) #[true, true, true, true, false, true, true, true, true, false, false] rfl rfl (one_of HT_.out (by kernel_rfl)) (by decide) (fun K hK => ?_)
                refine Kd.N_lit_step k55 _ 55 ?hg (N' := 39) ?hd (xs := ([] : List (S55))) (inner := []) (ok := (fun k_ => (P0_ k_ ∨ w.heap.size ≤ k_) ∧ some k_ ≠ (.slice (some ad161) x4_1.length co9 : Value).ownBlock ∧ some k_ ≠ (v163 : Value).ownBlock)) (okp := (fun k_ => (P0_ k_ ∨ w.heap.size ≤ k_) ∧ some k_ ≠ (.slice (some ad161) x4_1.length co9 : Value).ownBlock ∧ some k_ ≠ (v163 : Value).ownBlock)) ?hr ?hp (fun _ hk => hk) ((show ∀ k_, w28.heap.size ≤ k_ → (fun k_ => (P0_ k_ ∨ w.heap.size ≤ k_) ∧ some k_ ≠ (.slice (some ad161) x4_1.length co9 : Value).ownBlock ∧ some k_ ≠ (v163 : Value).ownBlock) k_ from fun k_ hk => ⟨(.inr (Nat.le_trans (qal (by repeat (first | (with_reducible first | exact HB.out | apply qac | apply qaa | apply qad) | exact HB.out))) hk)), Kd.fresh' (Kd.N_lt (by (with_reducible repeat (first | apply Kd.N_alloc | apply Kd.N_drewN | apply Kd.N_drew)); exact HO_4.out)) k_ hk, Kd.fresh' (Kd.N_lt (by (with_reducible repeat (first | apply Kd.N_alloc | apply Kd.N_drewN | apply Kd.N_drew)); exact HO164.out)) k_ hk⟩) _ (Nat.le_refl _)) (Below.refl _ _) (Nat.le_refl _) (by simp) ?_; (case hd => rfl); (case hg => rfl); (case hr => first | (go_simp; done) | (go_simp; rfl)); (case hp => exact (Reps.none _ _))
                intro v166 w31 ho32 hb hg_ hnew_
                clear hg_ hnew_
                (first | rw [← Ny165.out] at ho32 | (simp only [Int.reduceToNat] at ho32; rw [← Ny165.out] at ho32))
                have n0_ := Aside0.mk (Kd.N_elder' (by (with_reducible repeat (first | apply Kd.N_alloc | apply Kd.N_drewN | apply Kd.N_drew)); exact HO_4.out) (Kd.N_base ho32) hb)
                have n1_ := Aside0.mk (Kd.V_elder' (by (with_reducible repeat (first | apply Kd.V_alloc | apply Kd.V_drewN | apply Kd.V_drew)); exact HL161_3.out) (Kd.N_base ho32) hb)
                have n2_ := Aside0.mk (Kd.N_elder' (by (with_reducible repeat (first | apply Kd.N_alloc | apply Kd.N_drewN | apply Kd.N_drew)); exact HO164.out) (Kd.N_base ho32) hb)
                have n3_ := Aside0.mk (Kd.V_elder' (by (with_reducible repeat (first | apply Kd.V_alloc | apply Kd.V_drewN | apply Kd.V_drew)); exact HO172.out) (Kd.N_base ho32) hb)
                have n4_ := Aside0.mk (Kd.V_elder' (by (with_reducible repeat (first | apply Kd.V_alloc | apply Kd.V_drewN | apply Kd.V_drew)); exact HO180.out) (Kd.N_base ho32) hb)
                have n5_ := Aside0.mk (Kd.N_lower ho32 (qal (by repeat (first | (with_reducible first | exact HB.out | apply qac | apply qaa | apply qad) | exact HB.out))))
                have n6_ := Aside0.mk (qam (by repeat (first | (with_reducible first | exact HB.out | apply qac | apply qaa | apply qad) | exact HB.out)) hb)
                clear HO_4
                clear HL161_3
                clear HO164
                clear HO172
                clear HO180
                clear HB
                have HO_4 := n0_
                have HL161_3 := n1_
                have HO164 := n2_
                have HO172 := n3_
                have HO180 := n4_
                have HO167 := n5_
                have HB := n6_
                clear n0_ n1_ n2_ n3_ n4_ n5_ n6_
                clear hb ho32
                refine hK.out _ _ trivial (fun hHeld => ?_)
                clear hK K
                refine qcj (a' := ?_) ?_ ?_
                rotate_left
                ·show Act.put _ (some 39) _ = _
                 simp only [Act.put, List.setIfInBounds_toArray, List.set_cons_zero, List.set_cons_succ, qbb, qbc]
                 rfl
                refine one_ (i := 4) (N := some 43) #[true, true, true, true, true, true, true, true, true, false, false] rfl rfl (one_of HT_.out (by kernel_rfl)) (by decide) (fun K hK => ?_)
                refine Kd.N_append_rows_step k55 (w0 := w) w.heap.size (by rfl) (.tmp 39) (.tmp 42) 22 55 (.agg #[(.int .i64 0), (.int .i64 0), (.int .i64 0), (.slice none 0 0)]) 48 rfl Try.underlying22 info55 rfl (by decide) (by omega) v166 y165 y168 _ _ _ (fun k_ => (P0_ k_ ∨ w.heap.size ≤ k_) ∧ some k_ ≠ (v163 : Value).ownBlock) (fun k_ => ((fun k_ => (P0_ k_ ∨ w.heap.size ≤ k_) ∧ some k_ ≠ (v163 : Value).ownBlock)) k_ ∧ some k_ ≠ (v166 : Value).ownBlock) rfl rfl ?aO ?aR (fun _ hk => hk) ?aF ?aB ?aS ?aL ?_
                (case aR => exact (by skip; exact Kd.V_F (Kd.V_mono (ok' := (fun k_ => ((fun k_ => (P0_ k_ ∨ w.heap.size ≤ k_) ∧ some k_ ≠ (v163 : Value).ownBlock)) k_ ∧ some k_ ≠ (v166 : Value).ownBlock)) (HO172.out) (fun k_ hk => ⟨⟨hk.1.1, hk.1.2⟩, hk.2⟩))))
                (case aB => exact (by repeat (first | (with_reducible first | exact HB.out | apply qac | apply qaa | apply qad) | exact HB.out)))
                (case aF => exact (fun k_ hk => ⟨(.inr (Nat.le_trans (qal (by repeat (first | (with_reducible first | exact HB.out | apply qac | apply qaa | apply qad) | exact HB.out))) hk)), Kd.fresh' (Kd.N_lt (by (with_reducible repeat (first | apply Kd.N_alloc | apply Kd.N_drewN | apply Kd.N_drew)); exact HO164.out)) k_ hk⟩))
                (case aO => exact (by (with_reducible repeat (first | apply Kd.N_alloc | apply Kd.N_drewN | apply Kd.N_drew)); exact Kd.N_mono HO167.out (fun _ hk => ⟨hk.1, hk.2.2⟩)))
                (case aS => exact (qal (by repeat (first | (with_reducible first | exact HB.out | apply qac | apply qaa | apply qad) | exact HB.out))))
                (case aL => have := LMc22.out; omega)
                intro v174 w33 ho hb hg hat
                rw [← Ny173.out] at ho
                have n0_ := Aside0.mk (Kd.N_afterv (ok := (fun k_ => (P0_ k_ ∨ w.heap.size ≤ k_) ∧ some k_ ≠ (v163 : Value).ownBlock)) (by (with_reducible repeat (first | apply Kd.N_alloc | apply Kd.N_drewN | apply Kd.N_drew)); exact HO_4.out) hg hat)
                have n1_ := Aside0.mk (Kd.V_afterv (ok := (fun k_ => (P0_ k_ ∨ w.heap.size ≤ k_) ∧ some k_ ≠ (.slice (some ad161) x4_1.length co9 : Value).ownBlock ∧ some k_ ≠ (v163 : Value).ownBlock)) (by (with_reducible repeat (first | apply Kd.V_alloc | apply Kd.V_drewN | apply Kd.V_drew)); exact Kd.V_mono HL161_3.out (fun _ hk => ⟨⟨hk.1.1.1, ⟨hk.1.1.2, hk.1.2⟩⟩, hk.2⟩)) hg hat)
                have n2_ := Aside0.mk (Kd.N_afterv (ok := (fun k_ => (P0_ k_ ∨ w.heap.size ≤ k_) ∧ some k_ ≠ (.slice (some ad161) x4_1.length co9 : Value).ownBlock)) (by (with_reducible repeat (first | apply Kd.N_alloc | apply Kd.N_drewN | apply Kd.N_drew)); exact HO164.out) hg hat)
                have n3_ := Aside0.mk (Kd.V_afterv (ok := (fun k_ => (P0_ k_ ∨ w.heap.size ≤ k_) ∧ some k_ ≠ (v163 : Value).ownBlock)) (by (with_reducible repeat (first | apply Kd.V_alloc | apply Kd.V_drewN | apply Kd.V_drew)); exact HO172.out) hg hat)
                have n4_ := Aside0.mk (Kd.V_afterv (ok := (fun k_ => (P0_ k_ ∨ w.heap.size ≤ k_) ∧ some k_ ≠ (v163 : Value).ownBlock)) (by (with_reducible repeat (first | apply Kd.V_alloc | apply Kd.V_drewN | apply Kd.V_drew)); exact HO180.out) hg hat)
                have n5_ := Aside0.mk (hb)
                have n6_ := Aside0.mk (ho)
                clear HO_4
                clear HL161_3
                clear HO164
                clear HO172
                clear HO180
                clear HB
                clear HO167
                have HO_4 := n0_
                have HL161_3 := n1_
                have HO164 := n2_
                have HO172 := n3_
                have HO180 := n4_
                have HB := n5_
                have HO175 := n6_
                clear n0_ n1_ n2_ n3_ n4_ n5_ n6_
                clear ho hb hg hat
                refine hK.out _ _ trivial (fun hHeld => ?_)
                clear hK K
                refine qcj (a' := ?_) ?_ ?_
                rotate_left
                ·show Act.put _ (some 43) _ = _
                 simp only [Act.put, List.setIfInBounds_toArray, List.set_cons_zero, List.set_cons_succ, qbb, qbc]
                 rfl
                refine one_ (i := 9) (N := some 48) #[true, true, true, true, true, true, true, true, true, true, false] rfl rfl (one_of HT_.out (by kernel_rfl)) (by decide) (fun K hK => ?_)
                refine Kd.N_append_rows_step k55 (w0 := w) w.heap.size (by rfl) (.tmp 43) (.tmp 47) 22 55 (.agg #[(.int .i64 0), (.int .i64 0), (.int .i64 0), (.slice none 0 0)]) 48 rfl Try.underlying22 info55 rfl (by decide) (by omega) v174 y173 y176 _ _ _ (fun k_ => (P0_ k_ ∨ w.heap.size ≤ k_) ∧ some k_ ≠ (v163 : Value).ownBlock) (fun k_ => ((fun k_ => (P0_ k_ ∨ w.heap.size ≤ k_) ∧ some k_ ≠ (v163 : Value).ownBlock)) k_ ∧ some k_ ≠ (v174 : Value).ownBlock) rfl rfl ?aO ?aR (fun _ hk => hk) ?aF ?aB ?aS ?aL ?_
                (case aR => exact (by skip; exact Kd.V_F (Kd.V_mono (ok' := (fun k_ => ((fun k_ => (P0_ k_ ∨ w.heap.size ≤ k_) ∧ some k_ ≠ (v163 : Value).ownBlock)) k_ ∧ some k_ ≠ (v174 : Value).ownBlock)) (HO180.out) (fun k_ hk => ⟨⟨hk.1.1, hk.1.2⟩, hk.2⟩))))
                (case aB => exact (by repeat (first | (with_reducible first | exact HB.out | apply qac | apply qaa | apply qad) | exact HB.out)))
                (case aF => exact (fun k_ hk => ⟨(.inr (Nat.le_trans (qal (by repeat (first | (with_reducible first | exact HB.out | apply qac | apply qaa | apply qad) | exact HB.out))) hk)), Kd.fresh' (Kd.N_lt (by (with_reducible repeat (first | apply Kd.N_alloc | apply Kd.N_drewN | apply Kd.N_drew)); exact HO164.out)) k_ hk⟩))
                (case aO => exact (by (with_reducible repeat (first | apply Kd.N_alloc | apply Kd.N_drewN | apply Kd.N_drew)); exact HO175.out))
                (case aS => exact (qal (by repeat (first | (with_reducible first | exact HB.out | apply qac | apply qaa | apply qad) | exact HB.out))))
                (case aL => have := LMc26.out; omega)
                intro v182 w34 ho hb hg hat
                rw [← Ny181.out] at ho
                have n0_ := Aside0.mk (Kd.N_afterv (ok := (fun k_ => (P0_ k_ ∨ w.heap.size ≤ k_) ∧ some k_ ≠ (v163 : Value).ownBlock)) (by (with_reducible repeat (first | apply Kd.N_alloc | apply Kd.N_drewN | apply Kd.N_drew)); exact HO_4.out) hg hat)
                have n1_ := Aside0.mk (Kd.V_afterv (ok := (fun k_ => (P0_ k_ ∨ w.heap.size ≤ k_) ∧ some k_ ≠ (.slice (some ad161) x4_1.length co9 : Value).ownBlock ∧ some k_ ≠ (v163 : Value).ownBlock)) (by (with_reducible repeat (first | apply Kd.V_alloc | apply Kd.V_drewN | apply Kd.V_drew)); exact HL161_3.out) hg hat)
                have n2_ := Aside0.mk (Kd.N_afterv (ok := (fun k_ => (P0_ k_ ∨ w.heap.size ≤ k_) ∧ some k_ ≠ (.slice (some ad161) x4_1.length co9 : Value).ownBlock)) (by (with_reducible repeat (first | apply Kd.N_alloc | apply Kd.N_drewN | apply Kd.N_drew)); exact HO164.out) hg hat)
                have n3_ := Aside0.mk (Kd.V_afterv (ok := (fun k_ => (P0_ k_ ∨ w.heap.size ≤ k_) ∧ some k_ ≠ (v163 : Value).ownBlock)) (by (with_reducible repeat (first | apply Kd.V_alloc | apply Kd.V_drewN | apply Kd.V_drew)); exact HO172.out) hg hat)
                have n4_ := Aside0.mk (Kd.V_afterv (ok := (fun k_ => (P0_ k_ ∨ w.heap.size ≤ k_) ∧ some k_ ≠ (v163 : Value).ownBlock)) (by (with_reducible repeat (first | apply Kd.V_alloc | apply Kd.V_drewN | apply Kd.V_drew)); exact HO180.out) hg hat)
                have n5_ := Aside0.mk (hb)
                have n6_ := Aside0.mk (ho)
                clear HO_4
                clear HL161_3
                clear HO164
                clear HO172
                clear HO180
                clear HB
                clear HO175
                have HO_4 := n0_
                have HL161_3 := n1_
                have HO164 := n2_
                have HO172 := n3_
                have HO180 := n4_
                have HB := n5_
                have HO183 := n6_
                clear n0_ n1_ n2_ n3_ n4_ n5_ n6_
                clear ho hb hg hat
                refine hK.out _ _ trivial (fun hHeld => ?_)
                clear hK K
                refine qcj (a' := ?_) ?_ ?_
                rotate_left
                ·show Act.put _ (some 48) _ = _
                 simp only [Act.put, List.setIfInBounds_toArray, List.set_cons_zero, List.set_cons_succ, qbb, qbc]
                 rfl
                refine qbq (i := 10) (N := some 4) (v := ?_) (a' := ?_) #[true, true, true, true, true, true, true, true, true, true, true] rfl rfl (qbe HT_.out (by kernel_rfl)) (fun _ _ _ h => h) (Or.inl ⟨by rfl, ?_⟩) ?_ ?_
                rotate_left
                ·intro w'
                 go_simp
                 with_reducible rfl
                rotate_left
                ·simp only [Act.put, List.setIfInBounds_toArray, List.set_cons_zero, List.set_cons_succ, qbb, qbc]
                 rfl
                refine done_ (done_of HT_.out (by kernel_rfl)) ?_
                try go_wp2
                go_roundg k2
                case measure => have := HK1.out; have := HK2.out; omega
                case rel => exact ⟨(y162), (y181), H', ⟨by have := HK1.out; have := HK2.out; omega⟩, ⟨by (with_reducible repeat (first | apply Kd.N_alloc | apply Kd.N_drewN | apply Kd.N_drew)); exact Kd.N_mono HO164.out (fun _ hk => ⟨hk.1.1, hk.2⟩)⟩, ⟨by (with_reducible repeat (first | apply Kd.N_alloc | apply Kd.N_drewN | apply Kd.N_drew)); exact HO183.out⟩, ⟨by repeat (first | (with_reducible first | exact HB.out | apply qac | apply qaa | apply qad) | exact HB.out)⟩⟩
               ·rw [if_neg c26] at H
                exact absurd H (by simp)
              ·rw [if_neg c25] at H
               exact absurd H (by simp)
             ·rw [if_neg c24] at H
              exact absurd H (by simp)
            ·rw [if_neg c22] at H
             exact absurd H (by simp)
           ·rw [if_neg c21] at H
            exact absurd H (by simp)
          ·rw [if_neg c19] at H
           exact absurd H (by simp)
         ·rw [if_neg c18] at H
          exact absurd H (by simp)
        ·rw [if_neg c17] at H
         exact absurd H (by simp)
    ·rw [if_neg c8] at H
     have c8b0 : decide (0 < (x4_1.length : Int)) = false := decide_eq_false c8
     have c8b1 : decide (0 < x4_1.length) = false := decide_eq_false (by omega)
     clear c8
     obtain rfl := Option.some.inj H
     obtain ⟨Ao35, co35, eo35⟩ := Kd.N_slice HO_4.out
     subst eo35
     go_wp2
     go_ret
     exact ⟨_, by first | rfl | (simp [qao, qan] <;> rfl) | (simp [*, qao, qan] <;> rfl), by (with_reducible repeat (first | apply Kd.N_alloc | apply Kd.N_drewN | apply Kd.N_drew)); exact Kd.N_mono HO_3.out (fun _ hk => hk.1), by repeat (first | (with_reducible first | exact HB.out | apply qac | apply qaa | apply qad) | exact HB.out)⟩
 ·rw [if_neg c2] at H
  exact absurd H (by simp)
end Go.Proofs.Ytngkneknopenmaa.T
end
