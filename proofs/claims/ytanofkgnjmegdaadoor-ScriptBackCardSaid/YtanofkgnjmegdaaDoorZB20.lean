/- Texts of this claim, joined by a program of this session: the declarations that its theorem uses. -/
import Derived.Test.YtanofkgnjmegdaaDoorZB3
import Derived.Test.YtanofkgnjmegdaaDoorZB6
import Derived.Test.YtanofkgnjmegdaaDoorZB7
import Derived.Test.YtanofkgnjmegdaaDoorZB11
import Derived.Test.YtanofkgnjmegdaaDoorZB13
import Derived.Test.YtanofkgnjmegdaaDoorZB18
import Derived.Test.YtanofkgnjmegdaaDoorZB19
import Derived.Test.YtanofkgnjmegdaaDoorProg
import Derived.Below
import Derived.Deep.Draws
import Derived.Deep.AppendLies
import Derived.Maps.AppendAt
import Derived.OwnWalk
import Derived.Laws.BytesArg
import Derived.Laws.MakeOwn
import Derived.Laws.OwnMore
import Derived.Deep.OwnRows
import Derived.Tactics
import Derived.Lib.ConvBytes
import Derived.Laws.Slices
import Derived.WalkKit
import Derived.KernelRfl
import Derived.RowKit3
import Derived.Deep.LoopGhost
import Derived.Deep.QuietTactic
import Derived.BigQuiet
import Derived.WideLaws
import Derived.Deep.DeepCutAuto
import Derived.Deep.CutBlock
import Derived.Deep.RegionHeld3
import Derived.Laws.Rows
import Derived.Lib.AppendStr
import Derived.ArgAppend
import Derived.Laws.IdiomCopy
import Derived.OrdersHeld
import Derived.Laws.BitsLemmas
import Derived.RowKit
set_option linter.unusedVariables false
set_option linter.unusedSimpArgs false
section
namespace Go.Proofs.YtanofkgnjmegdaaDoor.Q
open Go.Proofs.YtanofkgnjmegdaaDoor Go.Proofs.YtanofkgnjmegdaaDoor.Hand Go.Proofs.YtanofkgnjmegdaaDoor.Give Go.Proofs.YtanofkgnjmegdaaDoor.K
open Go.RowKit Go.Proofs.YtanofkgnjmegdaaDoorW.PrintWords Go.Proofs.YtanofkgnjmegdaaDoorW.PrintLast Go.Proofs.YtanofkgnjmegdaaDoorW.PrintMore
attribute [local go_sem] max2_int min2_int max_two min_two max_three min_three max_four min_four   -- for this text's walks alone
set_option linter.unusedVariables false
set_option linter.unusedSimpArgs false
attribute [local go_sem high] eqA48
def burgageref07_Parse.f (k : Nat) (a0 : ByteArray) : Option ((List (S38)) × Int × Int) := (burgageref03_Cut.f k a0 10).bind fun t228 => (if 0 ≤ (wrap64 ((t228.length : Int) - 1)) then (if (wrap64 ((t228.length : Int) - 1)) ≤ (t228.length : Int) then ((burgageref07_Lines.f k (t228.take ((wrap64 ((t228.length : Int) - 1)) : Int).toNat)).bind fun bt236 => (if bt236.2 > 0 then (some (([] : List (S38)), bt236.2, 1)) else (if (wrap64 ((t228.length : Int) - 1)) < (t228.length : Int) then (if (rdOf ByteArray.empty t228 (wrap64 ((t228.length : Int) - 1))).toList = ([] : List UInt8) then ((burgageref06_Check.f k bt236.1).bind fun t241 => (if t241 = 0 then (some (bt236.1, 0, 0)) else ((burgageref06_Check.f k bt236.1).bind fun t242 => (some (([] : List (S38)), 0, t242))))) else (some (([] : List (S38)), (t228.length : Int), 1))) else (none)))) else (none)) else (none))
theorem burgageref07_Parse.mono : ∀ a0 k, LeO (burgageref07_Parse.f k a0) (burgageref07_Parse.f (k + 1) a0) := by
  intro a0 k
  unfold burgageref07_Parse.f
  repeat' first
      | (with_reducible exact burgageref03_Cut.mono _ _ _)
      | (with_reducible exact burgageref06_Check.mono _ _)
      | (with_reducible exact burgageref07_Lines.mono _ _)
      | (with_reducible exact LeO.refl _)
      | (with_reducible exact LeO.none _)
      | (with_reducible refine LeO.ite ?_ ?_)
      | (with_reducible refine LeO.bind ?_ (fun _ => ?_))
      | exact burgageref03_Cut.mono _ _ _
      | exact burgageref06_Check.mono _ _
      | exact burgageref07_Lines.mono _ _
      | exact LeO.none _
      | refine LeO.ite ?_ ?_
      | refine LeO.bind ?_ (fun _ => ?_)
mutual
def history_Same.l0 : Nat → List (S38) → List (S38) → Int → Int → Option (Bool)
  | 0, _, _, _, _ => none
  | k + 1, x1, x15, x16, x17 => if x17 < x16 then (if 0 ≤ x17 then (if x17 < (x15.length : Int) then (if x17 < (x1.length : Int) then (if ((rd_T38 x15 x17).f0) = ((rd_T38 x1 x17).f0) then (if ((rd_T38 x15 x17).f1) = ((rd_T38 x1 x17).f1) then (if ((rd_T38 x15 x17).f2) = ((rd_T38 x1 x17).f2) then (history_Same.j1 k x1 x15 x16 x17 ((((rd_T38 x15 x17).f3).length : Int) != (((rd_T38 x1 x17).f3).length : Int)) ((rd_T38 x15 x17).f0) ((rd_T38 x15 x17).f1) ((rd_T38 x15 x17).f2) ((rd_T38 x15 x17).f3) ((rd_T38 x1 x17).f0) ((rd_T38 x1 x17).f1) ((rd_T38 x1 x17).f2) ((rd_T38 x1 x17).f3)) else (history_Same.j1 k x1 x15 x16 x17 true ((rd_T38 x15 x17).f0) ((rd_T38 x15 x17).f1) ((rd_T38 x15 x17).f2) ((rd_T38 x15 x17).f3) ((rd_T38 x1 x17).f0) ((rd_T38 x1 x17).f1) ((rd_T38 x1 x17).f2) ((rd_T38 x1 x17).f3))) else (history_Same.j1 k x1 x15 x16 x17 true ((rd_T38 x15 x17).f0) ((rd_T38 x15 x17).f1) ((rd_T38 x15 x17).f2) ((rd_T38 x15 x17).f3) ((rd_T38 x1 x17).f0) ((rd_T38 x1 x17).f1) ((rd_T38 x1 x17).f2) ((rd_T38 x1 x17).f3))) else (history_Same.j1 k x1 x15 x16 x17 true ((rd_T38 x15 x17).f0) ((rd_T38 x15 x17).f1) ((rd_T38 x15 x17).f2) ((rd_T38 x15 x17).f3) ((rd_T38 x1 x17).f0) ((rd_T38 x1 x17).f1) ((rd_T38 x1 x17).f2) ((rd_T38 x1 x17).f3))) else (none)) else (none)) else (none)) else (some true)
def history_Same.j1 : Nat → List (S38) → List (S38) → Int → Int → Bool → Int → Int → Int → List (S48) → Int → Int → Int → List (S48) → Option (Bool)
  | 0, _, _, _, _, _, _, _, _, _, _, _, _, _ => none
  | k + 1, x1, x15, x16, x17, x53, x245000, x245001, x245002, x245003, x247000, x247001, x247002, x247003 => if x53 = true then (some false) else (history_Same.l1 k x1 x15 x16 x17 x245003 (x245003.length : Int) 0 x247000 x247001 x247002 x247003)
def history_Same.l1 : Nat → List (S38) → List (S38) → Int → Int → List (S48) → Int → Int → Int → Int → Int → List (S48) → Option (Bool)
  | 0, _, _, _, _, _, _, _, _, _, _, _ => none
  | k + 1, x1, x15, x16, x17, x55, x56, x57, x247000, x247001, x247002, x247003 => if x57 < x56 then (if 0 ≤ x57 then (if x57 < (x55.length : Int) then (if x57 < (x247003.length : Int) then (if (!(((rd_T48 x247003 x57).f0) == ((rd_T48 x55 x57).f0)) || (!(((rd_T48 x247003 x57).f1) == ((rd_T48 x55 x57).f1)) || (!(((rd_T48 x247003 x57).f2) == ((rd_T48 x55 x57).f2))))) = true then (some false) else (history_Same.l1 k x1 x15 x16 x17 x55 x56 (wrap64 (x57 + 1)) x247000 x247001 x247002 x247003)) else (none)) else (none)) else (none)) else (history_Same.l0 k x1 x15 x16 (wrap64 (x17 + 1)))
end
def history_Same.f (k : Nat) (l0 : List (S38)) (l1 : List (S38)) : Option (Bool) := if (l0.length : Int) = (l1.length : Int) then (history_Same.l0 k l1 l0 (l0.length : Int) 0) else (some false)
theorem history_Same.mono_l : ∀ k, (∀ y0 y1 y2 y3, LeO (history_Same.l0 k y0 y1 y2 y3) (history_Same.l0 (k + 1) y0 y1 y2 y3)) ∧ (∀ y0 y1 y2 y3 y4 y5 y6 y7 y8 y9 y10 y11 y12, LeO (history_Same.j1 k y0 y1 y2 y3 y4 y5 y6 y7 y8 y9 y10 y11 y12) (history_Same.j1 (k + 1) y0 y1 y2 y3 y4 y5 y6 y7 y8 y9 y10 y11 y12)) ∧ (∀ y0 y1 y2 y3 y4 y5 y6 y7 y8 y9 y10, LeO (history_Same.l1 k y0 y1 y2 y3 y4 y5 y6 y7 y8 y9 y10) (history_Same.l1 (k + 1) y0 y1 y2 y3 y4 y5 y6 y7 y8 y9 y10))
  | 0 => ⟨fun _ _ _ _ r h => by simp [history_Same.l0] at h, fun _ _ _ _ _ _ _ _ _ _ _ _ _ r h => by simp [history_Same.j1] at h, fun _ _ _ _ _ _ _ _ _ _ _ r h => by simp [history_Same.l1] at h⟩
  | k + 1 => by
    obtain ⟨ih0, ih1, ih2⟩ := history_Same.mono_l k
    refine ⟨?_, ?_, ?_⟩
    · intro y0 y1 y2 y3
      unfold history_Same.l0
      repeat' first
      | (with_reducible exact ih0 _ _ _ _)
      | (with_reducible exact ih1 _ _ _ _ _ _ _ _ _ _ _ _ _)
      | (with_reducible exact ih2 _ _ _ _ _ _ _ _ _ _ _)
      | (with_reducible exact LeO.refl _)
      | (with_reducible exact LeO.none _)
      | (with_reducible refine LeO.ite ?_ ?_)
      | (with_reducible refine LeO.bind ?_ (fun _ => ?_))
      | exact ih0 _ _ _ _
      | exact ih1 _ _ _ _ _ _ _ _ _ _ _ _ _
      | exact ih2 _ _ _ _ _ _ _ _ _ _ _
      | exact LeO.none _
      | refine LeO.ite ?_ ?_
      | refine LeO.bind ?_ (fun _ => ?_)
    · intro y0 y1 y2 y3 y4 y5 y6 y7 y8 y9 y10 y11 y12
      unfold history_Same.j1
      repeat' first
      | (with_reducible exact ih0 _ _ _ _)
      | (with_reducible exact ih1 _ _ _ _ _ _ _ _ _ _ _ _ _)
      | (with_reducible exact ih2 _ _ _ _ _ _ _ _ _ _ _)
      | (with_reducible exact LeO.refl _)
      | (with_reducible exact LeO.none _)
      | (with_reducible refine LeO.ite ?_ ?_)
      | (with_reducible refine LeO.bind ?_ (fun _ => ?_))
      | exact ih0 _ _ _ _
      | exact ih1 _ _ _ _ _ _ _ _ _ _ _ _ _
      | exact ih2 _ _ _ _ _ _ _ _ _ _ _
      | exact LeO.none _
      | refine LeO.ite ?_ ?_
      | refine LeO.bind ?_ (fun _ => ?_)
    · intro y0 y1 y2 y3 y4 y5 y6 y7 y8 y9 y10
      unfold history_Same.l1
      repeat' first
      | (with_reducible exact ih0 _ _ _ _)
      | (with_reducible exact ih1 _ _ _ _ _ _ _ _ _ _ _ _ _)
      | (with_reducible exact ih2 _ _ _ _ _ _ _ _ _ _ _)
      | (with_reducible exact LeO.refl _)
      | (with_reducible exact LeO.none _)
      | (with_reducible refine LeO.ite ?_ ?_)
      | (with_reducible refine LeO.bind ?_ (fun _ => ?_))
      | exact ih0 _ _ _ _
      | exact ih1 _ _ _ _ _ _ _ _ _ _ _ _ _
      | exact ih2 _ _ _ _ _ _ _ _ _ _ _
      | exact LeO.none _
      | refine LeO.ite ?_ ?_
      | refine LeO.bind ?_ (fun _ => ?_)
theorem history_Same.mono : ∀ a0 a1 k, LeO (history_Same.f k a0 a1) (history_Same.f (k + 1) a0 a1) := by
  intro a0 a1 k
  obtain ⟨ih0, ih1, ih2⟩ := history_Same.mono_l k
  unfold history_Same.f
  repeat' first
      | (with_reducible exact ih0 _ _ _ _)
      | (with_reducible exact ih1 _ _ _ _ _ _ _ _ _ _ _ _ _)
      | (with_reducible exact ih2 _ _ _ _ _ _ _ _ _ _ _)
      | (with_reducible exact LeO.refl _)
      | (with_reducible exact LeO.none _)
      | (with_reducible refine LeO.ite ?_ ?_)
      | (with_reducible refine LeO.bind ?_ (fun _ => ?_))
      | exact ih0 _ _ _ _
      | exact ih1 _ _ _ _ _ _ _ _ _ _ _ _ _
      | exact ih2 _ _ _ _ _ _ _ _ _ _ _
      | exact LeO.none _
      | refine LeO.ite ?_ ?_
      | refine LeO.bind ?_ (fun _ => ?_)
set_option maxHeartbeats 8000000 in
set_option maxRecDepth 100000 in
theorem history_Same.calls (k : Nat) (A0 : Option Addr) (c0 : Nat) (l0 : List (S38)) (A1 : Option Addr) (c1 : Nat) (l1 : List (S38)) (r : Bool) (w : World) (hr0 : Kd.C k38 w A0 l0.length l0) (hc0 : l0.length ≤ c0) (hr1 : Kd.C k38 w A1 l1.length l1) (hc1 : l1.length ≤ c1) (h : history_Same.f k l0 l1 = some r) (HY : Laid w) :
    Calls Tryd.prog 9 #[.slice A0 l0.length c0, .slice A1 l1.length c1] w fun e w' => e = .returned (.bool r) ∧ Below w.heap.size w w' := by
  have hu38 := Tryd.underlying38
  have hu48 := Tryd.underlying48
  have HR0 := Aside0.mk hr0
  have HC0 := Aside0.mk hc0
  clear hr0 hc0
  have HR1 := Aside0.mk hr1
  have HC1 := Aside0.mk hc1
  clear hr1 hc1
  have HB := Aside0.mk (Below.refl w.heap.size w)
  have H : (if (l0.length : Int) = (l1.length : Int) then (history_Same.l0 k l1 l0 (l0.length : Int) 0) else (some false)) = some r := h
  clear h
  by_cases c3 : (l0.length : Int) = (l1.length : Int)
  · rw [if_pos c3] at H
    have c3b0 : ((l0.length : Int) == (l1.length : Int)) = true := beq_iff_eq.mpr c3
    have c3b1 : ((l0.length : Int) != (l1.length : Int)) = false := bne_eq_false_iff_eq.mpr c3
    have c3b2 : (l0.length == l1.length) = true := by first | simpa using c3 | (simp at c3 ⊢; omega)
    clear c3
    have H' := Aside0.mk H
    clear H
    go_enter Tryd.func9, Tryd.ntmps9
    go_wp2
    repeat (go_quiet (fail); try go_wp2)
    go_loopg [17] k (fun kq v17 w' => ∃ (x17_1 : Int), v17 = .int .i64 x17_1 ∧ Aside0 (history_Same.l0 kq l1 l0 (l0.length : Int) x17_1 = some r) ∧ Aside0 (kq ≤ k) ∧ Aside0 (Below w.heap.size w w'))
    case atStart => exact ⟨(0), (by first | rfl | (simp; done) | (simp [*]; done)), H', ⟨Nat.le_refl _⟩, ⟨by repeat (first | (with_reducible first | exact HB.out | apply below_alloc | apply pw_below_drewN | apply below_drew1) | exact HB.out)⟩⟩
    case round =>
      clear H'
      try clear c1
      try clear p2
      try clear c3
      try clear c3b0
      try clear c3b1
      try clear c3b2
      obtain ⟨x17_1, rfl, HA, HK1, HB⟩ := hrel
      cases gk with
      | zero => exact absurd HA.out (by simp [history_Same.l0])
      | succ k1 =>
        have H := HA.out
        clear HA
        simp only [history_Same.l0] at H
        by_cases c4 : x17_1 < (l0.length : Int)
        · rw [if_pos c4] at H
          have c4b0 : decide (x17_1 < (l0.length : Int)) = true := decide_eq_true c4
          clear c4
          by_cases c5 : 0 ≤ x17_1
          · rw [if_pos c5] at H
            have c5b0 : decide (0 ≤ x17_1) = true := decide_eq_true c5
            clear c5
            by_cases c6 : x17_1 < (l0.length : Int)
            · rw [if_pos c6] at H
              have c6b0 : decide (x17_1 < (l0.length : Int)) = true := decide_eq_true c6
              clear c6
              by_cases c7 : x17_1 < (l1.length : Int)
              · rw [if_pos c7] at H
                have c7b0 : decide (x17_1 < (l1.length : Int)) = true := decide_eq_true c7
                clear c7
                have HC8 := Aside0.mk H
                clear H
                have p243 : 0 ≤ (x17_1 : Int) := of_decide_eq_true (by first | (with_reducible assumption) | assumption)
                have q243 : x17_1 < (l0.length : Int) := of_decide_eq_true (by first | (with_reducible assumption) | assumption)
                obtain ⟨ad243, A243_3, c243_3, e243, hx243_0, hx243_1, hx243_2, hx243_3, hl243_3, hi243_3⟩ := at_T38 HR0.out x17_1 p243 q243
                cases e243
                replace hx243_0 := (HB.out.cell (World.block_lt_of_cell? w _ hx243_0)).trans hx243_0
                replace hx243_1 := (HB.out.cell (World.block_lt_of_cell? w _ hx243_1)).trans hx243_1
                replace hx243_2 := (HB.out.cell (World.block_lt_of_cell? w _ hx243_2)).trans hx243_2
                replace hx243_3 := (HB.out.cell (World.block_lt_of_cell? w _ hx243_3)).trans hx243_3
                have HR243_3 := Aside0.mk hi243_3
                have HC243_3 := Aside0.mk hl243_3
                clear hi243_3 hl243_3
                replace p243 := eq_true p243
                replace q243 := eq_true q243
                go_upto_region 7 with (first | ((with_reducible refine gate_dst (N := 6) rfl ?_); (try (refine gate_guard (by rfl) ?_; dsimp only)); refine box_event ?hg (N := 6) ?hd (cs := #[.int .i64 0, .int .i64 0, .int .i64 0, .slice none 0 0]) (t := 38) ?hr ?_; (case hd => rfl); (case hg => rfl); (case hr => first | (go_simp; done) | (go_simp; rfl)); intro gb244 hg w9 hbox hb; have n0_ := Aside0.mk (below_step (by repeat (first | (with_reducible first | exact HB.out | apply below_alloc | apply pw_below_drewN | apply below_drew1) | exact HB.out)) hb); have n1_ := Aside0.mk (hbox); have n2_ := Aside0.mk ((by rw [hg]; exact (below_size (by repeat (first | (with_reducible first | exact HB.out | apply below_alloc | apply pw_below_drewN | apply below_drew1) | exact HB.out))) : w.heap.size ≤ gb244)); have n3_ := Aside0.mk ((by rw [hg]; exact (below_size (by repeat (first | (with_reducible first | exact HB.out | apply below_alloc | apply pw_below_drewN | apply below_drew1) | exact HB.out))) : w.heap.size ≤ gb244)); clear HB; have HB := n0_; have BK244 := n1_; have GW244 := n2_; have GE244 := n3_; clear n0_ n1_ n2_ n3_; clear hb hbox hg; have hcz10_0 : w9.cell? ⟨gb244, 0, none⟩ = some (.int .i64 0) := (blk_cell BK244.out 0).trans rfl; have hcz10_1 : w9.cell? ⟨gb244, 1, none⟩ = some (.int .i64 0) := (blk_cell BK244.out 1).trans rfl; have hcz10_2 : w9.cell? ⟨gb244, 2, none⟩ = some (.int .i64 0) := (blk_cell BK244.out 2).trans rfl; have hcz10_3 : w9.cell? ⟨gb244, 3, none⟩ = some (.slice none 0 0) := (blk_cell BK244.out 3).trans rfl; have hfz10_0 := blk_frozen BK244.out 0; have hfz10_1 := blk_frozen BK244.out 1; have hfz10_2 := blk_frozen BK244.out 2; have hfz10_3 := blk_frozen BK244.out 3; have p245 : 0 ≤ (x17_1 : Int) := of_decide_eq_true (by first | (with_reducible assumption) | assumption); have q245 : x17_1 < (l1.length : Int) := of_decide_eq_true (by first | (with_reducible assumption) | assumption); obtain ⟨ad245, A245_3, c245_3, e245, hx245_0, hx245_1, hx245_2, hx245_3, hl245_3, hi245_3⟩ := at_T38 HR1.out x17_1 p245 q245; cases e245; have hn245_0 : ad245.block ≠ gb244 := Nat.ne_of_lt (Nat.lt_of_lt_of_le (by have := World.block_lt_of_cell? _ _ hx245_0; first | rwa [add_block] at this | exact this) GW244.out); have hn245_1 : ad245.block ≠ gb244 := Nat.ne_of_lt (Nat.lt_of_lt_of_le (by have := World.block_lt_of_cell? _ _ hx245_0; first | rwa [add_block] at this | exact this) GW244.out); have hn245_2 : ad245.block ≠ gb244 := Nat.ne_of_lt (Nat.lt_of_lt_of_le (by have := World.block_lt_of_cell? _ _ hx245_0; first | rwa [add_block] at this | exact this) GW244.out); have hn245_3 : ad245.block ≠ gb244 := Nat.ne_of_lt (Nat.lt_of_lt_of_le (by have := World.block_lt_of_cell? _ _ hx245_0; first | rwa [add_block] at this | exact this) GW244.out); replace hx245_0 := (HB.out.cell (World.block_lt_of_cell? w _ hx245_0)).trans hx245_0; replace hx245_1 := (HB.out.cell (World.block_lt_of_cell? w _ hx245_1)).trans hx245_1; replace hx245_2 := (HB.out.cell (World.block_lt_of_cell? w _ hx245_2)).trans hx245_2; replace hx245_3 := (HB.out.cell (World.block_lt_of_cell? w _ hx245_3)).trans hx245_3; have HR245_3 := Aside0.mk hi245_3; have HC245_3 := Aside0.mk hl245_3; clear hi245_3 hl245_3; replace hx245_0 := (cell_far (p := ⟨gb244, 0, none⟩) (by first | (rw [add_block]; exact hn245_0) | (show (Addr.add _ _).block ≠ _; rw [add_block]; exact hn245_0) | exact hn245_0) (.int .i64 ((rd_T38 l0 x17_1).f0))).trans hx245_0; replace hx245_1 := (cell_far (p := ⟨gb244, 0, none⟩) (by first | (rw [add_block]; exact hn245_0) | (show (Addr.add _ _).block ≠ _; rw [add_block]; exact hn245_0) | exact hn245_0) (.int .i64 ((rd_T38 l0 x17_1).f0))).trans hx245_1; replace hx245_2 := (cell_far (p := ⟨gb244, 0, none⟩) (by first | (rw [add_block]; exact hn245_0) | (show (Addr.add _ _).block ≠ _; rw [add_block]; exact hn245_0) | exact hn245_0) (.int .i64 ((rd_T38 l0 x17_1).f0))).trans hx245_2; replace hx245_3 := (cell_far (p := ⟨gb244, 0, none⟩) (by first | (rw [add_block]; exact hn245_0) | (show (Addr.add _ _).block ≠ _; rw [add_block]; exact hn245_0) | exact hn245_0) (.int .i64 ((rd_T38 l0 x17_1).f0))).trans hx245_3; replace hx245_0 := (cell_far (p := ⟨gb244, 1, none⟩) (by first | (rw [add_block]; exact hn245_1) | (show (Addr.add _ _).block ≠ _; rw [add_block]; exact hn245_1) | exact hn245_1) (.int .i64 ((rd_T38 l0 x17_1).f1))).trans hx245_0; replace hx245_1 := (cell_far (p := ⟨gb244, 1, none⟩) (by first | (rw [add_block]; exact hn245_1) | (show (Addr.add _ _).block ≠ _; rw [add_block]; exact hn245_1) | exact hn245_1) (.int .i64 ((rd_T38 l0 x17_1).f1))).trans hx245_1; replace hx245_2 := (cell_far (p := ⟨gb244, 1, none⟩) (by first | (rw [add_block]; exact hn245_1) | (show (Addr.add _ _).block ≠ _; rw [add_block]; exact hn245_1) | exact hn245_1) (.int .i64 ((rd_T38 l0 x17_1).f1))).trans hx245_2; replace hx245_3 := (cell_far (p := ⟨gb244, 1, none⟩) (by first | (rw [add_block]; exact hn245_1) | (show (Addr.add _ _).block ≠ _; rw [add_block]; exact hn245_1) | exact hn245_1) (.int .i64 ((rd_T38 l0 x17_1).f1))).trans hx245_3; replace hx245_0 := (cell_far (p := ⟨gb244, 2, none⟩) (by first | (rw [add_block]; exact hn245_2) | (show (Addr.add _ _).block ≠ _; rw [add_block]; exact hn245_2) | exact hn245_2) (.int .i64 ((rd_T38 l0 x17_1).f2))).trans hx245_0; replace hx245_1 := (cell_far (p := ⟨gb244, 2, none⟩) (by first | (rw [add_block]; exact hn245_2) | (show (Addr.add _ _).block ≠ _; rw [add_block]; exact hn245_2) | exact hn245_2) (.int .i64 ((rd_T38 l0 x17_1).f2))).trans hx245_1; replace hx245_2 := (cell_far (p := ⟨gb244, 2, none⟩) (by first | (rw [add_block]; exact hn245_2) | (show (Addr.add _ _).block ≠ _; rw [add_block]; exact hn245_2) | exact hn245_2) (.int .i64 ((rd_T38 l0 x17_1).f2))).trans hx245_2; replace hx245_3 := (cell_far (p := ⟨gb244, 2, none⟩) (by first | (rw [add_block]; exact hn245_2) | (show (Addr.add _ _).block ≠ _; rw [add_block]; exact hn245_2) | exact hn245_2) (.int .i64 ((rd_T38 l0 x17_1).f2))).trans hx245_3; replace hx245_0 := (cell_far (p := ⟨gb244, 3, none⟩) (by first | (rw [add_block]; exact hn245_3) | (show (Addr.add _ _).block ≠ _; rw [add_block]; exact hn245_3) | exact hn245_3) (.slice A243_3 ((rd_T38 l0 x17_1).f3).length c243_3)).trans hx245_0; replace hx245_1 := (cell_far (p := ⟨gb244, 3, none⟩) (by first | (rw [add_block]; exact hn245_3) | (show (Addr.add _ _).block ≠ _; rw [add_block]; exact hn245_3) | exact hn245_3) (.slice A243_3 ((rd_T38 l0 x17_1).f3).length c243_3)).trans hx245_1; replace hx245_2 := (cell_far (p := ⟨gb244, 3, none⟩) (by first | (rw [add_block]; exact hn245_3) | (show (Addr.add _ _).block ≠ _; rw [add_block]; exact hn245_3) | exact hn245_3) (.slice A243_3 ((rd_T38 l0 x17_1).f3).length c243_3)).trans hx245_2; replace hx245_3 := (cell_far (p := ⟨gb244, 3, none⟩) (by first | (rw [add_block]; exact hn245_3) | (show (Addr.add _ _).block ≠ _; rw [add_block]; exact hn245_3) | exact hn245_3) (.slice A243_3 ((rd_T38 l0 x17_1).f3).length c243_3)).trans hx245_3; (try have hy245_0 := fun (n_ : Nat) => (show ((((((w9.drewN n_).setCell ⟨gb244, 0, none⟩ (.int .i64 ((rd_T38 l0 x17_1).f0))).setCell ⟨gb244, 1, none⟩ (.int .i64 ((rd_T38 l0 x17_1).f1))).setCell ⟨gb244, 2, none⟩ (.int .i64 ((rd_T38 l0 x17_1).f2))).setCell ⟨gb244, 3, none⟩ (.slice A243_3 ((rd_T38 l0 x17_1).f3).length c243_3))).cell? _ = some _ from hx245_0)); (try have hy245_1 := fun (n_ : Nat) => (show ((((((w9.drewN n_).setCell ⟨gb244, 0, none⟩ (.int .i64 ((rd_T38 l0 x17_1).f0))).setCell ⟨gb244, 1, none⟩ (.int .i64 ((rd_T38 l0 x17_1).f1))).setCell ⟨gb244, 2, none⟩ (.int .i64 ((rd_T38 l0 x17_1).f2))).setCell ⟨gb244, 3, none⟩ (.slice A243_3 ((rd_T38 l0 x17_1).f3).length c243_3))).cell? _ = some _ from hx245_1)); (try have hy245_2 := fun (n_ : Nat) => (show ((((((w9.drewN n_).setCell ⟨gb244, 0, none⟩ (.int .i64 ((rd_T38 l0 x17_1).f0))).setCell ⟨gb244, 1, none⟩ (.int .i64 ((rd_T38 l0 x17_1).f1))).setCell ⟨gb244, 2, none⟩ (.int .i64 ((rd_T38 l0 x17_1).f2))).setCell ⟨gb244, 3, none⟩ (.slice A243_3 ((rd_T38 l0 x17_1).f3).length c243_3))).cell? _ = some _ from hx245_2)); (try have hy245_3 := fun (n_ : Nat) => (show ((((((w9.drewN n_).setCell ⟨gb244, 0, none⟩ (.int .i64 ((rd_T38 l0 x17_1).f0))).setCell ⟨gb244, 1, none⟩ (.int .i64 ((rd_T38 l0 x17_1).f1))).setCell ⟨gb244, 2, none⟩ (.int .i64 ((rd_T38 l0 x17_1).f2))).setCell ⟨gb244, 3, none⟩ (.slice A243_3 ((rd_T38 l0 x17_1).f3).length c243_3))).cell? _ = some _ from hx245_3)); clear hn245_0; clear hn245_1; clear hn245_2; clear hn245_3; replace p245 := eq_true p245; replace q245 := eq_true q245) | ((with_reducible refine gate_dst (N := 7) rfl ?_); (try (refine gate_guard (by rfl) ?_; dsimp only)); refine box_event ?hg (N := 7) ?hd (cs := #[.int .i64 0, .int .i64 0, .int .i64 0, .slice none 0 0]) (t := 38) ?hr ?_; (case hd => rfl); (case hg => rfl); (case hr => first | (go_simp; done) | (go_simp; rfl)); intro gb246 hg w11 hbox hb; have n0_ := Aside0.mk (blk_below (g := gb244) (o := .cells #[.int .i64 ((rd_T38 l0 x17_1).f0), .int .i64 ((rd_T38 l0 x17_1).f1), .int .i64 ((rd_T38 l0 x17_1).f2), .slice A243_3 ((rd_T38 l0 x17_1).f3).length c243_3] 38 (0, 0)) (by (with_reducible repeat (first | refine blk_drewN ?_ _ | refine blk_drew ?_ | refine blk_alloc ?_ _)); refine blk_put (cs := #[.int .i64 ((rd_T38 l0 x17_1).f0), .int .i64 ((rd_T38 l0 x17_1).f1), .int .i64 ((rd_T38 l0 x17_1).f2), .slice none 0 0]) ?_ 3 _ rfl; (with_reducible repeat (first | refine blk_drewN ?_ _ | refine blk_drew ?_ | refine blk_alloc ?_ _)); refine blk_put (cs := #[.int .i64 ((rd_T38 l0 x17_1).f0), .int .i64 ((rd_T38 l0 x17_1).f1), .int .i64 0, .slice none 0 0]) ?_ 2 _ rfl; (with_reducible repeat (first | refine blk_drewN ?_ _ | refine blk_drew ?_ | refine blk_alloc ?_ _)); refine blk_put (cs := #[.int .i64 ((rd_T38 l0 x17_1).f0), .int .i64 0, .int .i64 0, .slice none 0 0]) ?_ 1 _ rfl; (with_reducible repeat (first | refine blk_drewN ?_ _ | refine blk_drew ?_ | refine blk_alloc ?_ _)); refine blk_put (cs := #[.int .i64 0, .int .i64 0, .int .i64 0, .slice none 0 0]) ?_ 0 _ rfl; (with_reducible repeat (first | refine blk_drewN ?_ _ | refine blk_drew ?_ | refine blk_alloc ?_ _)); exact BK244.out) hb); have n1_ := Aside0.mk (below_step (by repeat (first | (with_reducible first | exact HB.out | apply below_alloc | apply pw_below_drewN | apply below_drew1 | refine below_set ?_ GE244.out) | exact HB.out)) hb); have n2_ := Aside0.mk (hbox); have n3_ := Aside0.mk ((by rw [hg]; exact (below_size (by repeat (first | (with_reducible first | exact HB.out | apply below_alloc | apply pw_below_drewN | apply below_drew1 | refine below_set ?_ GE244.out) | exact HB.out))) : w.heap.size ≤ gb246)); have n4_ := Aside0.mk ((by rw [hg]; exact (below_size (by repeat (first | (with_reducible first | exact HB.out | apply below_alloc | apply pw_below_drewN | apply below_drew1 | refine below_set ?_ GE244.out) | exact HB.out))) : w.heap.size ≤ gb246)); have n5_ := Aside0.mk ((by rw [hg]; exact Nat.ne_of_lt (blk_lt (g := gb244) (o := .cells #[.int .i64 ((rd_T38 l0 x17_1).f0), .int .i64 ((rd_T38 l0 x17_1).f1), .int .i64 ((rd_T38 l0 x17_1).f2), .slice A243_3 ((rd_T38 l0 x17_1).f3).length c243_3] 38 (0, 0)) (by (with_reducible repeat (first | refine blk_drewN ?_ _ | refine blk_drew ?_ | refine blk_alloc ?_ _)); refine blk_put (cs := #[.int .i64 ((rd_T38 l0 x17_1).f0), .int .i64 ((rd_T38 l0 x17_1).f1), .int .i64 ((rd_T38 l0 x17_1).f2), .slice none 0 0]) ?_ 3 _ rfl; (with_reducible repeat (first | refine blk_drewN ?_ _ | refine blk_drew ?_ | refine blk_alloc ?_ _)); refine blk_put (cs := #[.int .i64 ((rd_T38 l0 x17_1).f0), .int .i64 ((rd_T38 l0 x17_1).f1), .int .i64 0, .slice none 0 0]) ?_ 2 _ rfl; (with_reducible repeat (first | refine blk_drewN ?_ _ | refine blk_drew ?_ | refine blk_alloc ?_ _)); refine blk_put (cs := #[.int .i64 ((rd_T38 l0 x17_1).f0), .int .i64 0, .int .i64 0, .slice none 0 0]) ?_ 1 _ rfl; (with_reducible repeat (first | refine blk_drewN ?_ _ | refine blk_drew ?_ | refine blk_alloc ?_ _)); refine blk_put (cs := #[.int .i64 0, .int .i64 0, .int .i64 0, .slice none 0 0]) ?_ 0 _ rfl; (with_reducible repeat (first | refine blk_drewN ?_ _ | refine blk_drew ?_ | refine blk_alloc ?_ _)); exact BK244.out)) : gb244 ≠ gb246)); have n6_ := Aside0.mk ((by rw [hg]; exact Nat.ne_of_gt (blk_lt (g := gb244) (o := .cells #[.int .i64 ((rd_T38 l0 x17_1).f0), .int .i64 ((rd_T38 l0 x17_1).f1), .int .i64 ((rd_T38 l0 x17_1).f2), .slice A243_3 ((rd_T38 l0 x17_1).f3).length c243_3] 38 (0, 0)) (by (with_reducible repeat (first | refine blk_drewN ?_ _ | refine blk_drew ?_ | refine blk_alloc ?_ _)); refine blk_put (cs := #[.int .i64 ((rd_T38 l0 x17_1).f0), .int .i64 ((rd_T38 l0 x17_1).f1), .int .i64 ((rd_T38 l0 x17_1).f2), .slice none 0 0]) ?_ 3 _ rfl; (with_reducible repeat (first | refine blk_drewN ?_ _ | refine blk_drew ?_ | refine blk_alloc ?_ _)); refine blk_put (cs := #[.int .i64 ((rd_T38 l0 x17_1).f0), .int .i64 ((rd_T38 l0 x17_1).f1), .int .i64 0, .slice none 0 0]) ?_ 2 _ rfl; (with_reducible repeat (first | refine blk_drewN ?_ _ | refine blk_drew ?_ | refine blk_alloc ?_ _)); refine blk_put (cs := #[.int .i64 ((rd_T38 l0 x17_1).f0), .int .i64 0, .int .i64 0, .slice none 0 0]) ?_ 1 _ rfl; (with_reducible repeat (first | refine blk_drewN ?_ _ | refine blk_drew ?_ | refine blk_alloc ?_ _)); refine blk_put (cs := #[.int .i64 0, .int .i64 0, .int .i64 0, .slice none 0 0]) ?_ 0 _ rfl; (with_reducible repeat (first | refine blk_drewN ?_ _ | refine blk_drew ?_ | refine blk_alloc ?_ _)); exact BK244.out)) : gb246 ≠ gb244)); clear BK244; clear HB; have BK244 := n0_; have HB := n1_; have BK246 := n2_; have GW246 := n3_; have GE246 := n4_; have NB244_246 := n5_; have NB246_244 := n6_; clear n0_ n1_ n2_ n3_ n4_ n5_ n6_; clear hb hbox hg; have hnb12 := NB246_244.out; have hnc12 := NB244_246.out; have hcz13_0 : w11.cell? ⟨gb246, 0, none⟩ = some (.int .i64 0) := (blk_cell BK246.out 0).trans rfl; have hcz13_1 : w11.cell? ⟨gb246, 1, none⟩ = some (.int .i64 0) := (blk_cell BK246.out 1).trans rfl; have hcz13_2 : w11.cell? ⟨gb246, 2, none⟩ = some (.int .i64 0) := (blk_cell BK246.out 2).trans rfl; have hcz13_3 : w11.cell? ⟨gb246, 3, none⟩ = some (.slice none 0 0) := (blk_cell BK246.out 3).trans rfl; have hfz13_0 := blk_frozen BK246.out 0; have hfz13_1 := blk_frozen BK246.out 1; have hfz13_2 := blk_frozen BK246.out 2; have hfz13_3 := blk_frozen BK246.out 3))
                repeat (go_quiet (first | ((with_reducible refine gate_dst (N := 6) rfl ?_); (try (refine gate_guard (by rfl) ?_; dsimp only)); refine box_event ?hg (N := 6) ?hd (cs := #[.int .i64 0, .int .i64 0, .int .i64 0, .slice none 0 0]) (t := 38) ?hr ?_; (case hd => rfl); (case hg => rfl); (case hr => first | (go_simp; done) | (go_simp; rfl)); intro gb244 hg w9 hbox hb; have n0_ := Aside0.mk (below_step (by repeat (first | (with_reducible first | exact HB.out | apply below_alloc | apply pw_below_drewN | apply below_drew1) | exact HB.out)) hb); have n1_ := Aside0.mk (hbox); have n2_ := Aside0.mk ((by rw [hg]; exact (below_size (by repeat (first | (with_reducible first | exact HB.out | apply below_alloc | apply pw_below_drewN | apply below_drew1) | exact HB.out))) : w.heap.size ≤ gb244)); have n3_ := Aside0.mk ((by rw [hg]; exact (below_size (by repeat (first | (with_reducible first | exact HB.out | apply below_alloc | apply pw_below_drewN | apply below_drew1) | exact HB.out))) : w.heap.size ≤ gb244)); clear HB; have HB := n0_; have BK244 := n1_; have GW244 := n2_; have GE244 := n3_; clear n0_ n1_ n2_ n3_; clear hb hbox hg; have hcz10_0 : w9.cell? ⟨gb244, 0, none⟩ = some (.int .i64 0) := (blk_cell BK244.out 0).trans rfl; have hcz10_1 : w9.cell? ⟨gb244, 1, none⟩ = some (.int .i64 0) := (blk_cell BK244.out 1).trans rfl; have hcz10_2 : w9.cell? ⟨gb244, 2, none⟩ = some (.int .i64 0) := (blk_cell BK244.out 2).trans rfl; have hcz10_3 : w9.cell? ⟨gb244, 3, none⟩ = some (.slice none 0 0) := (blk_cell BK244.out 3).trans rfl; have hfz10_0 := blk_frozen BK244.out 0; have hfz10_1 := blk_frozen BK244.out 1; have hfz10_2 := blk_frozen BK244.out 2; have hfz10_3 := blk_frozen BK244.out 3; have p245 : 0 ≤ (x17_1 : Int) := of_decide_eq_true (by first | (with_reducible assumption) | assumption); have q245 : x17_1 < (l1.length : Int) := of_decide_eq_true (by first | (with_reducible assumption) | assumption); obtain ⟨ad245, A245_3, c245_3, e245, hx245_0, hx245_1, hx245_2, hx245_3, hl245_3, hi245_3⟩ := at_T38 HR1.out x17_1 p245 q245; cases e245; have hn245_0 : ad245.block ≠ gb244 := Nat.ne_of_lt (Nat.lt_of_lt_of_le (by have := World.block_lt_of_cell? _ _ hx245_0; first | rwa [add_block] at this | exact this) GW244.out); have hn245_1 : ad245.block ≠ gb244 := Nat.ne_of_lt (Nat.lt_of_lt_of_le (by have := World.block_lt_of_cell? _ _ hx245_0; first | rwa [add_block] at this | exact this) GW244.out); have hn245_2 : ad245.block ≠ gb244 := Nat.ne_of_lt (Nat.lt_of_lt_of_le (by have := World.block_lt_of_cell? _ _ hx245_0; first | rwa [add_block] at this | exact this) GW244.out); have hn245_3 : ad245.block ≠ gb244 := Nat.ne_of_lt (Nat.lt_of_lt_of_le (by have := World.block_lt_of_cell? _ _ hx245_0; first | rwa [add_block] at this | exact this) GW244.out); replace hx245_0 := (HB.out.cell (World.block_lt_of_cell? w _ hx245_0)).trans hx245_0; replace hx245_1 := (HB.out.cell (World.block_lt_of_cell? w _ hx245_1)).trans hx245_1; replace hx245_2 := (HB.out.cell (World.block_lt_of_cell? w _ hx245_2)).trans hx245_2; replace hx245_3 := (HB.out.cell (World.block_lt_of_cell? w _ hx245_3)).trans hx245_3; have HR245_3 := Aside0.mk hi245_3; have HC245_3 := Aside0.mk hl245_3; clear hi245_3 hl245_3; replace hx245_0 := (cell_far (p := ⟨gb244, 0, none⟩) (by first | (rw [add_block]; exact hn245_0) | (show (Addr.add _ _).block ≠ _; rw [add_block]; exact hn245_0) | exact hn245_0) (.int .i64 ((rd_T38 l0 x17_1).f0))).trans hx245_0; replace hx245_1 := (cell_far (p := ⟨gb244, 0, none⟩) (by first | (rw [add_block]; exact hn245_0) | (show (Addr.add _ _).block ≠ _; rw [add_block]; exact hn245_0) | exact hn245_0) (.int .i64 ((rd_T38 l0 x17_1).f0))).trans hx245_1; replace hx245_2 := (cell_far (p := ⟨gb244, 0, none⟩) (by first | (rw [add_block]; exact hn245_0) | (show (Addr.add _ _).block ≠ _; rw [add_block]; exact hn245_0) | exact hn245_0) (.int .i64 ((rd_T38 l0 x17_1).f0))).trans hx245_2; replace hx245_3 := (cell_far (p := ⟨gb244, 0, none⟩) (by first | (rw [add_block]; exact hn245_0) | (show (Addr.add _ _).block ≠ _; rw [add_block]; exact hn245_0) | exact hn245_0) (.int .i64 ((rd_T38 l0 x17_1).f0))).trans hx245_3; replace hx245_0 := (cell_far (p := ⟨gb244, 1, none⟩) (by first | (rw [add_block]; exact hn245_1) | (show (Addr.add _ _).block ≠ _; rw [add_block]; exact hn245_1) | exact hn245_1) (.int .i64 ((rd_T38 l0 x17_1).f1))).trans hx245_0; replace hx245_1 := (cell_far (p := ⟨gb244, 1, none⟩) (by first | (rw [add_block]; exact hn245_1) | (show (Addr.add _ _).block ≠ _; rw [add_block]; exact hn245_1) | exact hn245_1) (.int .i64 ((rd_T38 l0 x17_1).f1))).trans hx245_1; replace hx245_2 := (cell_far (p := ⟨gb244, 1, none⟩) (by first | (rw [add_block]; exact hn245_1) | (show (Addr.add _ _).block ≠ _; rw [add_block]; exact hn245_1) | exact hn245_1) (.int .i64 ((rd_T38 l0 x17_1).f1))).trans hx245_2; replace hx245_3 := (cell_far (p := ⟨gb244, 1, none⟩) (by first | (rw [add_block]; exact hn245_1) | (show (Addr.add _ _).block ≠ _; rw [add_block]; exact hn245_1) | exact hn245_1) (.int .i64 ((rd_T38 l0 x17_1).f1))).trans hx245_3; replace hx245_0 := (cell_far (p := ⟨gb244, 2, none⟩) (by first | (rw [add_block]; exact hn245_2) | (show (Addr.add _ _).block ≠ _; rw [add_block]; exact hn245_2) | exact hn245_2) (.int .i64 ((rd_T38 l0 x17_1).f2))).trans hx245_0; replace hx245_1 := (cell_far (p := ⟨gb244, 2, none⟩) (by first | (rw [add_block]; exact hn245_2) | (show (Addr.add _ _).block ≠ _; rw [add_block]; exact hn245_2) | exact hn245_2) (.int .i64 ((rd_T38 l0 x17_1).f2))).trans hx245_1; replace hx245_2 := (cell_far (p := ⟨gb244, 2, none⟩) (by first | (rw [add_block]; exact hn245_2) | (show (Addr.add _ _).block ≠ _; rw [add_block]; exact hn245_2) | exact hn245_2) (.int .i64 ((rd_T38 l0 x17_1).f2))).trans hx245_2; replace hx245_3 := (cell_far (p := ⟨gb244, 2, none⟩) (by first | (rw [add_block]; exact hn245_2) | (show (Addr.add _ _).block ≠ _; rw [add_block]; exact hn245_2) | exact hn245_2) (.int .i64 ((rd_T38 l0 x17_1).f2))).trans hx245_3; replace hx245_0 := (cell_far (p := ⟨gb244, 3, none⟩) (by first | (rw [add_block]; exact hn245_3) | (show (Addr.add _ _).block ≠ _; rw [add_block]; exact hn245_3) | exact hn245_3) (.slice A243_3 ((rd_T38 l0 x17_1).f3).length c243_3)).trans hx245_0; replace hx245_1 := (cell_far (p := ⟨gb244, 3, none⟩) (by first | (rw [add_block]; exact hn245_3) | (show (Addr.add _ _).block ≠ _; rw [add_block]; exact hn245_3) | exact hn245_3) (.slice A243_3 ((rd_T38 l0 x17_1).f3).length c243_3)).trans hx245_1; replace hx245_2 := (cell_far (p := ⟨gb244, 3, none⟩) (by first | (rw [add_block]; exact hn245_3) | (show (Addr.add _ _).block ≠ _; rw [add_block]; exact hn245_3) | exact hn245_3) (.slice A243_3 ((rd_T38 l0 x17_1).f3).length c243_3)).trans hx245_2; replace hx245_3 := (cell_far (p := ⟨gb244, 3, none⟩) (by first | (rw [add_block]; exact hn245_3) | (show (Addr.add _ _).block ≠ _; rw [add_block]; exact hn245_3) | exact hn245_3) (.slice A243_3 ((rd_T38 l0 x17_1).f3).length c243_3)).trans hx245_3; (try have hy245_0 := fun (n_ : Nat) => (show ((((((w9.drewN n_).setCell ⟨gb244, 0, none⟩ (.int .i64 ((rd_T38 l0 x17_1).f0))).setCell ⟨gb244, 1, none⟩ (.int .i64 ((rd_T38 l0 x17_1).f1))).setCell ⟨gb244, 2, none⟩ (.int .i64 ((rd_T38 l0 x17_1).f2))).setCell ⟨gb244, 3, none⟩ (.slice A243_3 ((rd_T38 l0 x17_1).f3).length c243_3))).cell? _ = some _ from hx245_0)); (try have hy245_1 := fun (n_ : Nat) => (show ((((((w9.drewN n_).setCell ⟨gb244, 0, none⟩ (.int .i64 ((rd_T38 l0 x17_1).f0))).setCell ⟨gb244, 1, none⟩ (.int .i64 ((rd_T38 l0 x17_1).f1))).setCell ⟨gb244, 2, none⟩ (.int .i64 ((rd_T38 l0 x17_1).f2))).setCell ⟨gb244, 3, none⟩ (.slice A243_3 ((rd_T38 l0 x17_1).f3).length c243_3))).cell? _ = some _ from hx245_1)); (try have hy245_2 := fun (n_ : Nat) => (show ((((((w9.drewN n_).setCell ⟨gb244, 0, none⟩ (.int .i64 ((rd_T38 l0 x17_1).f0))).setCell ⟨gb244, 1, none⟩ (.int .i64 ((rd_T38 l0 x17_1).f1))).setCell ⟨gb244, 2, none⟩ (.int .i64 ((rd_T38 l0 x17_1).f2))).setCell ⟨gb244, 3, none⟩ (.slice A243_3 ((rd_T38 l0 x17_1).f3).length c243_3))).cell? _ = some _ from hx245_2)); (try have hy245_3 := fun (n_ : Nat) => (show ((((((w9.drewN n_).setCell ⟨gb244, 0, none⟩ (.int .i64 ((rd_T38 l0 x17_1).f0))).setCell ⟨gb244, 1, none⟩ (.int .i64 ((rd_T38 l0 x17_1).f1))).setCell ⟨gb244, 2, none⟩ (.int .i64 ((rd_T38 l0 x17_1).f2))).setCell ⟨gb244, 3, none⟩ (.slice A243_3 ((rd_T38 l0 x17_1).f3).length c243_3))).cell? _ = some _ from hx245_3)); clear hn245_0; clear hn245_1; clear hn245_2; clear hn245_3; replace p245 := eq_true p245; replace q245 := eq_true q245) | ((with_reducible refine gate_dst (N := 7) rfl ?_); (try (refine gate_guard (by rfl) ?_; dsimp only)); refine box_event ?hg (N := 7) ?hd (cs := #[.int .i64 0, .int .i64 0, .int .i64 0, .slice none 0 0]) (t := 38) ?hr ?_; (case hd => rfl); (case hg => rfl); (case hr => first | (go_simp; done) | (go_simp; rfl)); intro gb246 hg w11 hbox hb; have n0_ := Aside0.mk (blk_below (g := gb244) (o := .cells #[.int .i64 ((rd_T38 l0 x17_1).f0), .int .i64 ((rd_T38 l0 x17_1).f1), .int .i64 ((rd_T38 l0 x17_1).f2), .slice A243_3 ((rd_T38 l0 x17_1).f3).length c243_3] 38 (0, 0)) (by (with_reducible repeat (first | refine blk_drewN ?_ _ | refine blk_drew ?_ | refine blk_alloc ?_ _)); refine blk_put (cs := #[.int .i64 ((rd_T38 l0 x17_1).f0), .int .i64 ((rd_T38 l0 x17_1).f1), .int .i64 ((rd_T38 l0 x17_1).f2), .slice none 0 0]) ?_ 3 _ rfl; (with_reducible repeat (first | refine blk_drewN ?_ _ | refine blk_drew ?_ | refine blk_alloc ?_ _)); refine blk_put (cs := #[.int .i64 ((rd_T38 l0 x17_1).f0), .int .i64 ((rd_T38 l0 x17_1).f1), .int .i64 0, .slice none 0 0]) ?_ 2 _ rfl; (with_reducible repeat (first | refine blk_drewN ?_ _ | refine blk_drew ?_ | refine blk_alloc ?_ _)); refine blk_put (cs := #[.int .i64 ((rd_T38 l0 x17_1).f0), .int .i64 0, .int .i64 0, .slice none 0 0]) ?_ 1 _ rfl; (with_reducible repeat (first | refine blk_drewN ?_ _ | refine blk_drew ?_ | refine blk_alloc ?_ _)); refine blk_put (cs := #[.int .i64 0, .int .i64 0, .int .i64 0, .slice none 0 0]) ?_ 0 _ rfl; (with_reducible repeat (first | refine blk_drewN ?_ _ | refine blk_drew ?_ | refine blk_alloc ?_ _)); exact BK244.out) hb); have n1_ := Aside0.mk (below_step (by repeat (first | (with_reducible first | exact HB.out | apply below_alloc | apply pw_below_drewN | apply below_drew1 | refine below_set ?_ GE244.out) | exact HB.out)) hb); have n2_ := Aside0.mk (hbox); have n3_ := Aside0.mk ((by rw [hg]; exact (below_size (by repeat (first | (with_reducible first | exact HB.out | apply below_alloc | apply pw_below_drewN | apply below_drew1 | refine below_set ?_ GE244.out) | exact HB.out))) : w.heap.size ≤ gb246)); have n4_ := Aside0.mk ((by rw [hg]; exact (below_size (by repeat (first | (with_reducible first | exact HB.out | apply below_alloc | apply pw_below_drewN | apply below_drew1 | refine below_set ?_ GE244.out) | exact HB.out))) : w.heap.size ≤ gb246)); have n5_ := Aside0.mk ((by rw [hg]; exact Nat.ne_of_lt (blk_lt (g := gb244) (o := .cells #[.int .i64 ((rd_T38 l0 x17_1).f0), .int .i64 ((rd_T38 l0 x17_1).f1), .int .i64 ((rd_T38 l0 x17_1).f2), .slice A243_3 ((rd_T38 l0 x17_1).f3).length c243_3] 38 (0, 0)) (by (with_reducible repeat (first | refine blk_drewN ?_ _ | refine blk_drew ?_ | refine blk_alloc ?_ _)); refine blk_put (cs := #[.int .i64 ((rd_T38 l0 x17_1).f0), .int .i64 ((rd_T38 l0 x17_1).f1), .int .i64 ((rd_T38 l0 x17_1).f2), .slice none 0 0]) ?_ 3 _ rfl; (with_reducible repeat (first | refine blk_drewN ?_ _ | refine blk_drew ?_ | refine blk_alloc ?_ _)); refine blk_put (cs := #[.int .i64 ((rd_T38 l0 x17_1).f0), .int .i64 ((rd_T38 l0 x17_1).f1), .int .i64 0, .slice none 0 0]) ?_ 2 _ rfl; (with_reducible repeat (first | refine blk_drewN ?_ _ | refine blk_drew ?_ | refine blk_alloc ?_ _)); refine blk_put (cs := #[.int .i64 ((rd_T38 l0 x17_1).f0), .int .i64 0, .int .i64 0, .slice none 0 0]) ?_ 1 _ rfl; (with_reducible repeat (first | refine blk_drewN ?_ _ | refine blk_drew ?_ | refine blk_alloc ?_ _)); refine blk_put (cs := #[.int .i64 0, .int .i64 0, .int .i64 0, .slice none 0 0]) ?_ 0 _ rfl; (with_reducible repeat (first | refine blk_drewN ?_ _ | refine blk_drew ?_ | refine blk_alloc ?_ _)); exact BK244.out)) : gb244 ≠ gb246)); have n6_ := Aside0.mk ((by rw [hg]; exact Nat.ne_of_gt (blk_lt (g := gb244) (o := .cells #[.int .i64 ((rd_T38 l0 x17_1).f0), .int .i64 ((rd_T38 l0 x17_1).f1), .int .i64 ((rd_T38 l0 x17_1).f2), .slice A243_3 ((rd_T38 l0 x17_1).f3).length c243_3] 38 (0, 0)) (by (with_reducible repeat (first | refine blk_drewN ?_ _ | refine blk_drew ?_ | refine blk_alloc ?_ _)); refine blk_put (cs := #[.int .i64 ((rd_T38 l0 x17_1).f0), .int .i64 ((rd_T38 l0 x17_1).f1), .int .i64 ((rd_T38 l0 x17_1).f2), .slice none 0 0]) ?_ 3 _ rfl; (with_reducible repeat (first | refine blk_drewN ?_ _ | refine blk_drew ?_ | refine blk_alloc ?_ _)); refine blk_put (cs := #[.int .i64 ((rd_T38 l0 x17_1).f0), .int .i64 ((rd_T38 l0 x17_1).f1), .int .i64 0, .slice none 0 0]) ?_ 2 _ rfl; (with_reducible repeat (first | refine blk_drewN ?_ _ | refine blk_drew ?_ | refine blk_alloc ?_ _)); refine blk_put (cs := #[.int .i64 ((rd_T38 l0 x17_1).f0), .int .i64 0, .int .i64 0, .slice none 0 0]) ?_ 1 _ rfl; (with_reducible repeat (first | refine blk_drewN ?_ _ | refine blk_drew ?_ | refine blk_alloc ?_ _)); refine blk_put (cs := #[.int .i64 0, .int .i64 0, .int .i64 0, .slice none 0 0]) ?_ 0 _ rfl; (with_reducible repeat (first | refine blk_drewN ?_ _ | refine blk_drew ?_ | refine blk_alloc ?_ _)); exact BK244.out)) : gb246 ≠ gb244)); clear BK244; clear HB; have BK244 := n0_; have HB := n1_; have BK246 := n2_; have GW246 := n3_; have GE246 := n4_; have NB244_246 := n5_; have NB246_244 := n6_; clear n0_ n1_ n2_ n3_ n4_ n5_ n6_; clear hb hbox hg; have hnb12 := NB246_244.out; have hnc12 := NB244_246.out; have hcz13_0 : w11.cell? ⟨gb246, 0, none⟩ = some (.int .i64 0) := (blk_cell BK246.out 0).trans rfl; have hcz13_1 : w11.cell? ⟨gb246, 1, none⟩ = some (.int .i64 0) := (blk_cell BK246.out 1).trans rfl; have hcz13_2 : w11.cell? ⟨gb246, 2, none⟩ = some (.int .i64 0) := (blk_cell BK246.out 2).trans rfl; have hcz13_3 : w11.cell? ⟨gb246, 3, none⟩ = some (.slice none 0 0) := (blk_cell BK246.out 3).trans rfl; have hfz13_0 := blk_frozen BK246.out 0; have hfz13_1 := blk_frozen BK246.out 1; have hfz13_2 := blk_frozen BK246.out 2; have hfz13_3 := blk_frozen BK246.out 3)); go_upto_region 7 with (first | ((with_reducible refine gate_dst (N := 6) rfl ?_); (try (refine gate_guard (by rfl) ?_; dsimp only)); refine box_event ?hg (N := 6) ?hd (cs := #[.int .i64 0, .int .i64 0, .int .i64 0, .slice none 0 0]) (t := 38) ?hr ?_; (case hd => rfl); (case hg => rfl); (case hr => first | (go_simp; done) | (go_simp; rfl)); intro gb244 hg w9 hbox hb; have n0_ := Aside0.mk (below_step (by repeat (first | (with_reducible first | exact HB.out | apply below_alloc | apply pw_below_drewN | apply below_drew1) | exact HB.out)) hb); have n1_ := Aside0.mk (hbox); have n2_ := Aside0.mk ((by rw [hg]; exact (below_size (by repeat (first | (with_reducible first | exact HB.out | apply below_alloc | apply pw_below_drewN | apply below_drew1) | exact HB.out))) : w.heap.size ≤ gb244)); have n3_ := Aside0.mk ((by rw [hg]; exact (below_size (by repeat (first | (with_reducible first | exact HB.out | apply below_alloc | apply pw_below_drewN | apply below_drew1) | exact HB.out))) : w.heap.size ≤ gb244)); clear HB; have HB := n0_; have BK244 := n1_; have GW244 := n2_; have GE244 := n3_; clear n0_ n1_ n2_ n3_; clear hb hbox hg; have hcz10_0 : w9.cell? ⟨gb244, 0, none⟩ = some (.int .i64 0) := (blk_cell BK244.out 0).trans rfl; have hcz10_1 : w9.cell? ⟨gb244, 1, none⟩ = some (.int .i64 0) := (blk_cell BK244.out 1).trans rfl; have hcz10_2 : w9.cell? ⟨gb244, 2, none⟩ = some (.int .i64 0) := (blk_cell BK244.out 2).trans rfl; have hcz10_3 : w9.cell? ⟨gb244, 3, none⟩ = some (.slice none 0 0) := (blk_cell BK244.out 3).trans rfl; have hfz10_0 := blk_frozen BK244.out 0; have hfz10_1 := blk_frozen BK244.out 1; have hfz10_2 := blk_frozen BK244.out 2; have hfz10_3 := blk_frozen BK244.out 3; have p245 : 0 ≤ (x17_1 : Int) := of_decide_eq_true (by first | (with_reducible assumption) | assumption); have q245 : x17_1 < (l1.length : Int) := of_decide_eq_true (by first | (with_reducible assumption) | assumption); obtain ⟨ad245, A245_3, c245_3, e245, hx245_0, hx245_1, hx245_2, hx245_3, hl245_3, hi245_3⟩ := at_T38 HR1.out x17_1 p245 q245; cases e245; have hn245_0 : ad245.block ≠ gb244 := Nat.ne_of_lt (Nat.lt_of_lt_of_le (by have := World.block_lt_of_cell? _ _ hx245_0; first | rwa [add_block] at this | exact this) GW244.out); have hn245_1 : ad245.block ≠ gb244 := Nat.ne_of_lt (Nat.lt_of_lt_of_le (by have := World.block_lt_of_cell? _ _ hx245_0; first | rwa [add_block] at this | exact this) GW244.out); have hn245_2 : ad245.block ≠ gb244 := Nat.ne_of_lt (Nat.lt_of_lt_of_le (by have := World.block_lt_of_cell? _ _ hx245_0; first | rwa [add_block] at this | exact this) GW244.out); have hn245_3 : ad245.block ≠ gb244 := Nat.ne_of_lt (Nat.lt_of_lt_of_le (by have := World.block_lt_of_cell? _ _ hx245_0; first | rwa [add_block] at this | exact this) GW244.out); replace hx245_0 := (HB.out.cell (World.block_lt_of_cell? w _ hx245_0)).trans hx245_0; replace hx245_1 := (HB.out.cell (World.block_lt_of_cell? w _ hx245_1)).trans hx245_1; replace hx245_2 := (HB.out.cell (World.block_lt_of_cell? w _ hx245_2)).trans hx245_2; replace hx245_3 := (HB.out.cell (World.block_lt_of_cell? w _ hx245_3)).trans hx245_3; have HR245_3 := Aside0.mk hi245_3; have HC245_3 := Aside0.mk hl245_3; clear hi245_3 hl245_3; replace hx245_0 := (cell_far (p := ⟨gb244, 0, none⟩) (by first | (rw [add_block]; exact hn245_0) | (show (Addr.add _ _).block ≠ _; rw [add_block]; exact hn245_0) | exact hn245_0) (.int .i64 ((rd_T38 l0 x17_1).f0))).trans hx245_0; replace hx245_1 := (cell_far (p := ⟨gb244, 0, none⟩) (by first | (rw [add_block]; exact hn245_0) | (show (Addr.add _ _).block ≠ _; rw [add_block]; exact hn245_0) | exact hn245_0) (.int .i64 ((rd_T38 l0 x17_1).f0))).trans hx245_1; replace hx245_2 := (cell_far (p := ⟨gb244, 0, none⟩) (by first | (rw [add_block]; exact hn245_0) | (show (Addr.add _ _).block ≠ _; rw [add_block]; exact hn245_0) | exact hn245_0) (.int .i64 ((rd_T38 l0 x17_1).f0))).trans hx245_2; replace hx245_3 := (cell_far (p := ⟨gb244, 0, none⟩) (by first | (rw [add_block]; exact hn245_0) | (show (Addr.add _ _).block ≠ _; rw [add_block]; exact hn245_0) | exact hn245_0) (.int .i64 ((rd_T38 l0 x17_1).f0))).trans hx245_3; replace hx245_0 := (cell_far (p := ⟨gb244, 1, none⟩) (by first | (rw [add_block]; exact hn245_1) | (show (Addr.add _ _).block ≠ _; rw [add_block]; exact hn245_1) | exact hn245_1) (.int .i64 ((rd_T38 l0 x17_1).f1))).trans hx245_0; replace hx245_1 := (cell_far (p := ⟨gb244, 1, none⟩) (by first | (rw [add_block]; exact hn245_1) | (show (Addr.add _ _).block ≠ _; rw [add_block]; exact hn245_1) | exact hn245_1) (.int .i64 ((rd_T38 l0 x17_1).f1))).trans hx245_1; replace hx245_2 := (cell_far (p := ⟨gb244, 1, none⟩) (by first | (rw [add_block]; exact hn245_1) | (show (Addr.add _ _).block ≠ _; rw [add_block]; exact hn245_1) | exact hn245_1) (.int .i64 ((rd_T38 l0 x17_1).f1))).trans hx245_2; replace hx245_3 := (cell_far (p := ⟨gb244, 1, none⟩) (by first | (rw [add_block]; exact hn245_1) | (show (Addr.add _ _).block ≠ _; rw [add_block]; exact hn245_1) | exact hn245_1) (.int .i64 ((rd_T38 l0 x17_1).f1))).trans hx245_3; replace hx245_0 := (cell_far (p := ⟨gb244, 2, none⟩) (by first | (rw [add_block]; exact hn245_2) | (show (Addr.add _ _).block ≠ _; rw [add_block]; exact hn245_2) | exact hn245_2) (.int .i64 ((rd_T38 l0 x17_1).f2))).trans hx245_0; replace hx245_1 := (cell_far (p := ⟨gb244, 2, none⟩) (by first | (rw [add_block]; exact hn245_2) | (show (Addr.add _ _).block ≠ _; rw [add_block]; exact hn245_2) | exact hn245_2) (.int .i64 ((rd_T38 l0 x17_1).f2))).trans hx245_1; replace hx245_2 := (cell_far (p := ⟨gb244, 2, none⟩) (by first | (rw [add_block]; exact hn245_2) | (show (Addr.add _ _).block ≠ _; rw [add_block]; exact hn245_2) | exact hn245_2) (.int .i64 ((rd_T38 l0 x17_1).f2))).trans hx245_2; replace hx245_3 := (cell_far (p := ⟨gb244, 2, none⟩) (by first | (rw [add_block]; exact hn245_2) | (show (Addr.add _ _).block ≠ _; rw [add_block]; exact hn245_2) | exact hn245_2) (.int .i64 ((rd_T38 l0 x17_1).f2))).trans hx245_3; replace hx245_0 := (cell_far (p := ⟨gb244, 3, none⟩) (by first | (rw [add_block]; exact hn245_3) | (show (Addr.add _ _).block ≠ _; rw [add_block]; exact hn245_3) | exact hn245_3) (.slice A243_3 ((rd_T38 l0 x17_1).f3).length c243_3)).trans hx245_0; replace hx245_1 := (cell_far (p := ⟨gb244, 3, none⟩) (by first | (rw [add_block]; exact hn245_3) | (show (Addr.add _ _).block ≠ _; rw [add_block]; exact hn245_3) | exact hn245_3) (.slice A243_3 ((rd_T38 l0 x17_1).f3).length c243_3)).trans hx245_1; replace hx245_2 := (cell_far (p := ⟨gb244, 3, none⟩) (by first | (rw [add_block]; exact hn245_3) | (show (Addr.add _ _).block ≠ _; rw [add_block]; exact hn245_3) | exact hn245_3) (.slice A243_3 ((rd_T38 l0 x17_1).f3).length c243_3)).trans hx245_2; replace hx245_3 := (cell_far (p := ⟨gb244, 3, none⟩) (by first | (rw [add_block]; exact hn245_3) | (show (Addr.add _ _).block ≠ _; rw [add_block]; exact hn245_3) | exact hn245_3) (.slice A243_3 ((rd_T38 l0 x17_1).f3).length c243_3)).trans hx245_3; (try have hy245_0 := fun (n_ : Nat) => (show ((((((w9.drewN n_).setCell ⟨gb244, 0, none⟩ (.int .i64 ((rd_T38 l0 x17_1).f0))).setCell ⟨gb244, 1, none⟩ (.int .i64 ((rd_T38 l0 x17_1).f1))).setCell ⟨gb244, 2, none⟩ (.int .i64 ((rd_T38 l0 x17_1).f2))).setCell ⟨gb244, 3, none⟩ (.slice A243_3 ((rd_T38 l0 x17_1).f3).length c243_3))).cell? _ = some _ from hx245_0)); (try have hy245_1 := fun (n_ : Nat) => (show ((((((w9.drewN n_).setCell ⟨gb244, 0, none⟩ (.int .i64 ((rd_T38 l0 x17_1).f0))).setCell ⟨gb244, 1, none⟩ (.int .i64 ((rd_T38 l0 x17_1).f1))).setCell ⟨gb244, 2, none⟩ (.int .i64 ((rd_T38 l0 x17_1).f2))).setCell ⟨gb244, 3, none⟩ (.slice A243_3 ((rd_T38 l0 x17_1).f3).length c243_3))).cell? _ = some _ from hx245_1)); (try have hy245_2 := fun (n_ : Nat) => (show ((((((w9.drewN n_).setCell ⟨gb244, 0, none⟩ (.int .i64 ((rd_T38 l0 x17_1).f0))).setCell ⟨gb244, 1, none⟩ (.int .i64 ((rd_T38 l0 x17_1).f1))).setCell ⟨gb244, 2, none⟩ (.int .i64 ((rd_T38 l0 x17_1).f2))).setCell ⟨gb244, 3, none⟩ (.slice A243_3 ((rd_T38 l0 x17_1).f3).length c243_3))).cell? _ = some _ from hx245_2)); (try have hy245_3 := fun (n_ : Nat) => (show ((((((w9.drewN n_).setCell ⟨gb244, 0, none⟩ (.int .i64 ((rd_T38 l0 x17_1).f0))).setCell ⟨gb244, 1, none⟩ (.int .i64 ((rd_T38 l0 x17_1).f1))).setCell ⟨gb244, 2, none⟩ (.int .i64 ((rd_T38 l0 x17_1).f2))).setCell ⟨gb244, 3, none⟩ (.slice A243_3 ((rd_T38 l0 x17_1).f3).length c243_3))).cell? _ = some _ from hx245_3)); clear hn245_0; clear hn245_1; clear hn245_2; clear hn245_3; replace p245 := eq_true p245; replace q245 := eq_true q245) | ((with_reducible refine gate_dst (N := 7) rfl ?_); (try (refine gate_guard (by rfl) ?_; dsimp only)); refine box_event ?hg (N := 7) ?hd (cs := #[.int .i64 0, .int .i64 0, .int .i64 0, .slice none 0 0]) (t := 38) ?hr ?_; (case hd => rfl); (case hg => rfl); (case hr => first | (go_simp; done) | (go_simp; rfl)); intro gb246 hg w11 hbox hb; have n0_ := Aside0.mk (blk_below (g := gb244) (o := .cells #[.int .i64 ((rd_T38 l0 x17_1).f0), .int .i64 ((rd_T38 l0 x17_1).f1), .int .i64 ((rd_T38 l0 x17_1).f2), .slice A243_3 ((rd_T38 l0 x17_1).f3).length c243_3] 38 (0, 0)) (by (with_reducible repeat (first | refine blk_drewN ?_ _ | refine blk_drew ?_ | refine blk_alloc ?_ _)); refine blk_put (cs := #[.int .i64 ((rd_T38 l0 x17_1).f0), .int .i64 ((rd_T38 l0 x17_1).f1), .int .i64 ((rd_T38 l0 x17_1).f2), .slice none 0 0]) ?_ 3 _ rfl; (with_reducible repeat (first | refine blk_drewN ?_ _ | refine blk_drew ?_ | refine blk_alloc ?_ _)); refine blk_put (cs := #[.int .i64 ((rd_T38 l0 x17_1).f0), .int .i64 ((rd_T38 l0 x17_1).f1), .int .i64 0, .slice none 0 0]) ?_ 2 _ rfl; (with_reducible repeat (first | refine blk_drewN ?_ _ | refine blk_drew ?_ | refine blk_alloc ?_ _)); refine blk_put (cs := #[.int .i64 ((rd_T38 l0 x17_1).f0), .int .i64 0, .int .i64 0, .slice none 0 0]) ?_ 1 _ rfl; (with_reducible repeat (first | refine blk_drewN ?_ _ | refine blk_drew ?_ | refine blk_alloc ?_ _)); refine blk_put (cs := #[.int .i64 0, .int .i64 0, .int .i64 0, .slice none 0 0]) ?_ 0 _ rfl; (with_reducible repeat (first | refine blk_drewN ?_ _ | refine blk_drew ?_ | refine blk_alloc ?_ _)); exact BK244.out) hb); have n1_ := Aside0.mk (below_step (by repeat (first | (with_reducible first | exact HB.out | apply below_alloc | apply pw_below_drewN | apply below_drew1 | refine below_set ?_ GE244.out) | exact HB.out)) hb); have n2_ := Aside0.mk (hbox); have n3_ := Aside0.mk ((by rw [hg]; exact (below_size (by repeat (first | (with_reducible first | exact HB.out | apply below_alloc | apply pw_below_drewN | apply below_drew1 | refine below_set ?_ GE244.out) | exact HB.out))) : w.heap.size ≤ gb246)); have n4_ := Aside0.mk ((by rw [hg]; exact (below_size (by repeat (first | (with_reducible first | exact HB.out | apply below_alloc | apply pw_below_drewN | apply below_drew1 | refine below_set ?_ GE244.out) | exact HB.out))) : w.heap.size ≤ gb246)); have n5_ := Aside0.mk ((by rw [hg]; exact Nat.ne_of_lt (blk_lt (g := gb244) (o := .cells #[.int .i64 ((rd_T38 l0 x17_1).f0), .int .i64 ((rd_T38 l0 x17_1).f1), .int .i64 ((rd_T38 l0 x17_1).f2), .slice A243_3 ((rd_T38 l0 x17_1).f3).length c243_3] 38 (0, 0)) (by (with_reducible repeat (first | refine blk_drewN ?_ _ | refine blk_drew ?_ | refine blk_alloc ?_ _)); refine blk_put (cs := #[.int .i64 ((rd_T38 l0 x17_1).f0), .int .i64 ((rd_T38 l0 x17_1).f1), .int .i64 ((rd_T38 l0 x17_1).f2), .slice none 0 0]) ?_ 3 _ rfl; (with_reducible repeat (first | refine blk_drewN ?_ _ | refine blk_drew ?_ | refine blk_alloc ?_ _)); refine blk_put (cs := #[.int .i64 ((rd_T38 l0 x17_1).f0), .int .i64 ((rd_T38 l0 x17_1).f1), .int .i64 0, .slice none 0 0]) ?_ 2 _ rfl; (with_reducible repeat (first | refine blk_drewN ?_ _ | refine blk_drew ?_ | refine blk_alloc ?_ _)); refine blk_put (cs := #[.int .i64 ((rd_T38 l0 x17_1).f0), .int .i64 0, .int .i64 0, .slice none 0 0]) ?_ 1 _ rfl; (with_reducible repeat (first | refine blk_drewN ?_ _ | refine blk_drew ?_ | refine blk_alloc ?_ _)); refine blk_put (cs := #[.int .i64 0, .int .i64 0, .int .i64 0, .slice none 0 0]) ?_ 0 _ rfl; (with_reducible repeat (first | refine blk_drewN ?_ _ | refine blk_drew ?_ | refine blk_alloc ?_ _)); exact BK244.out)) : gb244 ≠ gb246)); have n6_ := Aside0.mk ((by rw [hg]; exact Nat.ne_of_gt (blk_lt (g := gb244) (o := .cells #[.int .i64 ((rd_T38 l0 x17_1).f0), .int .i64 ((rd_T38 l0 x17_1).f1), .int .i64 ((rd_T38 l0 x17_1).f2), .slice A243_3 ((rd_T38 l0 x17_1).f3).length c243_3] 38 (0, 0)) (by (with_reducible repeat (first | refine blk_drewN ?_ _ | refine blk_drew ?_ | refine blk_alloc ?_ _)); refine blk_put (cs := #[.int .i64 ((rd_T38 l0 x17_1).f0), .int .i64 ((rd_T38 l0 x17_1).f1), .int .i64 ((rd_T38 l0 x17_1).f2), .slice none 0 0]) ?_ 3 _ rfl; (with_reducible repeat (first | refine blk_drewN ?_ _ | refine blk_drew ?_ | refine blk_alloc ?_ _)); refine blk_put (cs := #[.int .i64 ((rd_T38 l0 x17_1).f0), .int .i64 ((rd_T38 l0 x17_1).f1), .int .i64 0, .slice none 0 0]) ?_ 2 _ rfl; (with_reducible repeat (first | refine blk_drewN ?_ _ | refine blk_drew ?_ | refine blk_alloc ?_ _)); refine blk_put (cs := #[.int .i64 ((rd_T38 l0 x17_1).f0), .int .i64 0, .int .i64 0, .slice none 0 0]) ?_ 1 _ rfl; (with_reducible repeat (first | refine blk_drewN ?_ _ | refine blk_drew ?_ | refine blk_alloc ?_ _)); refine blk_put (cs := #[.int .i64 0, .int .i64 0, .int .i64 0, .slice none 0 0]) ?_ 0 _ rfl; (with_reducible repeat (first | refine blk_drewN ?_ _ | refine blk_drew ?_ | refine blk_alloc ?_ _)); exact BK244.out)) : gb246 ≠ gb244)); clear BK244; clear HB; have BK244 := n0_; have HB := n1_; have BK246 := n2_; have GW246 := n3_; have GE246 := n4_; have NB244_246 := n5_; have NB246_244 := n6_; clear n0_ n1_ n2_ n3_ n4_ n5_ n6_; clear hb hbox hg; have hnb12 := NB246_244.out; have hnc12 := NB244_246.out; have hcz13_0 : w11.cell? ⟨gb246, 0, none⟩ = some (.int .i64 0) := (blk_cell BK246.out 0).trans rfl; have hcz13_1 : w11.cell? ⟨gb246, 1, none⟩ = some (.int .i64 0) := (blk_cell BK246.out 1).trans rfl; have hcz13_2 : w11.cell? ⟨gb246, 2, none⟩ = some (.int .i64 0) := (blk_cell BK246.out 2).trans rfl; have hcz13_3 : w11.cell? ⟨gb246, 3, none⟩ = some (.slice none 0 0) := (blk_cell BK246.out 3).trans rfl; have hfz13_0 := blk_frozen BK246.out 0; have hfz13_1 := blk_frozen BK246.out 1; have hfz13_2 := blk_frozen BK246.out 2; have hfz13_3 := blk_frozen BK246.out 3)))
                (try simp only [Act.put, List.setIfInBounds_toArray, List.set_cons_zero, List.set_cons_succ])
                go_cut [53] (fun v53 wc => ∃ (kq : Nat) (x53_7 : Bool), v53 = .bool x53_7 ∧ Aside0 (history_Same.j1 kq l1 l0 (l0.length : Int) x17_1 x53_7 ((rd_T38 l0 x17_1).f0) ((rd_T38 l0 x17_1).f1) ((rd_T38 l0 x17_1).f2) ((rd_T38 l0 x17_1).f3) ((rd_T38 l1 x17_1).f0) ((rd_T38 l1 x17_1).f1) ((rd_T38 l1 x17_1).f2) ((rd_T38 l1 x17_1).f3) = some r) ∧ Aside0 (kq ≤ k1) ∧ Aside0 (wc.heap[gb244]? = some (.cells #[.int .i64 ((rd_T38 l0 x17_1).f0), .int .i64 ((rd_T38 l0 x17_1).f1), .int .i64 ((rd_T38 l0 x17_1).f2), (.slice A243_3 ((rd_T38 l0 x17_1).f3).length c243_3)] 38 (0, 0))) ∧ Aside0 (wc.heap[gb246]? = some (.cells #[.int .i64 ((rd_T38 l1 x17_1).f0), .int .i64 ((rd_T38 l1 x17_1).f1), .int .i64 ((rd_T38 l1 x17_1).f2), (.slice A245_3 ((rd_T38 l1 x17_1).f3).length c245_3)] 38 (0, 0))) ∧ Aside0 (Below w.heap.size w wc))
                case first =>
                  have H := HC8.out
                  clear HC8
                  by_cases c14 : ((rd_T38 l0 x17_1).f0) = ((rd_T38 l1 x17_1).f0)
                  · rw [if_pos c14] at H
                    have c14b0 : (((rd_T38 l0 x17_1).f0) == ((rd_T38 l1 x17_1).f0)) = true := beq_iff_eq.mpr c14
                    have c14b1 : (((rd_T38 l0 x17_1).f0) != ((rd_T38 l1 x17_1).f0)) = false := bne_eq_false_iff_eq.mpr c14
                    clear c14
                    (first | rw [c14b0] | (simp only [i64_w, i32_w]; rw [c14b0]) | skip)
                    by_cases c15 : ((rd_T38 l0 x17_1).f1) = ((rd_T38 l1 x17_1).f1)
                    · rw [if_pos c15] at H
                      have c15b0 : (((rd_T38 l0 x17_1).f1) == ((rd_T38 l1 x17_1).f1)) = true := beq_iff_eq.mpr c15
                      have c15b1 : (((rd_T38 l0 x17_1).f1) != ((rd_T38 l1 x17_1).f1)) = false := bne_eq_false_iff_eq.mpr c15
                      clear c15
                      by_cases c16 : ((rd_T38 l0 x17_1).f2) = ((rd_T38 l1 x17_1).f2)
                      · rw [if_pos c16] at H
                        have c16b0 : (((rd_T38 l0 x17_1).f2) == ((rd_T38 l1 x17_1).f2)) = true := beq_iff_eq.mpr c16
                        have c16b1 : (((rd_T38 l0 x17_1).f2) != ((rd_T38 l1 x17_1).f2)) = false := bne_eq_false_iff_eq.mpr c16
                        clear c16
                        have H' := Aside0.mk H
                        clear H
                        have hnb17 := NB244_246.out
                        have hnc17 := NB246_244.out
                        have hcz18_0 : w11.cell? ⟨gb244, 0, none⟩ = some (.int .i64 ((rd_T38 l0 x17_1).f0)) := (blk_cell BK244.out 0).trans rfl
                        have hcz18_1 : w11.cell? ⟨gb244, 1, none⟩ = some (.int .i64 ((rd_T38 l0 x17_1).f1)) := (blk_cell BK244.out 1).trans rfl
                        have hcz18_2 : w11.cell? ⟨gb244, 2, none⟩ = some (.int .i64 ((rd_T38 l0 x17_1).f2)) := (blk_cell BK244.out 2).trans rfl
                        have hcz18_3 : w11.cell? ⟨gb244, 3, none⟩ = some (.slice A243_3 ((rd_T38 l0 x17_1).f3).length c243_3) := (blk_cell BK244.out 3).trans rfl
                        have hfz18_0 := blk_frozen BK244.out 0
                        have hfz18_1 := blk_frozen BK244.out 1
                        have hfz18_2 := blk_frozen BK244.out 2
                        have hfz18_3 := blk_frozen BK244.out 3
                        have hcz19_0 : w11.cell? ⟨gb246, 0, none⟩ = some (.int .i64 0) := (blk_cell BK246.out 0).trans rfl
                        have hcz19_1 : w11.cell? ⟨gb246, 1, none⟩ = some (.int .i64 0) := (blk_cell BK246.out 1).trans rfl
                        have hcz19_2 : w11.cell? ⟨gb246, 2, none⟩ = some (.int .i64 0) := (blk_cell BK246.out 2).trans rfl
                        have hcz19_3 : w11.cell? ⟨gb246, 3, none⟩ = some (.slice none 0 0) := (blk_cell BK246.out 3).trans rfl
                        have hfz19_0 := blk_frozen BK246.out 0
                        have hfz19_1 := blk_frozen BK246.out 1
                        have hfz19_2 := blk_frozen BK246.out 2
                        have hfz19_3 := blk_frozen BK246.out 3
                        go_wp2
                        repeat (go_quiet (fail); try go_wp2)
                        go_meet
                        case rel => exact ⟨_, (((((rd_T38 l0 x17_1).f3).length : Int) != (((rd_T38 l1 x17_1).f3).length : Int))), (by first | rfl | (simp; done) | (simp [*]; done)), H', ⟨by have := HK1.out; first | omega | exact Nat.le_refl _⟩, ⟨by (with_reducible repeat (first | refine blk_drewN ?_ _ | refine blk_drew ?_ | refine blk_alloc ?_ _)); refine blk_far ?_ NB244_246.out _; (with_reducible repeat (first | refine blk_drewN ?_ _ | refine blk_drew ?_ | refine blk_alloc ?_ _)); refine blk_far ?_ NB244_246.out _; (with_reducible repeat (first | refine blk_drewN ?_ _ | refine blk_drew ?_ | refine blk_alloc ?_ _)); refine blk_far ?_ NB244_246.out _; (with_reducible repeat (first | refine blk_drewN ?_ _ | refine blk_drew ?_ | refine blk_alloc ?_ _)); refine blk_far ?_ NB244_246.out _; (with_reducible repeat (first | refine blk_drewN ?_ _ | refine blk_drew ?_ | refine blk_alloc ?_ _)); exact BK244.out⟩, ⟨by (with_reducible repeat (first | refine blk_drewN ?_ _ | refine blk_drew ?_ | refine blk_alloc ?_ _)); refine blk_put (cs := #[.int .i64 ((rd_T38 l1 x17_1).f0), .int .i64 ((rd_T38 l1 x17_1).f1), .int .i64 ((rd_T38 l1 x17_1).f2), .slice none 0 0]) ?_ 3 _ rfl; (with_reducible repeat (first | refine blk_drewN ?_ _ | refine blk_drew ?_ | refine blk_alloc ?_ _)); refine blk_put (cs := #[.int .i64 ((rd_T38 l1 x17_1).f0), .int .i64 ((rd_T38 l1 x17_1).f1), .int .i64 0, .slice none 0 0]) ?_ 2 _ rfl; (with_reducible repeat (first | refine blk_drewN ?_ _ | refine blk_drew ?_ | refine blk_alloc ?_ _)); refine blk_put (cs := #[.int .i64 ((rd_T38 l1 x17_1).f0), .int .i64 0, .int .i64 0, .slice none 0 0]) ?_ 1 _ rfl; (with_reducible repeat (first | refine blk_drewN ?_ _ | refine blk_drew ?_ | refine blk_alloc ?_ _)); refine blk_put (cs := #[.int .i64 0, .int .i64 0, .int .i64 0, .slice none 0 0]) ?_ 0 _ rfl; (with_reducible repeat (first | refine blk_drewN ?_ _ | refine blk_drew ?_ | refine blk_alloc ?_ _)); exact BK246.out⟩, ⟨by repeat (first | (with_reducible first | exact HB.out | apply below_alloc | apply pw_below_drewN | apply below_drew1 | refine below_set ?_ GE244.out | refine below_set ?_ GE246.out) | exact HB.out)⟩⟩
                      · rw [if_neg c16] at H
                        have c16b0 : (((rd_T38 l0 x17_1).f2) == ((rd_T38 l1 x17_1).f2)) = false := beq_eq_false_iff_ne.mpr c16
                        have c16b1 : (((rd_T38 l0 x17_1).f2) != ((rd_T38 l1 x17_1).f2)) = true := bne_iff_ne.mpr c16
                        have H' := Aside0.mk H
                        clear H
                        have hnb20 := NB244_246.out
                        have hnc20 := NB246_244.out
                        have hcz21_0 : w11.cell? ⟨gb244, 0, none⟩ = some (.int .i64 ((rd_T38 l0 x17_1).f0)) := (blk_cell BK244.out 0).trans rfl
                        have hcz21_1 : w11.cell? ⟨gb244, 1, none⟩ = some (.int .i64 ((rd_T38 l0 x17_1).f1)) := (blk_cell BK244.out 1).trans rfl
                        have hcz21_2 : w11.cell? ⟨gb244, 2, none⟩ = some (.int .i64 ((rd_T38 l0 x17_1).f2)) := (blk_cell BK244.out 2).trans rfl
                        have hcz21_3 : w11.cell? ⟨gb244, 3, none⟩ = some (.slice A243_3 ((rd_T38 l0 x17_1).f3).length c243_3) := (blk_cell BK244.out 3).trans rfl
                        have hfz21_0 := blk_frozen BK244.out 0
                        have hfz21_1 := blk_frozen BK244.out 1
                        have hfz21_2 := blk_frozen BK244.out 2
                        have hfz21_3 := blk_frozen BK244.out 3
                        have hcz22_0 : w11.cell? ⟨gb246, 0, none⟩ = some (.int .i64 0) := (blk_cell BK246.out 0).trans rfl
                        have hcz22_1 : w11.cell? ⟨gb246, 1, none⟩ = some (.int .i64 0) := (blk_cell BK246.out 1).trans rfl
                        have hcz22_2 : w11.cell? ⟨gb246, 2, none⟩ = some (.int .i64 0) := (blk_cell BK246.out 2).trans rfl
                        have hcz22_3 : w11.cell? ⟨gb246, 3, none⟩ = some (.slice none 0 0) := (blk_cell BK246.out 3).trans rfl
                        have hfz22_0 := blk_frozen BK246.out 0
                        have hfz22_1 := blk_frozen BK246.out 1
                        have hfz22_2 := blk_frozen BK246.out 2
                        have hfz22_3 := blk_frozen BK246.out 3
                        go_wp2
                        repeat (go_quiet (fail); try go_wp2)
                        go_meet
                        case rel => exact ⟨_, (true), (by first | rfl | (simp; done) | (simp [*]; done)), H', ⟨by have := HK1.out; first | omega | exact Nat.le_refl _⟩, ⟨by (with_reducible repeat (first | refine blk_drewN ?_ _ | refine blk_drew ?_ | refine blk_alloc ?_ _)); refine blk_far ?_ NB244_246.out _; (with_reducible repeat (first | refine blk_drewN ?_ _ | refine blk_drew ?_ | refine blk_alloc ?_ _)); refine blk_far ?_ NB244_246.out _; (with_reducible repeat (first | refine blk_drewN ?_ _ | refine blk_drew ?_ | refine blk_alloc ?_ _)); refine blk_far ?_ NB244_246.out _; (with_reducible repeat (first | refine blk_drewN ?_ _ | refine blk_drew ?_ | refine blk_alloc ?_ _)); refine blk_far ?_ NB244_246.out _; (with_reducible repeat (first | refine blk_drewN ?_ _ | refine blk_drew ?_ | refine blk_alloc ?_ _)); exact BK244.out⟩, ⟨by (with_reducible repeat (first | refine blk_drewN ?_ _ | refine blk_drew ?_ | refine blk_alloc ?_ _)); refine blk_put (cs := #[.int .i64 ((rd_T38 l1 x17_1).f0), .int .i64 ((rd_T38 l1 x17_1).f1), .int .i64 ((rd_T38 l1 x17_1).f2), .slice none 0 0]) ?_ 3 _ rfl; (with_reducible repeat (first | refine blk_drewN ?_ _ | refine blk_drew ?_ | refine blk_alloc ?_ _)); refine blk_put (cs := #[.int .i64 ((rd_T38 l1 x17_1).f0), .int .i64 ((rd_T38 l1 x17_1).f1), .int .i64 0, .slice none 0 0]) ?_ 2 _ rfl; (with_reducible repeat (first | refine blk_drewN ?_ _ | refine blk_drew ?_ | refine blk_alloc ?_ _)); refine blk_put (cs := #[.int .i64 ((rd_T38 l1 x17_1).f0), .int .i64 0, .int .i64 0, .slice none 0 0]) ?_ 1 _ rfl; (with_reducible repeat (first | refine blk_drewN ?_ _ | refine blk_drew ?_ | refine blk_alloc ?_ _)); refine blk_put (cs := #[.int .i64 0, .int .i64 0, .int .i64 0, .slice none 0 0]) ?_ 0 _ rfl; (with_reducible repeat (first | refine blk_drewN ?_ _ | refine blk_drew ?_ | refine blk_alloc ?_ _)); exact BK246.out⟩, ⟨by repeat (first | (with_reducible first | exact HB.out | apply below_alloc | apply pw_below_drewN | apply below_drew1 | refine below_set ?_ GE244.out | refine below_set ?_ GE246.out) | exact HB.out)⟩⟩
                    · rw [if_neg c15] at H
                      have c15b0 : (((rd_T38 l0 x17_1).f1) == ((rd_T38 l1 x17_1).f1)) = false := beq_eq_false_iff_ne.mpr c15
                      have c15b1 : (((rd_T38 l0 x17_1).f1) != ((rd_T38 l1 x17_1).f1)) = true := bne_iff_ne.mpr c15
                      have H' := Aside0.mk H
                      clear H
                      have hnb23 := NB244_246.out
                      have hnc23 := NB246_244.out
                      have hcz24_0 : w11.cell? ⟨gb244, 0, none⟩ = some (.int .i64 ((rd_T38 l0 x17_1).f0)) := (blk_cell BK244.out 0).trans rfl
                      have hcz24_1 : w11.cell? ⟨gb244, 1, none⟩ = some (.int .i64 ((rd_T38 l0 x17_1).f1)) := (blk_cell BK244.out 1).trans rfl
                      have hcz24_2 : w11.cell? ⟨gb244, 2, none⟩ = some (.int .i64 ((rd_T38 l0 x17_1).f2)) := (blk_cell BK244.out 2).trans rfl
                      have hcz24_3 : w11.cell? ⟨gb244, 3, none⟩ = some (.slice A243_3 ((rd_T38 l0 x17_1).f3).length c243_3) := (blk_cell BK244.out 3).trans rfl
                      have hfz24_0 := blk_frozen BK244.out 0
                      have hfz24_1 := blk_frozen BK244.out 1
                      have hfz24_2 := blk_frozen BK244.out 2
                      have hfz24_3 := blk_frozen BK244.out 3
                      have hcz25_0 : w11.cell? ⟨gb246, 0, none⟩ = some (.int .i64 0) := (blk_cell BK246.out 0).trans rfl
                      have hcz25_1 : w11.cell? ⟨gb246, 1, none⟩ = some (.int .i64 0) := (blk_cell BK246.out 1).trans rfl
                      have hcz25_2 : w11.cell? ⟨gb246, 2, none⟩ = some (.int .i64 0) := (blk_cell BK246.out 2).trans rfl
                      have hcz25_3 : w11.cell? ⟨gb246, 3, none⟩ = some (.slice none 0 0) := (blk_cell BK246.out 3).trans rfl
                      have hfz25_0 := blk_frozen BK246.out 0
                      have hfz25_1 := blk_frozen BK246.out 1
                      have hfz25_2 := blk_frozen BK246.out 2
                      have hfz25_3 := blk_frozen BK246.out 3
                      go_wp2
                      repeat (go_quiet (fail); try go_wp2)
                      go_meet
                      case rel => exact ⟨_, (true), (by first | rfl | (simp; done) | (simp [*]; done)), H', ⟨by have := HK1.out; first | omega | exact Nat.le_refl _⟩, ⟨by (with_reducible repeat (first | refine blk_drewN ?_ _ | refine blk_drew ?_ | refine blk_alloc ?_ _)); refine blk_far ?_ NB244_246.out _; (with_reducible repeat (first | refine blk_drewN ?_ _ | refine blk_drew ?_ | refine blk_alloc ?_ _)); refine blk_far ?_ NB244_246.out _; (with_reducible repeat (first | refine blk_drewN ?_ _ | refine blk_drew ?_ | refine blk_alloc ?_ _)); refine blk_far ?_ NB244_246.out _; (with_reducible repeat (first | refine blk_drewN ?_ _ | refine blk_drew ?_ | refine blk_alloc ?_ _)); refine blk_far ?_ NB244_246.out _; (with_reducible repeat (first | refine blk_drewN ?_ _ | refine blk_drew ?_ | refine blk_alloc ?_ _)); exact BK244.out⟩, ⟨by (with_reducible repeat (first | refine blk_drewN ?_ _ | refine blk_drew ?_ | refine blk_alloc ?_ _)); refine blk_put (cs := #[.int .i64 ((rd_T38 l1 x17_1).f0), .int .i64 ((rd_T38 l1 x17_1).f1), .int .i64 ((rd_T38 l1 x17_1).f2), .slice none 0 0]) ?_ 3 _ rfl; (with_reducible repeat (first | refine blk_drewN ?_ _ | refine blk_drew ?_ | refine blk_alloc ?_ _)); refine blk_put (cs := #[.int .i64 ((rd_T38 l1 x17_1).f0), .int .i64 ((rd_T38 l1 x17_1).f1), .int .i64 0, .slice none 0 0]) ?_ 2 _ rfl; (with_reducible repeat (first | refine blk_drewN ?_ _ | refine blk_drew ?_ | refine blk_alloc ?_ _)); refine blk_put (cs := #[.int .i64 ((rd_T38 l1 x17_1).f0), .int .i64 0, .int .i64 0, .slice none 0 0]) ?_ 1 _ rfl; (with_reducible repeat (first | refine blk_drewN ?_ _ | refine blk_drew ?_ | refine blk_alloc ?_ _)); refine blk_put (cs := #[.int .i64 0, .int .i64 0, .int .i64 0, .slice none 0 0]) ?_ 0 _ rfl; (with_reducible repeat (first | refine blk_drewN ?_ _ | refine blk_drew ?_ | refine blk_alloc ?_ _)); exact BK246.out⟩, ⟨by repeat (first | (with_reducible first | exact HB.out | apply below_alloc | apply pw_below_drewN | apply below_drew1 | refine below_set ?_ GE244.out | refine below_set ?_ GE246.out) | exact HB.out)⟩⟩
                  · rw [if_neg c14] at H
                    have c14b0 : (((rd_T38 l0 x17_1).f0) == ((rd_T38 l1 x17_1).f0)) = false := beq_eq_false_iff_ne.mpr c14
                    have c14b1 : (((rd_T38 l0 x17_1).f0) != ((rd_T38 l1 x17_1).f0)) = true := bne_iff_ne.mpr c14
                    (first | rw [c14b0] | (simp only [i64_w, i32_w]; rw [c14b0]) | skip)
                    have H' := Aside0.mk H
                    clear H
                    have hnb26 := NB244_246.out
                    have hnc26 := NB246_244.out
                    have hcz27_0 : w11.cell? ⟨gb244, 0, none⟩ = some (.int .i64 ((rd_T38 l0 x17_1).f0)) := (blk_cell BK244.out 0).trans rfl
                    have hcz27_1 : w11.cell? ⟨gb244, 1, none⟩ = some (.int .i64 ((rd_T38 l0 x17_1).f1)) := (blk_cell BK244.out 1).trans rfl
                    have hcz27_2 : w11.cell? ⟨gb244, 2, none⟩ = some (.int .i64 ((rd_T38 l0 x17_1).f2)) := (blk_cell BK244.out 2).trans rfl
                    have hcz27_3 : w11.cell? ⟨gb244, 3, none⟩ = some (.slice A243_3 ((rd_T38 l0 x17_1).f3).length c243_3) := (blk_cell BK244.out 3).trans rfl
                    have hfz27_0 := blk_frozen BK244.out 0
                    have hfz27_1 := blk_frozen BK244.out 1
                    have hfz27_2 := blk_frozen BK244.out 2
                    have hfz27_3 := blk_frozen BK244.out 3
                    have hcz28_0 : w11.cell? ⟨gb246, 0, none⟩ = some (.int .i64 0) := (blk_cell BK246.out 0).trans rfl
                    have hcz28_1 : w11.cell? ⟨gb246, 1, none⟩ = some (.int .i64 0) := (blk_cell BK246.out 1).trans rfl
                    have hcz28_2 : w11.cell? ⟨gb246, 2, none⟩ = some (.int .i64 0) := (blk_cell BK246.out 2).trans rfl
                    have hcz28_3 : w11.cell? ⟨gb246, 3, none⟩ = some (.slice none 0 0) := (blk_cell BK246.out 3).trans rfl
                    have hfz28_0 := blk_frozen BK246.out 0
                    have hfz28_1 := blk_frozen BK246.out 1
                    have hfz28_2 := blk_frozen BK246.out 2
                    have hfz28_3 := blk_frozen BK246.out 3
                    go_wp2
                    repeat (go_quiet (fail); try go_wp2)
                    go_meet
                    case rel => exact ⟨_, (true), (by first | rfl | (simp; done) | (simp [*]; done)), H', ⟨by have := HK1.out; first | omega | exact Nat.le_refl _⟩, ⟨by (with_reducible repeat (first | refine blk_drewN ?_ _ | refine blk_drew ?_ | refine blk_alloc ?_ _)); refine blk_far ?_ NB244_246.out _; (with_reducible repeat (first | refine blk_drewN ?_ _ | refine blk_drew ?_ | refine blk_alloc ?_ _)); refine blk_far ?_ NB244_246.out _; (with_reducible repeat (first | refine blk_drewN ?_ _ | refine blk_drew ?_ | refine blk_alloc ?_ _)); refine blk_far ?_ NB244_246.out _; (with_reducible repeat (first | refine blk_drewN ?_ _ | refine blk_drew ?_ | refine blk_alloc ?_ _)); refine blk_far ?_ NB244_246.out _; (with_reducible repeat (first | refine blk_drewN ?_ _ | refine blk_drew ?_ | refine blk_alloc ?_ _)); exact BK244.out⟩, ⟨by (with_reducible repeat (first | refine blk_drewN ?_ _ | refine blk_drew ?_ | refine blk_alloc ?_ _)); refine blk_put (cs := #[.int .i64 ((rd_T38 l1 x17_1).f0), .int .i64 ((rd_T38 l1 x17_1).f1), .int .i64 ((rd_T38 l1 x17_1).f2), .slice none 0 0]) ?_ 3 _ rfl; (with_reducible repeat (first | refine blk_drewN ?_ _ | refine blk_drew ?_ | refine blk_alloc ?_ _)); refine blk_put (cs := #[.int .i64 ((rd_T38 l1 x17_1).f0), .int .i64 ((rd_T38 l1 x17_1).f1), .int .i64 0, .slice none 0 0]) ?_ 2 _ rfl; (with_reducible repeat (first | refine blk_drewN ?_ _ | refine blk_drew ?_ | refine blk_alloc ?_ _)); refine blk_put (cs := #[.int .i64 ((rd_T38 l1 x17_1).f0), .int .i64 0, .int .i64 0, .slice none 0 0]) ?_ 1 _ rfl; (with_reducible repeat (first | refine blk_drewN ?_ _ | refine blk_drew ?_ | refine blk_alloc ?_ _)); refine blk_put (cs := #[.int .i64 0, .int .i64 0, .int .i64 0, .slice none 0 0]) ?_ 0 _ rfl; (with_reducible repeat (first | refine blk_drewN ?_ _ | refine blk_drew ?_ | refine blk_alloc ?_ _)); exact BK246.out⟩, ⟨by repeat (first | (with_reducible first | exact HB.out | apply below_alloc | apply pw_below_drewN | apply below_drew1 | refine below_set ?_ GE244.out | refine below_set ?_ GE246.out) | exact HB.out)⟩⟩
                case rest =>
                  clear HC8
                  try clear c1
                  try clear c2
                  try clear p2
                  try clear q2
                  try clear hx2
                  try clear c3
                  try clear c3b0
                  try clear c3b1
                  try clear c3b2
                  try clear c4
                  try clear c4b0
                  try clear c5
                  try clear c5b0
                  try clear c6
                  try clear c6b0
                  try clear c7
                  try clear c7b0
                  try clear c9
                  try clear c12
                  try clear c14
                  try clear c14b0
                  try clear c14b1
                  try clear c15
                  try clear c15b0
                  try clear c15b1
                  try clear c16
                  try clear c16b0
                  try clear c16b1
                  try clear c17
                  try clear c20
                  try clear c23
                  try clear c24
                  try clear p24
                  try clear q24
                  try clear hx24
                  try clear c26
                  try clear hcz10_0
                  try clear hcz10_1
                  try clear hcz10_2
                  try clear hcz10_3
                  try clear hcz13_0
                  try clear hcz13_1
                  try clear hcz13_2
                  try clear hcz13_3
                  try clear hcz18_0
                  try clear hcz18_1
                  try clear hcz18_2
                  try clear hcz18_3
                  try clear hcz19_0
                  try clear hcz19_1
                  try clear hcz19_2
                  try clear hcz19_3
                  try clear hcz21_0
                  try clear hcz21_1
                  try clear hcz21_2
                  try clear hcz21_3
                  try clear hcz22_0
                  try clear hcz22_1
                  try clear hcz22_2
                  try clear hcz22_3
                  try clear hcz24_0
                  try clear hcz24_1
                  try clear hcz24_2
                  try clear hcz24_3
                  try clear hcz25_0
                  try clear hcz25_1
                  try clear hcz25_2
                  try clear hcz25_3
                  try clear hcz27_0
                  try clear hcz27_1
                  try clear hcz27_2
                  try clear hcz27_3
                  try clear hcz28_0
                  try clear hcz28_1
                  try clear hcz28_2
                  try clear hcz28_3
                  try clear hfz10_0
                  try clear hfz10_1
                  try clear hfz10_2
                  try clear hfz10_3
                  try clear hfz13_0
                  try clear hfz13_1
                  try clear hfz13_2
                  try clear hfz13_3
                  try clear hfz18_0
                  try clear hfz18_1
                  try clear hfz18_2
                  try clear hfz18_3
                  try clear hfz19_0
                  try clear hfz19_1
                  try clear hfz19_2
                  try clear hfz19_3
                  try clear hfz21_0
                  try clear hfz21_1
                  try clear hfz21_2
                  try clear hfz21_3
                  try clear hfz22_0
                  try clear hfz22_1
                  try clear hfz22_2
                  try clear hfz22_3
                  try clear hfz24_0
                  try clear hfz24_1
                  try clear hfz24_2
                  try clear hfz24_3
                  try clear hfz25_0
                  try clear hfz25_1
                  try clear hfz25_2
                  try clear hfz25_3
                  try clear hfz27_0
                  try clear hfz27_1
                  try clear hfz27_2
                  try clear hfz27_3
                  try clear hfz28_0
                  try clear hfz28_1
                  try clear hfz28_2
                  try clear hfz28_3
                  try clear hx243_0
                  try clear hx243_1
                  try clear hx243_2
                  try clear hx243_3
                  try clear hx245_0
                  try clear hx245_1
                  try clear hx245_2
                  try clear hx245_3
                  try clear p2
                  try clear p243
                  try clear p245
                  try clear q243
                  try clear q245
                  obtain ⟨kq, x53_7, rfl, HA, HJ7, BK244, BK246, HB⟩ := hcut
                  cases kq with
                  | zero => exact absurd HA.out (by simp [history_Same.j1])
                  | succ kj7 =>
                    have H := HA.out
                    clear HA
                    simp only [history_Same.j1] at H
                    by_cases c29 : x53_7 = true
                    · subst c29
                      have H1 : (some false) = some r := by rw [if_pos rfl] at H; exact H
                      clear H
                      have H := H1
                      clear H1
                      obtain rfl := Option.some.inj H
                      go_wp2
                      repeat (go_quiet (fail); try go_wp2)
                      go_ret
                      exact ⟨by first | rfl | (simp [errW_none, errW_some] <;> rfl) | (simp [*, errW_none, errW_some] <;> rfl), by repeat (first | (with_reducible first | exact HB.out | apply below_alloc | apply pw_below_drewN | apply below_drew1 | refine below_set ?_ GE244.out | refine below_set ?_ GE246.out) | exact HB.out)⟩
                    · replace c29 := Bool.eq_false_iff.mpr c29
                      subst c29
                      have H1 : (history_Same.l1 kj7 l1 l0 (l0.length : Int) x17_1 ((rd_T38 l0 x17_1).f3) (((rd_T38 l0 x17_1).f3).length : Int) 0 ((rd_T38 l1 x17_1).f0) ((rd_T38 l1 x17_1).f1) ((rd_T38 l1 x17_1).f2) ((rd_T38 l1 x17_1).f3)) = some r := by rw [if_neg (show ¬ (false = true) by decide)] at H; exact H
                      clear H
                      have H := H1
                      clear H1
                      have H' := Aside0.mk H
                      clear H
                      have hnb30 := NB244_246.out
                      have hnc30 := NB246_244.out
                      have hcz31_0 : wc.cell? ⟨gb244, 0, none⟩ = some (.int .i64 ((rd_T38 l0 x17_1).f0)) := (blk_cell BK244.out 0).trans rfl
                      have hcz31_1 : wc.cell? ⟨gb244, 1, none⟩ = some (.int .i64 ((rd_T38 l0 x17_1).f1)) := (blk_cell BK244.out 1).trans rfl
                      have hcz31_2 : wc.cell? ⟨gb244, 2, none⟩ = some (.int .i64 ((rd_T38 l0 x17_1).f2)) := (blk_cell BK244.out 2).trans rfl
                      have hcz31_3 : wc.cell? ⟨gb244, 3, none⟩ = some (.slice A243_3 ((rd_T38 l0 x17_1).f3).length c243_3) := (blk_cell BK244.out 3).trans rfl
                      have hfz31_0 := blk_frozen BK244.out 0
                      have hfz31_1 := blk_frozen BK244.out 1
                      have hfz31_2 := blk_frozen BK244.out 2
                      have hfz31_3 := blk_frozen BK244.out 3
                      go_wp2
                      repeat (go_quiet (fail); try go_wp2)
                      go_loopg [57] kj7 (fun kq v57 w' => ∃ (x57_3 : Int), v57 = .int .i64 x57_3 ∧ Aside0 (history_Same.l1 kq l1 l0 (l0.length : Int) x17_1 ((rd_T38 l0 x17_1).f3) (((rd_T38 l0 x17_1).f3).length : Int) x57_3 ((rd_T38 l1 x17_1).f0) ((rd_T38 l1 x17_1).f1) ((rd_T38 l1 x17_1).f2) ((rd_T38 l1 x17_1).f3) = some r) ∧ Aside0 (kq ≤ kj7) ∧ Aside0 (w'.heap[gb244]? = some (.cells #[.int .i64 ((rd_T38 l0 x17_1).f0), .int .i64 ((rd_T38 l0 x17_1).f1), .int .i64 ((rd_T38 l0 x17_1).f2), (.slice A243_3 ((rd_T38 l0 x17_1).f3).length c243_3)] 38 (0, 0))) ∧ Aside0 (w'.heap[gb246]? = some (.cells #[.int .i64 ((rd_T38 l1 x17_1).f0), .int .i64 ((rd_T38 l1 x17_1).f1), .int .i64 ((rd_T38 l1 x17_1).f2), (.slice A245_3 ((rd_T38 l1 x17_1).f3).length c245_3)] 38 (0, 0))) ∧ Aside0 (Below w.heap.size w w'))
                      case atStart => exact ⟨(0), (by first | rfl | (simp; done) | (simp [*]; done)), H', ⟨Nat.le_refl _⟩, ⟨by (with_reducible repeat (first | refine blk_drewN ?_ _ | refine blk_drew ?_ | refine blk_alloc ?_ _)); exact BK244.out⟩, ⟨by (with_reducible repeat (first | refine blk_drewN ?_ _ | refine blk_drew ?_ | refine blk_alloc ?_ _)); exact BK246.out⟩, ⟨by repeat (first | (with_reducible first | exact HB.out | apply below_alloc | apply pw_below_drewN | apply below_drew1 | refine below_set ?_ GE244.out | refine below_set ?_ GE246.out) | exact HB.out)⟩⟩
                      case round =>
                        clear H'
                        try clear c1
                        try clear c2
                        try clear p2
                        try clear q2
                        try clear hx2
                        try clear c3
                        try clear c3b0
                        try clear c3b1
                        try clear c3b2
                        try clear c4
                        try clear c4b0
                        try clear c5
                        try clear c5b0
                        try clear c6
                        try clear c6b0
                        try clear c7
                        try clear c7b0
                        try clear c9
                        try clear c12
                        try clear c14
                        try clear c14b0
                        try clear c14b1
                        try clear c15
                        try clear c15b0
                        try clear c15b1
                        try clear c16
                        try clear c16b0
                        try clear c16b1
                        try clear c17
                        try clear c20
                        try clear c23
                        try clear c24
                        try clear p24
                        try clear q24
                        try clear hx24
                        try clear c26
                        try clear c29
                        try clear c30
                        try clear hcz10_0
                        try clear hcz10_1
                        try clear hcz10_2
                        try clear hcz10_3
                        try clear hcz13_0
                        try clear hcz13_1
                        try clear hcz13_2
                        try clear hcz13_3
                        try clear hcz18_0
                        try clear hcz18_1
                        try clear hcz18_2
                        try clear hcz18_3
                        try clear hcz19_0
                        try clear hcz19_1
                        try clear hcz19_2
                        try clear hcz19_3
                        try clear hcz21_0
                        try clear hcz21_1
                        try clear hcz21_2
                        try clear hcz21_3
                        try clear hcz22_0
                        try clear hcz22_1
                        try clear hcz22_2
                        try clear hcz22_3
                        try clear hcz24_0
                        try clear hcz24_1
                        try clear hcz24_2
                        try clear hcz24_3
                        try clear hcz25_0
                        try clear hcz25_1
                        try clear hcz25_2
                        try clear hcz25_3
                        try clear hcz27_0
                        try clear hcz27_1
                        try clear hcz27_2
                        try clear hcz27_3
                        try clear hcz28_0
                        try clear hcz28_1
                        try clear hcz28_2
                        try clear hcz28_3
                        try clear hcz31_0
                        try clear hcz31_1
                        try clear hcz31_2
                        try clear hcz31_3
                        try clear hfz10_0
                        try clear hfz10_1
                        try clear hfz10_2
                        try clear hfz10_3
                        try clear hfz13_0
                        try clear hfz13_1
                        try clear hfz13_2
                        try clear hfz13_3
                        try clear hfz18_0
                        try clear hfz18_1
                        try clear hfz18_2
                        try clear hfz18_3
                        try clear hfz19_0
                        try clear hfz19_1
                        try clear hfz19_2
                        try clear hfz19_3
                        try clear hfz21_0
                        try clear hfz21_1
                        try clear hfz21_2
                        try clear hfz21_3
                        try clear hfz22_0
                        try clear hfz22_1
                        try clear hfz22_2
                        try clear hfz22_3
                        try clear hfz24_0
                        try clear hfz24_1
                        try clear hfz24_2
                        try clear hfz24_3
                        try clear hfz25_0
                        try clear hfz25_1
                        try clear hfz25_2
                        try clear hfz25_3
                        try clear hfz27_0
                        try clear hfz27_1
                        try clear hfz27_2
                        try clear hfz27_3
                        try clear hfz28_0
                        try clear hfz28_1
                        try clear hfz28_2
                        try clear hfz28_3
                        try clear hfz31_0
                        try clear hfz31_1
                        try clear hfz31_2
                        try clear hfz31_3
                        try clear hx243_0
                        try clear hx243_1
                        try clear hx243_2
                        try clear hx243_3
                        try clear hx245_0
                        try clear hx245_1
                        try clear hx245_2
                        try clear hx245_3
                        try clear p2
                        try clear p24
                        try clear p243
                        try clear p245
                        try clear q2
                        try clear q24
                        try clear q243
                        try clear q245
                        obtain ⟨x57_3, rfl, HA, HK3, BK244, BK246, HB⟩ := hrel
                        cases gk with
                        | zero => exact absurd HA.out (by simp [history_Same.l1])
                        | succ k3 =>
                          have H := HA.out
                          clear HA
                          simp only [history_Same.l1] at H
                          by_cases c32 : x57_3 < (((rd_T38 l0 x17_1).f3).length : Int)
                          · rw [if_pos c32] at H
                            have c32b0 : decide (x57_3 < (((rd_T38 l0 x17_1).f3).length : Int)) = true := decide_eq_true c32
                            clear c32
                            by_cases c33 : 0 ≤ x57_3
                            · rw [if_pos c33] at H
                              have c33b0 : decide (0 ≤ x57_3) = true := decide_eq_true c33
                              clear c33
                              by_cases c34 : x57_3 < (((rd_T38 l0 x17_1).f3).length : Int)
                              · rw [if_pos c34] at H
                                have c34b0 : decide (x57_3 < (((rd_T38 l0 x17_1).f3).length : Int)) = true := decide_eq_true c34
                                clear c34
                                by_cases c35 : x57_3 < (((rd_T38 l1 x17_1).f3).length : Int)
                                · rw [if_pos c35] at H
                                  have c35b0 : decide (x57_3 < (((rd_T38 l1 x17_1).f3).length : Int)) = true := decide_eq_true c35
                                  clear c35
                                  by_cases c36 : (!(((rd_T48 ((rd_T38 l1 x17_1).f3) x57_3).f0) == ((rd_T48 ((rd_T38 l0 x17_1).f3) x57_3).f0)) || (!(((rd_T48 ((rd_T38 l1 x17_1).f3) x57_3).f1) == ((rd_T48 ((rd_T38 l0 x17_1).f3) x57_3).f1)) || (!(((rd_T48 ((rd_T38 l1 x17_1).f3) x57_3).f2) == ((rd_T48 ((rd_T38 l0 x17_1).f3) x57_3).f2))))) = true
                                  · rw [if_pos c36] at H
                                    have c36b0 : (!(((rd_T48 ((rd_T38 l1 x17_1).f3) x57_3).f0) == ((rd_T48 ((rd_T38 l0 x17_1).f3) x57_3).f0)) || (!(((rd_T48 ((rd_T38 l1 x17_1).f3) x57_3).f1) == ((rd_T48 ((rd_T38 l0 x17_1).f3) x57_3).f1)) || (!(((rd_T48 ((rd_T38 l1 x17_1).f3) x57_3).f2) == ((rd_T48 ((rd_T38 l0 x17_1).f3) x57_3).f2))))) = true := c36
                                    clear c36
                                    obtain rfl := Option.some.inj H
                                    have p247 : 0 ≤ (x57_3 : Int) := of_decide_eq_true (by first | (with_reducible assumption) | assumption)
                                    have q247 : x57_3 < (((rd_T38 l0 x17_1).f3).length : Int) := of_decide_eq_true (by first | (with_reducible assumption) | assumption)
                                    obtain ⟨ad247, e247, hx247_0, hx247_1, hx247_2⟩ := at_T48 HR243_3.out x57_3 p247 q247
                                    cases e247
                                    replace hx247_0 := (HB.out.cell (World.block_lt_of_cell? w _ hx247_0)).trans hx247_0
                                    replace hx247_1 := (HB.out.cell (World.block_lt_of_cell? w _ hx247_1)).trans hx247_1
                                    replace hx247_2 := (HB.out.cell (World.block_lt_of_cell? w _ hx247_2)).trans hx247_2
                                    replace p247 := eq_true p247
                                    replace q247 := eq_true q247
                                    go_wp2_with (first | ((with_reducible refine gate_dst (N := 9) rfl ?_); (try (refine gate_guard (by rfl) ?_; dsimp only)); refine box_event ?hg (N := 9) ?hd (cs := #[.bool false, .int .i64 0, .int .i64 0]) (t := 48) ?hr ?_; (case hd => rfl); (case hg => rfl); (case hr => first | (go_simp; done) | (go_simp; rfl)); intro gb248 hg w37 hbox hb; have n0_ := Aside0.mk (blk_below (g := gb244) (o := .cells #[.int .i64 ((rd_T38 l0 x17_1).f0), .int .i64 ((rd_T38 l0 x17_1).f1), .int .i64 ((rd_T38 l0 x17_1).f2), .slice (some ad247) ((rd_T38 l0 x17_1).f3).length c243_3] 38 (0, 0)) (by (with_reducible repeat (first | refine blk_drewN ?_ _ | refine blk_drew ?_ | refine blk_alloc ?_ _)); exact BK244.out) hb); have n1_ := Aside0.mk (blk_below (g := gb246) (o := .cells #[.int .i64 ((rd_T38 l1 x17_1).f0), .int .i64 ((rd_T38 l1 x17_1).f1), .int .i64 ((rd_T38 l1 x17_1).f2), .slice A245_3 ((rd_T38 l1 x17_1).f3).length c245_3] 38 (0, 0)) (by (with_reducible repeat (first | refine blk_drewN ?_ _ | refine blk_drew ?_ | refine blk_alloc ?_ _)); exact BK246.out) hb); have n2_ := Aside0.mk (below_step (by repeat (first | (with_reducible first | exact HB.out | apply below_alloc | apply pw_below_drewN | apply below_drew1 | refine below_set ?_ GE244.out | refine below_set ?_ GE246.out) | exact HB.out)) hb); have n3_ := Aside0.mk (hbox); have n4_ := Aside0.mk ((by rw [hg]; exact (below_size (by repeat (first | (with_reducible first | exact HB.out | apply below_alloc | apply pw_below_drewN | apply below_drew1 | refine below_set ?_ GE244.out | refine below_set ?_ GE246.out) | exact HB.out))) : w.heap.size ≤ gb248)); have n5_ := Aside0.mk ((by rw [hg]; exact (below_size (by repeat (first | (with_reducible first | exact HB.out | apply below_alloc | apply pw_below_drewN | apply below_drew1 | refine below_set ?_ GE244.out | refine below_set ?_ GE246.out) | exact HB.out))) : w.heap.size ≤ gb248)); have n6_ := Aside0.mk ((by rw [hg]; exact Nat.ne_of_lt (blk_lt (g := gb244) (o := .cells #[.int .i64 ((rd_T38 l0 x17_1).f0), .int .i64 ((rd_T38 l0 x17_1).f1), .int .i64 ((rd_T38 l0 x17_1).f2), .slice (some ad247) ((rd_T38 l0 x17_1).f3).length c243_3] 38 (0, 0)) (by (with_reducible repeat (first | refine blk_drewN ?_ _ | refine blk_drew ?_ | refine blk_alloc ?_ _)); exact BK244.out)) : gb244 ≠ gb248)); have n7_ := Aside0.mk ((by rw [hg]; exact Nat.ne_of_gt (blk_lt (g := gb244) (o := .cells #[.int .i64 ((rd_T38 l0 x17_1).f0), .int .i64 ((rd_T38 l0 x17_1).f1), .int .i64 ((rd_T38 l0 x17_1).f2), .slice (some ad247) ((rd_T38 l0 x17_1).f3).length c243_3] 38 (0, 0)) (by (with_reducible repeat (first | refine blk_drewN ?_ _ | refine blk_drew ?_ | refine blk_alloc ?_ _)); exact BK244.out)) : gb248 ≠ gb244)); have n8_ := Aside0.mk ((by rw [hg]; exact Nat.ne_of_lt (blk_lt (g := gb246) (o := .cells #[.int .i64 ((rd_T38 l1 x17_1).f0), .int .i64 ((rd_T38 l1 x17_1).f1), .int .i64 ((rd_T38 l1 x17_1).f2), .slice A245_3 ((rd_T38 l1 x17_1).f3).length c245_3] 38 (0, 0)) (by (with_reducible repeat (first | refine blk_drewN ?_ _ | refine blk_drew ?_ | refine blk_alloc ?_ _)); exact BK246.out)) : gb246 ≠ gb248)); have n9_ := Aside0.mk ((by rw [hg]; exact Nat.ne_of_gt (blk_lt (g := gb246) (o := .cells #[.int .i64 ((rd_T38 l1 x17_1).f0), .int .i64 ((rd_T38 l1 x17_1).f1), .int .i64 ((rd_T38 l1 x17_1).f2), .slice A245_3 ((rd_T38 l1 x17_1).f3).length c245_3] 38 (0, 0)) (by (with_reducible repeat (first | refine blk_drewN ?_ _ | refine blk_drew ?_ | refine blk_alloc ?_ _)); exact BK246.out)) : gb248 ≠ gb246)); clear BK244; clear BK246; clear HB; have BK244 := n0_; have BK246 := n1_; have HB := n2_; have BK248 := n3_; have GW248 := n4_; have GE248 := n5_; have NB244_248 := n6_; have NB248_244 := n7_; have NB246_248 := n8_; have NB248_246 := n9_; clear n0_ n1_ n2_ n3_ n4_ n5_ n6_ n7_ n8_ n9_; clear hb hbox hg; have hnb38 := NB248_244.out; have hnc38 := NB244_248.out; have hnb39 := NB248_246.out; have hnc39 := NB246_248.out; have hcz40_0 : w37.cell? ⟨gb248, 0, none⟩ = some (.bool false) := (blk_cell BK248.out 0).trans rfl; have hcz40_1 : w37.cell? ⟨gb248, 1, none⟩ = some (.int .i64 0) := (blk_cell BK248.out 1).trans rfl; have hcz40_2 : w37.cell? ⟨gb248, 2, none⟩ = some (.int .i64 0) := (blk_cell BK248.out 2).trans rfl; have hfz40_0 := blk_frozen BK248.out 0; have hfz40_1 := blk_frozen BK248.out 1; have hfz40_2 := blk_frozen BK248.out 2; have hnb41 := NB246_244.out; have hnc41 := NB244_246.out; have hcz42_0 : w37.cell? ⟨gb246, 0, none⟩ = some (.int .i64 ((rd_T38 l1 x17_1).f0)) := (blk_cell BK246.out 0).trans rfl; have hcz42_1 : w37.cell? ⟨gb246, 1, none⟩ = some (.int .i64 ((rd_T38 l1 x17_1).f1)) := (blk_cell BK246.out 1).trans rfl; have hcz42_2 : w37.cell? ⟨gb246, 2, none⟩ = some (.int .i64 ((rd_T38 l1 x17_1).f2)) := (blk_cell BK246.out 2).trans rfl; have hcz42_3 : w37.cell? ⟨gb246, 3, none⟩ = some (.slice A245_3 ((rd_T38 l1 x17_1).f3).length c245_3) := (blk_cell BK246.out 3).trans rfl; have hfz42_0 := blk_frozen BK246.out 0; have hfz42_1 := blk_frozen BK246.out 1; have hfz42_2 := blk_frozen BK246.out 2; have hfz42_3 := blk_frozen BK246.out 3; have p249 : 0 ≤ (x57_3 : Int) := of_decide_eq_true (by first | (with_reducible assumption) | assumption); have q249 : x57_3 < (((rd_T38 l1 x17_1).f3).length : Int) := of_decide_eq_true (by first | (with_reducible assumption) | assumption); obtain ⟨ad249, e249, hx249_0, hx249_1, hx249_2⟩ := at_T48 HR245_3.out x57_3 p249 q249; cases e249; have hn249_0 : ad249.block ≠ gb248 := Nat.ne_of_lt (Nat.lt_of_lt_of_le (by have := World.block_lt_of_cell? _ _ hx249_0; first | rwa [add_block] at this | exact this) GW248.out); have hn249_1 : ad249.block ≠ gb248 := Nat.ne_of_lt (Nat.lt_of_lt_of_le (by have := World.block_lt_of_cell? _ _ hx249_0; first | rwa [add_block] at this | exact this) GW248.out); have hn249_2 : ad249.block ≠ gb248 := Nat.ne_of_lt (Nat.lt_of_lt_of_le (by have := World.block_lt_of_cell? _ _ hx249_0; first | rwa [add_block] at this | exact this) GW248.out); replace hx249_0 := (HB.out.cell (World.block_lt_of_cell? w _ hx249_0)).trans hx249_0; replace hx249_1 := (HB.out.cell (World.block_lt_of_cell? w _ hx249_1)).trans hx249_1; replace hx249_2 := (HB.out.cell (World.block_lt_of_cell? w _ hx249_2)).trans hx249_2; replace hx249_0 := (cell_far (p := ⟨gb248, 0, none⟩) (by first | (rw [add_block]; exact hn249_0) | (show (Addr.add _ _).block ≠ _; rw [add_block]; exact hn249_0) | exact hn249_0) (.bool ((rd_T48 ((rd_T38 l0 x17_1).f3) x57_3).f0))).trans hx249_0; replace hx249_1 := (cell_far (p := ⟨gb248, 0, none⟩) (by first | (rw [add_block]; exact hn249_0) | (show (Addr.add _ _).block ≠ _; rw [add_block]; exact hn249_0) | exact hn249_0) (.bool ((rd_T48 ((rd_T38 l0 x17_1).f3) x57_3).f0))).trans hx249_1; replace hx249_2 := (cell_far (p := ⟨gb248, 0, none⟩) (by first | (rw [add_block]; exact hn249_0) | (show (Addr.add _ _).block ≠ _; rw [add_block]; exact hn249_0) | exact hn249_0) (.bool ((rd_T48 ((rd_T38 l0 x17_1).f3) x57_3).f0))).trans hx249_2; replace hx249_0 := (cell_far (p := ⟨gb248, 1, none⟩) (by first | (rw [add_block]; exact hn249_1) | (show (Addr.add _ _).block ≠ _; rw [add_block]; exact hn249_1) | exact hn249_1) (.int .i64 ((rd_T48 ((rd_T38 l0 x17_1).f3) x57_3).f1))).trans hx249_0; replace hx249_1 := (cell_far (p := ⟨gb248, 1, none⟩) (by first | (rw [add_block]; exact hn249_1) | (show (Addr.add _ _).block ≠ _; rw [add_block]; exact hn249_1) | exact hn249_1) (.int .i64 ((rd_T48 ((rd_T38 l0 x17_1).f3) x57_3).f1))).trans hx249_1; replace hx249_2 := (cell_far (p := ⟨gb248, 1, none⟩) (by first | (rw [add_block]; exact hn249_1) | (show (Addr.add _ _).block ≠ _; rw [add_block]; exact hn249_1) | exact hn249_1) (.int .i64 ((rd_T48 ((rd_T38 l0 x17_1).f3) x57_3).f1))).trans hx249_2; replace hx249_0 := (cell_far (p := ⟨gb248, 2, none⟩) (by first | (rw [add_block]; exact hn249_2) | (show (Addr.add _ _).block ≠ _; rw [add_block]; exact hn249_2) | exact hn249_2) (.int .i64 ((rd_T48 ((rd_T38 l0 x17_1).f3) x57_3).f2))).trans hx249_0; replace hx249_1 := (cell_far (p := ⟨gb248, 2, none⟩) (by first | (rw [add_block]; exact hn249_2) | (show (Addr.add _ _).block ≠ _; rw [add_block]; exact hn249_2) | exact hn249_2) (.int .i64 ((rd_T48 ((rd_T38 l0 x17_1).f3) x57_3).f2))).trans hx249_1; replace hx249_2 := (cell_far (p := ⟨gb248, 2, none⟩) (by first | (rw [add_block]; exact hn249_2) | (show (Addr.add _ _).block ≠ _; rw [add_block]; exact hn249_2) | exact hn249_2) (.int .i64 ((rd_T48 ((rd_T38 l0 x17_1).f3) x57_3).f2))).trans hx249_2; (try have hy249_0 := fun (n_ : Nat) => (show (((((w37.drewN n_).setCell ⟨gb248, 0, none⟩ (.bool ((rd_T48 ((rd_T38 l0 x17_1).f3) x57_3).f0))).setCell ⟨gb248, 1, none⟩ (.int .i64 ((rd_T48 ((rd_T38 l0 x17_1).f3) x57_3).f1))).setCell ⟨gb248, 2, none⟩ (.int .i64 ((rd_T48 ((rd_T38 l0 x17_1).f3) x57_3).f2)))).cell? _ = some _ from hx249_0)); (try have hy249_1 := fun (n_ : Nat) => (show (((((w37.drewN n_).setCell ⟨gb248, 0, none⟩ (.bool ((rd_T48 ((rd_T38 l0 x17_1).f3) x57_3).f0))).setCell ⟨gb248, 1, none⟩ (.int .i64 ((rd_T48 ((rd_T38 l0 x17_1).f3) x57_3).f1))).setCell ⟨gb248, 2, none⟩ (.int .i64 ((rd_T48 ((rd_T38 l0 x17_1).f3) x57_3).f2)))).cell? _ = some _ from hx249_1)); (try have hy249_2 := fun (n_ : Nat) => (show (((((w37.drewN n_).setCell ⟨gb248, 0, none⟩ (.bool ((rd_T48 ((rd_T38 l0 x17_1).f3) x57_3).f0))).setCell ⟨gb248, 1, none⟩ (.int .i64 ((rd_T48 ((rd_T38 l0 x17_1).f3) x57_3).f1))).setCell ⟨gb248, 2, none⟩ (.int .i64 ((rd_T48 ((rd_T38 l0 x17_1).f3) x57_3).f2)))).cell? _ = some _ from hx249_2)); clear hn249_0; clear hn249_1; clear hn249_2; replace p249 := eq_true p249; replace q249 := eq_true q249))
                                    repeat (go_quiet (first | ((with_reducible refine gate_dst (N := 9) rfl ?_); (try (refine gate_guard (by rfl) ?_; dsimp only)); refine box_event ?hg (N := 9) ?hd (cs := #[.bool false, .int .i64 0, .int .i64 0]) (t := 48) ?hr ?_; (case hd => rfl); (case hg => rfl); (case hr => first | (go_simp; done) | (go_simp; rfl)); intro gb248 hg w37 hbox hb; have n0_ := Aside0.mk (blk_below (g := gb244) (o := .cells #[.int .i64 ((rd_T38 l0 x17_1).f0), .int .i64 ((rd_T38 l0 x17_1).f1), .int .i64 ((rd_T38 l0 x17_1).f2), .slice (some ad247) ((rd_T38 l0 x17_1).f3).length c243_3] 38 (0, 0)) (by (with_reducible repeat (first | refine blk_drewN ?_ _ | refine blk_drew ?_ | refine blk_alloc ?_ _)); exact BK244.out) hb); have n1_ := Aside0.mk (blk_below (g := gb246) (o := .cells #[.int .i64 ((rd_T38 l1 x17_1).f0), .int .i64 ((rd_T38 l1 x17_1).f1), .int .i64 ((rd_T38 l1 x17_1).f2), .slice A245_3 ((rd_T38 l1 x17_1).f3).length c245_3] 38 (0, 0)) (by (with_reducible repeat (first | refine blk_drewN ?_ _ | refine blk_drew ?_ | refine blk_alloc ?_ _)); exact BK246.out) hb); have n2_ := Aside0.mk (below_step (by repeat (first | (with_reducible first | exact HB.out | apply below_alloc | apply pw_below_drewN | apply below_drew1 | refine below_set ?_ GE244.out | refine below_set ?_ GE246.out) | exact HB.out)) hb); have n3_ := Aside0.mk (hbox); have n4_ := Aside0.mk ((by rw [hg]; exact (below_size (by repeat (first | (with_reducible first | exact HB.out | apply below_alloc | apply pw_below_drewN | apply below_drew1 | refine below_set ?_ GE244.out | refine below_set ?_ GE246.out) | exact HB.out))) : w.heap.size ≤ gb248)); have n5_ := Aside0.mk ((by rw [hg]; exact (below_size (by repeat (first | (with_reducible first | exact HB.out | apply below_alloc | apply pw_below_drewN | apply below_drew1 | refine below_set ?_ GE244.out | refine below_set ?_ GE246.out) | exact HB.out))) : w.heap.size ≤ gb248)); have n6_ := Aside0.mk ((by rw [hg]; exact Nat.ne_of_lt (blk_lt (g := gb244) (o := .cells #[.int .i64 ((rd_T38 l0 x17_1).f0), .int .i64 ((rd_T38 l0 x17_1).f1), .int .i64 ((rd_T38 l0 x17_1).f2), .slice (some ad247) ((rd_T38 l0 x17_1).f3).length c243_3] 38 (0, 0)) (by (with_reducible repeat (first | refine blk_drewN ?_ _ | refine blk_drew ?_ | refine blk_alloc ?_ _)); exact BK244.out)) : gb244 ≠ gb248)); have n7_ := Aside0.mk ((by rw [hg]; exact Nat.ne_of_gt (blk_lt (g := gb244) (o := .cells #[.int .i64 ((rd_T38 l0 x17_1).f0), .int .i64 ((rd_T38 l0 x17_1).f1), .int .i64 ((rd_T38 l0 x17_1).f2), .slice (some ad247) ((rd_T38 l0 x17_1).f3).length c243_3] 38 (0, 0)) (by (with_reducible repeat (first | refine blk_drewN ?_ _ | refine blk_drew ?_ | refine blk_alloc ?_ _)); exact BK244.out)) : gb248 ≠ gb244)); have n8_ := Aside0.mk ((by rw [hg]; exact Nat.ne_of_lt (blk_lt (g := gb246) (o := .cells #[.int .i64 ((rd_T38 l1 x17_1).f0), .int .i64 ((rd_T38 l1 x17_1).f1), .int .i64 ((rd_T38 l1 x17_1).f2), .slice A245_3 ((rd_T38 l1 x17_1).f3).length c245_3] 38 (0, 0)) (by (with_reducible repeat (first | refine blk_drewN ?_ _ | refine blk_drew ?_ | refine blk_alloc ?_ _)); exact BK246.out)) : gb246 ≠ gb248)); have n9_ := Aside0.mk ((by rw [hg]; exact Nat.ne_of_gt (blk_lt (g := gb246) (o := .cells #[.int .i64 ((rd_T38 l1 x17_1).f0), .int .i64 ((rd_T38 l1 x17_1).f1), .int .i64 ((rd_T38 l1 x17_1).f2), .slice A245_3 ((rd_T38 l1 x17_1).f3).length c245_3] 38 (0, 0)) (by (with_reducible repeat (first | refine blk_drewN ?_ _ | refine blk_drew ?_ | refine blk_alloc ?_ _)); exact BK246.out)) : gb248 ≠ gb246)); clear BK244; clear BK246; clear HB; have BK244 := n0_; have BK246 := n1_; have HB := n2_; have BK248 := n3_; have GW248 := n4_; have GE248 := n5_; have NB244_248 := n6_; have NB248_244 := n7_; have NB246_248 := n8_; have NB248_246 := n9_; clear n0_ n1_ n2_ n3_ n4_ n5_ n6_ n7_ n8_ n9_; clear hb hbox hg; have hnb38 := NB248_244.out; have hnc38 := NB244_248.out; have hnb39 := NB248_246.out; have hnc39 := NB246_248.out; have hcz40_0 : w37.cell? ⟨gb248, 0, none⟩ = some (.bool false) := (blk_cell BK248.out 0).trans rfl; have hcz40_1 : w37.cell? ⟨gb248, 1, none⟩ = some (.int .i64 0) := (blk_cell BK248.out 1).trans rfl; have hcz40_2 : w37.cell? ⟨gb248, 2, none⟩ = some (.int .i64 0) := (blk_cell BK248.out 2).trans rfl; have hfz40_0 := blk_frozen BK248.out 0; have hfz40_1 := blk_frozen BK248.out 1; have hfz40_2 := blk_frozen BK248.out 2; have hnb41 := NB246_244.out; have hnc41 := NB244_246.out; have hcz42_0 : w37.cell? ⟨gb246, 0, none⟩ = some (.int .i64 ((rd_T38 l1 x17_1).f0)) := (blk_cell BK246.out 0).trans rfl; have hcz42_1 : w37.cell? ⟨gb246, 1, none⟩ = some (.int .i64 ((rd_T38 l1 x17_1).f1)) := (blk_cell BK246.out 1).trans rfl; have hcz42_2 : w37.cell? ⟨gb246, 2, none⟩ = some (.int .i64 ((rd_T38 l1 x17_1).f2)) := (blk_cell BK246.out 2).trans rfl; have hcz42_3 : w37.cell? ⟨gb246, 3, none⟩ = some (.slice A245_3 ((rd_T38 l1 x17_1).f3).length c245_3) := (blk_cell BK246.out 3).trans rfl; have hfz42_0 := blk_frozen BK246.out 0; have hfz42_1 := blk_frozen BK246.out 1; have hfz42_2 := blk_frozen BK246.out 2; have hfz42_3 := blk_frozen BK246.out 3; have p249 : 0 ≤ (x57_3 : Int) := of_decide_eq_true (by first | (with_reducible assumption) | assumption); have q249 : x57_3 < (((rd_T38 l1 x17_1).f3).length : Int) := of_decide_eq_true (by first | (with_reducible assumption) | assumption); obtain ⟨ad249, e249, hx249_0, hx249_1, hx249_2⟩ := at_T48 HR245_3.out x57_3 p249 q249; cases e249; have hn249_0 : ad249.block ≠ gb248 := Nat.ne_of_lt (Nat.lt_of_lt_of_le (by have := World.block_lt_of_cell? _ _ hx249_0; first | rwa [add_block] at this | exact this) GW248.out); have hn249_1 : ad249.block ≠ gb248 := Nat.ne_of_lt (Nat.lt_of_lt_of_le (by have := World.block_lt_of_cell? _ _ hx249_0; first | rwa [add_block] at this | exact this) GW248.out); have hn249_2 : ad249.block ≠ gb248 := Nat.ne_of_lt (Nat.lt_of_lt_of_le (by have := World.block_lt_of_cell? _ _ hx249_0; first | rwa [add_block] at this | exact this) GW248.out); replace hx249_0 := (HB.out.cell (World.block_lt_of_cell? w _ hx249_0)).trans hx249_0; replace hx249_1 := (HB.out.cell (World.block_lt_of_cell? w _ hx249_1)).trans hx249_1; replace hx249_2 := (HB.out.cell (World.block_lt_of_cell? w _ hx249_2)).trans hx249_2; replace hx249_0 := (cell_far (p := ⟨gb248, 0, none⟩) (by first | (rw [add_block]; exact hn249_0) | (show (Addr.add _ _).block ≠ _; rw [add_block]; exact hn249_0) | exact hn249_0) (.bool ((rd_T48 ((rd_T38 l0 x17_1).f3) x57_3).f0))).trans hx249_0; replace hx249_1 := (cell_far (p := ⟨gb248, 0, none⟩) (by first | (rw [add_block]; exact hn249_0) | (show (Addr.add _ _).block ≠ _; rw [add_block]; exact hn249_0) | exact hn249_0) (.bool ((rd_T48 ((rd_T38 l0 x17_1).f3) x57_3).f0))).trans hx249_1; replace hx249_2 := (cell_far (p := ⟨gb248, 0, none⟩) (by first | (rw [add_block]; exact hn249_0) | (show (Addr.add _ _).block ≠ _; rw [add_block]; exact hn249_0) | exact hn249_0) (.bool ((rd_T48 ((rd_T38 l0 x17_1).f3) x57_3).f0))).trans hx249_2; replace hx249_0 := (cell_far (p := ⟨gb248, 1, none⟩) (by first | (rw [add_block]; exact hn249_1) | (show (Addr.add _ _).block ≠ _; rw [add_block]; exact hn249_1) | exact hn249_1) (.int .i64 ((rd_T48 ((rd_T38 l0 x17_1).f3) x57_3).f1))).trans hx249_0; replace hx249_1 := (cell_far (p := ⟨gb248, 1, none⟩) (by first | (rw [add_block]; exact hn249_1) | (show (Addr.add _ _).block ≠ _; rw [add_block]; exact hn249_1) | exact hn249_1) (.int .i64 ((rd_T48 ((rd_T38 l0 x17_1).f3) x57_3).f1))).trans hx249_1; replace hx249_2 := (cell_far (p := ⟨gb248, 1, none⟩) (by first | (rw [add_block]; exact hn249_1) | (show (Addr.add _ _).block ≠ _; rw [add_block]; exact hn249_1) | exact hn249_1) (.int .i64 ((rd_T48 ((rd_T38 l0 x17_1).f3) x57_3).f1))).trans hx249_2; replace hx249_0 := (cell_far (p := ⟨gb248, 2, none⟩) (by first | (rw [add_block]; exact hn249_2) | (show (Addr.add _ _).block ≠ _; rw [add_block]; exact hn249_2) | exact hn249_2) (.int .i64 ((rd_T48 ((rd_T38 l0 x17_1).f3) x57_3).f2))).trans hx249_0; replace hx249_1 := (cell_far (p := ⟨gb248, 2, none⟩) (by first | (rw [add_block]; exact hn249_2) | (show (Addr.add _ _).block ≠ _; rw [add_block]; exact hn249_2) | exact hn249_2) (.int .i64 ((rd_T48 ((rd_T38 l0 x17_1).f3) x57_3).f2))).trans hx249_1; replace hx249_2 := (cell_far (p := ⟨gb248, 2, none⟩) (by first | (rw [add_block]; exact hn249_2) | (show (Addr.add _ _).block ≠ _; rw [add_block]; exact hn249_2) | exact hn249_2) (.int .i64 ((rd_T48 ((rd_T38 l0 x17_1).f3) x57_3).f2))).trans hx249_2; (try have hy249_0 := fun (n_ : Nat) => (show (((((w37.drewN n_).setCell ⟨gb248, 0, none⟩ (.bool ((rd_T48 ((rd_T38 l0 x17_1).f3) x57_3).f0))).setCell ⟨gb248, 1, none⟩ (.int .i64 ((rd_T48 ((rd_T38 l0 x17_1).f3) x57_3).f1))).setCell ⟨gb248, 2, none⟩ (.int .i64 ((rd_T48 ((rd_T38 l0 x17_1).f3) x57_3).f2)))).cell? _ = some _ from hx249_0)); (try have hy249_1 := fun (n_ : Nat) => (show (((((w37.drewN n_).setCell ⟨gb248, 0, none⟩ (.bool ((rd_T48 ((rd_T38 l0 x17_1).f3) x57_3).f0))).setCell ⟨gb248, 1, none⟩ (.int .i64 ((rd_T48 ((rd_T38 l0 x17_1).f3) x57_3).f1))).setCell ⟨gb248, 2, none⟩ (.int .i64 ((rd_T48 ((rd_T38 l0 x17_1).f3) x57_3).f2)))).cell? _ = some _ from hx249_1)); (try have hy249_2 := fun (n_ : Nat) => (show (((((w37.drewN n_).setCell ⟨gb248, 0, none⟩ (.bool ((rd_T48 ((rd_T38 l0 x17_1).f3) x57_3).f0))).setCell ⟨gb248, 1, none⟩ (.int .i64 ((rd_T48 ((rd_T38 l0 x17_1).f3) x57_3).f1))).setCell ⟨gb248, 2, none⟩ (.int .i64 ((rd_T48 ((rd_T38 l0 x17_1).f3) x57_3).f2)))).cell? _ = some _ from hx249_2)); clear hn249_0; clear hn249_1; clear hn249_2; replace p249 := eq_true p249; replace q249 := eq_true q249)); try go_wp2_with (first | ((with_reducible refine gate_dst (N := 9) rfl ?_); (try (refine gate_guard (by rfl) ?_; dsimp only)); refine box_event ?hg (N := 9) ?hd (cs := #[.bool false, .int .i64 0, .int .i64 0]) (t := 48) ?hr ?_; (case hd => rfl); (case hg => rfl); (case hr => first | (go_simp; done) | (go_simp; rfl)); intro gb248 hg w37 hbox hb; have n0_ := Aside0.mk (blk_below (g := gb244) (o := .cells #[.int .i64 ((rd_T38 l0 x17_1).f0), .int .i64 ((rd_T38 l0 x17_1).f1), .int .i64 ((rd_T38 l0 x17_1).f2), .slice (some ad247) ((rd_T38 l0 x17_1).f3).length c243_3] 38 (0, 0)) (by (with_reducible repeat (first | refine blk_drewN ?_ _ | refine blk_drew ?_ | refine blk_alloc ?_ _)); exact BK244.out) hb); have n1_ := Aside0.mk (blk_below (g := gb246) (o := .cells #[.int .i64 ((rd_T38 l1 x17_1).f0), .int .i64 ((rd_T38 l1 x17_1).f1), .int .i64 ((rd_T38 l1 x17_1).f2), .slice A245_3 ((rd_T38 l1 x17_1).f3).length c245_3] 38 (0, 0)) (by (with_reducible repeat (first | refine blk_drewN ?_ _ | refine blk_drew ?_ | refine blk_alloc ?_ _)); exact BK246.out) hb); have n2_ := Aside0.mk (below_step (by repeat (first | (with_reducible first | exact HB.out | apply below_alloc | apply pw_below_drewN | apply below_drew1 | refine below_set ?_ GE244.out | refine below_set ?_ GE246.out) | exact HB.out)) hb); have n3_ := Aside0.mk (hbox); have n4_ := Aside0.mk ((by rw [hg]; exact (below_size (by repeat (first | (with_reducible first | exact HB.out | apply below_alloc | apply pw_below_drewN | apply below_drew1 | refine below_set ?_ GE244.out | refine below_set ?_ GE246.out) | exact HB.out))) : w.heap.size ≤ gb248)); have n5_ := Aside0.mk ((by rw [hg]; exact (below_size (by repeat (first | (with_reducible first | exact HB.out | apply below_alloc | apply pw_below_drewN | apply below_drew1 | refine below_set ?_ GE244.out | refine below_set ?_ GE246.out) | exact HB.out))) : w.heap.size ≤ gb248)); have n6_ := Aside0.mk ((by rw [hg]; exact Nat.ne_of_lt (blk_lt (g := gb244) (o := .cells #[.int .i64 ((rd_T38 l0 x17_1).f0), .int .i64 ((rd_T38 l0 x17_1).f1), .int .i64 ((rd_T38 l0 x17_1).f2), .slice (some ad247) ((rd_T38 l0 x17_1).f3).length c243_3] 38 (0, 0)) (by (with_reducible repeat (first | refine blk_drewN ?_ _ | refine blk_drew ?_ | refine blk_alloc ?_ _)); exact BK244.out)) : gb244 ≠ gb248)); have n7_ := Aside0.mk ((by rw [hg]; exact Nat.ne_of_gt (blk_lt (g := gb244) (o := .cells #[.int .i64 ((rd_T38 l0 x17_1).f0), .int .i64 ((rd_T38 l0 x17_1).f1), .int .i64 ((rd_T38 l0 x17_1).f2), .slice (some ad247) ((rd_T38 l0 x17_1).f3).length c243_3] 38 (0, 0)) (by (with_reducible repeat (first | refine blk_drewN ?_ _ | refine blk_drew ?_ | refine blk_alloc ?_ _)); exact BK244.out)) : gb248 ≠ gb244)); have n8_ := Aside0.mk ((by rw [hg]; exact Nat.ne_of_lt (blk_lt (g := gb246) (o := .cells #[.int .i64 ((rd_T38 l1 x17_1).f0), .int .i64 ((rd_T38 l1 x17_1).f1), .int .i64 ((rd_T38 l1 x17_1).f2), .slice A245_3 ((rd_T38 l1 x17_1).f3).length c245_3] 38 (0, 0)) (by (with_reducible repeat (first | refine blk_drewN ?_ _ | refine blk_drew ?_ | refine blk_alloc ?_ _)); exact BK246.out)) : gb246 ≠ gb248)); have n9_ := Aside0.mk ((by rw [hg]; exact Nat.ne_of_gt (blk_lt (g := gb246) (o := .cells #[.int .i64 ((rd_T38 l1 x17_1).f0), .int .i64 ((rd_T38 l1 x17_1).f1), .int .i64 ((rd_T38 l1 x17_1).f2), .slice A245_3 ((rd_T38 l1 x17_1).f3).length c245_3] 38 (0, 0)) (by (with_reducible repeat (first | refine blk_drewN ?_ _ | refine blk_drew ?_ | refine blk_alloc ?_ _)); exact BK246.out)) : gb248 ≠ gb246)); clear BK244; clear BK246; clear HB; have BK244 := n0_; have BK246 := n1_; have HB := n2_; have BK248 := n3_; have GW248 := n4_; have GE248 := n5_; have NB244_248 := n6_; have NB248_244 := n7_; have NB246_248 := n8_; have NB248_246 := n9_; clear n0_ n1_ n2_ n3_ n4_ n5_ n6_ n7_ n8_ n9_; clear hb hbox hg; have hnb38 := NB248_244.out; have hnc38 := NB244_248.out; have hnb39 := NB248_246.out; have hnc39 := NB246_248.out; have hcz40_0 : w37.cell? ⟨gb248, 0, none⟩ = some (.bool false) := (blk_cell BK248.out 0).trans rfl; have hcz40_1 : w37.cell? ⟨gb248, 1, none⟩ = some (.int .i64 0) := (blk_cell BK248.out 1).trans rfl; have hcz40_2 : w37.cell? ⟨gb248, 2, none⟩ = some (.int .i64 0) := (blk_cell BK248.out 2).trans rfl; have hfz40_0 := blk_frozen BK248.out 0; have hfz40_1 := blk_frozen BK248.out 1; have hfz40_2 := blk_frozen BK248.out 2; have hnb41 := NB246_244.out; have hnc41 := NB244_246.out; have hcz42_0 : w37.cell? ⟨gb246, 0, none⟩ = some (.int .i64 ((rd_T38 l1 x17_1).f0)) := (blk_cell BK246.out 0).trans rfl; have hcz42_1 : w37.cell? ⟨gb246, 1, none⟩ = some (.int .i64 ((rd_T38 l1 x17_1).f1)) := (blk_cell BK246.out 1).trans rfl; have hcz42_2 : w37.cell? ⟨gb246, 2, none⟩ = some (.int .i64 ((rd_T38 l1 x17_1).f2)) := (blk_cell BK246.out 2).trans rfl; have hcz42_3 : w37.cell? ⟨gb246, 3, none⟩ = some (.slice A245_3 ((rd_T38 l1 x17_1).f3).length c245_3) := (blk_cell BK246.out 3).trans rfl; have hfz42_0 := blk_frozen BK246.out 0; have hfz42_1 := blk_frozen BK246.out 1; have hfz42_2 := blk_frozen BK246.out 2; have hfz42_3 := blk_frozen BK246.out 3; have p249 : 0 ≤ (x57_3 : Int) := of_decide_eq_true (by first | (with_reducible assumption) | assumption); have q249 : x57_3 < (((rd_T38 l1 x17_1).f3).length : Int) := of_decide_eq_true (by first | (with_reducible assumption) | assumption); obtain ⟨ad249, e249, hx249_0, hx249_1, hx249_2⟩ := at_T48 HR245_3.out x57_3 p249 q249; cases e249; have hn249_0 : ad249.block ≠ gb248 := Nat.ne_of_lt (Nat.lt_of_lt_of_le (by have := World.block_lt_of_cell? _ _ hx249_0; first | rwa [add_block] at this | exact this) GW248.out); have hn249_1 : ad249.block ≠ gb248 := Nat.ne_of_lt (Nat.lt_of_lt_of_le (by have := World.block_lt_of_cell? _ _ hx249_0; first | rwa [add_block] at this | exact this) GW248.out); have hn249_2 : ad249.block ≠ gb248 := Nat.ne_of_lt (Nat.lt_of_lt_of_le (by have := World.block_lt_of_cell? _ _ hx249_0; first | rwa [add_block] at this | exact this) GW248.out); replace hx249_0 := (HB.out.cell (World.block_lt_of_cell? w _ hx249_0)).trans hx249_0; replace hx249_1 := (HB.out.cell (World.block_lt_of_cell? w _ hx249_1)).trans hx249_1; replace hx249_2 := (HB.out.cell (World.block_lt_of_cell? w _ hx249_2)).trans hx249_2; replace hx249_0 := (cell_far (p := ⟨gb248, 0, none⟩) (by first | (rw [add_block]; exact hn249_0) | (show (Addr.add _ _).block ≠ _; rw [add_block]; exact hn249_0) | exact hn249_0) (.bool ((rd_T48 ((rd_T38 l0 x17_1).f3) x57_3).f0))).trans hx249_0; replace hx249_1 := (cell_far (p := ⟨gb248, 0, none⟩) (by first | (rw [add_block]; exact hn249_0) | (show (Addr.add _ _).block ≠ _; rw [add_block]; exact hn249_0) | exact hn249_0) (.bool ((rd_T48 ((rd_T38 l0 x17_1).f3) x57_3).f0))).trans hx249_1; replace hx249_2 := (cell_far (p := ⟨gb248, 0, none⟩) (by first | (rw [add_block]; exact hn249_0) | (show (Addr.add _ _).block ≠ _; rw [add_block]; exact hn249_0) | exact hn249_0) (.bool ((rd_T48 ((rd_T38 l0 x17_1).f3) x57_3).f0))).trans hx249_2; replace hx249_0 := (cell_far (p := ⟨gb248, 1, none⟩) (by first | (rw [add_block]; exact hn249_1) | (show (Addr.add _ _).block ≠ _; rw [add_block]; exact hn249_1) | exact hn249_1) (.int .i64 ((rd_T48 ((rd_T38 l0 x17_1).f3) x57_3).f1))).trans hx249_0; replace hx249_1 := (cell_far (p := ⟨gb248, 1, none⟩) (by first | (rw [add_block]; exact hn249_1) | (show (Addr.add _ _).block ≠ _; rw [add_block]; exact hn249_1) | exact hn249_1) (.int .i64 ((rd_T48 ((rd_T38 l0 x17_1).f3) x57_3).f1))).trans hx249_1; replace hx249_2 := (cell_far (p := ⟨gb248, 1, none⟩) (by first | (rw [add_block]; exact hn249_1) | (show (Addr.add _ _).block ≠ _; rw [add_block]; exact hn249_1) | exact hn249_1) (.int .i64 ((rd_T48 ((rd_T38 l0 x17_1).f3) x57_3).f1))).trans hx249_2; replace hx249_0 := (cell_far (p := ⟨gb248, 2, none⟩) (by first | (rw [add_block]; exact hn249_2) | (show (Addr.add _ _).block ≠ _; rw [add_block]; exact hn249_2) | exact hn249_2) (.int .i64 ((rd_T48 ((rd_T38 l0 x17_1).f3) x57_3).f2))).trans hx249_0; replace hx249_1 := (cell_far (p := ⟨gb248, 2, none⟩) (by first | (rw [add_block]; exact hn249_2) | (show (Addr.add _ _).block ≠ _; rw [add_block]; exact hn249_2) | exact hn249_2) (.int .i64 ((rd_T48 ((rd_T38 l0 x17_1).f3) x57_3).f2))).trans hx249_1; replace hx249_2 := (cell_far (p := ⟨gb248, 2, none⟩) (by first | (rw [add_block]; exact hn249_2) | (show (Addr.add _ _).block ≠ _; rw [add_block]; exact hn249_2) | exact hn249_2) (.int .i64 ((rd_T48 ((rd_T38 l0 x17_1).f3) x57_3).f2))).trans hx249_2; (try have hy249_0 := fun (n_ : Nat) => (show (((((w37.drewN n_).setCell ⟨gb248, 0, none⟩ (.bool ((rd_T48 ((rd_T38 l0 x17_1).f3) x57_3).f0))).setCell ⟨gb248, 1, none⟩ (.int .i64 ((rd_T48 ((rd_T38 l0 x17_1).f3) x57_3).f1))).setCell ⟨gb248, 2, none⟩ (.int .i64 ((rd_T48 ((rd_T38 l0 x17_1).f3) x57_3).f2)))).cell? _ = some _ from hx249_0)); (try have hy249_1 := fun (n_ : Nat) => (show (((((w37.drewN n_).setCell ⟨gb248, 0, none⟩ (.bool ((rd_T48 ((rd_T38 l0 x17_1).f3) x57_3).f0))).setCell ⟨gb248, 1, none⟩ (.int .i64 ((rd_T48 ((rd_T38 l0 x17_1).f3) x57_3).f1))).setCell ⟨gb248, 2, none⟩ (.int .i64 ((rd_T48 ((rd_T38 l0 x17_1).f3) x57_3).f2)))).cell? _ = some _ from hx249_1)); (try have hy249_2 := fun (n_ : Nat) => (show (((((w37.drewN n_).setCell ⟨gb248, 0, none⟩ (.bool ((rd_T48 ((rd_T38 l0 x17_1).f3) x57_3).f0))).setCell ⟨gb248, 1, none⟩ (.int .i64 ((rd_T48 ((rd_T38 l0 x17_1).f3) x57_3).f1))).setCell ⟨gb248, 2, none⟩ (.int .i64 ((rd_T48 ((rd_T38 l0 x17_1).f3) x57_3).f2)))).cell? _ = some _ from hx249_2)); clear hn249_0; clear hn249_1; clear hn249_2; replace p249 := eq_true p249; replace q249 := eq_true q249)))
                                    go_ret
                                    exact ⟨by first | rfl | (simp [errW_none, errW_some] <;> rfl) | (simp [*, errW_none, errW_some] <;> rfl), by repeat (first | (with_reducible first | exact HB.out | apply below_alloc | apply pw_below_drewN | apply below_drew1 | refine below_set ?_ GE244.out | refine below_set ?_ GE246.out | refine below_set ?_ GE248.out) | exact HB.out)⟩
                                  · rw [if_neg c36] at H
                                    have c36b0 : (!(((rd_T48 ((rd_T38 l1 x17_1).f3) x57_3).f0) == ((rd_T48 ((rd_T38 l0 x17_1).f3) x57_3).f0)) || (!(((rd_T48 ((rd_T38 l1 x17_1).f3) x57_3).f1) == ((rd_T48 ((rd_T38 l0 x17_1).f3) x57_3).f1)) || (!(((rd_T48 ((rd_T38 l1 x17_1).f3) x57_3).f2) == ((rd_T48 ((rd_T38 l0 x17_1).f3) x57_3).f2))))) = false := by simpa using c36
                                    clear c36
                                    have H' := Aside0.mk H
                                    clear H
                                    have p247 : 0 ≤ (x57_3 : Int) := of_decide_eq_true (by first | (with_reducible assumption) | assumption)
                                    have q247 : x57_3 < (((rd_T38 l0 x17_1).f3).length : Int) := of_decide_eq_true (by first | (with_reducible assumption) | assumption)
                                    obtain ⟨ad247, e247, hx247_0, hx247_1, hx247_2⟩ := at_T48 HR243_3.out x57_3 p247 q247
                                    cases e247
                                    replace hx247_0 := (HB.out.cell (World.block_lt_of_cell? w _ hx247_0)).trans hx247_0
                                    replace hx247_1 := (HB.out.cell (World.block_lt_of_cell? w _ hx247_1)).trans hx247_1
                                    replace hx247_2 := (HB.out.cell (World.block_lt_of_cell? w _ hx247_2)).trans hx247_2
                                    replace p247 := eq_true p247
                                    replace q247 := eq_true q247
                                    go_wp2_with (first | ((with_reducible refine gate_dst (N := 9) rfl ?_); (try (refine gate_guard (by rfl) ?_; dsimp only)); refine box_event ?hg (N := 9) ?hd (cs := #[.bool false, .int .i64 0, .int .i64 0]) (t := 48) ?hr ?_; (case hd => rfl); (case hg => rfl); (case hr => first | (go_simp; done) | (go_simp; rfl)); intro gb248 hg w43 hbox hb; have n0_ := Aside0.mk (blk_below (g := gb244) (o := .cells #[.int .i64 ((rd_T38 l0 x17_1).f0), .int .i64 ((rd_T38 l0 x17_1).f1), .int .i64 ((rd_T38 l0 x17_1).f2), .slice (some ad247) ((rd_T38 l0 x17_1).f3).length c243_3] 38 (0, 0)) (by (with_reducible repeat (first | refine blk_drewN ?_ _ | refine blk_drew ?_ | refine blk_alloc ?_ _)); exact BK244.out) hb); have n1_ := Aside0.mk (blk_below (g := gb246) (o := .cells #[.int .i64 ((rd_T38 l1 x17_1).f0), .int .i64 ((rd_T38 l1 x17_1).f1), .int .i64 ((rd_T38 l1 x17_1).f2), .slice A245_3 ((rd_T38 l1 x17_1).f3).length c245_3] 38 (0, 0)) (by (with_reducible repeat (first | refine blk_drewN ?_ _ | refine blk_drew ?_ | refine blk_alloc ?_ _)); exact BK246.out) hb); have n2_ := Aside0.mk (below_step (by repeat (first | (with_reducible first | exact HB.out | apply below_alloc | apply pw_below_drewN | apply below_drew1 | refine below_set ?_ GE244.out | refine below_set ?_ GE246.out) | exact HB.out)) hb); have n3_ := Aside0.mk (hbox); have n4_ := Aside0.mk ((by rw [hg]; exact (below_size (by repeat (first | (with_reducible first | exact HB.out | apply below_alloc | apply pw_below_drewN | apply below_drew1 | refine below_set ?_ GE244.out | refine below_set ?_ GE246.out) | exact HB.out))) : w.heap.size ≤ gb248)); have n5_ := Aside0.mk ((by rw [hg]; exact (below_size (by repeat (first | (with_reducible first | exact HB.out | apply below_alloc | apply pw_below_drewN | apply below_drew1 | refine below_set ?_ GE244.out | refine below_set ?_ GE246.out) | exact HB.out))) : w.heap.size ≤ gb248)); have n6_ := Aside0.mk ((by rw [hg]; exact Nat.ne_of_lt (blk_lt (g := gb244) (o := .cells #[.int .i64 ((rd_T38 l0 x17_1).f0), .int .i64 ((rd_T38 l0 x17_1).f1), .int .i64 ((rd_T38 l0 x17_1).f2), .slice (some ad247) ((rd_T38 l0 x17_1).f3).length c243_3] 38 (0, 0)) (by (with_reducible repeat (first | refine blk_drewN ?_ _ | refine blk_drew ?_ | refine blk_alloc ?_ _)); exact BK244.out)) : gb244 ≠ gb248)); have n7_ := Aside0.mk ((by rw [hg]; exact Nat.ne_of_gt (blk_lt (g := gb244) (o := .cells #[.int .i64 ((rd_T38 l0 x17_1).f0), .int .i64 ((rd_T38 l0 x17_1).f1), .int .i64 ((rd_T38 l0 x17_1).f2), .slice (some ad247) ((rd_T38 l0 x17_1).f3).length c243_3] 38 (0, 0)) (by (with_reducible repeat (first | refine blk_drewN ?_ _ | refine blk_drew ?_ | refine blk_alloc ?_ _)); exact BK244.out)) : gb248 ≠ gb244)); have n8_ := Aside0.mk ((by rw [hg]; exact Nat.ne_of_lt (blk_lt (g := gb246) (o := .cells #[.int .i64 ((rd_T38 l1 x17_1).f0), .int .i64 ((rd_T38 l1 x17_1).f1), .int .i64 ((rd_T38 l1 x17_1).f2), .slice A245_3 ((rd_T38 l1 x17_1).f3).length c245_3] 38 (0, 0)) (by (with_reducible repeat (first | refine blk_drewN ?_ _ | refine blk_drew ?_ | refine blk_alloc ?_ _)); exact BK246.out)) : gb246 ≠ gb248)); have n9_ := Aside0.mk ((by rw [hg]; exact Nat.ne_of_gt (blk_lt (g := gb246) (o := .cells #[.int .i64 ((rd_T38 l1 x17_1).f0), .int .i64 ((rd_T38 l1 x17_1).f1), .int .i64 ((rd_T38 l1 x17_1).f2), .slice A245_3 ((rd_T38 l1 x17_1).f3).length c245_3] 38 (0, 0)) (by (with_reducible repeat (first | refine blk_drewN ?_ _ | refine blk_drew ?_ | refine blk_alloc ?_ _)); exact BK246.out)) : gb248 ≠ gb246)); clear BK244; clear BK246; clear HB; have BK244 := n0_; have BK246 := n1_; have HB := n2_; have BK248 := n3_; have GW248 := n4_; have GE248 := n5_; have NB244_248 := n6_; have NB248_244 := n7_; have NB246_248 := n8_; have NB248_246 := n9_; clear n0_ n1_ n2_ n3_ n4_ n5_ n6_ n7_ n8_ n9_; clear hb hbox hg; have hnb44 := NB248_244.out; have hnc44 := NB244_248.out; have hnb45 := NB248_246.out; have hnc45 := NB246_248.out; have hcz46_0 : w43.cell? ⟨gb248, 0, none⟩ = some (.bool false) := (blk_cell BK248.out 0).trans rfl; have hcz46_1 : w43.cell? ⟨gb248, 1, none⟩ = some (.int .i64 0) := (blk_cell BK248.out 1).trans rfl; have hcz46_2 : w43.cell? ⟨gb248, 2, none⟩ = some (.int .i64 0) := (blk_cell BK248.out 2).trans rfl; have hfz46_0 := blk_frozen BK248.out 0; have hfz46_1 := blk_frozen BK248.out 1; have hfz46_2 := blk_frozen BK248.out 2; have hnb47 := NB246_244.out; have hnc47 := NB244_246.out; have hcz48_0 : w43.cell? ⟨gb246, 0, none⟩ = some (.int .i64 ((rd_T38 l1 x17_1).f0)) := (blk_cell BK246.out 0).trans rfl; have hcz48_1 : w43.cell? ⟨gb246, 1, none⟩ = some (.int .i64 ((rd_T38 l1 x17_1).f1)) := (blk_cell BK246.out 1).trans rfl; have hcz48_2 : w43.cell? ⟨gb246, 2, none⟩ = some (.int .i64 ((rd_T38 l1 x17_1).f2)) := (blk_cell BK246.out 2).trans rfl; have hcz48_3 : w43.cell? ⟨gb246, 3, none⟩ = some (.slice A245_3 ((rd_T38 l1 x17_1).f3).length c245_3) := (blk_cell BK246.out 3).trans rfl; have hfz48_0 := blk_frozen BK246.out 0; have hfz48_1 := blk_frozen BK246.out 1; have hfz48_2 := blk_frozen BK246.out 2; have hfz48_3 := blk_frozen BK246.out 3; have p249 : 0 ≤ (x57_3 : Int) := of_decide_eq_true (by first | (with_reducible assumption) | assumption); have q249 : x57_3 < (((rd_T38 l1 x17_1).f3).length : Int) := of_decide_eq_true (by first | (with_reducible assumption) | assumption); obtain ⟨ad249, e249, hx249_0, hx249_1, hx249_2⟩ := at_T48 HR245_3.out x57_3 p249 q249; cases e249; have hn249_0 : ad249.block ≠ gb248 := Nat.ne_of_lt (Nat.lt_of_lt_of_le (by have := World.block_lt_of_cell? _ _ hx249_0; first | rwa [add_block] at this | exact this) GW248.out); have hn249_1 : ad249.block ≠ gb248 := Nat.ne_of_lt (Nat.lt_of_lt_of_le (by have := World.block_lt_of_cell? _ _ hx249_0; first | rwa [add_block] at this | exact this) GW248.out); have hn249_2 : ad249.block ≠ gb248 := Nat.ne_of_lt (Nat.lt_of_lt_of_le (by have := World.block_lt_of_cell? _ _ hx249_0; first | rwa [add_block] at this | exact this) GW248.out); replace hx249_0 := (HB.out.cell (World.block_lt_of_cell? w _ hx249_0)).trans hx249_0; replace hx249_1 := (HB.out.cell (World.block_lt_of_cell? w _ hx249_1)).trans hx249_1; replace hx249_2 := (HB.out.cell (World.block_lt_of_cell? w _ hx249_2)).trans hx249_2; replace hx249_0 := (cell_far (p := ⟨gb248, 0, none⟩) (by first | (rw [add_block]; exact hn249_0) | (show (Addr.add _ _).block ≠ _; rw [add_block]; exact hn249_0) | exact hn249_0) (.bool ((rd_T48 ((rd_T38 l0 x17_1).f3) x57_3).f0))).trans hx249_0; replace hx249_1 := (cell_far (p := ⟨gb248, 0, none⟩) (by first | (rw [add_block]; exact hn249_0) | (show (Addr.add _ _).block ≠ _; rw [add_block]; exact hn249_0) | exact hn249_0) (.bool ((rd_T48 ((rd_T38 l0 x17_1).f3) x57_3).f0))).trans hx249_1; replace hx249_2 := (cell_far (p := ⟨gb248, 0, none⟩) (by first | (rw [add_block]; exact hn249_0) | (show (Addr.add _ _).block ≠ _; rw [add_block]; exact hn249_0) | exact hn249_0) (.bool ((rd_T48 ((rd_T38 l0 x17_1).f3) x57_3).f0))).trans hx249_2; replace hx249_0 := (cell_far (p := ⟨gb248, 1, none⟩) (by first | (rw [add_block]; exact hn249_1) | (show (Addr.add _ _).block ≠ _; rw [add_block]; exact hn249_1) | exact hn249_1) (.int .i64 ((rd_T48 ((rd_T38 l0 x17_1).f3) x57_3).f1))).trans hx249_0; replace hx249_1 := (cell_far (p := ⟨gb248, 1, none⟩) (by first | (rw [add_block]; exact hn249_1) | (show (Addr.add _ _).block ≠ _; rw [add_block]; exact hn249_1) | exact hn249_1) (.int .i64 ((rd_T48 ((rd_T38 l0 x17_1).f3) x57_3).f1))).trans hx249_1; replace hx249_2 := (cell_far (p := ⟨gb248, 1, none⟩) (by first | (rw [add_block]; exact hn249_1) | (show (Addr.add _ _).block ≠ _; rw [add_block]; exact hn249_1) | exact hn249_1) (.int .i64 ((rd_T48 ((rd_T38 l0 x17_1).f3) x57_3).f1))).trans hx249_2; replace hx249_0 := (cell_far (p := ⟨gb248, 2, none⟩) (by first | (rw [add_block]; exact hn249_2) | (show (Addr.add _ _).block ≠ _; rw [add_block]; exact hn249_2) | exact hn249_2) (.int .i64 ((rd_T48 ((rd_T38 l0 x17_1).f3) x57_3).f2))).trans hx249_0; replace hx249_1 := (cell_far (p := ⟨gb248, 2, none⟩) (by first | (rw [add_block]; exact hn249_2) | (show (Addr.add _ _).block ≠ _; rw [add_block]; exact hn249_2) | exact hn249_2) (.int .i64 ((rd_T48 ((rd_T38 l0 x17_1).f3) x57_3).f2))).trans hx249_1; replace hx249_2 := (cell_far (p := ⟨gb248, 2, none⟩) (by first | (rw [add_block]; exact hn249_2) | (show (Addr.add _ _).block ≠ _; rw [add_block]; exact hn249_2) | exact hn249_2) (.int .i64 ((rd_T48 ((rd_T38 l0 x17_1).f3) x57_3).f2))).trans hx249_2; (try have hy249_0 := fun (n_ : Nat) => (show (((((w43.drewN n_).setCell ⟨gb248, 0, none⟩ (.bool ((rd_T48 ((rd_T38 l0 x17_1).f3) x57_3).f0))).setCell ⟨gb248, 1, none⟩ (.int .i64 ((rd_T48 ((rd_T38 l0 x17_1).f3) x57_3).f1))).setCell ⟨gb248, 2, none⟩ (.int .i64 ((rd_T48 ((rd_T38 l0 x17_1).f3) x57_3).f2)))).cell? _ = some _ from hx249_0)); (try have hy249_1 := fun (n_ : Nat) => (show (((((w43.drewN n_).setCell ⟨gb248, 0, none⟩ (.bool ((rd_T48 ((rd_T38 l0 x17_1).f3) x57_3).f0))).setCell ⟨gb248, 1, none⟩ (.int .i64 ((rd_T48 ((rd_T38 l0 x17_1).f3) x57_3).f1))).setCell ⟨gb248, 2, none⟩ (.int .i64 ((rd_T48 ((rd_T38 l0 x17_1).f3) x57_3).f2)))).cell? _ = some _ from hx249_1)); (try have hy249_2 := fun (n_ : Nat) => (show (((((w43.drewN n_).setCell ⟨gb248, 0, none⟩ (.bool ((rd_T48 ((rd_T38 l0 x17_1).f3) x57_3).f0))).setCell ⟨gb248, 1, none⟩ (.int .i64 ((rd_T48 ((rd_T38 l0 x17_1).f3) x57_3).f1))).setCell ⟨gb248, 2, none⟩ (.int .i64 ((rd_T48 ((rd_T38 l0 x17_1).f3) x57_3).f2)))).cell? _ = some _ from hx249_2)); clear hn249_0; clear hn249_1; clear hn249_2; replace p249 := eq_true p249; replace q249 := eq_true q249))
                                    repeat (go_quiet (first | ((with_reducible refine gate_dst (N := 9) rfl ?_); (try (refine gate_guard (by rfl) ?_; dsimp only)); refine box_event ?hg (N := 9) ?hd (cs := #[.bool false, .int .i64 0, .int .i64 0]) (t := 48) ?hr ?_; (case hd => rfl); (case hg => rfl); (case hr => first | (go_simp; done) | (go_simp; rfl)); intro gb248 hg w43 hbox hb; have n0_ := Aside0.mk (blk_below (g := gb244) (o := .cells #[.int .i64 ((rd_T38 l0 x17_1).f0), .int .i64 ((rd_T38 l0 x17_1).f1), .int .i64 ((rd_T38 l0 x17_1).f2), .slice (some ad247) ((rd_T38 l0 x17_1).f3).length c243_3] 38 (0, 0)) (by (with_reducible repeat (first | refine blk_drewN ?_ _ | refine blk_drew ?_ | refine blk_alloc ?_ _)); exact BK244.out) hb); have n1_ := Aside0.mk (blk_below (g := gb246) (o := .cells #[.int .i64 ((rd_T38 l1 x17_1).f0), .int .i64 ((rd_T38 l1 x17_1).f1), .int .i64 ((rd_T38 l1 x17_1).f2), .slice A245_3 ((rd_T38 l1 x17_1).f3).length c245_3] 38 (0, 0)) (by (with_reducible repeat (first | refine blk_drewN ?_ _ | refine blk_drew ?_ | refine blk_alloc ?_ _)); exact BK246.out) hb); have n2_ := Aside0.mk (below_step (by repeat (first | (with_reducible first | exact HB.out | apply below_alloc | apply pw_below_drewN | apply below_drew1 | refine below_set ?_ GE244.out | refine below_set ?_ GE246.out) | exact HB.out)) hb); have n3_ := Aside0.mk (hbox); have n4_ := Aside0.mk ((by rw [hg]; exact (below_size (by repeat (first | (with_reducible first | exact HB.out | apply below_alloc | apply pw_below_drewN | apply below_drew1 | refine below_set ?_ GE244.out | refine below_set ?_ GE246.out) | exact HB.out))) : w.heap.size ≤ gb248)); have n5_ := Aside0.mk ((by rw [hg]; exact (below_size (by repeat (first | (with_reducible first | exact HB.out | apply below_alloc | apply pw_below_drewN | apply below_drew1 | refine below_set ?_ GE244.out | refine below_set ?_ GE246.out) | exact HB.out))) : w.heap.size ≤ gb248)); have n6_ := Aside0.mk ((by rw [hg]; exact Nat.ne_of_lt (blk_lt (g := gb244) (o := .cells #[.int .i64 ((rd_T38 l0 x17_1).f0), .int .i64 ((rd_T38 l0 x17_1).f1), .int .i64 ((rd_T38 l0 x17_1).f2), .slice (some ad247) ((rd_T38 l0 x17_1).f3).length c243_3] 38 (0, 0)) (by (with_reducible repeat (first | refine blk_drewN ?_ _ | refine blk_drew ?_ | refine blk_alloc ?_ _)); exact BK244.out)) : gb244 ≠ gb248)); have n7_ := Aside0.mk ((by rw [hg]; exact Nat.ne_of_gt (blk_lt (g := gb244) (o := .cells #[.int .i64 ((rd_T38 l0 x17_1).f0), .int .i64 ((rd_T38 l0 x17_1).f1), .int .i64 ((rd_T38 l0 x17_1).f2), .slice (some ad247) ((rd_T38 l0 x17_1).f3).length c243_3] 38 (0, 0)) (by (with_reducible repeat (first | refine blk_drewN ?_ _ | refine blk_drew ?_ | refine blk_alloc ?_ _)); exact BK244.out)) : gb248 ≠ gb244)); have n8_ := Aside0.mk ((by rw [hg]; exact Nat.ne_of_lt (blk_lt (g := gb246) (o := .cells #[.int .i64 ((rd_T38 l1 x17_1).f0), .int .i64 ((rd_T38 l1 x17_1).f1), .int .i64 ((rd_T38 l1 x17_1).f2), .slice A245_3 ((rd_T38 l1 x17_1).f3).length c245_3] 38 (0, 0)) (by (with_reducible repeat (first | refine blk_drewN ?_ _ | refine blk_drew ?_ | refine blk_alloc ?_ _)); exact BK246.out)) : gb246 ≠ gb248)); have n9_ := Aside0.mk ((by rw [hg]; exact Nat.ne_of_gt (blk_lt (g := gb246) (o := .cells #[.int .i64 ((rd_T38 l1 x17_1).f0), .int .i64 ((rd_T38 l1 x17_1).f1), .int .i64 ((rd_T38 l1 x17_1).f2), .slice A245_3 ((rd_T38 l1 x17_1).f3).length c245_3] 38 (0, 0)) (by (with_reducible repeat (first | refine blk_drewN ?_ _ | refine blk_drew ?_ | refine blk_alloc ?_ _)); exact BK246.out)) : gb248 ≠ gb246)); clear BK244; clear BK246; clear HB; have BK244 := n0_; have BK246 := n1_; have HB := n2_; have BK248 := n3_; have GW248 := n4_; have GE248 := n5_; have NB244_248 := n6_; have NB248_244 := n7_; have NB246_248 := n8_; have NB248_246 := n9_; clear n0_ n1_ n2_ n3_ n4_ n5_ n6_ n7_ n8_ n9_; clear hb hbox hg; have hnb44 := NB248_244.out; have hnc44 := NB244_248.out; have hnb45 := NB248_246.out; have hnc45 := NB246_248.out; have hcz46_0 : w43.cell? ⟨gb248, 0, none⟩ = some (.bool false) := (blk_cell BK248.out 0).trans rfl; have hcz46_1 : w43.cell? ⟨gb248, 1, none⟩ = some (.int .i64 0) := (blk_cell BK248.out 1).trans rfl; have hcz46_2 : w43.cell? ⟨gb248, 2, none⟩ = some (.int .i64 0) := (blk_cell BK248.out 2).trans rfl; have hfz46_0 := blk_frozen BK248.out 0; have hfz46_1 := blk_frozen BK248.out 1; have hfz46_2 := blk_frozen BK248.out 2; have hnb47 := NB246_244.out; have hnc47 := NB244_246.out; have hcz48_0 : w43.cell? ⟨gb246, 0, none⟩ = some (.int .i64 ((rd_T38 l1 x17_1).f0)) := (blk_cell BK246.out 0).trans rfl; have hcz48_1 : w43.cell? ⟨gb246, 1, none⟩ = some (.int .i64 ((rd_T38 l1 x17_1).f1)) := (blk_cell BK246.out 1).trans rfl; have hcz48_2 : w43.cell? ⟨gb246, 2, none⟩ = some (.int .i64 ((rd_T38 l1 x17_1).f2)) := (blk_cell BK246.out 2).trans rfl; have hcz48_3 : w43.cell? ⟨gb246, 3, none⟩ = some (.slice A245_3 ((rd_T38 l1 x17_1).f3).length c245_3) := (blk_cell BK246.out 3).trans rfl; have hfz48_0 := blk_frozen BK246.out 0; have hfz48_1 := blk_frozen BK246.out 1; have hfz48_2 := blk_frozen BK246.out 2; have hfz48_3 := blk_frozen BK246.out 3; have p249 : 0 ≤ (x57_3 : Int) := of_decide_eq_true (by first | (with_reducible assumption) | assumption); have q249 : x57_3 < (((rd_T38 l1 x17_1).f3).length : Int) := of_decide_eq_true (by first | (with_reducible assumption) | assumption); obtain ⟨ad249, e249, hx249_0, hx249_1, hx249_2⟩ := at_T48 HR245_3.out x57_3 p249 q249; cases e249; have hn249_0 : ad249.block ≠ gb248 := Nat.ne_of_lt (Nat.lt_of_lt_of_le (by have := World.block_lt_of_cell? _ _ hx249_0; first | rwa [add_block] at this | exact this) GW248.out); have hn249_1 : ad249.block ≠ gb248 := Nat.ne_of_lt (Nat.lt_of_lt_of_le (by have := World.block_lt_of_cell? _ _ hx249_0; first | rwa [add_block] at this | exact this) GW248.out); have hn249_2 : ad249.block ≠ gb248 := Nat.ne_of_lt (Nat.lt_of_lt_of_le (by have := World.block_lt_of_cell? _ _ hx249_0; first | rwa [add_block] at this | exact this) GW248.out); replace hx249_0 := (HB.out.cell (World.block_lt_of_cell? w _ hx249_0)).trans hx249_0; replace hx249_1 := (HB.out.cell (World.block_lt_of_cell? w _ hx249_1)).trans hx249_1; replace hx249_2 := (HB.out.cell (World.block_lt_of_cell? w _ hx249_2)).trans hx249_2; replace hx249_0 := (cell_far (p := ⟨gb248, 0, none⟩) (by first | (rw [add_block]; exact hn249_0) | (show (Addr.add _ _).block ≠ _; rw [add_block]; exact hn249_0) | exact hn249_0) (.bool ((rd_T48 ((rd_T38 l0 x17_1).f3) x57_3).f0))).trans hx249_0; replace hx249_1 := (cell_far (p := ⟨gb248, 0, none⟩) (by first | (rw [add_block]; exact hn249_0) | (show (Addr.add _ _).block ≠ _; rw [add_block]; exact hn249_0) | exact hn249_0) (.bool ((rd_T48 ((rd_T38 l0 x17_1).f3) x57_3).f0))).trans hx249_1; replace hx249_2 := (cell_far (p := ⟨gb248, 0, none⟩) (by first | (rw [add_block]; exact hn249_0) | (show (Addr.add _ _).block ≠ _; rw [add_block]; exact hn249_0) | exact hn249_0) (.bool ((rd_T48 ((rd_T38 l0 x17_1).f3) x57_3).f0))).trans hx249_2; replace hx249_0 := (cell_far (p := ⟨gb248, 1, none⟩) (by first | (rw [add_block]; exact hn249_1) | (show (Addr.add _ _).block ≠ _; rw [add_block]; exact hn249_1) | exact hn249_1) (.int .i64 ((rd_T48 ((rd_T38 l0 x17_1).f3) x57_3).f1))).trans hx249_0; replace hx249_1 := (cell_far (p := ⟨gb248, 1, none⟩) (by first | (rw [add_block]; exact hn249_1) | (show (Addr.add _ _).block ≠ _; rw [add_block]; exact hn249_1) | exact hn249_1) (.int .i64 ((rd_T48 ((rd_T38 l0 x17_1).f3) x57_3).f1))).trans hx249_1; replace hx249_2 := (cell_far (p := ⟨gb248, 1, none⟩) (by first | (rw [add_block]; exact hn249_1) | (show (Addr.add _ _).block ≠ _; rw [add_block]; exact hn249_1) | exact hn249_1) (.int .i64 ((rd_T48 ((rd_T38 l0 x17_1).f3) x57_3).f1))).trans hx249_2; replace hx249_0 := (cell_far (p := ⟨gb248, 2, none⟩) (by first | (rw [add_block]; exact hn249_2) | (show (Addr.add _ _).block ≠ _; rw [add_block]; exact hn249_2) | exact hn249_2) (.int .i64 ((rd_T48 ((rd_T38 l0 x17_1).f3) x57_3).f2))).trans hx249_0; replace hx249_1 := (cell_far (p := ⟨gb248, 2, none⟩) (by first | (rw [add_block]; exact hn249_2) | (show (Addr.add _ _).block ≠ _; rw [add_block]; exact hn249_2) | exact hn249_2) (.int .i64 ((rd_T48 ((rd_T38 l0 x17_1).f3) x57_3).f2))).trans hx249_1; replace hx249_2 := (cell_far (p := ⟨gb248, 2, none⟩) (by first | (rw [add_block]; exact hn249_2) | (show (Addr.add _ _).block ≠ _; rw [add_block]; exact hn249_2) | exact hn249_2) (.int .i64 ((rd_T48 ((rd_T38 l0 x17_1).f3) x57_3).f2))).trans hx249_2; (try have hy249_0 := fun (n_ : Nat) => (show (((((w43.drewN n_).setCell ⟨gb248, 0, none⟩ (.bool ((rd_T48 ((rd_T38 l0 x17_1).f3) x57_3).f0))).setCell ⟨gb248, 1, none⟩ (.int .i64 ((rd_T48 ((rd_T38 l0 x17_1).f3) x57_3).f1))).setCell ⟨gb248, 2, none⟩ (.int .i64 ((rd_T48 ((rd_T38 l0 x17_1).f3) x57_3).f2)))).cell? _ = some _ from hx249_0)); (try have hy249_1 := fun (n_ : Nat) => (show (((((w43.drewN n_).setCell ⟨gb248, 0, none⟩ (.bool ((rd_T48 ((rd_T38 l0 x17_1).f3) x57_3).f0))).setCell ⟨gb248, 1, none⟩ (.int .i64 ((rd_T48 ((rd_T38 l0 x17_1).f3) x57_3).f1))).setCell ⟨gb248, 2, none⟩ (.int .i64 ((rd_T48 ((rd_T38 l0 x17_1).f3) x57_3).f2)))).cell? _ = some _ from hx249_1)); (try have hy249_2 := fun (n_ : Nat) => (show (((((w43.drewN n_).setCell ⟨gb248, 0, none⟩ (.bool ((rd_T48 ((rd_T38 l0 x17_1).f3) x57_3).f0))).setCell ⟨gb248, 1, none⟩ (.int .i64 ((rd_T48 ((rd_T38 l0 x17_1).f3) x57_3).f1))).setCell ⟨gb248, 2, none⟩ (.int .i64 ((rd_T48 ((rd_T38 l0 x17_1).f3) x57_3).f2)))).cell? _ = some _ from hx249_2)); clear hn249_0; clear hn249_1; clear hn249_2; replace p249 := eq_true p249; replace q249 := eq_true q249)); try go_wp2_with (first | ((with_reducible refine gate_dst (N := 9) rfl ?_); (try (refine gate_guard (by rfl) ?_; dsimp only)); refine box_event ?hg (N := 9) ?hd (cs := #[.bool false, .int .i64 0, .int .i64 0]) (t := 48) ?hr ?_; (case hd => rfl); (case hg => rfl); (case hr => first | (go_simp; done) | (go_simp; rfl)); intro gb248 hg w43 hbox hb; have n0_ := Aside0.mk (blk_below (g := gb244) (o := .cells #[.int .i64 ((rd_T38 l0 x17_1).f0), .int .i64 ((rd_T38 l0 x17_1).f1), .int .i64 ((rd_T38 l0 x17_1).f2), .slice (some ad247) ((rd_T38 l0 x17_1).f3).length c243_3] 38 (0, 0)) (by (with_reducible repeat (first | refine blk_drewN ?_ _ | refine blk_drew ?_ | refine blk_alloc ?_ _)); exact BK244.out) hb); have n1_ := Aside0.mk (blk_below (g := gb246) (o := .cells #[.int .i64 ((rd_T38 l1 x17_1).f0), .int .i64 ((rd_T38 l1 x17_1).f1), .int .i64 ((rd_T38 l1 x17_1).f2), .slice A245_3 ((rd_T38 l1 x17_1).f3).length c245_3] 38 (0, 0)) (by (with_reducible repeat (first | refine blk_drewN ?_ _ | refine blk_drew ?_ | refine blk_alloc ?_ _)); exact BK246.out) hb); have n2_ := Aside0.mk (below_step (by repeat (first | (with_reducible first | exact HB.out | apply below_alloc | apply pw_below_drewN | apply below_drew1 | refine below_set ?_ GE244.out | refine below_set ?_ GE246.out) | exact HB.out)) hb); have n3_ := Aside0.mk (hbox); have n4_ := Aside0.mk ((by rw [hg]; exact (below_size (by repeat (first | (with_reducible first | exact HB.out | apply below_alloc | apply pw_below_drewN | apply below_drew1 | refine below_set ?_ GE244.out | refine below_set ?_ GE246.out) | exact HB.out))) : w.heap.size ≤ gb248)); have n5_ := Aside0.mk ((by rw [hg]; exact (below_size (by repeat (first | (with_reducible first | exact HB.out | apply below_alloc | apply pw_below_drewN | apply below_drew1 | refine below_set ?_ GE244.out | refine below_set ?_ GE246.out) | exact HB.out))) : w.heap.size ≤ gb248)); have n6_ := Aside0.mk ((by rw [hg]; exact Nat.ne_of_lt (blk_lt (g := gb244) (o := .cells #[.int .i64 ((rd_T38 l0 x17_1).f0), .int .i64 ((rd_T38 l0 x17_1).f1), .int .i64 ((rd_T38 l0 x17_1).f2), .slice (some ad247) ((rd_T38 l0 x17_1).f3).length c243_3] 38 (0, 0)) (by (with_reducible repeat (first | refine blk_drewN ?_ _ | refine blk_drew ?_ | refine blk_alloc ?_ _)); exact BK244.out)) : gb244 ≠ gb248)); have n7_ := Aside0.mk ((by rw [hg]; exact Nat.ne_of_gt (blk_lt (g := gb244) (o := .cells #[.int .i64 ((rd_T38 l0 x17_1).f0), .int .i64 ((rd_T38 l0 x17_1).f1), .int .i64 ((rd_T38 l0 x17_1).f2), .slice (some ad247) ((rd_T38 l0 x17_1).f3).length c243_3] 38 (0, 0)) (by (with_reducible repeat (first | refine blk_drewN ?_ _ | refine blk_drew ?_ | refine blk_alloc ?_ _)); exact BK244.out)) : gb248 ≠ gb244)); have n8_ := Aside0.mk ((by rw [hg]; exact Nat.ne_of_lt (blk_lt (g := gb246) (o := .cells #[.int .i64 ((rd_T38 l1 x17_1).f0), .int .i64 ((rd_T38 l1 x17_1).f1), .int .i64 ((rd_T38 l1 x17_1).f2), .slice A245_3 ((rd_T38 l1 x17_1).f3).length c245_3] 38 (0, 0)) (by (with_reducible repeat (first | refine blk_drewN ?_ _ | refine blk_drew ?_ | refine blk_alloc ?_ _)); exact BK246.out)) : gb246 ≠ gb248)); have n9_ := Aside0.mk ((by rw [hg]; exact Nat.ne_of_gt (blk_lt (g := gb246) (o := .cells #[.int .i64 ((rd_T38 l1 x17_1).f0), .int .i64 ((rd_T38 l1 x17_1).f1), .int .i64 ((rd_T38 l1 x17_1).f2), .slice A245_3 ((rd_T38 l1 x17_1).f3).length c245_3] 38 (0, 0)) (by (with_reducible repeat (first | refine blk_drewN ?_ _ | refine blk_drew ?_ | refine blk_alloc ?_ _)); exact BK246.out)) : gb248 ≠ gb246)); clear BK244; clear BK246; clear HB; have BK244 := n0_; have BK246 := n1_; have HB := n2_; have BK248 := n3_; have GW248 := n4_; have GE248 := n5_; have NB244_248 := n6_; have NB248_244 := n7_; have NB246_248 := n8_; have NB248_246 := n9_; clear n0_ n1_ n2_ n3_ n4_ n5_ n6_ n7_ n8_ n9_; clear hb hbox hg; have hnb44 := NB248_244.out; have hnc44 := NB244_248.out; have hnb45 := NB248_246.out; have hnc45 := NB246_248.out; have hcz46_0 : w43.cell? ⟨gb248, 0, none⟩ = some (.bool false) := (blk_cell BK248.out 0).trans rfl; have hcz46_1 : w43.cell? ⟨gb248, 1, none⟩ = some (.int .i64 0) := (blk_cell BK248.out 1).trans rfl; have hcz46_2 : w43.cell? ⟨gb248, 2, none⟩ = some (.int .i64 0) := (blk_cell BK248.out 2).trans rfl; have hfz46_0 := blk_frozen BK248.out 0; have hfz46_1 := blk_frozen BK248.out 1; have hfz46_2 := blk_frozen BK248.out 2; have hnb47 := NB246_244.out; have hnc47 := NB244_246.out; have hcz48_0 : w43.cell? ⟨gb246, 0, none⟩ = some (.int .i64 ((rd_T38 l1 x17_1).f0)) := (blk_cell BK246.out 0).trans rfl; have hcz48_1 : w43.cell? ⟨gb246, 1, none⟩ = some (.int .i64 ((rd_T38 l1 x17_1).f1)) := (blk_cell BK246.out 1).trans rfl; have hcz48_2 : w43.cell? ⟨gb246, 2, none⟩ = some (.int .i64 ((rd_T38 l1 x17_1).f2)) := (blk_cell BK246.out 2).trans rfl; have hcz48_3 : w43.cell? ⟨gb246, 3, none⟩ = some (.slice A245_3 ((rd_T38 l1 x17_1).f3).length c245_3) := (blk_cell BK246.out 3).trans rfl; have hfz48_0 := blk_frozen BK246.out 0; have hfz48_1 := blk_frozen BK246.out 1; have hfz48_2 := blk_frozen BK246.out 2; have hfz48_3 := blk_frozen BK246.out 3; have p249 : 0 ≤ (x57_3 : Int) := of_decide_eq_true (by first | (with_reducible assumption) | assumption); have q249 : x57_3 < (((rd_T38 l1 x17_1).f3).length : Int) := of_decide_eq_true (by first | (with_reducible assumption) | assumption); obtain ⟨ad249, e249, hx249_0, hx249_1, hx249_2⟩ := at_T48 HR245_3.out x57_3 p249 q249; cases e249; have hn249_0 : ad249.block ≠ gb248 := Nat.ne_of_lt (Nat.lt_of_lt_of_le (by have := World.block_lt_of_cell? _ _ hx249_0; first | rwa [add_block] at this | exact this) GW248.out); have hn249_1 : ad249.block ≠ gb248 := Nat.ne_of_lt (Nat.lt_of_lt_of_le (by have := World.block_lt_of_cell? _ _ hx249_0; first | rwa [add_block] at this | exact this) GW248.out); have hn249_2 : ad249.block ≠ gb248 := Nat.ne_of_lt (Nat.lt_of_lt_of_le (by have := World.block_lt_of_cell? _ _ hx249_0; first | rwa [add_block] at this | exact this) GW248.out); replace hx249_0 := (HB.out.cell (World.block_lt_of_cell? w _ hx249_0)).trans hx249_0; replace hx249_1 := (HB.out.cell (World.block_lt_of_cell? w _ hx249_1)).trans hx249_1; replace hx249_2 := (HB.out.cell (World.block_lt_of_cell? w _ hx249_2)).trans hx249_2; replace hx249_0 := (cell_far (p := ⟨gb248, 0, none⟩) (by first | (rw [add_block]; exact hn249_0) | (show (Addr.add _ _).block ≠ _; rw [add_block]; exact hn249_0) | exact hn249_0) (.bool ((rd_T48 ((rd_T38 l0 x17_1).f3) x57_3).f0))).trans hx249_0; replace hx249_1 := (cell_far (p := ⟨gb248, 0, none⟩) (by first | (rw [add_block]; exact hn249_0) | (show (Addr.add _ _).block ≠ _; rw [add_block]; exact hn249_0) | exact hn249_0) (.bool ((rd_T48 ((rd_T38 l0 x17_1).f3) x57_3).f0))).trans hx249_1; replace hx249_2 := (cell_far (p := ⟨gb248, 0, none⟩) (by first | (rw [add_block]; exact hn249_0) | (show (Addr.add _ _).block ≠ _; rw [add_block]; exact hn249_0) | exact hn249_0) (.bool ((rd_T48 ((rd_T38 l0 x17_1).f3) x57_3).f0))).trans hx249_2; replace hx249_0 := (cell_far (p := ⟨gb248, 1, none⟩) (by first | (rw [add_block]; exact hn249_1) | (show (Addr.add _ _).block ≠ _; rw [add_block]; exact hn249_1) | exact hn249_1) (.int .i64 ((rd_T48 ((rd_T38 l0 x17_1).f3) x57_3).f1))).trans hx249_0; replace hx249_1 := (cell_far (p := ⟨gb248, 1, none⟩) (by first | (rw [add_block]; exact hn249_1) | (show (Addr.add _ _).block ≠ _; rw [add_block]; exact hn249_1) | exact hn249_1) (.int .i64 ((rd_T48 ((rd_T38 l0 x17_1).f3) x57_3).f1))).trans hx249_1; replace hx249_2 := (cell_far (p := ⟨gb248, 1, none⟩) (by first | (rw [add_block]; exact hn249_1) | (show (Addr.add _ _).block ≠ _; rw [add_block]; exact hn249_1) | exact hn249_1) (.int .i64 ((rd_T48 ((rd_T38 l0 x17_1).f3) x57_3).f1))).trans hx249_2; replace hx249_0 := (cell_far (p := ⟨gb248, 2, none⟩) (by first | (rw [add_block]; exact hn249_2) | (show (Addr.add _ _).block ≠ _; rw [add_block]; exact hn249_2) | exact hn249_2) (.int .i64 ((rd_T48 ((rd_T38 l0 x17_1).f3) x57_3).f2))).trans hx249_0; replace hx249_1 := (cell_far (p := ⟨gb248, 2, none⟩) (by first | (rw [add_block]; exact hn249_2) | (show (Addr.add _ _).block ≠ _; rw [add_block]; exact hn249_2) | exact hn249_2) (.int .i64 ((rd_T48 ((rd_T38 l0 x17_1).f3) x57_3).f2))).trans hx249_1; replace hx249_2 := (cell_far (p := ⟨gb248, 2, none⟩) (by first | (rw [add_block]; exact hn249_2) | (show (Addr.add _ _).block ≠ _; rw [add_block]; exact hn249_2) | exact hn249_2) (.int .i64 ((rd_T48 ((rd_T38 l0 x17_1).f3) x57_3).f2))).trans hx249_2; (try have hy249_0 := fun (n_ : Nat) => (show (((((w43.drewN n_).setCell ⟨gb248, 0, none⟩ (.bool ((rd_T48 ((rd_T38 l0 x17_1).f3) x57_3).f0))).setCell ⟨gb248, 1, none⟩ (.int .i64 ((rd_T48 ((rd_T38 l0 x17_1).f3) x57_3).f1))).setCell ⟨gb248, 2, none⟩ (.int .i64 ((rd_T48 ((rd_T38 l0 x17_1).f3) x57_3).f2)))).cell? _ = some _ from hx249_0)); (try have hy249_1 := fun (n_ : Nat) => (show (((((w43.drewN n_).setCell ⟨gb248, 0, none⟩ (.bool ((rd_T48 ((rd_T38 l0 x17_1).f3) x57_3).f0))).setCell ⟨gb248, 1, none⟩ (.int .i64 ((rd_T48 ((rd_T38 l0 x17_1).f3) x57_3).f1))).setCell ⟨gb248, 2, none⟩ (.int .i64 ((rd_T48 ((rd_T38 l0 x17_1).f3) x57_3).f2)))).cell? _ = some _ from hx249_1)); (try have hy249_2 := fun (n_ : Nat) => (show (((((w43.drewN n_).setCell ⟨gb248, 0, none⟩ (.bool ((rd_T48 ((rd_T38 l0 x17_1).f3) x57_3).f0))).setCell ⟨gb248, 1, none⟩ (.int .i64 ((rd_T48 ((rd_T38 l0 x17_1).f3) x57_3).f1))).setCell ⟨gb248, 2, none⟩ (.int .i64 ((rd_T48 ((rd_T38 l0 x17_1).f3) x57_3).f2)))).cell? _ = some _ from hx249_2)); clear hn249_0; clear hn249_1; clear hn249_2; replace p249 := eq_true p249; replace q249 := eq_true q249)))
                                    go_roundg k3
                                    case measure => have := HK1.out; have := HJ7.out; have := HK3.out; omega
                                    case rel => exact ⟨(wrap64 (x57_3 + 1)), (by first | rfl | (simp; done) | (simp [*]; done)), H', ⟨by have := HK1.out; have := HJ7.out; have := HK3.out; omega⟩, ⟨by (with_reducible repeat (first | refine blk_drewN ?_ _ | refine blk_drew ?_ | refine blk_alloc ?_ _)); refine blk_far ?_ NB244_248.out _; (with_reducible repeat (first | refine blk_drewN ?_ _ | refine blk_drew ?_ | refine blk_alloc ?_ _)); refine blk_far ?_ NB244_248.out _; (with_reducible repeat (first | refine blk_drewN ?_ _ | refine blk_drew ?_ | refine blk_alloc ?_ _)); refine blk_far ?_ NB244_248.out _; (with_reducible repeat (first | refine blk_drewN ?_ _ | refine blk_drew ?_ | refine blk_alloc ?_ _)); exact BK244.out⟩, ⟨by (with_reducible repeat (first | refine blk_drewN ?_ _ | refine blk_drew ?_ | refine blk_alloc ?_ _)); refine blk_far ?_ NB246_248.out _; (with_reducible repeat (first | refine blk_drewN ?_ _ | refine blk_drew ?_ | refine blk_alloc ?_ _)); refine blk_far ?_ NB246_248.out _; (with_reducible repeat (first | refine blk_drewN ?_ _ | refine blk_drew ?_ | refine blk_alloc ?_ _)); refine blk_far ?_ NB246_248.out _; (with_reducible repeat (first | refine blk_drewN ?_ _ | refine blk_drew ?_ | refine blk_alloc ?_ _)); exact BK246.out⟩, ⟨by repeat (first | (with_reducible first | exact HB.out | apply below_alloc | apply pw_below_drewN | apply below_drew1 | refine below_set ?_ GE244.out | refine below_set ?_ GE246.out | refine below_set ?_ GE248.out) | exact HB.out)⟩⟩
                                · rw [if_neg c35] at H
                                  exact absurd H (by simp)
                              · rw [if_neg c34] at H
                                exact absurd H (by simp)
                            · rw [if_neg c33] at H
                              exact absurd H (by simp)
                          · rw [if_neg c32] at H
                            have c32b0 : decide (x57_3 < (((rd_T38 l0 x17_1).f3).length : Int)) = false := decide_eq_false c32
                            clear c32
                            have H' := Aside0.mk H
                            clear H
                            go_wp2
                            repeat (go_quiet (fail); try go_wp2)
                            go_roundg k3
                            case measure => have := HK1.out; have := HJ7.out; have := HK3.out; omega
                            case rel => exact ⟨(wrap64 (x17_1 + 1)), (by first | rfl | (simp; done) | (simp [*]; done)), H', ⟨by have := HK1.out; have := HJ7.out; have := HK3.out; omega⟩, ⟨by repeat (first | (with_reducible first | exact HB.out | apply below_alloc | apply pw_below_drewN | apply below_drew1 | refine below_set ?_ GE244.out | refine below_set ?_ GE246.out) | exact HB.out)⟩⟩
              · rw [if_neg c7] at H
                exact absurd H (by simp)
            · rw [if_neg c6] at H
              exact absurd H (by simp)
          · rw [if_neg c5] at H
            exact absurd H (by simp)
        · rw [if_neg c4] at H
          have c4b0 : decide (x17_1 < (l0.length : Int)) = false := decide_eq_false c4
          clear c4
          obtain rfl := Option.some.inj H
          go_wp2
          repeat (go_quiet (fail); try go_wp2)
          go_ret
          exact ⟨by first | rfl | (simp [errW_none, errW_some] <;> rfl) | (simp [*, errW_none, errW_some] <;> rfl), by repeat (first | (with_reducible first | exact HB.out | apply below_alloc | apply pw_below_drewN | apply below_drew1) | exact HB.out)⟩
  · rw [if_neg c3] at H
    have c3b0 : ((l0.length : Int) == (l1.length : Int)) = false := beq_eq_false_iff_ne.mpr c3
    have c3b1 : ((l0.length : Int) != (l1.length : Int)) = true := bne_iff_ne.mpr c3
    have c3b2 : (l0.length == l1.length) = false := by first | simpa using c3 | (simp at c3 ⊢; omega)
    obtain rfl := Option.some.inj H
    go_enter Tryd.func9, Tryd.ntmps9
    go_wp2
    repeat (go_quiet (fail); try go_wp2)
    go_ret
    exact ⟨by first | rfl | (simp [errW_none, errW_some] <;> rfl) | (simp [*, errW_none, errW_some] <;> rfl), by repeat (first | (with_reducible first | exact HB.out | apply below_alloc | apply pw_below_drewN | apply below_drew1) | exact HB.out)⟩
end Go.Proofs.YtanofkgnjmegdaaDoor.Q
end
section
namespace Go.Proofs.YtanofkgnjmegdaaDoor.Script
open Go Go.Lib Go.RowKit Go.Proofs.YtanofkgnjmegdaaDoor Go.Proofs.YtanofkgnjmegdaaDoor.Hand Go.Proofs.YtanofkgnjmegdaaDoor.Plain Go.Proofs.YtanofkgnjmegdaaDoor.Hist Go.Proofs.YtanofkgnjmegdaaDoor.Row3 Go.Proofs.YtanofkgnjmegdaaDoorW.PrintWords
open Go.Proofs.YtanofkgnjmegdaaDoor.K (S38 S48 rd_T38 rd_T48)
theorem mkB_size (l : List UInt8) : (mkB l).size = l.length := ba_size l
theorem mkB_append (a b : List UInt8) : mkB a ++ mkB b = mkB (a ++ b) := ba_append a b
theorem right_wf {o : O3} (h : rightB o.w o.k o.v = true) : (0 ≤ o.k ∧ o.k ≤ 63) ∧ In31 o.v := by
  unfold rightB at h
  rw [decide_eq_true_iff] at h
  exact ⟨⟨h.1, by omega⟩, ⟨h.2.2.1, h.2.2.2.1⟩⟩
theorem textO_f {o : O3} (h : rightB o.w o.k o.v = true) : Q.op_Text.f o.w o.k o.v = some (mkB (lineO o)) := by
  obtain ⟨h1, h2⟩ := right_wf h
  obtain ⟨h2, h3⟩ := h2
  have hin : inI64 [o.k, o.v] = true := by unfold inI64; simp; omega
  have hj : ∀ c : UInt8, token_Join.f ⟨#[c]⟩ [o.k, o.v] = some (mkB (c :: tailL [o.k, o.v])) := by
    intro c
    unfold token_Join.f
    rw [if_pos ⟨by simp [ByteArray.size], hin⟩]
    rfl
  unfold Q.op_Text.f lineO opText
  cases o.w with
  | true => rw [if_pos rfl, hj]; rfl
  | false => rw [if_neg (by simp), hj]; rfl
theorem textL_cons (l : List UInt8) (ls : List (List UInt8)) : textL (l :: ls) = l ++ 10 :: textL ls := by simp [textL]
theorem textL_append (a b : List (List UInt8)) : textL (a ++ b) = textL a ++ textL b := by simp [textL]
theorem txn_l0 (ops : List O3) (hr : ∀ o ∈ ops, rightB o.w o.k o.v = true) (hn : ops.length ≤ 4611686018427387904) : ∀ (d j : Nat) (acc : List UInt8), j + d = ops.length → acc.length + (textL ((ops.drop j).map lineO)).length ≤ 4611686018427387904 →
    Ev (fun k => Q.txn_Text.l0 k (mkB acc) (ops.map ofO) (ops.length : Int) (j : Int)) (mkB (acc ++ textL ((ops.drop j).map lineO))) := by
  intro d
  induction d with
  | zero =>
    intro j acc hj hb
    refine Ev.step (f := fun _ => some (mkB acc)) (fun k => by rw [Q.txn_Text.l0]; rw [if_neg (by omega)]) ?_
    rw [List.drop_of_length_le (by omega)]
    simp only [List.map_nil, textL, List.flatMap_nil, List.append_nil]
    exact Ev.now _
  | succ d ih =>
    intro j acc hj hb
    have hlt : j < ops.length := by omega
    have hd : ops.drop j = ops[j] :: ops.drop (j + 1) := List.drop_eq_getElem_cons hlt
    rw [hd, List.map_cons, textL_cons] at hb ⊢
    have hr1 := hr ops[j] (List.getElem_mem hlt)
    simp only [List.length_append, List.length_cons] at hb
    refine Ev.step (f := fun k => Q.txn_Text.l0 k (mkB (acc ++ (lineO ops[j] ++ [10]))) (ops.map ofO) (ops.length : Int) ((j + 1 : Nat) : Int)) (fun k => ?_) ?_
    · rw [Q.txn_Text.l0]
      rw [if_pos (by omega), if_pos (by omega), if_pos (by rw [List.length_map]; omega), rdO_at ops j hlt, Hist.wrap_nat (x := j) (by omega)]
      show (Q.op_Text.f ops[j].w ops[j].k ops[j].v).bind _ = _
      rw [textO_f hr1, Option.bind_some, if_pos (by rw [mkB_size]; omega)]
      have e : mkB (lineO ops[j]) ++ (⟨#[10]⟩ : ByteArray) = mkB (lineO ops[j] ++ [10]) := mkB_append _ [10]
      rw [e, if_pos (by rw [mkB_size, mkB_size]; simp; omega), mkB_append]
    · have := ih (j + 1) (acc ++ (lineO ops[j] ++ [10])) (by omega) (by simp only [List.length_append, List.length_cons, List.length_nil]; omega)
      simp only [List.append_assoc, List.singleton_append] at this ⊢
      exact this
theorem txn_f (t : T4) (hn : NumT t) (hl : t.ops.length ≤ 4611686018427387904) (hb : (textL (linesOfT t)).length ≤ 4611686018427387904) : Ev (fun k => Q.txn_Text.f k t.s t.b t.c (t.ops.map ofO)) (mkB (textL (linesOfT t))) := by
  obtain ⟨⟨h1, h1'⟩, ⟨h2, h2'⟩, ⟨h3, h3'⟩, h4⟩ := hn
  have hin : inI64 [t.s, t.b, t.c] = true := by unfold inI64; simp; omega
  have hj : token_Join.f ⟨#[116, 120, 110]⟩ [t.s, t.b, t.c] = some (mkB (headL t.s t.b t.c)) := by
    unfold token_Join.f
    rw [if_pos ⟨by show 3 + 21 * 3 ≤ _; omega, hin⟩]
    rfl
  unfold linesOfT at hb ⊢
  rw [textL_cons] at hb ⊢
  simp only [List.length_append, List.length_cons] at hb
  refine Ev.congr (f := fun k => Q.txn_Text.l0 k (mkB (headL t.s t.b t.c ++ [10])) (t.ops.map ofO) (t.ops.length : Int) ((0 : Nat) : Int)) (fun k => ?_) ?_
  · unfold Q.txn_Text.f
    rw [hj, Option.bind_some, if_pos (by rw [mkB_size]; omega)]
    have e : mkB (headL t.s t.b t.c) ++ (⟨#[10]⟩ : ByteArray) = mkB (headL t.s t.b t.c ++ [10]) := mkB_append _ [10]
    rw [e, List.length_map]
    rfl
  · have := txn_l0 t.ops h4 hl t.ops.length 0 (headL t.s t.b t.c ++ [10]) (by omega) (by simp; omega)
    simp only [List.drop_zero, List.append_assoc, List.singleton_append] at this
    exact this
theorem le_text {t : T4} {h : List T4} (ht : t ∈ h) : (textL (linesOfT t)).length ≤ (textL (linesT h)).length := by
  induction h with
  | nil => cases ht
  | cons u h ih =>
    have e : linesT (u :: h) = linesOfT u ++ linesT h := by simp [linesT]
    rw [e, textL_append, List.length_append]
    rcases List.mem_cons.1 ht with rfl | ht
    · omega
    · have := ih ht; omega
theorem lines_le : ∀ ls : List (List UInt8), ls.length ≤ (textL ls).length
  | [] => Nat.zero_le _
  | l :: ls => by
    rw [textL_cons]
    have := lines_le ls
    simp
    omega
theorem print_l0 (h : List T4) (hn : ∀ t ∈ h, NumT t) (hb : (textL (linesT h)).length ≤ 2000000000) : ∀ (d j : Nat) (acc : List UInt8), j + d = h.length → acc.length + (textL (linesT (h.drop j))).length ≤ 2000000000 →
    Ev (fun k => Q.script_Print.l0 k (mkB acc) (h.map ofT) (h.length : Int) (j : Int)) (mkB (acc ++ textL (linesT (h.drop j)))) := by
  have hlen : h.length ≤ 2000000000 := by
    have h1 := linesT_length h
    have h2 := lines_le (linesT h)
    omega
  intro d
  induction d with
  | zero =>
    intro j acc hj hc
    refine Ev.step (f := fun _ => some (mkB acc)) (fun k => by rw [Q.script_Print.l0]; rw [if_neg (by omega)]) ?_
    rw [List.drop_of_length_le (by omega)]
    simp only [linesT, textL, List.flatMap_nil, List.append_nil]
    exact Ev.now _
  | succ d ih =>
    intro j acc hj hc
    have hlt : j < h.length := by omega
    have hd : h.drop j = h[j] :: h.drop (j + 1) := List.drop_eq_getElem_cons hlt
    have e : linesT (h[j] :: h.drop (j + 1)) = linesOfT h[j] ++ linesT (h.drop (j + 1)) := rfl
    rw [hd, e, textL_append] at hc ⊢
    rw [List.length_append] at hc
    have hm := List.getElem_mem hlt
    have hle := le_text hm
    have hops : h[j].ops.length ≤ 4611686018427387904 := by
      have h1 := lines_le (linesOfT h[j])
      have h2 : h[j].ops.length ≤ (linesOfT h[j]).length := by simp [linesOfT]
      omega
    refine Ev.step (f := fun k => (Q.txn_Text.f k h[j].s h[j].b h[j].c (h[j].ops.map ofO)).bind fun t => if (mkB acc).size + t.size ≤ 9223372036854775807 then Q.script_Print.l0 k (mkB acc ++ t) (h.map ofT) (h.length : Int) ((j + 1 : Nat) : Int) else none) (fun k => ?_) ?_
    · rw [Q.script_Print.l0]
      rw [if_pos (by omega), if_pos (by omega), if_pos (by rw [List.length_map]; omega), rdT_at h j hlt, Hist.wrap_nat (x := j) (by omega)]
      rfl
    · refine Ev.bind (txn_f h[j] (hn _ hm) hops (by omega)) ?_
      refine Ev.congr (f := fun k => Q.script_Print.l0 k (mkB (acc ++ textL (linesOfT h[j]))) (h.map ofT) (h.length : Int) ((j + 1 : Nat) : Int)) (fun k => ?_) ?_
      · rw [if_pos (by rw [mkB_size, mkB_size]; omega), mkB_append]
      · have := ih (j + 1) (acc ++ textL (linesOfT h[j])) (by omega) (by rw [List.length_append]; omega)
        simp only [List.append_assoc] at this
        exact this
theorem print_f (h : List T4) (hn : ∀ t ∈ h, NumT t) (hb : (textL (linesT h)).length ≤ 2000000000) : Ev (fun k => Q.script_Print.f k (h.map ofT)) (mkB (textL (linesT h))) := by
  unfold Q.script_Print.f
  rw [List.length_map]
  exact print_l0 h hn hb h.length 0 [] (by omega) (by simpa using hb)
theorem nlines_cut (a : ByteArray) : nlines a = (cutL 10 a.data.toList).map mkB := by
  rw [← splitB_cutL 10 a]
  exact (map_mkB _).symm
def linesP (a : ByteArray) : List ByteArray := (nlines a).dropLast
def parseF (a : ByteArray) : List T4 × Int × Int :=
  let r := linesF [] 0 (linesP a)
  if 0 < r.2 then ([], r.2, 1) else if endedB a = true then (if checkF r.1 = 0 then (r.1, 0, 0) else ([], 0, checkF r.1)) else ([], ((linesP a).length : Int) + 1, 1)
theorem linesP_le (a : ByteArray) : (linesP a).length ≤ a.size ∧ ∀ s ∈ linesP a, s.size ≤ a.size := by
  unfold linesP
  rw [nlines_cut]
  obtain ⟨h1, h2⟩ := cutL_len 10 a.data.toList
  have hs : a.data.toList.length = a.size := by simp
  refine ⟨by simp; omega, fun s hm => ?_⟩
  have hm := List.dropLast_subset _ hm
  obtain ⟨p, hp, rfl⟩ := List.mem_map.1 hm
  rw [mkB_size]
  have := h2 p hp
  omega
theorem lines_small (a : ByteArray) : (linesF [] 0 (linesP a)).1.length + countT (linesF [] 0 (linesP a)).1 ≤ a.size := by
  have hl := (linesP_le a).1
  rcases linesF_lines (linesP a) [] 0 (fun t ht => by cases ht) with ⟨_, h2, _⟩ | ⟨_, _, h3⟩
  · have := linesT_length (linesF [] 0 (linesP a)).1
    rw [h2] at this
    simp [linesT] at this
    omega
  · rw [h3]
    simp [countT]
theorem smallT {h : List T4} (h1 : h.length ≤ 4611686018427387904) (h2 : countT h ≤ 4611686018427387904) : Give.Small (h.map ofT) = true := by
  unfold Give.Small
  rw [toT_ofT_map, List.length_map]
  simp [h1, h2]
theorem parse_f' (a : ByteArray) (hs : a.size ≤ 1048576) (k : Nat) : Q.script_Parse.f k a = some ((parseF a).1.map ofT, (parseF a).2.1, (parseF a).2.2) := by
  obtain ⟨h1, h2⟩ := linesP_le a
  have h3 := lines_small a
  have e1 : token_Lines.f a = some (linesP a, endedB a) := by
    unfold token_Lines.f
    rw [if_pos (by omega)]
    rfl
  have e2 : Give.script_Lines.f k (linesP a) = some ((linesF [] 0 (linesP a)).1.map ofT, (linesF [] 0 (linesP a)).2) := by
    unfold Give.script_Lines.f
    rw [if_pos (by unfold Give.Fit; simp only [Bool.and_eq_true, decide_eq_true_eq, List.all_eq_true]; exact ⟨by omega, fun s hm => by have := h2 s hm; omega⟩)]
  have e3 : Give.history_Check.f k ((linesF [] 0 (linesP a)).1.map ofT) = some (checkF (linesF [] 0 (linesP a)).1) := by
    unfold Give.history_Check.f
    rw [if_pos (smallT (by omega) (by omega)), toT_ofT_map]
  unfold Q.script_Parse.f
  rw [if_neg (by omega), e1, Option.bind_some, e2, Option.bind_some]
  unfold parseF
  dsimp only
  by_cases c1 : 0 < (linesF [] 0 (linesP a)).2
  · rw [if_pos (show _ > (0 : Int) from c1), if_pos c1]
    rfl
  · rw [if_neg (show ¬ _ > (0 : Int) from c1), if_neg c1]
    by_cases c2 : endedB a = true
    · rw [if_pos c2, if_pos c2, e3, Option.bind_some]
      by_cases c3 : checkF (linesF [] 0 (linesP a)).1 = 0
      · rw [if_pos c3, if_pos c3]
      · rw [if_neg c3, if_neg c3]
        rfl
    · rw [if_neg c2, if_neg c2, Plain.wrap_id (by omega) (by omega)]
      rfl
theorem parse_text (h : List T4) (hc : checkF h = 0) (hn : ∀ t ∈ h, NumT t) : parseF (mkB (textL (linesT h))) = (h, 0, 0) := by
  have hcut : cutL 10 (mkB (textL (linesT h))).data.toList = linesT h ++ [[]] := cutL_lines 10 (linesT h) (line_free h)
  have hP : linesP (mkB (textL (linesT h))) = (linesT h).map mkB := by
    unfold linesP
    rw [nlines_cut, hcut]
    simp
  have hE : endedB (mkB (textL (linesT h))) = true := by
    unfold endedB
    rw [nlines_cut, hcut]
    simp only [List.map_append, List.map_cons, List.map_nil, List.getLastD_concat]
    rw [toList_data]
    rfl
  have hL : linesF [] 0 (linesP (mkB (textL (linesT h)))) = (h, 0) := by
    rw [hP]
    have := linesF_back [] h [] 0 hn
    rw [List.append_nil, List.nil_append] at this
    rw [this]
    rfl
  unfold parseF
  rw [hL, hE]
  dsimp only
  rw [if_neg (by omega), if_pos rfl, if_pos hc]
end Go.Proofs.YtanofkgnjmegdaaDoor.Script
end
section
namespace Go.Proofs.YtanofkgnjmegdaaDoor.Q
open Go.Proofs.YtanofkgnjmegdaaDoor Go.Proofs.YtanofkgnjmegdaaDoor.Hand Go.Proofs.YtanofkgnjmegdaaDoor.Give Go.Proofs.YtanofkgnjmegdaaDoor.K
open Go.RowKit Go.Proofs.YtanofkgnjmegdaaDoorW.PrintWords Go.Proofs.YtanofkgnjmegdaaDoorW.PrintLast Go.Proofs.YtanofkgnjmegdaaDoorW.PrintMore
attribute [local go_sem] max2_int min2_int max_two min_two max_three min_three max_four min_four   -- for this text's walks alone
set_option linter.unusedVariables false
set_option linter.unusedSimpArgs false
def burgagelaw07_ScriptParses.f (k : Nat) (a0 : ByteArray) : Option (Bool) := (burgagelaw07_speaks.f k).bind fun t250 => (if t250 = true then (if (a0.size : Int) > 3000 then (some true) else ((script_Parse.f k a0).bind fun bt251 => ((burgageref07_Parse.f k a0).bind fun bt256 => (if bt251.2.1 = bt256.2.1 then (if bt251.2.2 = bt256.2.2 then ((history_Same.f k bt251.1 bt256.1).bind fun t261 => (if t261 = true then (if bt251.2.2 = 0 then ((script_Print.f k bt251.1).bind fun t262 => (some (t262.toList == a0.toList))) else (some true)) else (some false))) else (some false)) else (some false))))) else (some false))
theorem burgagelaw07_ScriptParses.mono : ∀ a0 k, LeO (burgagelaw07_ScriptParses.f k a0) (burgagelaw07_ScriptParses.f (k + 1) a0) := by
  intro a0 k
  unfold burgagelaw07_ScriptParses.f
  repeat' first
      | (with_reducible exact burgagelaw07_speaks.mono _)
      | (with_reducible exact burgageref07_Parse.mono _ _)
      | (with_reducible exact history_Same.mono _ _ _)
      | (with_reducible exact script_Parse.mono _ _)
      | (with_reducible exact script_Print.mono _ _)
      | (with_reducible exact LeO.refl _)
      | (with_reducible exact LeO.none _)
      | (with_reducible refine LeO.ite ?_ ?_)
      | (with_reducible refine LeO.bind ?_ (fun _ => ?_))
      | exact burgagelaw07_speaks.mono _
      | exact burgageref07_Parse.mono _ _
      | exact history_Same.mono _ _ _
      | exact script_Parse.mono _ _
      | exact script_Print.mono _ _
      | exact LeO.none _
      | refine LeO.ite ?_ ?_
      | refine LeO.bind ?_ (fun _ => ?_)
def burgagelaw06_Big.l0 : Nat → Int → List (S38) → Int → Int → Option (Int)
  | 0, _, _, _, _ => none
  | k + 1, x3, x9, x10, x11 => if x11 < x10 then (if 0 ≤ x11 then (if x11 < (x9.length : Int) then (if (wrap64 (x3 + (((rd_T38 x9 x11).f3).length : Int))) > 1200 then (some 1) else (burgagelaw06_Big.l0 k (wrap64 (x3 + (((rd_T38 x9 x11).f3).length : Int))) x9 x10 (wrap64 (x11 + 1)))) else (none)) else (none)) else (some 0)
def burgagelaw06_Big.f (k : Nat) (l0 : List (S38)) : Option (Int) := if (l0.length : Int) > 100 then (some 1) else (burgagelaw06_Big.l0 k 0 l0 (l0.length : Int) 0)
theorem burgagelaw06_Big.mono_l : ∀ k, (∀ y0 y1 y2 y3, LeO (burgagelaw06_Big.l0 k y0 y1 y2 y3) (burgagelaw06_Big.l0 (k + 1) y0 y1 y2 y3))
  | 0 => fun _ _ _ _ r h => by simp [burgagelaw06_Big.l0] at h
  | k + 1 => by
    have ih0 := burgagelaw06_Big.mono_l k
    · intro y0 y1 y2 y3
      unfold burgagelaw06_Big.l0
      repeat' first
      | (with_reducible exact ih0 _ _ _ _)
      | (with_reducible exact LeO.refl _)
      | (with_reducible exact LeO.none _)
      | (with_reducible refine LeO.ite ?_ ?_)
      | (with_reducible refine LeO.bind ?_ (fun _ => ?_))
      | exact ih0 _ _ _ _
      | exact LeO.none _
      | refine LeO.ite ?_ ?_
      | refine LeO.bind ?_ (fun _ => ?_)
theorem burgagelaw06_Big.mono : ∀ a0 k, LeO (burgagelaw06_Big.f k a0) (burgagelaw06_Big.f (k + 1) a0) := by
  intro a0 k
  have ih0 := burgagelaw06_Big.mono_l k
  unfold burgagelaw06_Big.f
  repeat' first
      | (with_reducible exact ih0 _ _ _ _)
      | (with_reducible exact LeO.refl _)
      | (with_reducible exact LeO.none _)
      | (with_reducible refine LeO.ite ?_ ?_)
      | (with_reducible refine LeO.bind ?_ (fun _ => ?_))
      | exact ih0 _ _ _ _
      | exact LeO.none _
      | refine LeO.ite ?_ ?_
      | refine LeO.bind ?_ (fun _ => ?_)
set_option maxHeartbeats 8000000 in
set_option maxRecDepth 100000 in
theorem burgagelaw06_Big.calls (k : Nat) (A0 : Option Addr) (c0 : Nat) (l0 : List (S38)) (r : Int) (w : World) (hr0 : Kd.C k38 w A0 l0.length l0) (hc0 : l0.length ≤ c0) (h : burgagelaw06_Big.f k l0 = some r) (HY : Laid w) :
    Calls Tryd.prog 11 #[.slice A0 l0.length c0] w fun e w' => e = .returned (.int .i64 r) ∧ Below w.heap.size w w' := by
  have hu38 := Tryd.underlying38
  have HR0 := Aside0.mk hr0
  have HC0 := Aside0.mk hc0
  clear hr0 hc0
  have HB := Aside0.mk (Below.refl w.heap.size w)
  have H : (if (l0.length : Int) > 100 then (some 1) else (burgagelaw06_Big.l0 k 0 l0 (l0.length : Int) 0)) = some r := h
  clear h
  by_cases c2 : (l0.length : Int) > 100
  · rw [if_pos c2] at H
    have c2b0 : decide (100 < (l0.length : Int)) = true := decide_eq_true c2
    have c2b1 : decide (100 < l0.length) = true := decide_eq_true (by omega)
    clear c2
    obtain rfl := Option.some.inj H
    go_enter Tryd.func11, Tryd.ntmps11
    go_wp2
    go_ret
    exact ⟨by first | rfl | (simp [errW_none, errW_some] <;> rfl) | (simp [*, errW_none, errW_some] <;> rfl), by repeat (first | (with_reducible first | exact HB.out | apply below_alloc | apply pw_below_drewN | apply below_drew1) | exact HB.out)⟩
  · rw [if_neg c2] at H
    have c2b0 : decide (100 < (l0.length : Int)) = false := decide_eq_false c2
    have c2b1 : decide (100 < l0.length) = false := decide_eq_false (by omega)
    clear c2
    have H' := Aside0.mk H
    clear H
    go_enter Tryd.func11, Tryd.ntmps11
    go_wp2
    go_loopg [3, 11] k (fun kq v3 v11 w' => ∃ (x3_1 : Int) (x11_1 : Int), v3 = .int .i64 x3_1 ∧ v11 = .int .i64 x11_1 ∧ Aside0 (burgagelaw06_Big.l0 kq x3_1 l0 (l0.length : Int) x11_1 = some r) ∧ Aside0 (kq ≤ k) ∧ Aside0 (Below w.heap.size w w'))
    case atStart => exact ⟨(0), (0), (by first | rfl | (simp; done) | (simp [*]; done)), (by first | rfl | (simp; done) | (simp [*]; done)), H', ⟨Nat.le_refl _⟩, ⟨by repeat (first | (with_reducible first | exact HB.out | apply below_alloc | apply pw_below_drewN | apply below_drew1) | exact HB.out)⟩⟩
    case round =>
      clear H'
      try clear c1
      try clear c2
      try clear c2b0
      try clear c2b1
      try clear p2
      obtain ⟨x3_1, x11_1, rfl, rfl, HA, HK1, HB⟩ := hrel
      cases gk with
      | zero => exact absurd HA.out (by simp [burgagelaw06_Big.l0])
      | succ k1 =>
        have H := HA.out
        clear HA
        simp only [burgagelaw06_Big.l0] at H
        by_cases c3 : x11_1 < (l0.length : Int)
        · rw [if_pos c3] at H
          have c3b0 : decide (x11_1 < (l0.length : Int)) = true := decide_eq_true c3
          clear c3
          by_cases c4 : 0 ≤ x11_1
          · rw [if_pos c4] at H
            have c4b0 : decide (0 ≤ x11_1) = true := decide_eq_true c4
            clear c4
            by_cases c5 : x11_1 < (l0.length : Int)
            · rw [if_pos c5] at H
              have c5b0 : decide (x11_1 < (l0.length : Int)) = true := decide_eq_true c5
              clear c5
              by_cases c6 : (wrap64 (x3_1 + (((rd_T38 l0 x11_1).f3).length : Int))) > 1200
              · rw [if_pos c6] at H
                have c6b0 : decide (1200 < (wrap64 (x3_1 + (((rd_T38 l0 x11_1).f3).length : Int)))) = true := decide_eq_true c6
                clear c6
                obtain rfl := Option.some.inj H
                have p263 : 0 ≤ (x11_1 : Int) := of_decide_eq_true (by first | (with_reducible assumption) | assumption)
                have q263 : x11_1 < (l0.length : Int) := of_decide_eq_true (by first | (with_reducible assumption) | assumption)
                obtain ⟨ad263, A263_3, c263_3, e263, hx263_0, hx263_1, hx263_2, hx263_3, hl263_3, hi263_3⟩ := at_T38 HR0.out x11_1 p263 q263
                cases e263
                replace hx263_0 := (HB.out.cell (World.block_lt_of_cell? w _ hx263_0)).trans hx263_0
                replace hx263_1 := (HB.out.cell (World.block_lt_of_cell? w _ hx263_1)).trans hx263_1
                replace hx263_2 := (HB.out.cell (World.block_lt_of_cell? w _ hx263_2)).trans hx263_2
                replace hx263_3 := (HB.out.cell (World.block_lt_of_cell? w _ hx263_3)).trans hx263_3
                have HR263_3 := Aside0.mk hi263_3
                have HC263_3 := Aside0.mk hl263_3
                clear hi263_3 hl263_3
                replace p263 := eq_true p263
                replace q263 := eq_true q263
                go_wp2_with (first | ((with_reducible refine gate_dst (N := 5) rfl ?_); refine box_event ?hg (N := 5) ?hd (cs := #[.int .i64 0, .int .i64 0, .int .i64 0, .slice none 0 0]) (t := 38) ?hr ?_; (case hd => rfl); (case hg => rfl); (case hr => first | (go_simp; done) | (go_simp; rfl)); intro gb264 hg w7 hbox hb; have n0_ := Aside0.mk (below_step (by repeat (first | (with_reducible first | exact HB.out | apply below_alloc | apply pw_below_drewN | apply below_drew1) | exact HB.out)) hb); have n1_ := Aside0.mk (hbox); have n2_ := Aside0.mk ((by rw [hg]; exact (below_size (by repeat (first | (with_reducible first | exact HB.out | apply below_alloc | apply pw_below_drewN | apply below_drew1) | exact HB.out))) : w.heap.size ≤ gb264)); have n3_ := Aside0.mk ((by rw [hg]; exact (below_size (by repeat (first | (with_reducible first | exact HB.out | apply below_alloc | apply pw_below_drewN | apply below_drew1) | exact HB.out))) : w.heap.size ≤ gb264)); clear HB; have HB := n0_; have BK264 := n1_; have GW264 := n2_; have GE264 := n3_; clear n0_ n1_ n2_ n3_; clear hb hbox hg; have hcz8_0 : w7.cell? ⟨gb264, 0, none⟩ = some (.int .i64 0) := (blk_cell BK264.out 0).trans rfl; have hcz8_1 : w7.cell? ⟨gb264, 1, none⟩ = some (.int .i64 0) := (blk_cell BK264.out 1).trans rfl; have hcz8_2 : w7.cell? ⟨gb264, 2, none⟩ = some (.int .i64 0) := (blk_cell BK264.out 2).trans rfl; have hcz8_3 : w7.cell? ⟨gb264, 3, none⟩ = some (.slice none 0 0) := (blk_cell BK264.out 3).trans rfl; have hfz8_0 := blk_frozen BK264.out 0; have hfz8_1 := blk_frozen BK264.out 1; have hfz8_2 := blk_frozen BK264.out 2; have hfz8_3 := blk_frozen BK264.out 3))
                go_ret
                exact ⟨by first | rfl | (simp [errW_none, errW_some] <;> rfl) | (simp [*, errW_none, errW_some] <;> rfl), by repeat (first | (with_reducible first | exact HB.out | apply below_alloc | apply pw_below_drewN | apply below_drew1 | refine below_set ?_ GE264.out) | exact HB.out)⟩
              · rw [if_neg c6] at H
                have c6b0 : decide (1200 < (wrap64 (x3_1 + (((rd_T38 l0 x11_1).f3).length : Int)))) = false := decide_eq_false c6
                clear c6
                have H' := Aside0.mk H
                clear H
                have p263 : 0 ≤ (x11_1 : Int) := of_decide_eq_true (by first | (with_reducible assumption) | assumption)
                have q263 : x11_1 < (l0.length : Int) := of_decide_eq_true (by first | (with_reducible assumption) | assumption)
                obtain ⟨ad263, A263_3, c263_3, e263, hx263_0, hx263_1, hx263_2, hx263_3, hl263_3, hi263_3⟩ := at_T38 HR0.out x11_1 p263 q263
                cases e263
                replace hx263_0 := (HB.out.cell (World.block_lt_of_cell? w _ hx263_0)).trans hx263_0
                replace hx263_1 := (HB.out.cell (World.block_lt_of_cell? w _ hx263_1)).trans hx263_1
                replace hx263_2 := (HB.out.cell (World.block_lt_of_cell? w _ hx263_2)).trans hx263_2
                replace hx263_3 := (HB.out.cell (World.block_lt_of_cell? w _ hx263_3)).trans hx263_3
                have HR263_3 := Aside0.mk hi263_3
                have HC263_3 := Aside0.mk hl263_3
                clear hi263_3 hl263_3
                replace p263 := eq_true p263
                replace q263 := eq_true q263
                go_wp2_with (first | ((with_reducible refine gate_dst (N := 5) rfl ?_); refine box_event ?hg (N := 5) ?hd (cs := #[.int .i64 0, .int .i64 0, .int .i64 0, .slice none 0 0]) (t := 38) ?hr ?_; (case hd => rfl); (case hg => rfl); (case hr => first | (go_simp; done) | (go_simp; rfl)); intro gb264 hg w9 hbox hb; have n0_ := Aside0.mk (below_step (by repeat (first | (with_reducible first | exact HB.out | apply below_alloc | apply pw_below_drewN | apply below_drew1) | exact HB.out)) hb); have n1_ := Aside0.mk (hbox); have n2_ := Aside0.mk ((by rw [hg]; exact (below_size (by repeat (first | (with_reducible first | exact HB.out | apply below_alloc | apply pw_below_drewN | apply below_drew1) | exact HB.out))) : w.heap.size ≤ gb264)); have n3_ := Aside0.mk ((by rw [hg]; exact (below_size (by repeat (first | (with_reducible first | exact HB.out | apply below_alloc | apply pw_below_drewN | apply below_drew1) | exact HB.out))) : w.heap.size ≤ gb264)); clear HB; have HB := n0_; have BK264 := n1_; have GW264 := n2_; have GE264 := n3_; clear n0_ n1_ n2_ n3_; clear hb hbox hg; have hcz10_0 : w9.cell? ⟨gb264, 0, none⟩ = some (.int .i64 0) := (blk_cell BK264.out 0).trans rfl; have hcz10_1 : w9.cell? ⟨gb264, 1, none⟩ = some (.int .i64 0) := (blk_cell BK264.out 1).trans rfl; have hcz10_2 : w9.cell? ⟨gb264, 2, none⟩ = some (.int .i64 0) := (blk_cell BK264.out 2).trans rfl; have hcz10_3 : w9.cell? ⟨gb264, 3, none⟩ = some (.slice none 0 0) := (blk_cell BK264.out 3).trans rfl; have hfz10_0 := blk_frozen BK264.out 0; have hfz10_1 := blk_frozen BK264.out 1; have hfz10_2 := blk_frozen BK264.out 2; have hfz10_3 := blk_frozen BK264.out 3))
                go_roundg k1
                case measure => have := HK1.out; omega
                case rel => exact ⟨(wrap64 (x3_1 + (((rd_T38 l0 x11_1).f3).length : Int))), (wrap64 (x11_1 + 1)), (by first | rfl | (simp; done) | (simp [*]; done)), (by first | rfl | (simp; done) | (simp [*]; done)), H', ⟨by have := HK1.out; omega⟩, ⟨by repeat (first | (with_reducible first | exact HB.out | apply below_alloc | apply pw_below_drewN | apply below_drew1 | refine below_set ?_ GE264.out) | exact HB.out)⟩⟩
            · rw [if_neg c5] at H
              exact absurd H (by simp)
          · rw [if_neg c4] at H
            exact absurd H (by simp)
        · rw [if_neg c3] at H
          have c3b0 : decide (x11_1 < (l0.length : Int)) = false := decide_eq_false c3
          clear c3
          obtain rfl := Option.some.inj H
          go_wp2
          go_ret
          exact ⟨by first | rfl | (simp [errW_none, errW_some] <;> rfl) | (simp [*, errW_none, errW_some] <;> rfl), by repeat (first | (with_reducible first | exact HB.out | apply below_alloc | apply pw_below_drewN | apply below_drew1) | exact HB.out)⟩
def burgagelaw07_ScriptBack.j0 : Nat → List (S38) → Bool → Option (Bool)
  | 0, _, _ => none
  | k + 1, x0, x15 => if x15 = true then (some true) else ((script_Print.f k x0).bind fun t268 => ((script_Parse.f k t268).bind fun bt269 => (if bt269.2.2 = 0 then (if bt269.2.1 = 0 then ((history_Same.f k bt269.1 x0).bind fun t274 => (some t274)) else (some false)) else (some false))))
def burgagelaw07_ScriptBack.f (k : Nat) (l0 : List (S38)) : Option (Bool) := (burgagelaw07_speaks.f k).bind fun t265 => (if t265 = true then ((burgagelaw06_Big.f k l0).bind fun t266 => (if t266 = 1 then (burgagelaw07_ScriptBack.j0 k l0 true) else ((burgageref06_Check.f k l0).bind fun t267 => (burgagelaw07_ScriptBack.j0 k l0 (t267 != 0))))) else (some false))
theorem burgagelaw07_ScriptBack.mono_l : ∀ k, (∀ y0 y1, LeO (burgagelaw07_ScriptBack.j0 k y0 y1) (burgagelaw07_ScriptBack.j0 (k + 1) y0 y1))
  | 0 => fun _ _ r h => by simp [burgagelaw07_ScriptBack.j0] at h
  | k + 1 => by
    have ih0 := burgagelaw07_ScriptBack.mono_l k
    · intro y0 y1
      unfold burgagelaw07_ScriptBack.j0
      repeat' first
      | (with_reducible exact ih0 _ _)
      | (with_reducible exact burgagelaw06_Big.mono _ _)
      | (with_reducible exact burgagelaw07_speaks.mono _)
      | (with_reducible exact burgageref06_Check.mono _ _)
      | (with_reducible exact history_Same.mono _ _ _)
      | (with_reducible exact script_Parse.mono _ _)
      | (with_reducible exact script_Print.mono _ _)
      | (with_reducible exact LeO.refl _)
      | (with_reducible exact LeO.none _)
      | (with_reducible refine LeO.ite ?_ ?_)
      | (with_reducible refine LeO.bind ?_ (fun _ => ?_))
      | exact ih0 _ _
      | exact burgagelaw06_Big.mono _ _
      | exact burgagelaw07_speaks.mono _
      | exact burgageref06_Check.mono _ _
      | exact history_Same.mono _ _ _
      | exact script_Parse.mono _ _
      | exact script_Print.mono _ _
      | exact LeO.none _
      | refine LeO.ite ?_ ?_
      | refine LeO.bind ?_ (fun _ => ?_)
theorem burgagelaw07_ScriptBack.mono : ∀ a0 k, LeO (burgagelaw07_ScriptBack.f k a0) (burgagelaw07_ScriptBack.f (k + 1) a0) := by
  intro a0 k
  have ih0 := burgagelaw07_ScriptBack.mono_l k
  unfold burgagelaw07_ScriptBack.f
  repeat' first
      | (with_reducible exact ih0 _ _)
      | (with_reducible exact burgagelaw06_Big.mono _ _)
      | (with_reducible exact burgagelaw07_speaks.mono _)
      | (with_reducible exact burgageref06_Check.mono _ _)
      | (with_reducible exact history_Same.mono _ _ _)
      | (with_reducible exact script_Parse.mono _ _)
      | (with_reducible exact script_Print.mono _ _)
      | (with_reducible exact LeO.refl _)
      | (with_reducible exact LeO.none _)
      | (with_reducible refine LeO.ite ?_ ?_)
      | (with_reducible refine LeO.bind ?_ (fun _ => ?_))
      | exact ih0 _ _
      | exact burgagelaw06_Big.mono _ _
      | exact burgagelaw07_speaks.mono _
      | exact burgageref06_Check.mono _ _
      | exact history_Same.mono _ _ _
      | exact script_Parse.mono _ _
      | exact script_Print.mono _ _
      | exact LeO.none _
      | refine LeO.ite ?_ ?_
      | refine LeO.bind ?_ (fun _ => ?_)
set_option maxHeartbeats 8000000 in
set_option maxRecDepth 100000 in
theorem burgagelaw07_ScriptBack.calls (k : Nat) (A0 : Option Addr) (c0 : Nat) (l0 : List (S38)) (r : Bool) (w : World) (hr0 : Kd.C k38 w A0 l0.length l0) (hc0 : l0.length ≤ c0) (h : burgagelaw07_ScriptBack.f k l0 = some r) (HY : Laid w) :
    Calls Tryd.prog 4 #[.slice A0 l0.length c0] w fun e w' => e = .returned (.bool r) ∧ Below w.heap.size w w' := by
  have HR0 := Aside0.mk hr0
  have HC0 := Aside0.mk hc0
  clear hr0 hc0
  have HB := Aside0.mk (Below.refl w.heap.size w)
  have H : ((burgagelaw07_speaks.f k).bind fun t265 => (if t265 = true then ((burgagelaw06_Big.f k l0).bind fun t266 => (if t266 = 1 then (burgagelaw07_ScriptBack.j0 k l0 true) else ((burgageref06_Check.f k l0).bind fun t267 => (burgagelaw07_ScriptBack.j0 k l0 (t267 != 0))))) else (some false))) = some r := h
  clear h
  replace H := Option.bind_eq_some_iff.mp H
  obtain ⟨t265, A20, H⟩ := H
  replace H : (if t265 = true then ((burgagelaw06_Big.f k l0).bind fun t266 => (if t266 = 1 then (burgagelaw07_ScriptBack.j0 k l0 true) else ((burgageref06_Check.f k l0).bind fun t267 => (burgagelaw07_ScriptBack.j0 k l0 (t267 != 0))))) else (some false)) = some r := H
  have A2 := Aside0.mk A20
  clear A20
  by_cases c3 : t265 = true
  · subst c3
    have H1 : ((burgagelaw06_Big.f k l0).bind fun t266 => (if t266 = 1 then (burgagelaw07_ScriptBack.j0 k l0 true) else ((burgageref06_Check.f k l0).bind fun t267 => (burgagelaw07_ScriptBack.j0 k l0 (t267 != 0))))) = some r := by rw [if_pos rfl] at H; exact H
    clear H
    have H := H1
    clear H1
    have HC4 := Aside0.mk H
    clear H
    go_enter Tryd.func4, Tryd.ntmps4
    go_upto_region 3 with (first | ((with_reducible refine gate_callee (f := 6) rfl ?_); refine goesL_ (some 6) rfl rfl Tryd.func6 (by kernel_rfl) rfl #[] rfl (by (try simp only [List.map_toArray, List.map_cons, List.map_nil]); first | done | rfl | (simp only [List.length_drop, List.length_take]; rfl)) ?_; (with_reducible refine (burgagelaw07_speaks.calls k  true _ A2.out (Laid.below HY (by repeat (first | (with_reducible first | exact HB.out | apply below_alloc | apply pw_below_drewN | apply below_drew1) | exact HB.out)))).mono ?_); rintro e w5 ⟨rfl, hb⟩; refine ⟨_, rfl, ?_⟩; have n0_ := Aside0.mk (below_step (by repeat (first | (with_reducible first | exact HB.out | apply below_alloc | apply pw_below_drewN | apply below_drew1) | exact HB.out)) hb); clear HB; have HB := n0_; clear n0_; (try clear hb); (try clear hb2); (try clear hk); (try clear hi)))
    (try simp only [Act.put, List.setIfInBounds_toArray, List.set_cons_zero, List.set_cons_succ])
    go_cut [15] (fun v15 wc => ∃ (kq : Nat) (x15_3 : Bool), v15 = .bool x15_3 ∧ Aside0 (burgagelaw07_ScriptBack.j0 kq l0 x15_3 = some r) ∧ Aside0 (kq ≤ k) ∧ Aside0 (Below w.heap.size w wc))
    case first =>
      have H := HC4.out
      clear HC4
      replace H := Option.bind_eq_some_iff.mp H
      obtain ⟨t266, A60, H⟩ := H
      replace H : (if t266 = 1 then (burgagelaw07_ScriptBack.j0 k l0 true) else ((burgageref06_Check.f k l0).bind fun t267 => (burgagelaw07_ScriptBack.j0 k l0 (t267 != 0)))) = some r := H
      have A6 := Aside0.mk A60
      clear A60
      by_cases c7 : t266 = 1
      · rw [if_pos c7] at H
        have c7b0 : (t266 == 1) = true := beq_iff_eq.mpr c7
        have c7b1 : (t266 != 1) = false := bne_eq_false_iff_eq.mpr c7
        clear c7
        (first | rw [c7b0] | (simp only [i64_w, i32_w]; rw [c7b0]) | skip)
        have H' := Aside0.mk H
        clear H
        go_wp2_with (first | ((with_reducible refine gate_callee (f := 11) rfl ?_); refine goesL_ (some 9) rfl rfl Tryd.func11 (by kernel_rfl) rfl #[.slice A0 l0.length c0] rfl (by (try simp only [List.map_toArray, List.map_cons, List.map_nil]); first | done | rfl | (simp only [List.length_drop, List.length_take]; rfl)) ?_; (with_reducible refine (burgagelaw06_Big.calls k _ _ l0 t266 _ ?side1 ?side2 A6.out (Laid.below HY (by repeat (first | (with_reducible first | exact HB.out | apply below_alloc | apply pw_below_drewN | apply below_drew1) | exact HB.out)))).mono ?_); (case side1 => repeat (first | exact (Kd.C_below HR0.out HB.out) | (with_reducible refine Kd.C_alloc ?_ _) | (with_reducible refine Kd.C_drewN ?_ _) | (with_reducible refine Kd.C_drew ?_))); (case side2 => exact HC0.out); rintro e w8 ⟨rfl, hb⟩; refine ⟨_, rfl, ?_⟩; have n0_ := Aside0.mk (below_step (by repeat (first | (with_reducible first | exact HB.out | apply below_alloc | apply pw_below_drewN | apply below_drew1) | exact HB.out)) hb); clear HB; have HB := n0_; clear n0_; (try clear hb); (try clear hb2); (try clear hk); (try clear hi)))
        go_meet
        case rel => exact ⟨_, (true), (by first | rfl | (simp; done) | (simp [*]; done)), H', ⟨by first | omega | exact Nat.le_refl _⟩, ⟨by repeat (first | (with_reducible first | exact HB.out | apply below_alloc | apply pw_below_drewN | apply below_drew1) | exact HB.out)⟩⟩
      · rw [if_neg c7] at H
        have c7b0 : (t266 == 1) = false := beq_eq_false_iff_ne.mpr c7
        have c7b1 : (t266 != 1) = true := bne_iff_ne.mpr c7
        (first | rw [c7b0] | (simp only [i64_w, i32_w]; rw [c7b0]) | skip)
        replace H := Option.bind_eq_some_iff.mp H
        obtain ⟨t267, A90, H⟩ := H
        replace H : (burgagelaw07_ScriptBack.j0 k l0 (t267 != 0)) = some r := H
        have A9 := Aside0.mk A90
        clear A90
        have H' := Aside0.mk H
        clear H
        go_wp2_with (first | ((with_reducible refine gate_callee (f := 11) rfl ?_); refine goesL_ (some 9) rfl rfl Tryd.func11 (by kernel_rfl) rfl #[.slice A0 l0.length c0] rfl (by (try simp only [List.map_toArray, List.map_cons, List.map_nil]); first | done | rfl | (simp only [List.length_drop, List.length_take]; rfl)) ?_; (with_reducible refine (burgagelaw06_Big.calls k _ _ l0 t266 _ ?side1 ?side2 A6.out (Laid.below HY (by repeat (first | (with_reducible first | exact HB.out | apply below_alloc | apply pw_below_drewN | apply below_drew1) | exact HB.out)))).mono ?_); (case side1 => repeat (first | exact (Kd.C_below HR0.out HB.out) | (with_reducible refine Kd.C_alloc ?_ _) | (with_reducible refine Kd.C_drewN ?_ _) | (with_reducible refine Kd.C_drew ?_))); (case side2 => exact HC0.out); rintro e w10 ⟨rfl, hb⟩; refine ⟨_, rfl, ?_⟩; have n0_ := Aside0.mk (below_step (by repeat (first | (with_reducible first | exact HB.out | apply below_alloc | apply pw_below_drewN | apply below_drew1) | exact HB.out)) hb); clear HB; have HB := n0_; clear n0_; (try clear hb); (try clear hb2); (try clear hk); (try clear hi)) | (go_at_call 12; (with_reducible refine (burgageref06_Check.calls k _ _ l0 t267 _ ?side1 ?side2 A9.out (Laid.below HY (by repeat (first | (with_reducible first | exact HB.out | apply below_alloc | apply pw_below_drewN | apply below_drew1) | exact HB.out)))).mono ?_); (case side1 => repeat (first | exact (Kd.C_below HR0.out HB.out) | (with_reducible refine Kd.C_alloc ?_ _) | (with_reducible refine Kd.C_drewN ?_ _) | (with_reducible refine Kd.C_drew ?_))); (case side2 => exact HC0.out); rintro e w11 ⟨rfl, hb⟩; have n0_ := Aside0.mk (below_step (by repeat (first | (with_reducible first | exact HB.out | apply below_alloc | apply pw_below_drewN | apply below_drew1) | exact HB.out)) hb); clear HB; have HB := n0_; clear n0_; (try clear hb); (try clear hb2); (try clear hk); (try clear hi)))
        go_meet
        case rel => exact ⟨_, ((t267 != 0)), (by first | rfl | (simp; done) | (simp [*]; done)), H', ⟨by first | omega | exact Nat.le_refl _⟩, ⟨by repeat (first | (with_reducible first | exact HB.out | apply below_alloc | apply pw_below_drewN | apply below_drew1) | exact HB.out)⟩⟩
    case rest =>
      clear HC4
      try clear c1
      try clear p2
      try clear c3
      try clear c4
      try clear c6
      try clear c7
      try clear c7b0
      try clear c7b1
      try clear c11
      obtain ⟨kq, x15_3, rfl, HA, HJ3, HB⟩ := hcut
      cases kq with
      | zero => exact absurd HA.out (by simp [burgagelaw07_ScriptBack.j0])
      | succ kj3 =>
        have H := HA.out
        clear HA
        simp only [burgagelaw07_ScriptBack.j0] at H
        by_cases c12 : x15_3 = true
        · subst c12
          have H1 : (some true) = some r := by rw [if_pos rfl] at H; exact H
          clear H
          have H := H1
          clear H1
          obtain rfl := Option.some.inj H
          go_wp2
          go_ret
          exact ⟨by first | rfl | (simp [errW_none, errW_some] <;> rfl) | (simp [*, errW_none, errW_some] <;> rfl), by repeat (first | (with_reducible first | exact HB.out | apply below_alloc | apply pw_below_drewN | apply below_drew1) | exact HB.out)⟩
        · replace c12 := Bool.eq_false_iff.mpr c12
          subst c12
          have H1 : ((script_Print.f kj3 l0).bind fun t268 => ((script_Parse.f kj3 t268).bind fun bt269 => (if bt269.2.2 = 0 then (if bt269.2.1 = 0 then ((history_Same.f kj3 bt269.1 l0).bind fun t274 => (some t274)) else (some false)) else (some false)))) = some r := by rw [if_neg (show ¬ (false = true) by decide)] at H; exact H
          clear H
          have H := H1
          clear H1
          replace H := Option.bind_eq_some_iff.mp H
          obtain ⟨t268, A130, H⟩ := H
          replace H : ((script_Parse.f kj3 t268).bind fun bt269 => (if bt269.2.2 = 0 then (if bt269.2.1 = 0 then ((history_Same.f kj3 bt269.1 l0).bind fun t274 => (some t274)) else (some false)) else (some false))) = some r := H
          have A13 := Aside0.mk A130
          clear A130
          replace H := Option.bind_eq_some_iff.mp H
          obtain ⟨⟨t269, t270, t271⟩, A140, H⟩ := H
          replace H : (if t271 = 0 then (if t270 = 0 then ((history_Same.f kj3 t269 l0).bind fun t274 => (some t274)) else (some false)) else (some false)) = some r := H
          have A14 := Aside0.mk A140
          clear A140
          by_cases c15 : t271 = 0
          · rw [if_pos c15] at H
            have c15b0 : (t271 == 0) = true := beq_iff_eq.mpr c15
            have c15b1 : (t271 != 0) = false := bne_eq_false_iff_eq.mpr c15
            clear c15
            by_cases c16 : t270 = 0
            · rw [if_pos c16] at H
              have c16b0 : (t270 == 0) = true := beq_iff_eq.mpr c16
              have c16b1 : (t270 != 0) = false := bne_eq_false_iff_eq.mpr c16
              clear c16
              replace H := Option.bind_eq_some_iff.mp H
              obtain ⟨t274, A170, H⟩ := H
              replace H : (some t274) = some r := H
              have A17 := Aside0.mk A170
              clear A170
              obtain rfl := Option.some.inj H
              go_wp2_with (first | ((with_reducible refine gate_callee (f := 10) rfl ?_); refine goesL_ (some 18) rfl rfl Tryd.func10 (by kernel_rfl) rfl #[.slice A0 l0.length c0] rfl (by (try simp only [List.map_toArray, List.map_cons, List.map_nil]); first | done | rfl | (simp only [List.length_drop, List.length_take]; rfl)) ?_; (with_reducible refine (script_Print.calls kj3 _ _ l0 t268 _ ?side1 ?side2 A13.out (Laid.below HY (by repeat (first | (with_reducible first | exact HB.out | apply below_alloc | apply pw_below_drewN | apply below_drew1) | exact HB.out)))).mono ?_); (case side1 => repeat (first | exact (Kd.C_below HR0.out HB.out) | (with_reducible refine Kd.C_alloc ?_ _) | (with_reducible refine Kd.C_drewN ?_ _) | (with_reducible refine Kd.C_drew ?_))); (case side2 => exact HC0.out); rintro e w18 ⟨rfl, hb⟩; refine ⟨_, rfl, ?_⟩; have n0_ := Aside0.mk (below_step (by repeat (first | (with_reducible first | exact HB.out | apply below_alloc | apply pw_below_drewN | apply below_drew1) | exact HB.out)) hb); clear HB; have HB := n0_; clear n0_; (try clear hb); (try clear hb2); (try clear hk); (try clear hi)) | ((with_reducible refine gate_callee (f := 7) rfl ?_); refine goesL_ (some 19) rfl rfl Tryd.func7 (by kernel_rfl) rfl #[.string t268] rfl (by (try simp only [List.map_toArray, List.map_cons, List.map_nil]); first | done | rfl | (simp only [List.length_drop, List.length_take]; rfl)) ?_; (with_reducible refine (script_Parse.calls kj3 t268 t269 t270 t271 _ A14.out (Laid.below HY (by repeat (first | (with_reducible first | exact HB.out | apply below_alloc | apply pw_below_drewN | apply below_drew1) | exact HB.out)))).mono ?_); rintro e w19 ⟨v272, rfl, ho0, hb⟩; refine ⟨_, rfl, ?_⟩; have n0_ := Aside0.mk (Kd.S_lower ho0 (below_size (by repeat (first | (with_reducible first | exact HB.out | apply below_alloc | apply pw_below_drewN | apply below_drew1) | exact HB.out)))); have n1_ := Aside0.mk (below_step (by repeat (first | (with_reducible first | exact HB.out | apply below_alloc | apply pw_below_drewN | apply below_drew1) | exact HB.out)) hb); clear HB; have HO273 := n0_; have HB := n1_; clear n0_ n1_; (try clear hb); (try clear hb2); (try clear hk); (try clear hi); (try clear ho0); obtain ⟨Ao20, co20, eo20⟩ := Kd.S_slice HO273.out; subst eo20) | (go_at_call 9; (with_reducible refine (history_Same.calls kj3 _ _ t269 _ _ l0 t274 _ ?side1 ?side2 ?side3 ?side4 A17.out (Laid.below HY (by repeat (first | (with_reducible first | exact HB.out | apply below_alloc | apply pw_below_drewN | apply below_drew1) | exact HB.out)))).mono ?_); (case side1 => repeat (first | exact (Kd.S_reads' HO273.out).2.2 | (with_reducible refine Kd.C_alloc ?_ _) | (with_reducible refine Kd.C_drewN ?_ _) | (with_reducible refine Kd.C_drew ?_))); (case side2 => exact (Kd.S_reads' HO273.out).2.1); (case side3 => repeat (first | exact (Kd.C_below HR0.out HB.out) | (with_reducible refine Kd.C_alloc ?_ _) | (with_reducible refine Kd.C_drewN ?_ _) | (with_reducible refine Kd.C_drew ?_))); (case side4 => exact HC0.out); rintro e w21 ⟨rfl, hb⟩; have n0_ := Aside0.mk (Kd.S_below (by (with_reducible repeat (first | apply Kd.S_alloc | apply Kd.S_drewN | apply Kd.S_drew)); exact HO273.out) hb); have n1_ := Aside0.mk (below_step (by repeat (first | (with_reducible first | exact HB.out | apply below_alloc | apply pw_below_drewN | apply below_drew1) | exact HB.out)) hb); clear HO273; clear HB; have HO273 := n0_; have HB := n1_; clear n0_ n1_; (try clear hb); (try clear hb2); (try clear hk); (try clear hi)))
              go_ret
              exact ⟨by first | rfl | (simp [errW_none, errW_some] <;> rfl) | (simp [*, errW_none, errW_some] <;> rfl), by repeat (first | (with_reducible first | exact HB.out | apply below_alloc | apply pw_below_drewN | apply below_drew1) | exact HB.out)⟩
            · rw [if_neg c16] at H
              have c16b0 : (t270 == 0) = false := beq_eq_false_iff_ne.mpr c16
              have c16b1 : (t270 != 0) = true := bne_iff_ne.mpr c16
              obtain rfl := Option.some.inj H
              go_wp2_with (first | ((with_reducible refine gate_callee (f := 10) rfl ?_); refine goesL_ (some 18) rfl rfl Tryd.func10 (by kernel_rfl) rfl #[.slice A0 l0.length c0] rfl (by (try simp only [List.map_toArray, List.map_cons, List.map_nil]); first | done | rfl | (simp only [List.length_drop, List.length_take]; rfl)) ?_; (with_reducible refine (script_Print.calls kj3 _ _ l0 t268 _ ?side1 ?side2 A13.out (Laid.below HY (by repeat (first | (with_reducible first | exact HB.out | apply below_alloc | apply pw_below_drewN | apply below_drew1) | exact HB.out)))).mono ?_); (case side1 => repeat (first | exact (Kd.C_below HR0.out HB.out) | (with_reducible refine Kd.C_alloc ?_ _) | (with_reducible refine Kd.C_drewN ?_ _) | (with_reducible refine Kd.C_drew ?_))); (case side2 => exact HC0.out); rintro e w22 ⟨rfl, hb⟩; refine ⟨_, rfl, ?_⟩; have n0_ := Aside0.mk (below_step (by repeat (first | (with_reducible first | exact HB.out | apply below_alloc | apply pw_below_drewN | apply below_drew1) | exact HB.out)) hb); clear HB; have HB := n0_; clear n0_; (try clear hb); (try clear hb2); (try clear hk); (try clear hi)) | ((with_reducible refine gate_callee (f := 7) rfl ?_); refine goesL_ (some 19) rfl rfl Tryd.func7 (by kernel_rfl) rfl #[.string t268] rfl (by (try simp only [List.map_toArray, List.map_cons, List.map_nil]); first | done | rfl | (simp only [List.length_drop, List.length_take]; rfl)) ?_; (with_reducible refine (script_Parse.calls kj3 t268 t269 t270 t271 _ A14.out (Laid.below HY (by repeat (first | (with_reducible first | exact HB.out | apply below_alloc | apply pw_below_drewN | apply below_drew1) | exact HB.out)))).mono ?_); rintro e w23 ⟨v272, rfl, ho0, hb⟩; refine ⟨_, rfl, ?_⟩; have n0_ := Aside0.mk (Kd.S_lower ho0 (below_size (by repeat (first | (with_reducible first | exact HB.out | apply below_alloc | apply pw_below_drewN | apply below_drew1) | exact HB.out)))); have n1_ := Aside0.mk (below_step (by repeat (first | (with_reducible first | exact HB.out | apply below_alloc | apply pw_below_drewN | apply below_drew1) | exact HB.out)) hb); clear HB; have HO273 := n0_; have HB := n1_; clear n0_ n1_; (try clear hb); (try clear hb2); (try clear hk); (try clear hi); (try clear ho0)))
              go_ret
              exact ⟨by first | rfl | (simp [errW_none, errW_some] <;> rfl) | (simp [*, errW_none, errW_some] <;> rfl), by repeat (first | (with_reducible first | exact HB.out | apply below_alloc | apply pw_below_drewN | apply below_drew1) | exact HB.out)⟩
          · rw [if_neg c15] at H
            have c15b0 : (t271 == 0) = false := beq_eq_false_iff_ne.mpr c15
            have c15b1 : (t271 != 0) = true := bne_iff_ne.mpr c15
            obtain rfl := Option.some.inj H
            go_wp2_with (first | ((with_reducible refine gate_callee (f := 10) rfl ?_); refine goesL_ (some 18) rfl rfl Tryd.func10 (by kernel_rfl) rfl #[.slice A0 l0.length c0] rfl (by (try simp only [List.map_toArray, List.map_cons, List.map_nil]); first | done | rfl | (simp only [List.length_drop, List.length_take]; rfl)) ?_; (with_reducible refine (script_Print.calls kj3 _ _ l0 t268 _ ?side1 ?side2 A13.out (Laid.below HY (by repeat (first | (with_reducible first | exact HB.out | apply below_alloc | apply pw_below_drewN | apply below_drew1) | exact HB.out)))).mono ?_); (case side1 => repeat (first | exact (Kd.C_below HR0.out HB.out) | (with_reducible refine Kd.C_alloc ?_ _) | (with_reducible refine Kd.C_drewN ?_ _) | (with_reducible refine Kd.C_drew ?_))); (case side2 => exact HC0.out); rintro e w24 ⟨rfl, hb⟩; refine ⟨_, rfl, ?_⟩; have n0_ := Aside0.mk (below_step (by repeat (first | (with_reducible first | exact HB.out | apply below_alloc | apply pw_below_drewN | apply below_drew1) | exact HB.out)) hb); clear HB; have HB := n0_; clear n0_; (try clear hb); (try clear hb2); (try clear hk); (try clear hi)) | ((with_reducible refine gate_callee (f := 7) rfl ?_); refine goesL_ (some 19) rfl rfl Tryd.func7 (by kernel_rfl) rfl #[.string t268] rfl (by (try simp only [List.map_toArray, List.map_cons, List.map_nil]); first | done | rfl | (simp only [List.length_drop, List.length_take]; rfl)) ?_; (with_reducible refine (script_Parse.calls kj3 t268 t269 t270 t271 _ A14.out (Laid.below HY (by repeat (first | (with_reducible first | exact HB.out | apply below_alloc | apply pw_below_drewN | apply below_drew1) | exact HB.out)))).mono ?_); rintro e w25 ⟨v272, rfl, ho0, hb⟩; refine ⟨_, rfl, ?_⟩; have n0_ := Aside0.mk (Kd.S_lower ho0 (below_size (by repeat (first | (with_reducible first | exact HB.out | apply below_alloc | apply pw_below_drewN | apply below_drew1) | exact HB.out)))); have n1_ := Aside0.mk (below_step (by repeat (first | (with_reducible first | exact HB.out | apply below_alloc | apply pw_below_drewN | apply below_drew1) | exact HB.out)) hb); clear HB; have HO273 := n0_; have HB := n1_; clear n0_ n1_; (try clear hb); (try clear hb2); (try clear hk); (try clear hi); (try clear ho0)))
            go_ret
            exact ⟨by first | rfl | (simp [errW_none, errW_some] <;> rfl) | (simp [*, errW_none, errW_some] <;> rfl), by repeat (first | (with_reducible first | exact HB.out | apply below_alloc | apply pw_below_drewN | apply below_drew1) | exact HB.out)⟩
  · replace c3 := Bool.eq_false_iff.mpr c3
    subst c3
    have H1 : (some false) = some r := by rw [if_neg (show ¬ (false = true) by decide)] at H; exact H
    clear H
    have H := H1
    clear H1
    obtain rfl := Option.some.inj H
    go_enter Tryd.func4, Tryd.ntmps4
    go_wp2_with (first | ((with_reducible refine gate_callee (f := 6) rfl ?_); refine goesL_ (some 6) rfl rfl Tryd.func6 (by kernel_rfl) rfl #[] rfl (by (try simp only [List.map_toArray, List.map_cons, List.map_nil]); first | done | rfl | (simp only [List.length_drop, List.length_take]; rfl)) ?_; (with_reducible refine (burgagelaw07_speaks.calls k  false _ A2.out (Laid.below HY (by repeat (first | (with_reducible first | exact HB.out | apply below_alloc | apply pw_below_drewN | apply below_drew1) | exact HB.out)))).mono ?_); rintro e w26 ⟨rfl, hb⟩; refine ⟨_, rfl, ?_⟩; have n0_ := Aside0.mk (below_step (by repeat (first | (with_reducible first | exact HB.out | apply below_alloc | apply pw_below_drewN | apply below_drew1) | exact HB.out)) hb); clear HB; have HB := n0_; clear n0_; (try clear hb); (try clear hb2); (try clear hk); (try clear hi)))
    go_ret
    exact ⟨by first | rfl | (simp [errW_none, errW_some] <;> rfl) | (simp [*, errW_none, errW_some] <;> rfl), by repeat (first | (with_reducible first | exact HB.out | apply below_alloc | apply pw_below_drewN | apply below_drew1) | exact HB.out)⟩
end Go.Proofs.YtanofkgnjmegdaaDoor.Q
end
section
namespace Go.Proofs.YtanofkgnjmegdaaDoor.Script
open Go Go.RowKit Go.Proofs.YtanofkgnjmegdaaDoor Go.Proofs.YtanofkgnjmegdaaDoor.Hist Go.Proofs.YtanofkgnjmegdaaDoor.Row3 Go.Proofs.YtanofkgnjmegdaaDoorW.PrintWords
open Go.Proofs.YtanofkgnjmegdaaDoor.K (S38 S48 rd_T38 rd_T48)
theorem ofO_beq (x y : O3) : (!((ofO x).f0 == (ofO y).f0) || (!((ofO x).f1 == (ofO y).f1) || (!((ofO x).f2 == (ofO y).f2)))) = !decide (x = y) := by
  obtain ⟨a, b, c⟩ := x
  obtain ⟨a', b', c'⟩ := y
  show (!(a == a') || (!(b == b') || !(c == c'))) = _
  by_cases h1 : a = a' <;> by_cases h2 : b = b' <;> by_cases h3 : c = c' <;> simp [h1, h2, h3]
theorem same_l1 (a b : List T4) (n i : Int) (u v : List O3) (hl : u.length = v.length) (hb : u.length ≤ 4611686018427387904) (s0 b0 c0 : Int) (r : Bool) (hK : Ev (fun k => Q.history_Same.l0 k (b.map ofT) (a.map ofT) n (wrap64 (i + 1))) r) :
    ∀ (d j : Nat), j + d = u.length → Ev (fun k => Q.history_Same.l1 k (b.map ofT) (a.map ofT) n i (u.map ofO) (u.length : Int) (j : Int) s0 b0 c0 (v.map ofO)) (decide (u.drop j = v.drop j) && r) := by
  intro d
  induction d with
  | zero =>
    intro j hj
    refine Ev.step (fun k => by simp only [Q.history_Same.l1]; rw [if_neg (by omega)]) ?_
    rw [List.drop_of_length_le (by omega), List.drop_of_length_le (by omega)]
    simpa using hK
  | succ d ih =>
    intro j hj
    have h1 : j < u.length := by omega
    have h2 : j < v.length := by omega
    have hd : decide (u.drop j = v.drop j) = (decide (v[j] = u[j]) && decide (u.drop (j + 1) = v.drop (j + 1))) := by
      rw [Bool.eq_iff_iff]
      simp only [decide_eq_true_eq, Bool.and_eq_true]
      rw [List.drop_eq_getElem_cons h1, List.drop_eq_getElem_cons h2, List.cons.injEq]
      exact ⟨fun ⟨a, b⟩ => ⟨a.symm, b⟩, fun ⟨a, b⟩ => ⟨a.symm, b⟩⟩
    refine Ev.step (f := fun k => if (!decide (v[j] = u[j])) = true then some false else Q.history_Same.l1 k (b.map ofT) (a.map ofT) n i (u.map ofO) (u.length : Int) ((j + 1 : Nat) : Int) s0 b0 c0 (v.map ofO)) (fun k => ?_) ?_
    · simp only [Q.history_Same.l1]
      rw [if_pos (by omega), if_pos (by omega), if_pos (by rw [List.length_map]; omega), if_pos (by rw [List.length_map]; omega), rdO_at v j h2, rdO_at u j h1, ofO_beq, Hist.wrap_nat (by omega)]
    · rw [hd]
      by_cases e : v[j] = u[j]
      · have := ih (j + 1) (by omega)
        refine Ev.congr (f := fun k => Q.history_Same.l1 k (b.map ofT) (a.map ofT) n i (u.map ofO) (u.length : Int) ((j + 1 : Nat) : Int) s0 b0 c0 (v.map ofO)) (fun k => by rw [decide_eq_true e]; rfl) ?_
        rw [decide_eq_true e, Bool.true_and]
        exact this
      · refine Ev.congr (f := fun _ => some false) (fun k => by rw [decide_eq_false e]; rfl) ?_
        rw [decide_eq_false e]
        exact Ev.now false
theorem T4_eq (t u : T4) : decide (t = u) = (decide (t.s = u.s) && (decide (t.b = u.b) && (decide (t.c = u.c) && decide (t.ops = u.ops)))) := by
  obtain ⟨s, b, c, o⟩ := t
  obtain ⟨s', b', c', o'⟩ := u
  by_cases h1 : s = s' <;> by_cases h2 : b = b' <;> by_cases h3 : c = c' <;> by_cases h4 : o = o' <;> simp [h1, h2, h3, h4]
theorem same_l0 (a b : List T4) (hl : a.length = b.length) (hm : a.length ≤ 4611686018427387904) (hc : countT a ≤ 4611686018427387904) : ∀ (d i : Nat), i + d = a.length →
    Ev (fun k => Q.history_Same.l0 k (b.map ofT) (a.map ofT) (a.length : Int) (i : Int)) (decide (a.drop i = b.drop i)) := by
  intro d
  induction d with
  | zero =>
    intro i hi
    refine Ev.step (fun k => by simp only [Q.history_Same.l0]; rw [if_neg (by omega)]) ?_
    rw [List.drop_of_length_le (by omega), List.drop_of_length_le (by omega)]
    exact Ev.now true
  | succ d ih =>
    intro i hi
    have h1 : i < a.length := by omega
    have h2 : i < b.length := by omega
    have hoc : a[i].ops.length ≤ 4611686018427387904 := Nat.le_trans (le_countT (List.getElem_mem h1)) hc
    have hd : decide (a.drop i = b.drop i) = (decide (a[i] = b[i]) && decide (a.drop (i + 1) = b.drop (i + 1))) := by
      rw [Bool.eq_iff_iff]
      simp only [decide_eq_true_eq, Bool.and_eq_true]
      rw [List.drop_eq_getElem_cons h1, List.drop_eq_getElem_cons h2, List.cons.injEq]
    have ihw := ih (i + 1) (by omega)
    rw [← Hist.wrap_nat (x := i) (by omega)] at ihw
    have hj : ∀ x53 : Bool, Ev (fun k => Q.history_Same.j1 k (b.map ofT) (a.map ofT) (a.length : Int) (i : Int) x53 a[i].s a[i].b a[i].c (a[i].ops.map ofO) b[i].s b[i].b b[i].c (b[i].ops.map ofO)) (if x53 then false else if a[i].ops.length = b[i].ops.length then decide (a[i].ops = b[i].ops) && decide (a.drop (i + 1) = b.drop (i + 1)) else false) ∨ (x53 = false ∧ a[i].ops.length ≠ b[i].ops.length) := by
      intro x53
      cases x53 with
      | true => exact .inl (Ev.step (f := fun _ => some false) (fun k => by simp only [Q.history_Same.j1]; rfl) (Ev.now false))
      | false =>
        by_cases e : a[i].ops.length = b[i].ops.length
        · refine .inl ?_
          rw [if_pos e]
          have := same_l1 a b (a.length : Int) (i : Int) a[i].ops b[i].ops e hoc b[i].s b[i].b b[i].c _ ihw a[i].ops.length 0 (by omega)
          refine Ev.step (fun k => by simp only [Q.history_Same.j1]; rw [List.length_map]; rfl) this
        · exact .inr ⟨rfl, e⟩
    have e0 : ∀ k, Q.history_Same.l0 (k + 1) (b.map ofT) (a.map ofT) (a.length : Int) (i : Int) = Q.history_Same.j1 k (b.map ofT) (a.map ofT) (a.length : Int) (i : Int) (!(decide (a[i].s = b[i].s) && (decide (a[i].b = b[i].b) && (decide (a[i].c = b[i].c) && decide (a[i].ops.length = b[i].ops.length))))) a[i].s a[i].b a[i].c (a[i].ops.map ofO) b[i].s b[i].b b[i].c (b[i].ops.map ofO) := by
      intro k
      simp only [Q.history_Same.l0]
      rw [if_pos (by omega), if_pos (by omega), if_pos (by rw [List.length_map]; omega), if_pos (by rw [List.length_map]; omega), rdT_at a i h1, rdT_at b i h2]
      show (if a[i].s = b[i].s then if a[i].b = b[i].b then if a[i].c = b[i].c then Q.history_Same.j1 k _ _ _ _ (((a[i].ops.map ofO).length : Int) != ((b[i].ops.map ofO).length : Int)) _ _ _ _ _ _ _ _ else _ else _ else _) = _
      rw [List.length_map, List.length_map]
      by_cases c1 : a[i].s = b[i].s
      · rw [if_pos c1, decide_eq_true c1]
        by_cases c2 : a[i].b = b[i].b
        · rw [if_pos c2, decide_eq_true c2]
          by_cases c3 : a[i].c = b[i].c
          · rw [if_pos c3, decide_eq_true c3]
            by_cases c4 : a[i].ops.length = b[i].ops.length
            · rw [decide_eq_true c4, c4]; simp; rfl
            · have : ((a[i].ops.length : Int) != (b[i].ops.length : Int)) = true := by simp; omega
              rw [decide_eq_false c4, this]; rfl
          · rw [if_neg c3, decide_eq_false c3]; rfl
        · rw [if_neg c2, decide_eq_false c2]; rfl
      · rw [if_neg c1, decide_eq_false c1]; rfl
    refine Ev.step e0 ?_
    rw [hd, T4_eq]
    rcases hj (!(decide (a[i].s = b[i].s) && (decide (a[i].b = b[i].b) && (decide (a[i].c = b[i].c) && decide (a[i].ops.length = b[i].ops.length))))) with h | ⟨h, e⟩
    · refine Eq.mp (congrArg (Ev _) (?_ : _ = _)) h
      by_cases c1 : a[i].s = b[i].s <;> by_cases c2 : a[i].b = b[i].b <;> by_cases c3 : a[i].c = b[i].c <;> by_cases c4 : a[i].ops.length = b[i].ops.length
      all_goals first
        | (have c5 : a[i].ops ≠ b[i].ops := fun e => c4 (by rw [e])
           simp [c1, c2, c3, c4, c5]; done)
        | simp [c1, c2, c3, c4]
    · rw [decide_eq_false e] at h
      simp at h
theorem same_f (a b : List T4) (hm : a.length ≤ 4611686018427387904) (hc : countT a ≤ 4611686018427387904) : Ev (fun k => Q.history_Same.f k (a.map ofT) (b.map ofT)) (decide (a = b)) := by
  unfold Q.history_Same.f
  rw [List.length_map, List.length_map]
  by_cases e : (a.length : Int) = (b.length : Int)
  · refine Ev.congr (fun k => if_pos e) ?_
    have := same_l0 a b (by omega) hm hc a.length 0 (by omega)
    exact this
  · refine Ev.congr (f := fun _ => some false) (fun k => if_neg e) ?_
    rw [decide_eq_false (fun h => e (by rw [h]))]
    exact Ev.now false
def bigF (h : List T4) : Bool := decide (100 < h.length) || decide (1200 < countT h)
theorem big_l0 (h : List T4) (hm : h.length ≤ 100) (ho : ∀ t ∈ h, t.ops.length ≤ 5864062014634) : ∀ (d i n : Nat), i + d = h.length → n ≤ 1200 →
    Ev (fun k => Q.burgagelaw06_Big.l0 k (n : Int) (h.map ofT) (h.length : Int) (i : Int)) (if 1200 < n + countT (h.drop i) then 1 else 0) := by
  intro d
  induction d with
  | zero =>
    intro i n hi hn
    refine Ev.step (f := fun _ => some 0) (fun k => by rw [Q.burgagelaw06_Big.l0]; rw [if_neg (by omega)]) ?_
    rw [List.drop_of_length_le (by omega)]
    rw [if_neg (by simp [countT]; omega)]
    exact Ev.now _
  | succ d ih =>
    intro i n hi hn
    have h1 : i < h.length := by omega
    have hl := ho _ (List.getElem_mem h1)
    have ec : countT (h.drop i) = h[i].ops.length + countT (h.drop (i + 1)) := by rw [List.drop_eq_getElem_cons h1, countT_cons]
    have ew' : wrap64 ((n : Int) + ((ofT h[i]).f3.length : Int)) = ((n + h[i].ops.length : Nat) : Int) := by
      have : (ofT h[i]).f3.length = h[i].ops.length := by simp [ofT]
      rw [this, Hist.wrap_id (by omega) (by omega)]; omega
    have ew := Lib.hid ew'
    clear ew'
    by_cases c : 1200 < n + h[i].ops.length
    · refine Ev.step (f := fun _ => some 1) (fun k => ?_) ?_
      · rw [Q.burgagelaw06_Big.l0]
        rw [if_pos (by omega), if_pos (by omega), if_pos (by rw [List.length_map]; omega), rdT_at h i h1, ew.out, if_pos (show ((n + h[i].ops.length : Nat) : Int) > 1200 by omega)]
      · rw [if_pos (by rw [ec]; omega)]
        exact Ev.now _
    · refine Ev.step (f := fun k => Q.burgagelaw06_Big.l0 k ((n + h[i].ops.length : Nat) : Int) (h.map ofT) (h.length : Int) ((i + 1 : Nat) : Int)) (fun k => ?_) ?_
      · rw [Q.burgagelaw06_Big.l0]
        rw [if_pos (by omega), if_pos (by omega), if_pos (by rw [List.length_map]; omega), rdT_at h i h1, ew.out, if_neg (show ¬ ((n + h[i].ops.length : Nat) : Int) > 1200 by omega), Hist.wrap_nat (x := i) (by omega)]
      · rw [ec, ← Nat.add_assoc]
        exact ih (i + 1) (n + h[i].ops.length) (by omega) (by omega)
theorem big_f (h : List T4) (ho : ∀ t ∈ h, t.ops.length ≤ 5864062014634) : Ev (fun k => Q.burgagelaw06_Big.f k (h.map ofT)) (if bigF h then 1 else 0) := by
  unfold Q.burgagelaw06_Big.f bigF
  rw [List.length_map]
  by_cases c : 100 < h.length
  · refine Ev.congr (f := fun _ => some 1) (fun k => if_pos (by omega)) ?_
    rw [decide_eq_true c]
    exact Ev.now _
  · refine Ev.congr (fun k => if_neg (by omega)) ?_
    rw [decide_eq_false c, Bool.false_or]
    have := big_l0 h (by omega) ho h.length 0 0 (by omega) (by omega)
    rw [List.drop_zero, Nat.zero_add] at this
    by_cases d : 1200 < countT h
    · rw [if_pos d] at this
      rw [decide_eq_true d]; exact this
    · rw [if_neg d] at this
      rw [decide_eq_false d]; exact this
end Go.Proofs.YtanofkgnjmegdaaDoor.Script
end
section
namespace Go.Proofs.YtanofkgnjmegdaaDoor.Script
open Go Go.Lib Go.RowKit Go.Proofs.YtanofkgnjmegdaaDoor Go.Proofs.YtanofkgnjmegdaaDoor.Hand Go.Proofs.YtanofkgnjmegdaaDoor.Plain Go.Proofs.YtanofkgnjmegdaaDoor.Hist Go.Proofs.YtanofkgnjmegdaaDoor.Row3 Go.Proofs.YtanofkgnjmegdaaDoorW.PrintWords
open Go.Proofs.YtanofkgnjmegdaaDoor.K (S38 S48 rd_T38 rd_T48)
def one3 : List T4 := [⟨0, 1, 2, [⟨true, 3, 5⟩]⟩]
theorem one3_text : mkB (textL (linesT one3)) = ⟨#[116, 120, 110, 32, 48, 32, 49, 32, 50, 10, 119, 32, 51, 32, 53, 10]⟩ := by
  have i : ∀ u : Nat, u < 10 → itoa (u : Int) = [UInt8.ofNat (48 + u)] := fun u hu => by rw [itoa_nat, decDigits_small hu]
  have i0 : itoa 0 = [48] := i 0 (by omega)
  have i1 : itoa 1 = [49] := i 1 (by omega)
  have i2 : itoa 2 = [50] := i 2 (by omega)
  have i3 : itoa 3 = [51] := i 3 (by omega)
  have i5 : itoa 5 = [53] := i 5 (by omega)
  unfold mkB textL linesT one3
  simp only [List.flatMap_cons, List.flatMap_nil, linesOfT, headL, lineO, opText, tailL, List.map_cons, List.map_nil, i0, i1, i2, i3, i5]
  rfl
theorem one3_check : checkF one3 = 0 := by decide
theorem one3_num : ∀ t ∈ one3, NumT t := by
  intro t ht
  simp [one3] at ht
  subst ht
  exact ⟨⟨by decide, by decide⟩, ⟨by decide, by decide⟩, ⟨by decide, by decide⟩, fun o ho => by simp at ho; subst ho; decide⟩
theorem speaks_f : Ev (fun k => Q.burgagelaw07_speaks.f k) true := by
  have p1 : parseF ⟨#[116, 120, 110, 32, 48, 32, 49, 32, 50, 10, 119, 32, 51, 32, 53, 10]⟩ = (one3, 0, 0) := by
    rw [← one3_text]
    exact parse_text one3 one3_check one3_num
  have p2 : parseF ⟨#[116, 120, 110, 32, 48, 32, 49, 32, 50, 10, 119, 32, 51, 10]⟩ = ([], 2, 1) := by
    have hl : linesP ⟨#[116, 120, 110, 32, 48, 32, 49, 32, 50, 10, 119, 32, 51, 10]⟩ = [mkB (headL 0 1 2), mkB [119, 32, 51]] := by
      have i : ∀ u : Nat, u < 10 → itoa (u : Int) = [UInt8.ofNat (48 + u)] := fun u hu => by rw [itoa_nat, decDigits_small hu]
      have i0 : itoa 0 = [48] := i 0 (by omega)
      have i1 : itoa 1 = [49] := i 1 (by omega)
      have i2 : itoa 2 = [50] := i 2 (by omega)
      unfold linesP
      rw [nlines_cut]
      unfold headL tailL
      simp only [List.flatMap_cons, List.flatMap_nil, i0, i1, i2]
      rfl
    have hw : ∀ n : Int, n ≠ 1 → wordsP (mkB [119, 32, 51]) n = (⟨#[]⟩, [], false) := by
      intro n hn
      unfold wordsP
      have hp : (pieces (mkB [119, 32, 51])).length = 2 := by rw [← pieces_cut]; rfl
      rw [if_neg (by rw [hp]; omega)]
    unfold parseF
    rw [hl]
    have hL : linesF [] 0 [mkB (headL 0 1 2), mkB [119, 32, 51]] = ([], 2) := by
      rw [linesF]
      unfold stepL
      rw [head_back ⟨by decide, by decide⟩ ⟨by decide, by decide⟩ ⟨by decide, by decide⟩]
      dsimp only
      rw [linesF]
      unfold stepL headP opP opParse
      rw [hw 3 (by omega), hw 2 (by omega)]
      rfl
    rw [hL]
    dsimp only
    rw [if_pos (by omega)]
  unfold Q.burgagelaw07_speaks.f
  have s1 : ByteArray.size ⟨#[116, 120, 110, 32, 48, 32, 49, 32, 50, 10, 119, 32, 51, 32, 53, 10]⟩ = 16 := rfl
  have s2 : ByteArray.size ⟨#[116, 120, 110, 32, 48, 32, 49, 32, 50, 10, 119, 32, 51, 10]⟩ = 14 := rfl
  refine Ev.congr (f := fun k => (Q.script_Print.f k (one3.map ofT)).bind fun t141 => if t141.toList = ([116, 120, 110, 32, 48, 32, 49, 32, 50, 10, 119, 32, 51, 32, 53, 10] : List UInt8) then some true else some false) (fun k => ?_) ?_
  · rw [parse_f' _ (by rw [s1]; omega), Option.bind_some, parse_f' _ (by rw [s2]; omega), Option.bind_some, p1, p2]
    rfl
  · refine Ev.bind (print_f one3 one3_num (by rw [← mkB_size, one3_text]; show 16 ≤ _; omega)) ?_
    rw [one3_text]
    refine Ev.congr (fun k => if_pos (by rw [toList_data])) (Ev.now _)
end Go.Proofs.YtanofkgnjmegdaaDoor.Script
end
section
namespace Go.Proofs.YtanofkgnjmegdaaDoor.Pure
open Go Go.Lib Go.RowKit Go.Proofs.YtanofkgnjmegdaaDoor Go.Proofs.YtanofkgnjmegdaaDoor.Hand Go.Proofs.YtanofkgnjmegdaaDoor.Plain Go.Proofs.YtanofkgnjmegdaaDoor.Hist Go.Proofs.YtanofkgnjmegdaaDoor.Row3 Go.Proofs.YtanofkgnjmegdaaDoor.Script Go.Proofs.YtanofkgnjmegdaaDoorW.PrintWords
theorem line_len (o : O3) (h : rightB o.w o.k o.v = true) : (lineO o).length ≤ 43 := by
  obtain ⟨⟨h1, h2⟩, h3, h4⟩ := right_wf h
  have hin : inI64 [o.k, o.v] = true := by unfold inI64; simp; omega
  have := tailL_length hin 2 (Nat.le_refl _)
  have e : ([o.k, o.v] : List Int).take 2 = [o.k, o.v] := rfl
  rw [e] at this
  unfold lineO opText
  simp only [List.length_cons]
  omega
theorem txn_len (t : T4) (h : NumT t) : (textL (linesOfT t)).length ≤ 67 + 44 * t.ops.length := by
  obtain ⟨⟨a1, a2⟩, ⟨b1, b2⟩, ⟨c1, c2⟩, ho⟩ := h
  have hin : inI64 [t.s, t.b, t.c] = true := by unfold inI64; simp; omega
  have := tailL_length hin 3 (Nat.le_refl _)
  have e : ([t.s, t.b, t.c] : List Int).take 3 = [t.s, t.b, t.c] := rfl
  rw [e] at this
  unfold linesOfT
  rw [textL_cons]
  have hop : ∀ l : List O3, (∀ o ∈ l, rightB o.w o.k o.v = true) → (textL (l.map lineO)).length ≤ 44 * l.length := by
    intro l
    induction l with
    | nil => intro _; simp [textL]
    | cons o l ih =>
      intro hl
      rw [List.map_cons, textL_cons]
      have h1 := line_len o (hl o (by simp))
      have h2 := ih (fun x hx => hl x (by simp [hx]))
      simp only [List.length_append, List.length_cons]
      omega
  have h2 := hop t.ops ho
  have h3 : (headL t.s t.b t.c).length ≤ 66 := by
    unfold headL
    rw [List.length_append]
    show 3 + _ ≤ 66
    omega
  simp only [List.length_append, List.length_cons]
  omega
theorem hist_len : ∀ h : List T4, (∀ t ∈ h, NumT t) → (textL (linesT h)).length ≤ 67 * h.length + 44 * countT h
  | [], _ => by simp [textL, linesT]
  | t :: h, hn => by
    have e : linesT (t :: h) = linesOfT t ++ linesT h := rfl
    rw [e, textL_append, List.length_append, countT_cons]
    have h1 := txn_len t (hn t (by simp))
    have h2 := hist_len h (fun x hx => hn x (by simp [hx]))
    simp only [List.length_cons]
    omega
theorem ScriptBack (h : List T4) (hl : h.length ≤ 2932031007317) (ho : ∀ t ∈ h, t.ops.length ≤ 5864062014634) : ∃ k, Q.burgagelaw07_ScriptBack.f k (h.map ofT) = some true := by
  have e : Ev (fun k => Q.burgagelaw07_ScriptBack.f k (h.map ofT)) true := by
    unfold Q.burgagelaw07_ScriptBack.f
    refine Ev.bind speaks_f ?_
    refine Ev.congr (fun k => if_pos rfl) ?_
    refine Ev.bind (big_f h ho) ?_
    by_cases hb : bigF h = true
    · refine Ev.congr (fun k => by rw [if_pos hb, if_pos rfl]) ?_
      exact Ev.step (f := fun _ => some true) (fun k => by rw [Q.burgagelaw07_ScriptBack.j0, if_pos rfl]) (Ev.now _)
    · have hb2 : h.length ≤ 100 ∧ countT h ≤ 1200 := by
        unfold bigF at hb
        simp at hb
        omega
      have hck : ∀ k, Give.burgageref06_Check.f k (h.map ofT) = some (checkF h) := by
        intro k
        unfold Give.burgageref06_Check.f
        rw [if_pos (smallT (by omega) (by omega)), toT_ofT_map, ref_check]
      refine Ev.congr (fun k => by rw [if_neg hb, if_neg (by omega), hck, Option.bind_some]) ?_
      by_cases h0 : checkF h = 0
      · rw [h0]
        have hn : ∀ t ∈ h, NumT t := by
          have hle : h.length ≤ 64 ∧ countT h ≤ 1024 := by
            by_cases c : h.length > 64 ∨ countT h > 1024
            · unfold checkF at h0
              rw [if_pos c] at h0
              omega
            · omega
          have hm := (checkF_may h hle.1 hle.2).1 h0
          exact fun t ht => right_num (hm.1 t ht)
        have hlen := hist_len h hn
        refine Ev.step (f := fun k => (Q.script_Print.f k (h.map ofT)).bind fun t => (Q.script_Parse.f k t).bind fun b => if b.2.2 = 0 then (if b.2.1 = 0 then (Q.history_Same.f k b.1 (h.map ofT)).bind fun t => some t else some false) else some false) (fun k => by rw [Q.burgagelaw07_ScriptBack.j0, if_neg (by simp)]) ?_
        refine Ev.bind (print_f h hn (by omega)) ?_
        have hp := parse_text h h0 hn
        refine Ev.congr (fun k => by rw [parse_f' _ (by rw [mkB_size]; omega), Option.bind_some, hp, if_pos rfl, if_pos rfl]) ?_
        refine Ev.bind (same_f h h (by omega) (by omega)) ?_
        refine Ev.congr (f := fun _ => some true) (fun k => by simp) (Ev.now _)
      · have e1 : (checkF h != 0) = true := by simpa using h0
        rw [e1]
        exact Ev.step (f := fun _ => some true) (fun k => by rw [Q.burgagelaw07_ScriptBack.j0, if_pos rfl]) (Ev.now _)
  exact e.rounds
end Go.Proofs.YtanofkgnjmegdaaDoor.Pure
end
section
namespace Go.Proofs.YtanofkgnjmegdaaDoor.Hist
open Go Go.RowKit Go.Proofs.YtanofkgnjmegdaaDoor Go.Proofs.YtanofkgnjmegdaaDoor.Row3 Go.Proofs.YtanofkgnjmegdaaDoor.K Go.Proofs.YtanofkgnjmegdaaDoorW.PrintWords
theorem scriptBack_walk (A : Option Addr) (cap : Nat) (h : List T4) (w : World) (hr : RdT w A h) (hc : h.length ≤ cap) (hz : h.length ≤ 2932031007317) (hw : ∀ t ∈ h, WfT t) (HY : Laid w) :
    Calls Tryd.prog 4 #[.slice A h.length cap] w fun e w' => e = .returned (.bool true) ∧ Below w.heap.size w w' := by
  obtain ⟨k, hk⟩ := Pure.ScriptBack h hz (fun t ht => (hw t ht).2.2.2.1)
  have := Q.burgagelaw07_ScriptBack.calls k A cap (h.map ofT) true w (by rw [List.length_map]; exact C_of_RdT hr (by omega) (fun t ht => by have := (hw t ht).2.2.2.1; omega)) (by rw [List.length_map]; exact hc) hk HY
  rw [List.length_map] at this
  exact this
end Go.Proofs.YtanofkgnjmegdaaDoor.Hist
end
