/- Texts of this claim, joined by a program of this session: the declarations that its theorem uses. -/
import Derived.Test.YtngkneknopenmaaZN13
import Derived.Test.YtngkneknopenmaaZN14
section
namespace Go.Proofs.Ytngkneknopenmaa.T
open Go.Proofs.Ytngkneknopenmaa Go.Proofs.Ytngkneknopenmaa.Give Go.Proofs.Ytngkneknopenmaa.K
open Go.RowKit Go.Proofs.YtngkneknopenmaaW.PrintWords Go.Proofs.YtngkneknopenmaaW.PrintLast Go.Proofs.YtngkneknopenmaaW.PrintMore
attribute [local go_sem] qb3 qb1 qca qb9 qbu qbt qb2 qb0   -- for this text's walks alone
set_option linter.unusedVariables false
set_option linter.unusedSimpArgs false
def burgageref22_rank.l0 : Nat → List (S55) → Int → Int → Int → Option (Int)
 | 0, _, _, _, _ => none
 | k + 1, x0, x1, x5, x6 => if x6 < (x0.length : Int) then (if 0 ≤ x6 then (if ((qab x0 x6).f1) < x1 then (if ((qab x0 x6).f2) < x1 then (burgageref22_rank.l0 k x0 x1 (wrap64 ((wrap64 (x5 + 1)) + 1)) (wrap64 (x6 + 1))) else (burgageref22_rank.l0 k x0 x1 (wrap64 (x5 + 1)) (wrap64 (x6 + 1)))) else (if ((qab x0 x6).f2) < x1 then (burgageref22_rank.l0 k x0 x1 (wrap64 (x5 + 1)) (wrap64 (x6 + 1))) else (burgageref22_rank.l0 k x0 x1 x5 (wrap64 (x6 + 1))))) else (none)) else (some x5)
def burgageref22_rank.f (k : Nat) (l0 : List (S55)) (a1 : Int) : Option (Int) := burgageref22_rank.l0 k l0 a1 0 0
theorem burgageref22_rank.mono_l : ∀ k, (∀ y0 y1 y2 y3, LeO (burgageref22_rank.l0 k y0 y1 y2 y3) (burgageref22_rank.l0 (k + 1) y0 y1 y2 y3))
 | 0 => fun _ _ _ _ r h => by simp [burgageref22_rank.l0] at h
 | k + 1 => by
  have ih0 := burgageref22_rank.mono_l k
  ·intro y0 y1 y2 y3
   unfold burgageref22_rank.l0
   repeat' first
   | (with_reducible exact ih0 _ _ _ _)
   | (with_reducible exact LeO.refl _)
   | (with_reducible exact LeO.none _)
   | (with_reducible refine LeO.ite ?_ ?_)
   | (with_reducible refine LeO.bind ?_ (fun _ => ?_))
   | exact ih0 _ _ _ _
   | exact LeO.none _
   | refine LeO.ite ?_ ?_
   | refine LeO.bind ?_ (fun _ => ?_)
theorem burgageref22_rank.mono : ∀ a0 a1 k, LeO (burgageref22_rank.f k a0 a1) (burgageref22_rank.f (k + 1) a0 a1) := by
 intro a0 a1 k
 have ih0 := burgageref22_rank.mono_l k
 unfold burgageref22_rank.f
 repeat' first
   | (with_reducible exact ih0 _ _ _ _)
   | (with_reducible exact LeO.refl _)
   | (with_reducible exact LeO.none _)
   | (with_reducible refine LeO.ite ?_ ?_)
   | (with_reducible refine LeO.bind ?_ (fun _ => ?_))
   | exact ih0 _ _ _ _
   | exact LeO.none _
   | refine LeO.ite ?_ ?_
   | refine LeO.bind ?_ (fun _ => ?_)
set_option maxHeartbeats 8000000 in
set_option maxRecDepth 100000 in
theorem burgageref22_rank.calls (k : Nat) (A0 : Option Addr) (c0 : Nat) (l0 : List (S55)) (a1 : Int) (r : Int) (w : World) (hr0 : Kd.C k55 w A0 l0.length l0) (hc0 : l0.length ≤ c0) (h : burgageref22_rank.f k l0 a1 = some r) :
  Calls Try.prog 44 #[.slice A0 l0.length c0, .int .i64 a1] w fun e w' => e = .returned (.int .i64 r) ∧ Drawn0 w w' := by
 have HR0 := Aside0.mk hr0
 have HC0 := Aside0.mk hc0
 clear hr0 hc0
 have H : (burgageref22_rank.l0 k l0 a1 0 0) = some r := h
 clear h
 have H' := Aside0.mk H
 clear H
 go_enter Try.func44, Try.ntmps44
 go_wp2
 go_loopg [5, 6] k (fun kq v5 v6 w' => ∃ (x5_1 : Int) (x6_1 : Int), v5 = .int .i64 x5_1 ∧ v6 = .int .i64 x6_1 ∧ Aside0 (burgageref22_rank.l0 kq l0 a1 x5_1 x6_1 = some r) ∧ Aside0 (kq ≤ k) ∧ Drawn0 w w')
 case atStart => exact ⟨(0), (0), (by first | rfl | (simp; done) | (simp [*]; done)), (by first | rfl | (simp; done) | (simp [*]; done)), H', ⟨Nat.le_refl _⟩, by repeat (first | exact Drawn0.refl _ | apply Drawn0.step)⟩
 case round =>
  clear H'
  try clear p2
  obtain ⟨x5_1, x6_1, rfl, rfl, HA, HK1, ⟨m1, rfl⟩⟩ := hrel
  cases gk with
  | zero => exact absurd HA.out (by simp [burgageref22_rank.l0])
  | succ k1 =>
   have H := HA.out
   clear HA
   simp only [burgageref22_rank.l0] at H
   by_cases c3 : x6_1 < (l0.length : Int)
   ·rw [if_pos c3] at H
    have c3b0 : decide (x6_1 < (l0.length : Int)) = true := decide_eq_true c3
    clear c3
    by_cases c4 : 0 ≤ x6_1
    ·rw [if_pos c4] at H
     have c4b0 : decide (0 ≤ x6_1) = true := decide_eq_true c4
     clear c4
     by_cases c5 : ((qab l0 x6_1).f1) < a1
     ·rw [if_pos c5] at H
      have c5b0 : decide (((qab l0 x6_1).f1) < a1) = true := decide_eq_true c5
      clear c5
      by_cases c6 : ((qab l0 x6_1).f2) < a1
      ·rw [if_pos c6] at H
       have c6b0 : decide (((qab l0 x6_1).f2) < a1) = true := decide_eq_true c6
       clear c6
       have H' := Aside0.mk H
       clear H
       have p184 : 0 ≤ (x6_1 : Int) := of_decide_eq_true (by first | (with_reducible assumption) | assumption)
       have q184 : x6_1 < (l0.length : Int) := of_decide_eq_true (by first | (with_reducible assumption) | assumption)
       obtain ⟨ad184, A184_3, c184_3, e184, hx184_0, hx184_1, hx184_2, hx184_3, hl184_3, hi184_3⟩ := qa8 HR0.out x6_1 p184 q184
       cases e184
       have HR184_3 := Aside0.mk hi184_3
       have HC184_3 := Aside0.mk hl184_3
       clear hi184_3 hl184_3
       replace p184 := eq_true p184
       replace q184 := eq_true q184
       have p185 : 0 ≤ (x6_1 : Int) := of_decide_eq_true (by first | (with_reducible assumption) | assumption)
       have q185 : x6_1 < (l0.length : Int) := of_decide_eq_true (by first | (with_reducible assumption) | assumption)
       obtain ⟨ad185, A185_3, c185_3, e185, hx185_0, hx185_1, hx185_2, hx185_3, hl185_3, hi185_3⟩ := qa8 HR0.out x6_1 p185 q185
       obtain rfl : ad184 = ad185 := (by injection e185)
       have HR185_3 := Aside0.mk hi185_3
       have HC185_3 := Aside0.mk hl185_3
       clear hi185_3 hl185_3
       replace p185 := eq_true p185
       replace q185 := eq_true q185
       have ea_ := Option.some.inj (hx184_3.symm.trans hx185_3)
       injection ea_ with ea_ en_ ec_
       subst ea_
       subst ec_
       clear en_
       go_wp2
       go_roundg k1
       case measure => have := HK1.out; omega
       case rel => exact ⟨(wrap64 ((wrap64 (x5_1 + 1)) + 1)), (wrap64 (x6_1 + 1)), (by first | rfl | (simp; done) | (simp [*]; done)), (by first | rfl | (simp; done) | (simp [*]; done)), H', ⟨by have := HK1.out; omega⟩, by repeat (first | exact Drawn0.refl _ | apply Drawn0.step)⟩
      ·rw [if_neg c6] at H
       have c6b0 : decide (((qab l0 x6_1).f2) < a1) = false := decide_eq_false c6
       clear c6
       have H' := Aside0.mk H
       clear H
       have p184 : 0 ≤ (x6_1 : Int) := of_decide_eq_true (by first | (with_reducible assumption) | assumption)
       have q184 : x6_1 < (l0.length : Int) := of_decide_eq_true (by first | (with_reducible assumption) | assumption)
       obtain ⟨ad184, A184_3, c184_3, e184, hx184_0, hx184_1, hx184_2, hx184_3, hl184_3, hi184_3⟩ := qa8 HR0.out x6_1 p184 q184
       cases e184
       have HR184_3 := Aside0.mk hi184_3
       have HC184_3 := Aside0.mk hl184_3
       clear hi184_3 hl184_3
       replace p184 := eq_true p184
       replace q184 := eq_true q184
       have p185 : 0 ≤ (x6_1 : Int) := of_decide_eq_true (by first | (with_reducible assumption) | assumption)
       have q185 : x6_1 < (l0.length : Int) := of_decide_eq_true (by first | (with_reducible assumption) | assumption)
       obtain ⟨ad185, A185_3, c185_3, e185, hx185_0, hx185_1, hx185_2, hx185_3, hl185_3, hi185_3⟩ := qa8 HR0.out x6_1 p185 q185
       obtain rfl : ad184 = ad185 := (by injection e185)
       have HR185_3 := Aside0.mk hi185_3
       have HC185_3 := Aside0.mk hl185_3
       clear hi185_3 hl185_3
       replace p185 := eq_true p185
       replace q185 := eq_true q185
       have ea_ := Option.some.inj (hx184_3.symm.trans hx185_3)
       injection ea_ with ea_ en_ ec_
       subst ea_
       subst ec_
       clear en_
       go_wp2
       go_roundg k1
       case measure => have := HK1.out; omega
       case rel => exact ⟨(wrap64 (x5_1 + 1)), (wrap64 (x6_1 + 1)), (by first | rfl | (simp; done) | (simp [*]; done)), (by first | rfl | (simp; done) | (simp [*]; done)), H', ⟨by have := HK1.out; omega⟩, by repeat (first | exact Drawn0.refl _ | apply Drawn0.step)⟩
     ·rw [if_neg c5] at H
      have c5b0 : decide (((qab l0 x6_1).f1) < a1) = false := decide_eq_false c5
      clear c5
      by_cases c7 : ((qab l0 x6_1).f2) < a1
      ·rw [if_pos c7] at H
       have c7b0 : decide (((qab l0 x6_1).f2) < a1) = true := decide_eq_true c7
       clear c7
       have H' := Aside0.mk H
       clear H
       have p184 : 0 ≤ (x6_1 : Int) := of_decide_eq_true (by first | (with_reducible assumption) | assumption)
       have q184 : x6_1 < (l0.length : Int) := of_decide_eq_true (by first | (with_reducible assumption) | assumption)
       obtain ⟨ad184, A184_3, c184_3, e184, hx184_0, hx184_1, hx184_2, hx184_3, hl184_3, hi184_3⟩ := qa8 HR0.out x6_1 p184 q184
       cases e184
       have HR184_3 := Aside0.mk hi184_3
       have HC184_3 := Aside0.mk hl184_3
       clear hi184_3 hl184_3
       replace p184 := eq_true p184
       replace q184 := eq_true q184
       have p186 : 0 ≤ (x6_1 : Int) := of_decide_eq_true (by first | (with_reducible assumption) | assumption)
       have q186 : x6_1 < (l0.length : Int) := of_decide_eq_true (by first | (with_reducible assumption) | assumption)
       obtain ⟨ad186, A186_3, c186_3, e186, hx186_0, hx186_1, hx186_2, hx186_3, hl186_3, hi186_3⟩ := qa8 HR0.out x6_1 p186 q186
       obtain rfl : ad184 = ad186 := (by injection e186)
       have HR186_3 := Aside0.mk hi186_3
       have HC186_3 := Aside0.mk hl186_3
       clear hi186_3 hl186_3
       replace p186 := eq_true p186
       replace q186 := eq_true q186
       have ea_ := Option.some.inj (hx184_3.symm.trans hx186_3)
       injection ea_ with ea_ en_ ec_
       subst ea_
       subst ec_
       clear en_
       go_wp2
       go_roundg k1
       case measure => have := HK1.out; omega
       case rel => exact ⟨(wrap64 (x5_1 + 1)), (wrap64 (x6_1 + 1)), (by first | rfl | (simp; done) | (simp [*]; done)), (by first | rfl | (simp; done) | (simp [*]; done)), H', ⟨by have := HK1.out; omega⟩, by repeat (first | exact Drawn0.refl _ | apply Drawn0.step)⟩
      ·rw [if_neg c7] at H
       have c7b0 : decide (((qab l0 x6_1).f2) < a1) = false := decide_eq_false c7
       clear c7
       have H' := Aside0.mk H
       clear H
       have p184 : 0 ≤ (x6_1 : Int) := of_decide_eq_true (by first | (with_reducible assumption) | assumption)
       have q184 : x6_1 < (l0.length : Int) := of_decide_eq_true (by first | (with_reducible assumption) | assumption)
       obtain ⟨ad184, A184_3, c184_3, e184, hx184_0, hx184_1, hx184_2, hx184_3, hl184_3, hi184_3⟩ := qa8 HR0.out x6_1 p184 q184
       cases e184
       have HR184_3 := Aside0.mk hi184_3
       have HC184_3 := Aside0.mk hl184_3
       clear hi184_3 hl184_3
       replace p184 := eq_true p184
       replace q184 := eq_true q184
       have p186 : 0 ≤ (x6_1 : Int) := of_decide_eq_true (by first | (with_reducible assumption) | assumption)
       have q186 : x6_1 < (l0.length : Int) := of_decide_eq_true (by first | (with_reducible assumption) | assumption)
       obtain ⟨ad186, A186_3, c186_3, e186, hx186_0, hx186_1, hx186_2, hx186_3, hl186_3, hi186_3⟩ := qa8 HR0.out x6_1 p186 q186
       obtain rfl : ad184 = ad186 := (by injection e186)
       have HR186_3 := Aside0.mk hi186_3
       have HC186_3 := Aside0.mk hl186_3
       clear hi186_3 hl186_3
       replace p186 := eq_true p186
       replace q186 := eq_true q186
       have ea_ := Option.some.inj (hx184_3.symm.trans hx186_3)
       injection ea_ with ea_ en_ ec_
       subst ea_
       subst ec_
       clear en_
       go_wp2
       go_roundg k1
       case measure => have := HK1.out; omega
       case rel => exact ⟨(x5_1), (wrap64 (x6_1 + 1)), (by first | rfl | (simp; done) | (simp [*]; done)), (by first | rfl | (simp; done) | (simp [*]; done)), H', ⟨by have := HK1.out; omega⟩, by repeat (first | exact Drawn0.refl _ | apply Drawn0.step)⟩
    ·rw [if_neg c4] at H
     exact absurd H (by simp)
   ·rw [if_neg c3] at H
    have c3b0 : decide (x6_1 < (l0.length : Int)) = false := decide_eq_false c3
    clear c3
    obtain rfl := Option.some.inj H
    go_wp2
    go_ret
    exact ⟨by first | rfl | (simp; done) | (simp [*]; done), by repeat (first | exact Drawn0.refl _ | apply Drawn0.step)⟩
def burgageref22_name.l0 : Nat → List Int → Int → Int → Option (List Int × Int)
 | 0, _, _, _ => none
 | k + 1, x0, x1, x6 => if x6 < (x0.length : Int) then (if 0 ≤ x6 then (if (rd x0 x6) = x1 then (some (x0, x6)) else (burgageref22_name.l0 k x0 x1 (wrap64 (x6 + 1)))) else (none)) else ((some (([] : List Int) : List Int)).bind fun y188 => (if y188.length + x0.length < 17592186044416 then ((some (y188 ++ x0 : List Int)).bind fun y191 => (if y191.length < 17592186044416 then (some ((y191 ++ [x1]), (x0.length : Int))) else (none))) else (none)))
def burgageref22_name.f (k : Nat) (l0 : List Int) (a1 : Int) : Option (List Int × Int) := burgageref22_name.l0 k l0 a1 0
theorem burgageref22_name.mono_l : ∀ k, (∀ y0 y1 y2, LeO (burgageref22_name.l0 k y0 y1 y2) (burgageref22_name.l0 (k + 1) y0 y1 y2))
 | 0 => fun _ _ _ r h => by simp [burgageref22_name.l0] at h
 | k + 1 => by
  have ih0 := burgageref22_name.mono_l k
  ·intro y0 y1 y2
   unfold burgageref22_name.l0
   repeat' first
   | (with_reducible exact ih0 _ _ _)
   | (with_reducible exact LeO.refl _)
   | (with_reducible exact LeO.none _)
   | (with_reducible refine LeO.ite ?_ ?_)
   | (with_reducible refine LeO.bind ?_ (fun _ => ?_))
   | exact ih0 _ _ _
   | exact LeO.none _
   | refine LeO.ite ?_ ?_
   | refine LeO.bind ?_ (fun _ => ?_)
theorem burgageref22_name.mono : ∀ a0 a1 k, LeO (burgageref22_name.f k a0 a1) (burgageref22_name.f (k + 1) a0 a1) := by
 intro a0 a1 k
 have ih0 := burgageref22_name.mono_l k
 unfold burgageref22_name.f
 repeat' first
   | (with_reducible exact ih0 _ _ _)
   | (with_reducible exact LeO.refl _)
   | (with_reducible exact LeO.none _)
   | (with_reducible refine LeO.ite ?_ ?_)
   | (with_reducible refine LeO.bind ?_ (fun _ => ?_))
   | exact ih0 _ _ _
   | exact LeO.none _
   | refine LeO.ite ?_ ?_
   | refine LeO.bind ?_ (fun _ => ?_)
set_option maxHeartbeats 8000000 in
set_option maxRecDepth 100000 in
theorem burgageref22_name.calls (k : Nat) (P0_ : Nat → Prop) (u9000_ : Value) (l0 : List Int) (a1 : Int) (r1 : List Int) (r2 : Int) (w0 w : World) (hB : Below w0.heap.size w0 w) (ho0 : Kd.R (Kd.int .i64) 3 w w0.heap.size P0_ u9000_ l0) (h : burgageref22_name.f k l0 a1 = some (r1, r2)) :
  Calls Try.prog 45 #[u9000_, .int .i64 a1] w fun e w' => ∃ v0_ : Value, e = .returned (.tuple #[v0_, .int .i64 r2]) ∧ Kd.R (Kd.int .i64) 3 w' w0.heap.size (fun k_ => (P0_ k_ ∨ w.heap.size ≤ k_)) v0_ r1 ∧ Below w0.heap.size w0 w' ∧ Kept w w' (fun k_ => P0_ k_) := by
 have HO0 := Aside0.mk (show Kd.R (Kd.int .i64) 3 w w0.heap.size (fun k_ => (P0_ k_ ∨ w.heap.size ≤ k_)) u9000_ l0 from Kd.R_mono ho0 (fun k_ hk => (.inl hk)))
 have HK := Aside0.mk (Kept.refl w (fun k_ => P0_ k_))
 have HW0 := Aside0.mk hB.size
 have HB := Aside0.mk hB
 clear hB
 have H : (burgageref22_name.l0 k l0 a1 0) = some (r1, r2) := h
 clear h
 have H' := Aside0.mk H
 clear H
 go_enter Try.func45, Try.ntmps45
 go_wp2
 go_loopg [6] k (fun kq v6 w' => ∃ (x6_1 : Int), v6 = .int .i64 x6_1 ∧ Aside0 (burgageref22_name.l0 kq l0 a1 x6_1 = some (r1, r2)) ∧ Aside0 (kq ≤ k) ∧ Aside0 (Kd.R (Kd.int .i64) 3 w' w0.heap.size (fun k_ => (P0_ k_ ∨ w.heap.size ≤ k_)) u9000_ l0) ∧ Aside0 (Kept w w' (fun k_ => P0_ k_)) ∧ Aside0 (Below w0.heap.size w0 w'))
 case atStart => exact ⟨(0), (by first | rfl | (simp; done) | (simp [*]; done)), H', ⟨Nat.le_refl _⟩, ⟨by (with_reducible repeat (first | apply Kd.R_alloc | apply Kd.R_drewN | apply Kd.R_drew)); exact HO0.out⟩, ⟨by repeat (first | (with_reducible first | exact HK.out | apply Kept.alloc | apply Kept.drewN | apply Kept.drew) | exact HK.out)⟩, ⟨by repeat (first | (with_reducible first | exact HB.out | apply qac | apply qaa | apply qad) | exact HB.out)⟩⟩
 case round =>
  clear H'
  try clear p2
  obtain ⟨x6_1, rfl, HA, HK1, HO_0, HK, HB⟩ := hrel
  cases gk with
  | zero => exact absurd HA.out (by simp [burgageref22_name.l0])
  | succ k1 =>
   have H := HA.out
   clear HA
   simp only [burgageref22_name.l0] at H
   by_cases c3 : x6_1 < (l0.length : Int)
   ·rw [if_pos c3] at H
    have c3b0 : decide (x6_1 < (l0.length : Int)) = true := decide_eq_true c3
    clear c3
    by_cases c4 : 0 ≤ x6_1
    ·rw [if_pos c4] at H
     have c4b0 : decide (0 ≤ x6_1) = true := decide_eq_true c4
     clear c4
     by_cases c5 : (rd l0 x6_1) = a1
     ·rw [if_pos c5] at H
      have c5b0 : ((rd l0 x6_1) == a1) = true := beq_iff_eq.mpr c5
      have c5b1 : ((rd l0 x6_1) != a1) = false := bne_eq_false_iff_eq.mpr c5
      clear c5
      simp only [Option.some.injEq, Prod.mk.injEq] at H
      obtain ⟨rfl, rfl⟩ := H
      obtain ⟨Ao6, co6, eo6⟩ := Kd.R_slice HO_0.out
      subst eo6
      have p187 : 0 ≤ (x6_1 : Int) := of_decide_eq_true (by first | (with_reducible assumption) | assumption)
      have q187 : x6_1 < (l0.length : Int) := of_decide_eq_true (by first | (with_reducible assumption) | assumption)
      obtain ⟨ad187, e187, hx187_0⟩ := Kd.at_int (Kd.R_reads' HO_0.out).2.2 x6_1 p187 q187
      cases e187
      replace p187 := eq_true p187
      replace q187 := eq_true q187
      go_wp2
      go_ret2
      exact ⟨_, by first | rfl | (simp [qao, qan] <;> rfl) | (simp [*, qao, qan] <;> rfl), by (with_reducible repeat (first | apply Kd.R_alloc | apply Kd.R_drewN | apply Kd.R_drew)); exact HO_0.out, by repeat (first | (with_reducible first | exact HB.out | apply qac | apply qaa | apply qad) | exact HB.out), by repeat (first | (with_reducible first | exact HK.out | apply Kept.alloc | apply Kept.drewN | apply Kept.drew) | exact HK.out)⟩
     ·rw [if_neg c5] at H
      have c5b0 : ((rd l0 x6_1) == a1) = false := beq_eq_false_iff_ne.mpr c5
      have c5b1 : ((rd l0 x6_1) != a1) = true := bne_iff_ne.mpr c5
      have H' := Aside0.mk H
      clear H
      obtain ⟨Ao7, co7, eo7⟩ := Kd.R_slice HO_0.out
      subst eo7
      have p187 : 0 ≤ (x6_1 : Int) := of_decide_eq_true (by first | (with_reducible assumption) | assumption)
      have q187 : x6_1 < (l0.length : Int) := of_decide_eq_true (by first | (with_reducible assumption) | assumption)
      obtain ⟨ad187, e187, hx187_0⟩ := Kd.at_int (Kd.R_reads' HO_0.out).2.2 x6_1 p187 q187
      cases e187
      replace p187 := eq_true p187
      replace q187 := eq_true q187
      go_wp2
      go_roundg k1
      case measure => have := HK1.out; omega
      case rel => exact ⟨(wrap64 (x6_1 + 1)), (by first | rfl | (simp; done) | (simp [*]; done)), H', ⟨by have := HK1.out; omega⟩, ⟨by (with_reducible repeat (first | apply Kd.R_alloc | apply Kd.R_drewN | apply Kd.R_drew)); exact HO_0.out⟩, ⟨by repeat (first | (with_reducible first | exact HK.out | apply Kept.alloc | apply Kept.drewN | apply Kept.drew) | exact HK.out)⟩, ⟨by repeat (first | (with_reducible first | exact HB.out | apply qac | apply qaa | apply qad) | exact HB.out)⟩⟩
    ·rw [if_neg c4] at H
     exact absurd H (by simp)
   ·rw [if_neg c3] at H
    have c3b0 : decide (x6_1 < (l0.length : Int)) = false := decide_eq_false c3
    clear c3
    obtain ⟨y188, hy188⟩ : ∃ y_ : List Int, y_ = (([] : List Int)) := ⟨_, rfl⟩
    replace H : (if y188.length + l0.length < 17592186044416 then ((some (y188 ++ l0 : List Int)).bind fun y191 => (if y191.length < 17592186044416 then (some ((y191 ++ [a1]), (l0.length : Int))) else (none))) else (none)) = some (r1, r2) := by first | (rw [hy188]; with_reducible exact H) | (have H2_ := (Option.bind_some _ _).symm.trans H; rw [hy188]; with_reducible exact H2_) | (have H2_ := (Option.bind_some _ _).symm.trans H; with_reducible exact H2_) | with_reducible exact H | (rw [hy188]; exact H) | exact H
    have Ny188 := Aside0.mk hy188
    clear hy188
    by_cases c8 : y188.length + l0.length < 17592186044416
    ·rw [if_pos c8] at H
     have LMc8 := Aside0.mk c8
     clear c8
     obtain ⟨y191, hy191⟩ : ∃ y_ : List Int, y_ = (y188 ++ l0) := ⟨_, rfl⟩
     replace H : (if y191.length < 17592186044416 then (some ((y191 ++ [a1]), (l0.length : Int))) else (none)) = some (r1, r2) := by first | (rw [hy191]; with_reducible exact H) | (have H2_ := (Option.bind_some _ _).symm.trans H; rw [hy191]; with_reducible exact H2_) | (have H2_ := (Option.bind_some _ _).symm.trans H; with_reducible exact H2_) | with_reducible exact H | (rw [hy191]; exact H) | exact H
     have Ny191 := Aside0.mk hy191
     clear hy191
     by_cases c9 : y191.length < 17592186044416
     ·rw [if_pos c9] at H
      have LMc9 := Aside0.mk c9
      clear c9
      obtain ⟨y194, hy194⟩ : ∃ y_ : List Int, y_ = (y191 ++ [a1]) := ⟨_, rfl⟩
      replace H : (some (y194, (l0.length : Int))) = some (r1, r2) := by first | (rw [hy194]; with_reducible exact H) | (have H2_ := (Option.bind_some _ _).symm.trans H; rw [hy194]; with_reducible exact H2_) | (have H2_ := (Option.bind_some _ _).symm.trans H; with_reducible exact H2_) | with_reducible exact H | (rw [hy194]; exact H) | exact H
      have Ny194 := Aside0.mk hy194
      clear hy194
      simp only [Option.some.injEq, Prod.mk.injEq] at H
      obtain ⟨rfl, rfl⟩ := H
      obtain ⟨Ao10, co10, eo10⟩ := Kd.R_slice HO_0.out
      subst eo10
      go_wp2_with (first | ((with_reducible refine qau (N := 21) rfl ?_); refine Kd.R_lit (Kd.int .i64) _ 3 ?hg (N := 21) ?hd (xs := ([] : List Int)) (inner := []) (ok := fun _ => True) (okp := fun _ => True) ?hr ?hp (fun _ hk => hk) trivial (Below.refl _ _) (Nat.le_refl _) (by simp) ?_; (case hd => rfl); (case hg => rfl); (case hr => first | (go_simp; done) | (go_simp; rfl)); (case hp => exact (Reps.none _ _)); intro v189 w11 ho12 hb hg_ hnew_; clear hg_ hnew_; (first | rw [← Ny188.out] at ho12 | (simp only [Int.reduceToNat] at ho12; rw [← Ny188.out] at ho12)); have n0_ := Aside0.mk (Kd.R_elder' (by (with_reducible repeat (first | apply Kd.R_alloc | apply Kd.R_drewN | apply Kd.R_drew)); exact HO_0.out) (Kd.R_base ho12) hb); have n1_ := Aside0.mk (Kd.R_lower (Kd.R_new' (Kd.R_newM (M := fun k_ => (P0_ k_ ∨ w.heap.size ≤ k_)) ho12 (by first | exact HK.out.1 | exact (show Kept w _ (fun k_ => P0_ k_) from by repeat (first | (with_reducible first | exact HK.out | apply Kept.alloc | apply Kept.drewN | apply Kept.drew) | exact HK.out)).1) (fun k_ h_ => .inr h_)) (Kd.R_lt (by (with_reducible repeat (first | apply Kd.R_alloc | apply Kd.R_drewN | apply Kd.R_drew)); exact HO_0.out))) (qal (by repeat (first | (with_reducible first | exact HB.out | apply qac | apply qaa | apply qad) | exact HB.out)))); have n2_ := Aside0.mk (Kept.below (S := (fun k_ => P0_ k_)) (by repeat (first | (with_reducible first | exact HK.out | apply Kept.alloc | apply Kept.drewN | apply Kept.drew) | exact HK.out)) hb); have n3_ := Aside0.mk (qam (by repeat (first | (with_reducible first | exact HB.out | apply qac | apply qaa | apply qad) | exact HB.out)) hb); clear HO_0; clear HK; clear HB; have HO_0 := n0_; have HO190 := n1_; have HK := n2_; have HB := n3_; clear n0_ n1_ n2_ n3_; clear hb ho12) | ((with_reducible refine gate_builtin (b := .append) (xs := #[.tmp 21, .tmp 22]) rfl ?_); at_builtin; refine Kd.R_append_rows (Kd.int .i64) (w0 := w0) w0.heap.size rfl (.tmp 21) (.tmp 22) 29 3 (.int .i64 0) 8 rfl Try.underlying29 info3 rfl (by decide) (by omega) v189 y188 l0 _ _ _ (fun k_ => (P0_ k_ ∨ w.heap.size ≤ k_) ∧ some k_ ≠ (.slice Ao10 l0.length co10 : Value).ownBlock) (fun _ => False) rfl rfl ?aO ?aR (fun _ _ h => h) (fun _ h => h.elim) ?aF ?aB ?aS ?aL ?_; (case aR => repeat (first | exact (Kd.R_reads' HO_0.out).2.2 | (with_reducible refine Kd.C_alloc ?_ _) | (with_reducible refine Kd.C_drewN ?_ _) | (with_reducible refine Kd.C_drew ?_))); (case aB => exact (by repeat (first | (with_reducible first | exact HB.out | apply qac | apply qaa | apply qad) | exact HB.out))); (case aF => exact (fun k_ hk => ⟨(.inr (Nat.le_trans (by first | exact HK.out.1 | exact (show Kept w _ (fun k_ => P0_ k_) from by repeat (first | (with_reducible first | exact HK.out | apply Kept.alloc | apply Kept.drewN | apply Kept.drew) | exact HK.out)).1) hk)), Kd.fresh' (Kd.R_lt (by (with_reducible repeat (first | apply Kd.R_alloc | apply Kd.R_drewN | apply Kd.R_drew)); exact HO_0.out)) k_ hk⟩)); (case aO => exact (by (with_reducible repeat (first | apply Kd.R_alloc | apply Kd.R_drewN | apply Kd.R_drew)); exact Kd.R_mono HO190.out (fun _ hk => ⟨hk.1.1, hk.2⟩))); (case aS => exact (qal (by repeat (first | (with_reducible first | exact HB.out | apply qac | apply qaa | apply qad) | exact HB.out)))); (case aL => have := LMc8.out; omega); intro v192 w13 ho hb hg hat; rw [← Ny191.out] at ho; have n0_ := Aside0.mk (Kd.R_after (ok := (fun k_ => (P0_ k_ ∨ w.heap.size ≤ k_))) (by (with_reducible repeat (first | apply Kd.R_alloc | apply Kd.R_drewN | apply Kd.R_drew)); exact HO_0.out) hg hat); have n1_ := Aside0.mk (hb); have n2_ := Aside0.mk (Kept.of_grown (S := (fun k_ => P0_ k_)) hg (by repeat (first | (with_reducible first | exact HK.out | apply Kept.alloc | apply Kept.drewN | apply Kept.drew) | exact HK.out)) (fun k_ e_ => (HO190.out.1 k_ e_).1.1)); have n3_ := Aside0.mk (ho); clear HO_0; clear HB; clear HK; clear HO190; have HO_0 := n0_; have HB := n1_; have HK := n2_; have HO193 := n3_; clear n0_ n1_ n2_ n3_; clear ho hb hg hat) | ((with_reducible refine gate_builtin (b := .append) (xs := #[.tmp 23, .tmp 25]) rfl ?_); at_builtin; refine Kd.R_append (Kd.int .i64) (w0 := w0) w0.heap.size rfl (.tmp 23) (.tmp 25) 29 3 (.int .i64 0) 8 rfl Try.underlying29 info3 rfl (by decide) (by omega) v192 y191 a1 [.int .i64 a1] (fun k_ => (P0_ k_ ∨ w.heap.size ≤ k_) ∧ some k_ ≠ (.slice Ao10 l0.length co10 : Value).ownBlock) (fun _ => False) rfl rfl ?aP (fun _ hk => hk.elim) ?aF ?aO ?aB ?aS ?aL ?_; (case aP => exact rfl); (case aB => exact (by repeat (first | (with_reducible first | exact HB.out | apply qac | apply qaa | apply qad) | exact HB.out))); (case aF => exact (fun k_ hk => ⟨(.inr (Nat.le_trans (by first | exact HK.out.1 | exact (show Kept w _ (fun k_ => P0_ k_) from by repeat (first | (with_reducible first | exact HK.out | apply Kept.alloc | apply Kept.drewN | apply Kept.drew) | exact HK.out)).1) hk)), Kd.fresh' (Kd.R_lt (by (with_reducible repeat (first | apply Kd.R_alloc | apply Kd.R_drewN | apply Kd.R_drew)); exact HO_0.out)) k_ hk⟩)); (case aO => exact (by (with_reducible repeat (first | apply Kd.R_alloc | apply Kd.R_drewN | apply Kd.R_drew)); exact HO193.out)); (case aS => exact (qal (by repeat (first | (with_reducible first | exact HB.out | apply qac | apply qaa | apply qad) | exact HB.out)))); (case aL => have := LMc9.out; omega); intro v195 w14 ho hb hg hat; rw [← Ny194.out] at ho; have n0_ := Aside0.mk (Kd.R_after (ok := (fun k_ => (P0_ k_ ∨ w.heap.size ≤ k_))) (by (with_reducible repeat (first | apply Kd.R_alloc | apply Kd.R_drewN | apply Kd.R_drew)); exact HO_0.out) hg hat); have n1_ := Aside0.mk (hb); have n2_ := Aside0.mk (Kept.of_grown (S := (fun k_ => P0_ k_)) hg (by repeat (first | (with_reducible first | exact HK.out | apply Kept.alloc | apply Kept.drewN | apply Kept.drew) | exact HK.out)) (fun k_ e_ => (HO193.out.1 k_ e_).1)); have n3_ := Aside0.mk (ho); clear HO_0; clear HB; clear HK; clear HO193; have HO_0 := n0_; have HB := n1_; have HK := n2_; have HO196 := n3_; clear n0_ n1_ n2_ n3_; clear ho hb hg hat))
      go_ret2
      exact ⟨_, by first | rfl | (simp [qao, qan] <;> rfl) | (simp [*, qao, qan] <;> rfl), by (with_reducible repeat (first | apply Kd.R_alloc | apply Kd.R_drewN | apply Kd.R_drew)); exact Kd.R_mono HO196.out (fun _ hk => hk.1), by repeat (first | (with_reducible first | exact HB.out | apply qac | apply qaa | apply qad) | exact HB.out), by repeat (first | (with_reducible first | exact HK.out | apply Kept.alloc | apply Kept.drewN | apply Kept.drew) | exact HK.out)⟩
     ·rw [if_neg c9] at H
      exact absurd H (by simp)
    ·rw [if_neg c8] at H
     exact absurd H (by simp)
end Go.Proofs.Ytngkneknopenmaa.T
end
section
namespace Go.Proofs.Ytngkneknopenmaa.T
open Go.Proofs.Ytngkneknopenmaa Go.Proofs.Ytngkneknopenmaa.Give Go.Proofs.Ytngkneknopenmaa.K
open Go.RowKit Go.Proofs.YtngkneknopenmaaW.PrintWords Go.Proofs.YtngkneknopenmaaW.PrintLast Go.Proofs.YtngkneknopenmaaW.PrintMore
attribute [local go_sem] qb3 qb1 qca qb9 qbu qbt qb2 qb0   -- for this text's walks alone
set_option linter.unusedVariables false
set_option linter.unusedSimpArgs false
mutual
def burgageref22_Of.l0 : Nat → List (S55) → List (S55) → List (S55) → List Int → List Int → List Int → Int → Option ((List (S55)))
 | 0, _, _, _, _, _, _, _ => none
 | k + 1, x0, x3, x4, x5, x6, x7, x8 => if x8 < (x4.length : Int) then (if 0 ≤ x8 then ((burgageref22_rank.f k x0 ((qab x4 x8).f1)).bind fun t213 => ((burgageref22_rank.f k x0 ((qab x4 x8).f2)).bind fun t215 => ((burgageref22_name.f k x5 ((qab x4 x8).f0)).bind fun bt218 => (burgageref22_Of.l1 k x0 x3 x4 bt218.1 x6 x7 x8 0 bt218.2 t213 t215 ([] : List (S51)))))) else (none)) else (some x3)
def burgageref22_Of.l1 : Nat → List (S55) → List (S55) → List (S55) → List Int → List Int → List Int → Int → Int → Int → Int → Int → List (S51) → Option ((List (S55)))
 | 0, _, _, _, _, _, _, _, _, _, _, _, _ => none
 | k + 1, x0, x3, x4, x5, x6, x7, x8, x10, x217000, x217001, x217002, x217003 => if 0 ≤ x8 then (if x8 < (x4.length : Int) then (if x10 < (((qab x4 x8).f3).length : Int) then (if 0 ≤ x10 then ((burgageref22_name.f k x6 ((qaj ((qab x4 x8).f3) x10).f1)).bind fun bt229 => (if ((qaj ((qab x4 x8).f3) x10).f2) = 0 then (if x217003.length < 5864062014805 then (burgageref22_Of.l1 k x0 x3 x4 x5 bt229.1 x7 x8 (wrap64 (x10 + 1)) x217000 x217001 x217002 (x217003 ++ [(⟨(qaj ((qab x4 x8).f3) x10).f0, bt229.2, (qaj ((qab x4 x8).f3) x10).f2⟩ : S51)])) else (none)) else ((burgageref22_name.f k x7 ((qaj ((qab x4 x8).f3) x10).f2)).bind fun bt236 => (if x217003.length < 5864062014805 then (burgageref22_Of.l1 k x0 x3 x4 x5 bt229.1 bt236.1 x8 (wrap64 (x10 + 1)) x217000 x217001 x217002 (x217003 ++ [(⟨(qaj ((qab x4 x8).f3) x10).f0, bt229.2, wrap64 (bt236.2 + 1)⟩ : S51)])) else (none))))) else (none)) else (if x3.length < 2932031007402 then (burgageref22_Of.l0 k x0 (x3 ++ [(⟨x217000, x217001, x217002, x217003⟩ : S55)]) x4 x5 x6 x7 (wrap64 (x8 + 1))) else (none))) else (none)) else (none)
end
def burgageref22_Of.f (k : Nat) (l0 : List (S55)) : Option ((List (S55))) := (burgageref22_sorted.f k l0).bind fun t200 => (burgageref22_Of.l0 k l0 (([] : List (S55))) t200 (([] : List Int)) (([] : List Int)) (([] : List Int)) 0)
theorem burgageref22_Of.mono_l : ∀ k, (∀ y0 y1 y2 y3 y4 y5 y6, LeO (burgageref22_Of.l0 k y0 y1 y2 y3 y4 y5 y6) (burgageref22_Of.l0 (k + 1) y0 y1 y2 y3 y4 y5 y6)) ∧ (∀ y0 y1 y2 y3 y4 y5 y6 y7 y8 y9 y10 y11, LeO (burgageref22_Of.l1 k y0 y1 y2 y3 y4 y5 y6 y7 y8 y9 y10 y11) (burgageref22_Of.l1 (k + 1) y0 y1 y2 y3 y4 y5 y6 y7 y8 y9 y10 y11))
 | 0 => ⟨fun _ _ _ _ _ _ _ r h => by simp [burgageref22_Of.l0] at h, fun _ _ _ _ _ _ _ _ _ _ _ _ r h => by simp [burgageref22_Of.l1] at h⟩
 | k + 1 => by
  obtain ⟨ih0, ih1⟩ := burgageref22_Of.mono_l k
  refine ⟨?_, ?_⟩
  ·intro y0 y1 y2 y3 y4 y5 y6
   unfold burgageref22_Of.l0
   repeat' first
   | (with_reducible exact ih0 _ _ _ _ _ _ _)
   | (with_reducible exact ih1 _ _ _ _ _ _ _ _ _ _ _ _)
   | (with_reducible exact burgageref22_name.mono _ _ _)
   | (with_reducible exact burgageref22_rank.mono _ _ _)
   | (with_reducible exact burgageref22_sorted.mono _ _)
   | (with_reducible exact LeO.refl _)
   | (with_reducible exact LeO.none _)
   | (with_reducible refine LeO.ite ?_ ?_)
   | (with_reducible refine LeO.bind ?_ (fun _ => ?_))
   | exact ih0 _ _ _ _ _ _ _
   | exact ih1 _ _ _ _ _ _ _ _ _ _ _ _
   | exact burgageref22_name.mono _ _ _
   | exact burgageref22_rank.mono _ _ _
   | exact burgageref22_sorted.mono _ _
   | exact LeO.none _
   | refine LeO.ite ?_ ?_
   | refine LeO.bind ?_ (fun _ => ?_)
  ·intro y0 y1 y2 y3 y4 y5 y6 y7 y8 y9 y10 y11
   unfold burgageref22_Of.l1
   repeat' first
   | (with_reducible exact ih0 _ _ _ _ _ _ _)
   | (with_reducible exact ih1 _ _ _ _ _ _ _ _ _ _ _ _)
   | (with_reducible exact burgageref22_name.mono _ _ _)
   | (with_reducible exact burgageref22_rank.mono _ _ _)
   | (with_reducible exact burgageref22_sorted.mono _ _)
   | (with_reducible exact LeO.refl _)
   | (with_reducible exact LeO.none _)
   | (with_reducible refine LeO.ite ?_ ?_)
   | (with_reducible refine LeO.bind ?_ (fun _ => ?_))
   | exact ih0 _ _ _ _ _ _ _
   | exact ih1 _ _ _ _ _ _ _ _ _ _ _ _
   | exact burgageref22_name.mono _ _ _
   | exact burgageref22_rank.mono _ _ _
   | exact burgageref22_sorted.mono _ _
   | exact LeO.none _
   | refine LeO.ite ?_ ?_
   | refine LeO.bind ?_ (fun _ => ?_)
theorem burgageref22_Of.mono : ∀ a0 k, LeO (burgageref22_Of.f k a0) (burgageref22_Of.f (k + 1) a0) := by
 intro a0 k
 obtain ⟨ih0, ih1⟩ := burgageref22_Of.mono_l k
 unfold burgageref22_Of.f
 repeat' first
   | (with_reducible exact ih0 _ _ _ _ _ _ _)
   | (with_reducible exact ih1 _ _ _ _ _ _ _ _ _ _ _ _)
   | (with_reducible exact burgageref22_name.mono _ _ _)
   | (with_reducible exact burgageref22_rank.mono _ _ _)
   | (with_reducible exact burgageref22_sorted.mono _ _)
   | (with_reducible exact LeO.refl _)
   | (with_reducible exact LeO.none _)
   | (with_reducible refine LeO.ite ?_ ?_)
   | (with_reducible refine LeO.bind ?_ (fun _ => ?_))
   | exact ih0 _ _ _ _ _ _ _
   | exact ih1 _ _ _ _ _ _ _ _ _ _ _ _
   | exact burgageref22_name.mono _ _ _
   | exact burgageref22_rank.mono _ _ _
   | exact burgageref22_sorted.mono _ _
   | exact LeO.none _
   | refine LeO.ite ?_ ?_
   | refine LeO.bind ?_ (fun _ => ?_)
def burgageref22_Of.T9 : Bool × List (List Nat × List Nat) := (true, [([], []), ([], []), ([], []), ([1, 2], [1, 2]), ([3], [3]), ([4], [4]), ([0, 5], [0, 5]), ([], []), ([], []), ([], []), ([8, 9], [8, 9]), ([10], [10]), ([11], [11]), ([7, 12, 6], [7, 12]), ([6, 13], [6, 13]), ([], []), ([15, 14, 13, 0, 1, 2, 3, 4, 5, 6, 7, 8, 9, 10, 11, 12, 13, 14, 15], [14, 15])])
def burgageref22_Of.B9 : List Nat := [0, 0, 0, 6, 14, 30, 63, 0, 0, 0, 768, 1792, 3840, 8191, 16383, 0, 65535]
theorem burgageref22_Of.tab9 : rtab .any (opsOf Try.f17 9) = burgageref22_Of.T9 := by kernel_rfl
theorem burgageref22_Of.bits9 : waitsOk burgageref22_Of.T9.2 burgageref22_Of.B9 = true := by kernel_rfl
set_option maxHeartbeats 8000000 in
set_option maxRecDepth 100000 in
theorem burgageref22_Of.calls (k : Nat) (P0_ : Nat → Prop) (A0 : Option Addr) (c0 : Nat) (l0 : List (S55)) (r : List (S55)) (w : World) (hs0 : Kd.V k55 55 w w.heap.size (fun k_ => P0_ k_) (.slice A0 l0.length c0) l0) (h : burgageref22_Of.f k l0 = some r) :
  Calls Try.prog 17 #[.slice A0 l0.length c0] w fun e w' => ∃ v0_ : Value, e = .returned (v0_) ∧ Kd.N k55 55 w' w.heap.size (fun k_ => (P0_ k_ ∨ w.heap.size ≤ k_)) v0_ r ∧ Below w.heap.size w w' := by
 have hu55 := Try.underlying55
 have hu51 := Try.underlying51
 have HO0 := Aside0.mk (show Kd.V k55 55 w w.heap.size (fun k_ => (P0_ k_ ∨ w.heap.size ≤ k_)) (.slice A0 l0.length c0) l0 from Kd.V_mono hs0 (fun k_ hk => .inl hk))
 have HB := Aside0.mk (Below.refl w.heap.size w)
 have H : ((burgageref22_sorted.f k l0).bind fun t200 => (burgageref22_Of.l0 k l0 (([] : List (S55))) t200 (([] : List Int)) (([] : List Int)) (([] : List Int)) 0)) = some r := h
 clear h
 obtain ⟨y197, hy197⟩ : ∃ y_ : List (S55), y_ = (([] : List (S55))) := ⟨_, rfl⟩
 replace H : ((burgageref22_sorted.f k l0).bind fun t200 => (burgageref22_Of.l0 k l0 y197 t200 (([] : List Int)) (([] : List Int)) (([] : List Int)) 0)) = some r := by first | (rw [hy197]; with_reducible exact H) | (have H2_ := (Option.bind_some _ _).symm.trans H; rw [hy197]; with_reducible exact H2_) | (have H2_ := (Option.bind_some _ _).symm.trans H; with_reducible exact H2_) | with_reducible exact H | (rw [hy197]; exact H) | exact H
 have Ny197 := Aside0.mk hy197
 clear hy197
 replace H := Option.bind_eq_some_iff.mp H
 obtain ⟨t200, A20, H⟩ := H
 replace H : (burgageref22_Of.l0 k l0 y197 t200 (([] : List Int)) (([] : List Int)) (([] : List Int)) 0) = some r := H
 have A2 := Aside0.mk A20
 clear A20
 obtain ⟨y203, hy203⟩ : ∃ y_ : List Int, y_ = (([] : List Int)) := ⟨_, rfl⟩
 replace H : (burgageref22_Of.l0 k l0 y197 t200 y203 (([] : List Int)) (([] : List Int)) 0) = some r := by first | (rw [hy203]; with_reducible exact H) | (have H2_ := (Option.bind_some _ _).symm.trans H; rw [hy203]; with_reducible exact H2_) | (have H2_ := (Option.bind_some _ _).symm.trans H; with_reducible exact H2_) | with_reducible exact H | (rw [hy203]; exact H) | exact H
 have Ny203 := Aside0.mk hy203
 clear hy203
 obtain ⟨y206, hy206⟩ : ∃ y_ : List Int, y_ = (([] : List Int)) := ⟨_, rfl⟩
 replace H : (burgageref22_Of.l0 k l0 y197 t200 y203 y206 (([] : List Int)) 0) = some r := by first | (rw [hy206]; with_reducible exact H) | (have H2_ := (Option.bind_some _ _).symm.trans H; rw [hy206]; with_reducible exact H2_) | (have H2_ := (Option.bind_some _ _).symm.trans H; with_reducible exact H2_) | with_reducible exact H | (rw [hy206]; exact H) | exact H
 have Ny206 := Aside0.mk hy206
 clear hy206
 obtain ⟨y209, hy209⟩ : ∃ y_ : List Int, y_ = (([] : List Int)) := ⟨_, rfl⟩
 replace H : (burgageref22_Of.l0 k l0 y197 t200 y203 y206 y209 0) = some r := by first | (rw [hy209]; with_reducible exact H) | (have H2_ := (Option.bind_some _ _).symm.trans H; rw [hy209]; with_reducible exact H2_) | (have H2_ := (Option.bind_some _ _).symm.trans H; with_reducible exact H2_) | with_reducible exact H | (rw [hy209]; exact H) | exact H
 have Ny209 := Aside0.mk hy209
 clear hy209
 have H' := Aside0.mk H
 clear H
 go_enter Try.func17, Try.ntmps17
 go_wp2_with (first | ((with_reducible refine qau (N := 12) rfl ?_); refine Kd.N_lit k55 _ 55 ?hg (N' := 12) ?hd (xs := ([] : List (S55))) (inner := []) (ok := (fun k_ => (P0_ k_ ∨ w.heap.size ≤ k_))) (okp := (fun k_ => (P0_ k_ ∨ w.heap.size ≤ k_))) ?hr ?hp (fun _ hk => hk) ((show ∀ k_, w.heap.size ≤ k_ → (fun k_ => (P0_ k_ ∨ w.heap.size ≤ k_)) k_ from fun k_ hk => (.inr (Nat.le_trans (qal (by repeat (first | (with_reducible first | exact HB.out | apply qac | apply qaa | apply qad) | exact HB.out))) hk))) _ (Nat.le_refl _)) (Below.refl _ _) (Nat.le_refl _) (by simp) ?_; (case hd => rfl); (case hg => rfl); (case hr => first | (go_simp; done) | (go_simp; rfl)); (case hp => exact (Reps.none _ _)); intro v198 w3 ho4 hb hg_ hnew_; clear hg_ hnew_; (first | rw [← Ny197.out] at ho4 | (simp only [Int.reduceToNat] at ho4; rw [← Ny197.out] at ho4)); have n0_ := Aside0.mk (Kd.V_elder' (by (with_reducible repeat (first | apply Kd.V_alloc | apply Kd.V_drewN | apply Kd.V_drew)); exact HO0.out) (Kd.N_base ho4) hb); have n1_ := Aside0.mk (Kd.N_lower ho4 (qal (by repeat (first | (with_reducible first | exact HB.out | apply qac | apply qaa | apply qad) | exact HB.out)))); have n2_ := Aside0.mk (qam (by repeat (first | (with_reducible first | exact HB.out | apply qac | apply qaa | apply qad) | exact HB.out)) hb); clear HO0; clear HB; have HO0 := n0_; have HO199 := n1_; have HB := n2_; clear n0_ n1_ n2_; clear hb ho4) | ((with_reducible refine qbd (f := 43) rfl ?_); refine qce (some 14) rfl rfl Try.func43 (by kernel_rfl) rfl #[.slice A0 l0.length c0] rfl (by (try simp only [List.map_toArray, List.map_cons, List.map_nil]); first | done | rfl | (simp only [List.length_drop, List.length_take]; rfl)) ?_; (with_reducible refine (burgageref22_sorted.calls k (fun k_ => ((P0_ k_ ∨ w.heap.size ≤ k_) ∧ some k_ ≠ (v198 : Value).ownBlock)) _ _ l0 t200 _ ?side1 A2.out).mono ?_); (case side1 => exact HO0.out); rintro e w5 ⟨v201, rfl, ho0, hb⟩; refine ⟨_, rfl, ?_⟩; have n0_ := Aside0.mk (Kd.V_elder' (by (with_reducible repeat (first | apply Kd.V_alloc | apply Kd.V_drewN | apply Kd.V_drew)); exact HO0.out) (Kd.N_base ho0) hb); have n1_ := Aside0.mk (Kd.N_elder' (by (with_reducible repeat (first | apply Kd.N_alloc | apply Kd.N_drewN | apply Kd.N_drew)); exact HO199.out) (Kd.N_base ho0) hb); have n2_ := Aside0.mk (Kd.N_lower (Kd.N_mono (ok' := fun k_ => (P0_ k_ ∨ w.heap.size ≤ k_) ∧ some k_ ≠ (v198 : Value).ownBlock) ho0 (fun k_ hk_ => ⟨Or.elim hk_ (fun hs_ => hs_.1) (fun hn_ => (.inr (Nat.le_trans (qal (by repeat (first | (with_reducible first | exact HB.out | apply qac | apply qaa | apply qad) | exact HB.out))) hn_))), Or.elim hk_ (fun hs_ => hs_.2) (fun hn_ => (Kd.fresh' (Kd.N_lt (by (with_reducible repeat (first | apply Kd.N_alloc | apply Kd.N_drewN | apply Kd.N_drew)); exact HO199.out)) k_ hn_))⟩)) (qal (by repeat (first | (with_reducible first | exact HB.out | apply qac | apply qaa | apply qad) | exact HB.out)))); have n3_ := Aside0.mk (qam (by repeat (first | (with_reducible first | exact HB.out | apply qac | apply qaa | apply qad) | exact HB.out)) hb); clear HO0; clear HO199; clear HB; have HO0 := n0_; have HO199 := n1_; have HO202 := n2_; have HB := n3_; clear n0_ n1_ n2_ n3_; (try clear hb); (try clear hb2); (try clear hk); (try clear hi); (try clear ho0)) | ((with_reducible refine qau (N := 15) rfl ?_); refine Kd.R_lit (Kd.int .i64) _ 3 ?hg (N := 15) ?hd (xs := ([] : List Int)) (inner := []) (ok := fun _ => True) (okp := fun _ => True) ?hr ?hp (fun _ hk => hk) trivial (Below.refl _ _) (Nat.le_refl _) (by simp) ?_; (case hd => rfl); (case hg => rfl); (case hr => first | (go_simp; done) | (go_simp; rfl)); (case hp => exact (Reps.none _ _)); intro v204 w6 ho7 hb hg_ hnew_; clear hg_ hnew_; (first | rw [← Ny203.out] at ho7 | (simp only [Int.reduceToNat] at ho7; rw [← Ny203.out] at ho7)); have n0_ := Aside0.mk (Kd.V_elder' (by (with_reducible repeat (first | apply Kd.V_alloc | apply Kd.V_drewN | apply Kd.V_drew)); exact HO0.out) (Kd.R_base ho7) hb); have n1_ := Aside0.mk (Kd.N_elder' (by (with_reducible repeat (first | apply Kd.N_alloc | apply Kd.N_drewN | apply Kd.N_drew)); exact HO199.out) (Kd.R_base ho7) hb); have n2_ := Aside0.mk (Kd.N_elder' (by (with_reducible repeat (first | apply Kd.N_alloc | apply Kd.N_drewN | apply Kd.N_drew)); exact HO202.out) (Kd.R_base ho7) hb); have n3_ := Aside0.mk (Kd.R_lower (Kd.R_newM (M := fun k_ => (w.heap.size ≤ k_)) ho7 (qal (by repeat (first | (with_reducible first | exact HB.out | apply qac | apply qaa | apply qad) | exact HB.out))) (fun k_ h_ => h_)) (qal (by repeat (first | (with_reducible first | exact HB.out | apply qac | apply qaa | apply qad) | exact HB.out)))); have n4_ := Aside0.mk (qam (by repeat (first | (with_reducible first | exact HB.out | apply qac | apply qaa | apply qad) | exact HB.out)) hb); clear HO0; clear HO199; clear HO202; clear HB; have HO0 := n0_; have HO199 := n1_; have HO202 := n2_; have HO205 := n3_; have HB := n4_; clear n0_ n1_ n2_ n3_ n4_; clear hb ho7) | ((with_reducible refine qau (N := 16) rfl ?_); refine Kd.R_lit (Kd.int .i64) _ 3 ?hg (N := 16) ?hd (xs := ([] : List Int)) (inner := []) (ok := fun _ => True) (okp := fun _ => True) ?hr ?hp (fun _ hk => hk) trivial (Below.refl _ _) (Nat.le_refl _) (by simp) ?_; (case hd => rfl); (case hg => rfl); (case hr => first | (go_simp; done) | (go_simp; rfl)); (case hp => exact (Reps.none _ _)); intro v207 w8 ho9 hb hg_ hnew_; clear hg_ hnew_; (first | rw [← Ny206.out] at ho9 | (simp only [Int.reduceToNat] at ho9; rw [← Ny206.out] at ho9)); have n0_ := Aside0.mk (Kd.V_elder' (by (with_reducible repeat (first | apply Kd.V_alloc | apply Kd.V_drewN | apply Kd.V_drew)); exact HO0.out) (Kd.R_base ho9) hb); have n1_ := Aside0.mk (Kd.N_elder' (by (with_reducible repeat (first | apply Kd.N_alloc | apply Kd.N_drewN | apply Kd.N_drew)); exact HO199.out) (Kd.R_base ho9) hb); have n2_ := Aside0.mk (Kd.N_elder' (by (with_reducible repeat (first | apply Kd.N_alloc | apply Kd.N_drewN | apply Kd.N_drew)); exact HO202.out) (Kd.R_base ho9) hb); have n3_ := Aside0.mk (Kd.R_elder' (by (with_reducible repeat (first | apply Kd.R_alloc | apply Kd.R_drewN | apply Kd.R_drew)); exact HO205.out) (Kd.R_base ho9) hb); have n4_ := Aside0.mk (Kd.R_lower (Kd.R_new' (Kd.R_newM (M := fun k_ => (w.heap.size ≤ k_)) ho9 (qal (by repeat (first | (with_reducible first | exact HB.out | apply qac | apply qaa | apply qad) | exact HB.out))) (fun k_ h_ => h_)) (Kd.R_lt (by (with_reducible repeat (first | apply Kd.R_alloc | apply Kd.R_drewN | apply Kd.R_drew)); exact HO205.out))) (qal (by repeat (first | (with_reducible first | exact HB.out | apply qac | apply qaa | apply qad) | exact HB.out)))); have n5_ := Aside0.mk (qam (by repeat (first | (with_reducible first | exact HB.out | apply qac | apply qaa | apply qad) | exact HB.out)) hb); clear HO0; clear HO199; clear HO202; clear HO205; clear HB; have HO0 := n0_; have HO199 := n1_; have HO202 := n2_; have HO205 := n3_; have HO208 := n4_; have HB := n5_; clear n0_ n1_ n2_ n3_ n4_ n5_; clear hb ho9) | ((with_reducible refine qau (N := 17) rfl ?_); refine Kd.R_lit (Kd.int .i64) _ 3 ?hg (N := 17) ?hd (xs := ([] : List Int)) (inner := []) (ok := fun _ => True) (okp := fun _ => True) ?hr ?hp (fun _ hk => hk) trivial (Below.refl _ _) (Nat.le_refl _) (by simp) ?_; (case hd => rfl); (case hg => rfl); (case hr => first | (go_simp; done) | (go_simp; rfl)); (case hp => exact (Reps.none _ _)); intro v210 w10 ho11 hb hg_ hnew_; clear hg_ hnew_; (first | rw [← Ny209.out] at ho11 | (simp only [Int.reduceToNat] at ho11; rw [← Ny209.out] at ho11)); have n0_ := Aside0.mk (Kd.V_elder' (by (with_reducible repeat (first | apply Kd.V_alloc | apply Kd.V_drewN | apply Kd.V_drew)); exact HO0.out) (Kd.R_base ho11) hb); have n1_ := Aside0.mk (Kd.N_elder' (by (with_reducible repeat (first | apply Kd.N_alloc | apply Kd.N_drewN | apply Kd.N_drew)); exact HO199.out) (Kd.R_base ho11) hb); have n2_ := Aside0.mk (Kd.N_elder' (by (with_reducible repeat (first | apply Kd.N_alloc | apply Kd.N_drewN | apply Kd.N_drew)); exact HO202.out) (Kd.R_base ho11) hb); have n3_ := Aside0.mk (Kd.R_elder' (by (with_reducible repeat (first | apply Kd.R_alloc | apply Kd.R_drewN | apply Kd.R_drew)); exact HO205.out) (Kd.R_base ho11) hb); have n4_ := Aside0.mk (Kd.R_elder' (by (with_reducible repeat (first | apply Kd.R_alloc | apply Kd.R_drewN | apply Kd.R_drew)); exact HO208.out) (Kd.R_base ho11) hb); have n5_ := Aside0.mk (Kd.R_lower (Kd.R_new' (Kd.R_new' (Kd.R_newM (M := fun k_ => (w.heap.size ≤ k_)) ho11 (qal (by repeat (first | (with_reducible first | exact HB.out | apply qac | apply qaa | apply qad) | exact HB.out))) (fun k_ h_ => h_)) (Kd.R_lt (by (with_reducible repeat (first | apply Kd.R_alloc | apply Kd.R_drewN | apply Kd.R_drew)); exact HO205.out))) (Kd.R_lt (by (with_reducible repeat (first | apply Kd.R_alloc | apply Kd.R_drewN | apply Kd.R_drew)); exact HO208.out))) (qal (by repeat (first | (with_reducible first | exact HB.out | apply qac | apply qaa | apply qad) | exact HB.out)))); have n6_ := Aside0.mk (qam (by repeat (first | (with_reducible first | exact HB.out | apply qac | apply qaa | apply qad) | exact HB.out)) hb); clear HO0; clear HO199; clear HO202; clear HO205; clear HO208; clear HB; have HO0 := n0_; have HO199 := n1_; have HO202 := n2_; have HO205 := n3_; have HO208 := n4_; have HO211 := n5_; have HB := n6_; clear n0_ n1_ n2_ n3_ n4_ n5_ n6_; clear hb ho11))
 go_loopg [3, 5, 6, 7, 8] k (fun kq v3 v5 v6 v7 v8 w' => ∃ (x3_1 : List (S55)) (x5_1 : List Int) (x6_1 : List Int) (x7_1 : List Int) (x8_1 : Int), v8 = .int .i64 x8_1 ∧ Aside0 (burgageref22_Of.l0 kq l0 x3_1 t200 x5_1 x6_1 x7_1 x8_1 = some r) ∧ Aside0 (kq ≤ k) ∧ Aside0 (Kd.V k55 55 w' w.heap.size (fun k_ => (P0_ k_ ∨ w.heap.size ≤ k_) ∧ some k_ ≠ (v3 : Value).ownBlock ∧ some k_ ≠ (v201 : Value).ownBlock ∧ some k_ ≠ (v5 : Value).ownBlock ∧ some k_ ≠ (v6 : Value).ownBlock ∧ some k_ ≠ (v7 : Value).ownBlock) (.slice A0 l0.length c0) l0) ∧ Aside0 (Kd.N k55 55 w' w.heap.size (fun k_ => (P0_ k_ ∨ w.heap.size ≤ k_) ∧ some k_ ≠ (v201 : Value).ownBlock ∧ some k_ ≠ (v5 : Value).ownBlock ∧ some k_ ≠ (v6 : Value).ownBlock ∧ some k_ ≠ (v7 : Value).ownBlock) v3 x3_1) ∧ Aside0 (Kd.N k55 55 w' w.heap.size (fun k_ => (P0_ k_ ∨ w.heap.size ≤ k_) ∧ some k_ ≠ (v3 : Value).ownBlock ∧ some k_ ≠ (v5 : Value).ownBlock ∧ some k_ ≠ (v6 : Value).ownBlock ∧ some k_ ≠ (v7 : Value).ownBlock) v201 t200) ∧ Aside0 (Kd.R (Kd.int .i64) 3 w' w.heap.size (fun k_ => (w.heap.size ≤ k_) ∧ some k_ ≠ (v6 : Value).ownBlock ∧ some k_ ≠ (v7 : Value).ownBlock) v5 x5_1) ∧ Aside0 (Kd.R (Kd.int .i64) 3 w' w.heap.size (fun k_ => (w.heap.size ≤ k_) ∧ some k_ ≠ (v5 : Value).ownBlock ∧ some k_ ≠ (v7 : Value).ownBlock) v6 x6_1) ∧ Aside0 (Kd.R (Kd.int .i64) 3 w' w.heap.size (fun k_ => (w.heap.size ≤ k_) ∧ some k_ ≠ (v5 : Value).ownBlock ∧ some k_ ≠ (v6 : Value).ownBlock) v7 x7_1) ∧ Aside0 (Below w.heap.size w w'))
 case atStart => exact ⟨(y197), (y203), (y206), (y209), (0), (by first | rfl | (simp; done) | (simp [*]; done)), H', ⟨Nat.le_refl _⟩, ⟨by (with_reducible repeat (first | apply Kd.V_alloc | apply Kd.V_drewN | apply Kd.V_drew)); exact Kd.V_mono HO0.out (fun _ hk => ⟨hk.1.1.1.1.1, ⟨hk.1.1.1.1.2, ⟨hk.1.1.1.2, ⟨hk.1.1.2, ⟨hk.1.2, hk.2⟩⟩⟩⟩⟩)⟩, ⟨by (with_reducible repeat (first | apply Kd.N_alloc | apply Kd.N_drewN | apply Kd.N_drew)); exact Kd.N_mono HO199.out (fun _ hk => ⟨hk.1.1.1.1, ⟨hk.1.1.1.2, ⟨hk.1.1.2, ⟨hk.1.2, hk.2⟩⟩⟩⟩)⟩, ⟨by (with_reducible repeat (first | apply Kd.N_alloc | apply Kd.N_drewN | apply Kd.N_drew)); exact Kd.N_mono HO202.out (fun _ hk => ⟨hk.1.1.1.1, ⟨hk.1.1.1.2, ⟨hk.1.1.2, ⟨hk.1.2, hk.2⟩⟩⟩⟩)⟩, ⟨by (with_reducible repeat (first | apply Kd.R_alloc | apply Kd.R_drewN | apply Kd.R_drew)); exact Kd.R_mono HO205.out (fun _ hk => ⟨hk.1.1.1, ⟨hk.1.2, hk.2⟩⟩)⟩, ⟨by (with_reducible repeat (first | apply Kd.R_alloc | apply Kd.R_drewN | apply Kd.R_drew)); exact Kd.R_mono HO208.out (fun _ hk => ⟨hk.1.1.1, ⟨hk.1.2, hk.2⟩⟩)⟩, ⟨by (with_reducible repeat (first | apply Kd.R_alloc | apply Kd.R_drewN | apply Kd.R_drew)); exact Kd.R_mono HO211.out (fun _ hk => ⟨hk.1.1.1, ⟨hk.1.2, hk.2⟩⟩)⟩, ⟨by repeat (first | (with_reducible first | exact HB.out | apply qac | apply qaa | apply qad) | exact HB.out)⟩⟩
 case round =>
  clear H'
  try clear c1
  try clear p2
  try clear c4
  obtain ⟨x3_1, x5_1, x6_1, x7_1, x8_1, rfl, HA, HK1, HO_0, HO_3, HO_4, HO_5, HO_6, HO_7, HB⟩ := hrel
  cases gk with
  | zero => exact absurd HA.out (by simp [burgageref22_Of.l0])
  | succ k1 =>
   have H := HA.out
   clear HA
   simp only [burgageref22_Of.l0] at H
   by_cases c12 : x8_1 < (t200.length : Int)
   ·rw [if_pos c12] at H
    have c12b0 : decide (x8_1 < (t200.length : Int)) = true := decide_eq_true c12
    clear c12
    by_cases c13 : 0 ≤ x8_1
    ·rw [if_pos c13] at H
     have c13b0 : decide (0 ≤ x8_1) = true := decide_eq_true c13
     clear c13
     replace H := Option.bind_eq_some_iff.mp H
     obtain ⟨t213, A140, H⟩ := H
     replace H : ((burgageref22_rank.f k1 l0 ((qab t200 x8_1).f2)).bind fun t215 => ((burgageref22_name.f k1 x5_1 ((qab t200 x8_1).f0)).bind fun bt218 => (burgageref22_Of.l1 k1 l0 x3_1 t200 bt218.1 x6_1 x7_1 x8_1 0 bt218.2 t213 t215 ([] : List (S51))))) = some r := H
     have A14 := Aside0.mk A140
     clear A140
     replace H := Option.bind_eq_some_iff.mp H
     obtain ⟨t215, A150, H⟩ := H
     replace H : ((burgageref22_name.f k1 x5_1 ((qab t200 x8_1).f0)).bind fun bt218 => (burgageref22_Of.l1 k1 l0 x3_1 t200 bt218.1 x6_1 x7_1 x8_1 0 bt218.2 t213 t215 ([] : List (S51)))) = some r := H
     have A15 := Aside0.mk A150
     clear A150
     replace H := Option.bind_eq_some_iff.mp H
     obtain ⟨⟨t218, t221⟩, A160, H⟩ := H
     replace H : (burgageref22_Of.l1 k1 l0 x3_1 t200 t218 x6_1 x7_1 x8_1 0 t221 t213 t215 ([] : List (S51))) = some r := H
     have A16 := Aside0.mk A160
     clear A160
     have H' := Aside0.mk H
     clear H
     obtain ⟨Ao17, co17, eo17⟩ := Kd.N_slice HO_4.out
     subst eo17
     try go_wp2
     have n0_ := Aside0.mk (Kd.V_drew HO_0.out)
     have n1_ := Aside0.mk (Kd.N_drew HO_3.out)
     have n2_ := Aside0.mk (Kd.N_drew HO_4.out)
     have n3_ := Aside0.mk (Kd.R_drew HO_5.out)
     have n4_ := Aside0.mk (Kd.R_drew HO_6.out)
     have n5_ := Aside0.mk (Kd.R_drew HO_7.out)
     have n6_ := Aside0.mk (qad HB.out)
     clear HO_0
     clear HO_3
     clear HO_4
     clear HO_5
     clear HO_6
     clear HO_7
     clear HB
     have HO_0 := n0_
     have HO_3 := n1_
     have HO_4 := n2_
     have HO_5 := n3_
     have HO_6 := n4_
     have HO_7 := n5_
     have HB := n6_
     clear n0_ n1_ n2_ n3_ n4_ n5_ n6_
     have p212 : 0 ≤ (x8_1 : Int) := of_decide_eq_true (by first | (with_reducible assumption) | assumption)
     have q212 : x8_1 < (t200.length : Int) := of_decide_eq_true (by first | (with_reducible assumption) | assumption)
     obtain ⟨ad212, A212_3, c212_3, e212, hx212_0, hx212_1, hx212_2, hx212_3, hl212_3, hi212_3⟩ := qa8 (Kd.N_reads' HO_4.out).2.2 x8_1 p212 q212
     cases e212
     obtain ⟨ce212, hce212, hMe212, hcc212⟩ := Kd.N_get HO_4.out z55 x8_1 p212 (by first | exact q212 | exact of_decide_eq_true (by first | (with_reducible assumption) | assumption) | (have e_ := (Kd.N_reads' HO_4.out).1; omega))
     obtain ⟨ua212_3, uc212_3, rfl, ul212_3, ge212_3⟩ := qbo hMe212
     have hv212_3 := hcc212 3 _ rfl
     rw [qax _ _ 3 (by omega)] at hv212_3
     replace hv212_3 := Option.some.inj (hv212_3.symm.trans hx212_3)
     injection hv212_3 with hva_ hvn_ hvc_
     rw [hva_] at ge212_3
     rw [hvc_] at ul212_3
     have HL212_3 := Aside0.mk (show Kd.V k51 51 _ w.heap.size _ _ ((qab t200 x8_1).f3) from Kd.V_mk ul212_3 ge212_3)
     clear hva_ hvn_ hvc_ ge212_3 ul212_3
     clear hcc212 hce212
     have HR212_3 := Aside0.mk hi212_3
     have HC212_3 := Aside0.mk hl212_3
     clear hi212_3 hl212_3
     replace p212 := eq_true p212
     replace q212 := eq_true q212
     have p214 : 0 ≤ (x8_1 : Int) := of_decide_eq_true (by first | (with_reducible assumption) | assumption)
     have q214 : x8_1 < (t200.length : Int) := of_decide_eq_true (by first | (with_reducible assumption) | assumption)
     obtain ⟨ad214, A214_3, c214_3, e214, hx214_0, hx214_1, hx214_2, hx214_3, hl214_3, hi214_3⟩ := qa8 (Kd.N_reads' HO_4.out).2.2 x8_1 p214 q214
     obtain rfl : ad212 = ad214 := (by injection e214)
     obtain ⟨ce214, hce214, hMe214, hcc214⟩ := Kd.N_get HO_4.out z55 x8_1 p214 (by first | exact q214 | exact of_decide_eq_true (by first | (with_reducible assumption) | assumption) | (have e_ := (Kd.N_reads' HO_4.out).1; omega))
     obtain ⟨ua214_3, uc214_3, rfl, ul214_3, ge214_3⟩ := qbo hMe214
     have hv214_3 := hcc214 3 _ rfl
     rw [qax _ _ 3 (by omega)] at hv214_3
     replace hv214_3 := Option.some.inj (hv214_3.symm.trans hx214_3)
     injection hv214_3 with hva_ hvn_ hvc_
     rw [hva_] at ge214_3
     rw [hvc_] at ul214_3
     have HL214_3 := Aside0.mk (show Kd.V k51 51 _ w.heap.size _ _ ((qab t200 x8_1).f3) from Kd.V_mk ul214_3 ge214_3)
     clear hva_ hvn_ hvc_ ge214_3 ul214_3
     clear hcc214 hce214
     have HR214_3 := Aside0.mk hi214_3
     have HC214_3 := Aside0.mk hl214_3
     clear hi214_3 hl214_3
     replace p214 := eq_true p214
     replace q214 := eq_true q214
     have ea_ := Option.some.inj (hx212_3.symm.trans hx214_3)
     injection ea_ with ea_ en_ ec_
     subst ea_
     subst ec_
     clear en_
     refine start_ (n := 17) (S := fun w' => w'.cell? (ad212.add ((x8_1).toNat * 4)) = some (.int .i64 ((qab t200 x8_1).f0)) ∧ w'.cell? ⟨(ad212.add ((x8_1).toNat * 4)).block, (ad212.add ((x8_1).toNat * 4)).off + 1, none⟩ = some (.int .i64 ((qab t200 x8_1).f1)) ∧ w'.cell? ⟨(ad212.add ((x8_1).toNat * 4)).block, (ad212.add ((x8_1).toNat * 4)).off + 2, none⟩ = some (.int .i64 ((qab t200 x8_1).f2)) ∧ w'.cell? ⟨(ad212.add ((x8_1).toNat * 4)).block, (ad212.add ((x8_1).toNat * 4)).off + 3, none⟩ = some (.slice A212_3 ((qab t200 x8_1).f3).length c212_3) ∧ w'.cell? (ad212.add ((x8_1).toNat * 4)) = some (.int .i64 ((qab t200 x8_1).f0)) ∧ w'.cell? ⟨(ad212.add ((x8_1).toNat * 4)).block, (ad212.add ((x8_1).toNat * 4)).off + 1, none⟩ = some (.int .i64 ((qab t200 x8_1).f1)) ∧ w'.cell? ⟨(ad212.add ((x8_1).toNat * 4)).block, (ad212.add ((x8_1).toNat * 4)).off + 2, none⟩ = some (.int .i64 ((qab t200 x8_1).f2)) ∧ w'.cell? ⟨(ad212.add ((x8_1).toNat * 4)).block, (ad212.add ((x8_1).toNat * 4)).off + 3, none⟩ = some (.slice A212_3 ((qab t200 x8_1).f3).length c212_3)) (ds := []) #[false, false, false, false, false, false, false, false, false, false, false, false, false, false, false, false, false] (by kernel_rfl) rfl rfl ⟨hx212_0, hx212_1, hx212_2, hx212_3, hx214_0, hx214_1, hx214_2, hx214_3⟩ (fun hHeld => ?_); refine with_tabW burgageref22_Of.tab9 burgageref22_Of.bits9 (fun HT_ HW_ => ?_)
     generalize wr.drew = w18 at HO_0 HO_3 HO_4 HO_5 HO_6 HO_7 HB HL212_3 HL214_3 HR212_3 HR214_3 hx212_0 hx212_1 hx212_2 hx212_3 hx214_0 hx214_1 hx214_2 hx214_3 hHeld ⊢
     refine qbq (i := 0) (N := some 24) (v := ?_) (a' := ?_) #[true, false, false, false, false, false, false, false, false, false, false, false, false, false, false, false, false] rfl rfl (qbe HT_.out (by kernel_rfl)) (fun _ _ _ h => h) (Or.inl ⟨by rfl, ?_⟩) ?_ ?_
     rotate_left
     ·intro w'
      go_simp
      with_reducible rfl
     rotate_left
     ·simp only [Act.put, List.setIfInBounds_toArray, List.set_cons_zero, List.set_cons_succ, qbb, qbc]
      rfl
     refine qbq (i := 1) (N := some 25) (v := ?_) (a' := ?_) #[true, true, false, false, false, false, false, false, false, false, false, false, false, false, false, false, false] rfl rfl (qbe HT_.out (by kernel_rfl)) (fun _ _ _ h => h) (Or.inl ⟨by rfl, ?_⟩) ?_ ?_
     rotate_left
     ·intro w'
      go_simp
      with_reducible rfl
     rotate_left
     ·simp only [Act.put, List.setIfInBounds_toArray, List.set_cons_zero, List.set_cons_succ, qbb, qbc]
      rfl
     refine qbq (i := 2) (N := some 26) (v := ?_) (a' := ?_) #[true, true, true, false, false, false, false, false, false, false, false, false, false, false, false, false, false] rfl rfl (qbe HT_.out (by kernel_rfl)) (fun _ _ _ h => h) (Or.inl ⟨by rfl, ?_⟩) ?_ ?_
     rotate_left
     ·intro w'
      go_simp
      with_reducible rfl
     rotate_left
     ·simp only [Act.put, List.setIfInBounds_toArray, List.set_cons_zero, List.set_cons_succ, qbb, qbc]
      rfl
     refine qbq (i := 3) (N := some 27) (v := ?_) (a' := ?_) #[true, true, true, true, false, false, false, false, false, false, false, false, false, false, false, false, false] rfl rfl (qbe HT_.out (by kernel_rfl)) (fun _ _ _ h => h) (Or.inl ⟨by rfl, ?_⟩) ?_ ?_
     rotate_left
     ·intro w'
      go_simp
      with_reducible rfl
     rotate_left
     ·simp only [Act.put, List.setIfInBounds_toArray, List.set_cons_zero, List.set_cons_succ, qbb, qbc]
      rfl
     refine qbq (i := 4) (N := some 28) (v := ?_) (a' := ?_) #[true, true, true, true, true, false, false, false, false, false, false, false, false, false, false, false, false] rfl rfl (qbe HT_.out (by kernel_rfl)) (fun _ _ _ h => h) (Or.inl ⟨by rfl, ?_⟩) ?_ ?_
     rotate_left
     ·intro w'
      go_simp
      with_reducible rfl
     rotate_left
     ·simp only [Act.put, List.setIfInBounds_toArray, List.set_cons_zero, List.set_cons_succ, qbb, qbc]
      rfl
     refine qbq (i := 7) (N := some 31) (v := ?_) (a' := ?_) #[true, true, true, true, true, false, false, true, false, false, false, false, false, false, false, false, false] rfl rfl (qbe HT_.out (by kernel_rfl)) (fun _ _ _ h => h) (Or.inl ⟨by rfl, ?_⟩) ?_ ?_
     rotate_left
     ·intro w'
      go_simp
      with_reducible rfl
     rotate_left
     ·simp only [Act.put, List.setIfInBounds_toArray, List.set_cons_zero, List.set_cons_succ, qbb, qbc]
      rfl
     refine qbq (i := 8) (N := some 32) (v := ?_) (a' := ?_) #[true, true, true, true, true, false, false, true, true, false, false, false, false, false, false, false, false] rfl rfl (qbe HT_.out (by kernel_rfl)) (fun _ _ _ h => h) (Or.inl ⟨by rfl, ?_⟩) ?_ ?_
     rotate_left
     ·intro w'
      go_simp
      with_reducible rfl
     rotate_left
     ·simp only [Act.put, List.setIfInBounds_toArray, List.set_cons_zero, List.set_cons_succ, qbb, qbc]
      rfl
     refine qbq (i := 9) (N := some 33) (v := ?_) (a' := ?_) #[true, true, true, true, true, false, false, true, true, true, false, false, false, false, false, false, false] rfl rfl (qbe HT_.out (by kernel_rfl)) (fun _ _ _ h => h) (Or.inl ⟨by rfl, ?_⟩) ?_ ?_
     rotate_left
     ·intro w'
      go_simp
      with_reducible rfl
     rotate_left
     ·simp only [Act.put, List.setIfInBounds_toArray, List.set_cons_zero, List.set_cons_succ, qbb, qbc]
      rfl
     refine qbq (i := 10) (N := some 34) (v := ?_) (a' := ?_) #[true, true, true, true, true, false, false, true, true, true, true, false, false, false, false, false, false] rfl rfl (qbe HT_.out (by kernel_rfl)) (fun _ _ _ h => h) (Or.inl ⟨by rfl, ?_⟩) ?_ ?_
     rotate_left
     ·intro w'
      go_simp
      with_reducible rfl
     rotate_left
     ·simp only [Act.put, List.setIfInBounds_toArray, List.set_cons_zero, List.set_cons_succ, qbb, qbc]
      rfl
     refine qbq (i := 11) (N := some 35) (v := ?_) (a' := ?_) #[true, true, true, true, true, false, false, true, true, true, true, true, false, false, false, false, false] rfl rfl (qbe HT_.out (by kernel_rfl)) (fun _ _ _ h => h) (Or.inl ⟨by rfl, ?_⟩) ?_ ?_
     rotate_left
     ·intro w'
      go_simp
      with_reducible rfl
     rotate_left
     ·simp only [Act.put, List.setIfInBounds_toArray, List.set_cons_zero, List.set_cons_succ, qbb, qbc]
      rfl
     refine take_ (i := 5) (N := some 29) (v := ?_) (a' := ?_) #[true, true, true, true, true, true, false, true, true, true, true, true, false, false, false, false, false] rfl rfl (take_ofW HT_.out HW_.out (by kernel_rfl)) (fun _ _ _ h => h) (Or.inl ⟨by rfl, ?_⟩) hHeld ?_ ?_
     rotate_left
     ·rintro w' ⟨s0, s1, s2, s3, s4, s5, s6, s7⟩
      go_simp
      with_reducible rfl
     rotate_left
     ·simp only [Act.put, List.setIfInBounds_toArray, List.set_cons_zero, List.set_cons_succ, qbb, qbc]
      rfl
     refine take_ (i := 12) (N := some 36) (v := ?_) (a' := ?_) #[true, true, true, true, true, true, false, true, true, true, true, true, true, false, false, false, false] rfl rfl (take_ofW HT_.out HW_.out (by kernel_rfl)) (fun _ _ _ h => h) (Or.inl ⟨by rfl, ?_⟩) hHeld ?_ ?_
     rotate_left
     ·rintro w' ⟨s0, s1, s2, s3, s4, s5, s6, s7⟩
      go_simp
      with_reducible rfl
     rotate_left
     ·simp only [Act.put, List.setIfInBounds_toArray, List.set_cons_zero, List.set_cons_succ, qbb, qbc]
      rfl
     refine join_ (σ := Nat) 1 #[true, true, true, true, true, true, true, true, true, true, true, true, true, true, true, true, false] (fun s_ => [(30, .int .i64 t213), (37, .int .i64 t215), (9, .pointer (some ⟨s_, 0, none⟩)), (38, .agg #[.int .i64 0, .int .i64 t213, .int .i64 t215, .slice none 0 0])]) (fun s_ w' => (w'.cell? (ad212.add ((x8_1).toNat * 4)) = some (.int .i64 ((qab t200 x8_1).f0)) ∧ w'.cell? ⟨(ad212.add ((x8_1).toNat * 4)).block, (ad212.add ((x8_1).toNat * 4)).off + 1, none⟩ = some (.int .i64 ((qab t200 x8_1).f1)) ∧ w'.cell? ⟨(ad212.add ((x8_1).toNat * 4)).block, (ad212.add ((x8_1).toNat * 4)).off + 2, none⟩ = some (.int .i64 ((qab t200 x8_1).f2)) ∧ w'.cell? ⟨(ad212.add ((x8_1).toNat * 4)).block, (ad212.add ((x8_1).toNat * 4)).off + 3, none⟩ = some (.slice A212_3 ((qab t200 x8_1).f3).length c212_3) ∧ w'.cell? (ad212.add ((x8_1).toNat * 4)) = some (.int .i64 ((qab t200 x8_1).f0)) ∧ w'.cell? ⟨(ad212.add ((x8_1).toNat * 4)).block, (ad212.add ((x8_1).toNat * 4)).off + 1, none⟩ = some (.int .i64 ((qab t200 x8_1).f1)) ∧ w'.cell? ⟨(ad212.add ((x8_1).toNat * 4)).block, (ad212.add ((x8_1).toNat * 4)).off + 2, none⟩ = some (.int .i64 ((qab t200 x8_1).f2)) ∧ w'.cell? ⟨(ad212.add ((x8_1).toNat * 4)).block, (ad212.add ((x8_1).toNat * 4)).off + 3, none⟩ = some (.slice A212_3 ((qab t200 x8_1).f3).length c212_3)) ∧ (Kd.V k51 51 w' w.heap.size (fun k_ => (P0_ k_ ∨ w.heap.size ≤ k_) ∧ some k_ ≠ (u3 : Value).ownBlock ∧ some k_ ≠ (.slice (some ad212) t200.length co17 : Value).ownBlock ∧ some k_ ≠ (u5 : Value).ownBlock ∧ some k_ ≠ (u6 : Value).ownBlock ∧ some k_ ≠ (u7 : Value).ownBlock ∧ k_ ≠ s_) (.slice A212_3 ((qab t200 x8_1).f3).length c212_3) ((qab t200 x8_1).f3)) ∧ (Kd.V k51 51 w' w.heap.size (fun k_ => (P0_ k_ ∨ w.heap.size ≤ k_) ∧ some k_ ≠ (u3 : Value).ownBlock ∧ some k_ ≠ (.slice (some ad212) t200.length co17 : Value).ownBlock ∧ some k_ ≠ (u5 : Value).ownBlock ∧ some k_ ≠ (u6 : Value).ownBlock ∧ some k_ ≠ (u7 : Value).ownBlock ∧ k_ ≠ s_) (.slice A212_3 ((qab t200 x8_1).f3).length c212_3) ((qab t200 x8_1).f3)) ∧ (Kd.V k55 55 w' w.heap.size (fun k_ => (P0_ k_ ∨ w.heap.size ≤ k_) ∧ some k_ ≠ (u3 : Value).ownBlock ∧ some k_ ≠ (.slice (some ad212) t200.length co17 : Value).ownBlock ∧ some k_ ≠ (u5 : Value).ownBlock ∧ some k_ ≠ (u6 : Value).ownBlock ∧ some k_ ≠ (u7 : Value).ownBlock ∧ k_ ≠ s_) (.slice A0 l0.length c0) l0) ∧ (Kd.N k55 55 w' w.heap.size (fun k_ => (P0_ k_ ∨ w.heap.size ≤ k_) ∧ some k_ ≠ (.slice (some ad212) t200.length co17 : Value).ownBlock ∧ some k_ ≠ (u5 : Value).ownBlock ∧ some k_ ≠ (u6 : Value).ownBlock ∧ some k_ ≠ (u7 : Value).ownBlock ∧ k_ ≠ s_) u3 x3_1) ∧ (Kd.N k55 55 w' w.heap.size (fun k_ => (P0_ k_ ∨ w.heap.size ≤ k_) ∧ some k_ ≠ (u3 : Value).ownBlock ∧ some k_ ≠ (u5 : Value).ownBlock ∧ some k_ ≠ (u6 : Value).ownBlock ∧ some k_ ≠ (u7 : Value).ownBlock ∧ k_ ≠ s_) (.slice (some ad212) t200.length co17) t200) ∧ (Kd.R (Kd.int .i64) 3 w' w.heap.size (fun k_ => (w.heap.size ≤ k_) ∧ some k_ ≠ (u6 : Value).ownBlock ∧ some k_ ≠ (u7 : Value).ownBlock) u5 x5_1) ∧ (Kd.R (Kd.int .i64) 3 w' w.heap.size (fun k_ => (w.heap.size ≤ k_) ∧ some k_ ≠ (u5 : Value).ownBlock ∧ some k_ ≠ (u7 : Value).ownBlock) u6 x6_1) ∧ (Kd.R (Kd.int .i64) 3 w' w.heap.size (fun k_ => (w.heap.size ≤ k_) ∧ some k_ ≠ (u5 : Value).ownBlock ∧ some k_ ≠ (u6 : Value).ownBlock) u7 x7_1) ∧ (w'.heap[s_]? = some (.cells #[.int .i64 0, .int .i64 0, .int .i64 0, .slice none 0 0] 55 (0, 0))) ∧ (w.heap.size ≤ s_) ∧ (w.heap.size ≤ s_) ∧ (Below w.heap.size w w')) ?_ ?_
     rotate_left
     ·intro hCont
      refine two_ (i := 6) (j := 15) (Ni := some 30) (Nj := some 9) #[true, true, true, true, true, true, true, true, true, true, true, true, true, false, false, false, false] #[true, true, true, true, true, true, false, true, true, true, true, true, true, false, false, true, false] rfl rfl rfl rfl (two_of HT_.out (by kernel_rfl)) (by decide) (by decide) (fun K hK => ?_) (fun K hK => ?_)
      ·skip
       refine goes_ Try.func44 (by kernel_rfl) rfl #[.slice A0 l0.length c0, .int .i64 ((qab t200 x8_1).f1)] (by rfl) rfl rfl (by (try simp only [List.map_toArray, List.map_cons, List.map_nil]); first | done | rfl | (simp only [List.length_drop, List.length_take]; rfl)) ?_
       with_reducible refine (burgageref22_rank.calls k1 _ _ l0 ((qab t200 x8_1).f1) t213 _ ?side1 ?side2 A14.out).mono ?_
       (case side1 => repeat (first | exact (Kd.V_reads' HO_0.out).2.2 | (with_reducible refine Kd.C_alloc ?_ _) | (with_reducible refine Kd.C_drewN ?_ _) | (with_reducible refine Kd.C_drew ?_)))
       (case side2 => exact (Kd.V_reads' HO_0.out).2.1)
       rintro e w' ⟨rfl, ⟨nd, rfl⟩⟩
       refine ⟨_, rfl, ?_⟩
       refine hK.out _ _ ⟨hHeld.1, hHeld.2.1, hHeld.2.2.1, hHeld.2.2.2.1, hHeld.2.2.2.2.1, hHeld.2.2.2.2.2.1, hHeld.2.2.2.2.2.2.1, hHeld.2.2.2.2.2.2.2⟩ (fun hHeld => ?_)
       clear hK K
       refine qcj (a' := ?_) ?_ ?_
       rotate_left
       ·show Act.put _ (some 30) _ = _
        simp only [Act.put, List.setIfInBounds_toArray, List.set_cons_zero, List.set_cons_succ, qbb, qbc]
        rfl
       refine two_ (i := 13) (j := 15) (Ni := some 37) (Nj := some 9) #[true, true, true, true, true, true, true, true, true, true, true, true, true, true, false, false, false] #[true, true, true, true, true, true, true, true, true, true, true, true, true, false, false, true, false] rfl rfl rfl rfl (two_of HT_.out (by kernel_rfl)) (by decide) (by decide) (fun K hK => ?_) (fun K hK => ?_)
       ·skip
        refine goes_ Try.func44 (by kernel_rfl) rfl #[.slice A0 l0.length c0, .int .i64 ((qab t200 x8_1).f2)] (by rfl) rfl rfl (by (try simp only [List.map_toArray, List.map_cons, List.map_nil]); first | done | rfl | (simp only [List.length_drop, List.length_take]; rfl)) ?_
        with_reducible refine (burgageref22_rank.calls k1 _ _ l0 ((qab t200 x8_1).f2) t215 _ ?side1 ?side2 A15.out).mono ?_
        (case side1 => repeat (first | exact (Kd.V_reads' HO_0.out).2.2 | (with_reducible refine Kd.C_alloc ?_ _) | (with_reducible refine Kd.C_drewN ?_ _) | (with_reducible refine Kd.C_drew ?_)))
        (case side2 => exact (Kd.V_reads' HO_0.out).2.1)
        rintro e w' ⟨rfl, ⟨nd, rfl⟩⟩
        refine ⟨_, rfl, ?_⟩
        refine hK.out _ _ ⟨hHeld.1, hHeld.2.1, hHeld.2.2.1, hHeld.2.2.2.1, hHeld.2.2.2.2.1, hHeld.2.2.2.2.2.1, hHeld.2.2.2.2.2.2.1, hHeld.2.2.2.2.2.2.2⟩ (fun hHeld => ?_)
        clear hK K
        refine qcj (a' := ?_) ?_ ?_
        rotate_left
        ·show Act.put _ (some 37) _ = _
         simp only [Act.put, List.setIfInBounds_toArray, List.set_cons_zero, List.set_cons_succ, qbb, qbc]
         rfl
        refine qbq (i := 14) (N := some 38) (v := ?_) (a' := ?_) #[true, true, true, true, true, true, true, true, true, true, true, true, true, true, true, false, false] rfl rfl (qbe HT_.out (by kernel_rfl)) (fun _ _ _ h => h) (Or.inl ⟨by rfl, ?_⟩) ?_ ?_
        rotate_left
        ·intro w'
         go_simp
         with_reducible rfl
        rotate_left
        ·simp only [Act.put, List.setIfInBounds_toArray, List.set_cons_zero, List.set_cons_succ, qbb, qbc]
         rfl
        refine one_ (i := 15) (N := some 9) #[true, true, true, true, true, true, true, true, true, true, true, true, true, true, true, true, false] rfl rfl (one_of HT_.out (by kernel_rfl)) (by decide) (fun K hK => ?_)
        refine box_step ?hg (N := 9) ?hd (cs := #[.int .i64 0, .int .i64 0, .int .i64 0, .slice none 0 0]) (t := 55) ?hr ?_; (case hd => rfl); (case hg => rfl); (case hr => first | (go_simp; done) | (go_simp; rfl))
        intro gb216 hg w19 hbox hb
        have HS0_ := (hb.cell (World.block_lt_of_cell? _ _ (hHeld.1))).trans (hHeld.1)
        have HS1_ := (hb.cell (World.block_lt_of_cell? _ _ (hHeld.2.1))).trans (hHeld.2.1)
        have HS2_ := (hb.cell (World.block_lt_of_cell? _ _ (hHeld.2.2.1))).trans (hHeld.2.2.1)
        have HS3_ := (hb.cell (World.block_lt_of_cell? _ _ (hHeld.2.2.2.1))).trans (hHeld.2.2.2.1)
        have HS4_ := (hb.cell (World.block_lt_of_cell? _ _ (hHeld.2.2.2.2.1))).trans (hHeld.2.2.2.2.1)
        have HS5_ := (hb.cell (World.block_lt_of_cell? _ _ (hHeld.2.2.2.2.2.1))).trans (hHeld.2.2.2.2.2.1)
        have HS6_ := (hb.cell (World.block_lt_of_cell? _ _ (hHeld.2.2.2.2.2.2.1))).trans (hHeld.2.2.2.2.2.2.1)
        have HS7_ := (hb.cell (World.block_lt_of_cell? _ _ (hHeld.2.2.2.2.2.2.2))).trans (hHeld.2.2.2.2.2.2.2)
        have n0_ := Aside0.mk (Kd.V_below (Kd.V_elderB (by (with_reducible repeat (first | apply Kd.V_alloc | apply Kd.V_drewN | apply Kd.V_drew)); exact HO_0.out) gb216 (Nat.le_of_eq hg.symm)) hb)
        have n1_ := Aside0.mk (Kd.N_below (Kd.N_elderB (by (with_reducible repeat (first | apply Kd.N_alloc | apply Kd.N_drewN | apply Kd.N_drew)); exact HO_3.out) gb216 (Nat.le_of_eq hg.symm)) hb)
        have n2_ := Aside0.mk (Kd.N_below (Kd.N_elderB (by (with_reducible repeat (first | apply Kd.N_alloc | apply Kd.N_drewN | apply Kd.N_drew)); exact HO_4.out) gb216 (Nat.le_of_eq hg.symm)) hb)
        have n3_ := Aside0.mk (Kd.R_below (by (with_reducible repeat (first | apply Kd.R_alloc | apply Kd.R_drewN | apply Kd.R_drew)); exact HO_5.out) hb)
        have n4_ := Aside0.mk (Kd.R_below (by (with_reducible repeat (first | apply Kd.R_alloc | apply Kd.R_drewN | apply Kd.R_drew)); exact HO_6.out) hb)
        have n5_ := Aside0.mk (Kd.R_below (by (with_reducible repeat (first | apply Kd.R_alloc | apply Kd.R_drewN | apply Kd.R_drew)); exact HO_7.out) hb)
        have n6_ := Aside0.mk (Kd.V_below (Kd.V_elderB (by (with_reducible repeat (first | apply Kd.V_alloc | apply Kd.V_drewN | apply Kd.V_drew)); exact HL212_3.out) gb216 (Nat.le_of_eq hg.symm)) hb)
        have n7_ := Aside0.mk (Kd.V_below (Kd.V_elderB (by (with_reducible repeat (first | apply Kd.V_alloc | apply Kd.V_drewN | apply Kd.V_drew)); exact HL214_3.out) gb216 (Nat.le_of_eq hg.symm)) hb)
        have n8_ := Aside0.mk (Kd.C_below (by repeat (first | (with_reducible exact HR212_3.out) | (with_reducible refine Kd.C_alloc ?_ _) | (with_reducible refine Kd.C_drewN ?_ _) | (with_reducible refine Kd.C_drew ?_) | exact HR212_3.out)) hb)
        have n9_ := Aside0.mk (Kd.C_below (by repeat (first | (with_reducible exact HR214_3.out) | (with_reducible refine Kd.C_alloc ?_ _) | (with_reducible refine Kd.C_drewN ?_ _) | (with_reducible refine Kd.C_drew ?_) | exact HR214_3.out)) hb)
        have n10_ := Aside0.mk (qam (by repeat (first | (with_reducible first | exact HB.out | apply qac | apply qaa | apply qad) | exact HB.out)) hb)
        have n11_ := Aside0.mk (hbox)
        have n12_ := Aside0.mk ((by rw [hg]; exact (qal (by repeat (first | (with_reducible first | exact HB.out | apply qac | apply qaa | apply qad) | exact HB.out))) : w.heap.size ≤ gb216))
        have n13_ := Aside0.mk ((by rw [hg]; exact (qal (by repeat (first | (with_reducible first | exact HB.out | apply qac | apply qaa | apply qad) | exact HB.out))) : w.heap.size ≤ gb216))
        clear HO_0
        clear HO_3
        clear HO_4
        clear HO_5
        clear HO_6
        clear HO_7
        clear HL212_3
        clear HL214_3
        clear HR212_3
        clear HR214_3
        clear HB
        have HO_0 := n0_
        have HO_3 := n1_
        have HO_4 := n2_
        have HO_5 := n3_
        have HO_6 := n4_
        have HO_7 := n5_
        have HL212_3 := n6_
        have HL214_3 := n7_
        have HR212_3 := n8_
        have HR214_3 := n9_
        have HB := n10_
        have BK216 := n11_
        have GW216 := n12_
        have GE216 := n13_
        clear n0_ n1_ n2_ n3_ n4_ n5_ n6_ n7_ n8_ n9_ n10_ n11_ n12_ n13_
        clear hb hbox hg
        refine hK.out _ _ ⟨HS0_, HS1_, HS2_, HS3_, HS4_, HS5_, HS6_, HS7_⟩ (fun hHeld => ?_)
        clear hK K
        refine qcj (a' := ?_) ?_ ?_
        rotate_left
        ·show Act.put _ (some 9) _ = _
         simp only [Act.put, List.setIfInBounds_toArray, List.set_cons_zero, List.set_cons_succ, qbb, qbc]
         rfl
        exact qcj (by simp only [putAll, Act.put, List.setIfInBounds_toArray, List.set_cons_zero, List.set_cons_succ]) (hCont (gb216) _ ⟨hHeld, (by (with_reducible repeat (first | apply Kd.V_alloc | apply Kd.V_drewN | apply Kd.V_drew)); exact Kd.V_mono HL212_3.out (fun _ hk => ⟨hk.1.1.1, ⟨hk.1.1.2.1, ⟨hk.1.2, ⟨hk.1.1.2.2.1, ⟨hk.1.1.2.2.2.1, ⟨hk.1.1.2.2.2.2, hk.2⟩⟩⟩⟩⟩⟩)), (by (with_reducible repeat (first | apply Kd.V_alloc | apply Kd.V_drewN | apply Kd.V_drew)); exact Kd.V_mono HL214_3.out (fun _ hk => ⟨hk.1.1.1, ⟨hk.1.1.2.1, ⟨hk.1.2, ⟨hk.1.1.2.2.1, ⟨hk.1.1.2.2.2.1, ⟨hk.1.1.2.2.2.2, hk.2⟩⟩⟩⟩⟩⟩)), (by (with_reducible repeat (first | apply Kd.V_alloc | apply Kd.V_drewN | apply Kd.V_drew)); exact Kd.V_mono HO_0.out (fun _ hk => ⟨hk.1.1, ⟨hk.1.2.1, ⟨hk.1.2.2.1, ⟨hk.1.2.2.2.1, ⟨hk.1.2.2.2.2.1, ⟨hk.1.2.2.2.2.2, hk.2⟩⟩⟩⟩⟩⟩)), (by (with_reducible repeat (first | apply Kd.N_alloc | apply Kd.N_drewN | apply Kd.N_drew)); exact Kd.N_mono HO_3.out (fun _ hk => ⟨hk.1.1, ⟨hk.1.2.1, ⟨hk.1.2.2.1, ⟨hk.1.2.2.2.1, ⟨hk.1.2.2.2.2, hk.2⟩⟩⟩⟩⟩)), (by (with_reducible repeat (first | apply Kd.N_alloc | apply Kd.N_drewN | apply Kd.N_drew)); exact Kd.N_mono HO_4.out (fun _ hk => ⟨hk.1.1, ⟨hk.1.2.1, ⟨hk.1.2.2.1, ⟨hk.1.2.2.2.1, ⟨hk.1.2.2.2.2, hk.2⟩⟩⟩⟩⟩)), (by (with_reducible repeat (first | apply Kd.R_alloc | apply Kd.R_drewN | apply Kd.R_drew)); exact HO_5.out), (by (with_reducible repeat (first | apply Kd.R_alloc | apply Kd.R_drewN | apply Kd.R_drew)); exact HO_6.out), (by (with_reducible repeat (first | apply Kd.R_alloc | apply Kd.R_drewN | apply Kd.R_drew)); exact HO_7.out), (by (with_reducible repeat (first | refine qaf ?_ _ | refine qai ?_ | refine qag ?_ _)); exact BK216.out), GW216.out, GE216.out, (by repeat (first | (with_reducible first | exact HB.out | apply qac | apply qaa | apply qad | refine qak ?_ GE216.out) | exact HB.out))⟩)
       ·skip
        refine box_step ?hg (N := 9) ?hd (cs := #[.int .i64 0, .int .i64 0, .int .i64 0, .slice none 0 0]) (t := 55) ?hr ?_; (case hd => rfl); (case hg => rfl); (case hr => first | (go_simp; done) | (go_simp; rfl))
        intro gb216 hg w19 hbox hb
        have HS0_ := (hb.cell (World.block_lt_of_cell? _ _ (hHeld.1))).trans (hHeld.1)
        have HS1_ := (hb.cell (World.block_lt_of_cell? _ _ (hHeld.2.1))).trans (hHeld.2.1)
        have HS2_ := (hb.cell (World.block_lt_of_cell? _ _ (hHeld.2.2.1))).trans (hHeld.2.2.1)
        have HS3_ := (hb.cell (World.block_lt_of_cell? _ _ (hHeld.2.2.2.1))).trans (hHeld.2.2.2.1)
        have HS4_ := (hb.cell (World.block_lt_of_cell? _ _ (hHeld.2.2.2.2.1))).trans (hHeld.2.2.2.2.1)
        have HS5_ := (hb.cell (World.block_lt_of_cell? _ _ (hHeld.2.2.2.2.2.1))).trans (hHeld.2.2.2.2.2.1)
        have HS6_ := (hb.cell (World.block_lt_of_cell? _ _ (hHeld.2.2.2.2.2.2.1))).trans (hHeld.2.2.2.2.2.2.1)
        have HS7_ := (hb.cell (World.block_lt_of_cell? _ _ (hHeld.2.2.2.2.2.2.2))).trans (hHeld.2.2.2.2.2.2.2)
        have n0_ := Aside0.mk (Kd.V_below (Kd.V_elderB (by (with_reducible repeat (first | apply Kd.V_alloc | apply Kd.V_drewN | apply Kd.V_drew)); exact HO_0.out) gb216 (Nat.le_of_eq hg.symm)) hb)
        have n1_ := Aside0.mk (Kd.N_below (Kd.N_elderB (by (with_reducible repeat (first | apply Kd.N_alloc | apply Kd.N_drewN | apply Kd.N_drew)); exact HO_3.out) gb216 (Nat.le_of_eq hg.symm)) hb)
        have n2_ := Aside0.mk (Kd.N_below (Kd.N_elderB (by (with_reducible repeat (first | apply Kd.N_alloc | apply Kd.N_drewN | apply Kd.N_drew)); exact HO_4.out) gb216 (Nat.le_of_eq hg.symm)) hb)
        have n3_ := Aside0.mk (Kd.R_below (by (with_reducible repeat (first | apply Kd.R_alloc | apply Kd.R_drewN | apply Kd.R_drew)); exact HO_5.out) hb)
        have n4_ := Aside0.mk (Kd.R_below (by (with_reducible repeat (first | apply Kd.R_alloc | apply Kd.R_drewN | apply Kd.R_drew)); exact HO_6.out) hb)
        have n5_ := Aside0.mk (Kd.R_below (by (with_reducible repeat (first | apply Kd.R_alloc | apply Kd.R_drewN | apply Kd.R_drew)); exact HO_7.out) hb)
        have n6_ := Aside0.mk (Kd.V_below (Kd.V_elderB (by (with_reducible repeat (first | apply Kd.V_alloc | apply Kd.V_drewN | apply Kd.V_drew)); exact HL212_3.out) gb216 (Nat.le_of_eq hg.symm)) hb)
        have n7_ := Aside0.mk (Kd.V_below (Kd.V_elderB (by (with_reducible repeat (first | apply Kd.V_alloc | apply Kd.V_drewN | apply Kd.V_drew)); exact HL214_3.out) gb216 (Nat.le_of_eq hg.symm)) hb)
        have n8_ := Aside0.mk (Kd.C_below (by repeat (first | (with_reducible exact HR212_3.out) | (with_reducible refine Kd.C_alloc ?_ _) | (with_reducible refine Kd.C_drewN ?_ _) | (with_reducible refine Kd.C_drew ?_) | exact HR212_3.out)) hb)
        have n9_ := Aside0.mk (Kd.C_below (by repeat (first | (with_reducible exact HR214_3.out) | (with_reducible refine Kd.C_alloc ?_ _) | (with_reducible refine Kd.C_drewN ?_ _) | (with_reducible refine Kd.C_drew ?_) | exact HR214_3.out)) hb)
        have n10_ := Aside0.mk (qam (by repeat (first | (with_reducible first | exact HB.out | apply qac | apply qaa | apply qad) | exact HB.out)) hb)
        have n11_ := Aside0.mk (hbox)
        have n12_ := Aside0.mk ((by rw [hg]; exact (qal (by repeat (first | (with_reducible first | exact HB.out | apply qac | apply qaa | apply qad) | exact HB.out))) : w.heap.size ≤ gb216))
        have n13_ := Aside0.mk ((by rw [hg]; exact (qal (by repeat (first | (with_reducible first | exact HB.out | apply qac | apply qaa | apply qad) | exact HB.out))) : w.heap.size ≤ gb216))
        clear HO_0
        clear HO_3
        clear HO_4
        clear HO_5
        clear HO_6
        clear HO_7
        clear HL212_3
        clear HL214_3
        clear HR212_3
        clear HR214_3
        clear HB
        have HO_0 := n0_
        have HO_3 := n1_
        have HO_4 := n2_
        have HO_5 := n3_
        have HO_6 := n4_
        have HO_7 := n5_
        have HL212_3 := n6_
        have HL214_3 := n7_
        have HR212_3 := n8_
        have HR214_3 := n9_
        have HB := n10_
        have BK216 := n11_
        have GW216 := n12_
        have GE216 := n13_
        clear n0_ n1_ n2_ n3_ n4_ n5_ n6_ n7_ n8_ n9_ n10_ n11_ n12_ n13_
        clear hb hbox hg
        refine hK.out _ _ ⟨HS0_, HS1_, HS2_, HS3_, HS4_, HS5_, HS6_, HS7_⟩ (fun hHeld => ?_)
        clear hK K
        refine qcj (a' := ?_) ?_ ?_
        rotate_left
        ·show Act.put _ (some 9) _ = _
         simp only [Act.put, List.setIfInBounds_toArray, List.set_cons_zero, List.set_cons_succ, qbb, qbc]
         rfl
        refine one_ (i := 13) (N := some 37) #[true, true, true, true, true, true, true, true, true, true, true, true, true, true, false, true, false] rfl rfl (one_of HT_.out (by kernel_rfl)) (by decide) (fun K hK => ?_)
        refine goes_ Try.func44 (by kernel_rfl) rfl #[.slice A0 l0.length c0, .int .i64 ((qab t200 x8_1).f2)] (by rfl) rfl rfl (by (try simp only [List.map_toArray, List.map_cons, List.map_nil]); first | done | rfl | (simp only [List.length_drop, List.length_take]; rfl)) ?_
        with_reducible refine (burgageref22_rank.calls k1 _ _ l0 ((qab t200 x8_1).f2) t215 _ ?side1 ?side2 A15.out).mono ?_
        (case side1 => repeat (first | exact (Kd.V_reads' HO_0.out).2.2 | (with_reducible refine Kd.C_alloc ?_ _) | (with_reducible refine Kd.C_drewN ?_ _) | (with_reducible refine Kd.C_drew ?_)))
        (case side2 => exact (Kd.V_reads' HO_0.out).2.1)
        rintro e w' ⟨rfl, ⟨nd, rfl⟩⟩
        refine ⟨_, rfl, ?_⟩
        refine hK.out _ _ ⟨hHeld.1, hHeld.2.1, hHeld.2.2.1, hHeld.2.2.2.1, hHeld.2.2.2.2.1, hHeld.2.2.2.2.2.1, hHeld.2.2.2.2.2.2.1, hHeld.2.2.2.2.2.2.2⟩ (fun hHeld => ?_)
        clear hK K
        refine qcj (a' := ?_) ?_ ?_
        rotate_left
        ·show Act.put _ (some 37) _ = _
         simp only [Act.put, List.setIfInBounds_toArray, List.set_cons_zero, List.set_cons_succ, qbb, qbc]
         rfl
        refine qbq (i := 14) (N := some 38) (v := ?_) (a' := ?_) #[true, true, true, true, true, true, true, true, true, true, true, true, true, true, true, true, false] rfl rfl (qbe HT_.out (by kernel_rfl)) (fun _ _ _ h => h) (Or.inl ⟨by rfl, ?_⟩) ?_ ?_
        rotate_left
        ·intro w'
         go_simp
         with_reducible rfl
        rotate_left
        ·simp only [Act.put, List.setIfInBounds_toArray, List.set_cons_zero, List.set_cons_succ, qbb, qbc]
         rfl
        exact qcj (by simp only [putAll, Act.put, List.setIfInBounds_toArray, List.set_cons_zero, List.set_cons_succ]) (hCont (gb216) _ ⟨hHeld, (by (with_reducible repeat (first | apply Kd.V_alloc | apply Kd.V_drewN | apply Kd.V_drew)); exact Kd.V_mono HL212_3.out (fun _ hk => ⟨hk.1.1.1, ⟨hk.1.1.2.1, ⟨hk.1.2, ⟨hk.1.1.2.2.1, ⟨hk.1.1.2.2.2.1, ⟨hk.1.1.2.2.2.2, hk.2⟩⟩⟩⟩⟩⟩)), (by (with_reducible repeat (first | apply Kd.V_alloc | apply Kd.V_drewN | apply Kd.V_drew)); exact Kd.V_mono HL214_3.out (fun _ hk => ⟨hk.1.1.1, ⟨hk.1.1.2.1, ⟨hk.1.2, ⟨hk.1.1.2.2.1, ⟨hk.1.1.2.2.2.1, ⟨hk.1.1.2.2.2.2, hk.2⟩⟩⟩⟩⟩⟩)), (by (with_reducible repeat (first | apply Kd.V_alloc | apply Kd.V_drewN | apply Kd.V_drew)); exact Kd.V_mono HO_0.out (fun _ hk => ⟨hk.1.1, ⟨hk.1.2.1, ⟨hk.1.2.2.1, ⟨hk.1.2.2.2.1, ⟨hk.1.2.2.2.2.1, ⟨hk.1.2.2.2.2.2, hk.2⟩⟩⟩⟩⟩⟩)), (by (with_reducible repeat (first | apply Kd.N_alloc | apply Kd.N_drewN | apply Kd.N_drew)); exact Kd.N_mono HO_3.out (fun _ hk => ⟨hk.1.1, ⟨hk.1.2.1, ⟨hk.1.2.2.1, ⟨hk.1.2.2.2.1, ⟨hk.1.2.2.2.2, hk.2⟩⟩⟩⟩⟩)), (by (with_reducible repeat (first | apply Kd.N_alloc | apply Kd.N_drewN | apply Kd.N_drew)); exact Kd.N_mono HO_4.out (fun _ hk => ⟨hk.1.1, ⟨hk.1.2.1, ⟨hk.1.2.2.1, ⟨hk.1.2.2.2.1, ⟨hk.1.2.2.2.2, hk.2⟩⟩⟩⟩⟩)), (by (with_reducible repeat (first | apply Kd.R_alloc | apply Kd.R_drewN | apply Kd.R_drew)); exact HO_5.out), (by (with_reducible repeat (first | apply Kd.R_alloc | apply Kd.R_drewN | apply Kd.R_drew)); exact HO_6.out), (by (with_reducible repeat (first | apply Kd.R_alloc | apply Kd.R_drewN | apply Kd.R_drew)); exact HO_7.out), (by (with_reducible repeat (first | refine qaf ?_ _ | refine qai ?_ | refine qag ?_ _)); exact BK216.out), GW216.out, GE216.out, (by repeat (first | (with_reducible first | exact HB.out | apply qac | apply qaa | apply qad | refine qak ?_ GE216.out) | exact HB.out))⟩)
      ·skip
       refine box_step ?hg (N := 9) ?hd (cs := #[.int .i64 0, .int .i64 0, .int .i64 0, .slice none 0 0]) (t := 55) ?hr ?_; (case hd => rfl); (case hg => rfl); (case hr => first | (go_simp; done) | (go_simp; rfl))
       intro gb216 hg w19 hbox hb
       have HS0_ := (hb.cell (World.block_lt_of_cell? _ _ (hHeld.1))).trans (hHeld.1)
       have HS1_ := (hb.cell (World.block_lt_of_cell? _ _ (hHeld.2.1))).trans (hHeld.2.1)
       have HS2_ := (hb.cell (World.block_lt_of_cell? _ _ (hHeld.2.2.1))).trans (hHeld.2.2.1)
       have HS3_ := (hb.cell (World.block_lt_of_cell? _ _ (hHeld.2.2.2.1))).trans (hHeld.2.2.2.1)
       have HS4_ := (hb.cell (World.block_lt_of_cell? _ _ (hHeld.2.2.2.2.1))).trans (hHeld.2.2.2.2.1)
       have HS5_ := (hb.cell (World.block_lt_of_cell? _ _ (hHeld.2.2.2.2.2.1))).trans (hHeld.2.2.2.2.2.1)
       have HS6_ := (hb.cell (World.block_lt_of_cell? _ _ (hHeld.2.2.2.2.2.2.1))).trans (hHeld.2.2.2.2.2.2.1)
       have HS7_ := (hb.cell (World.block_lt_of_cell? _ _ (hHeld.2.2.2.2.2.2.2))).trans (hHeld.2.2.2.2.2.2.2)
       have n0_ := Aside0.mk (Kd.V_below (Kd.V_elderB (by (with_reducible repeat (first | apply Kd.V_alloc | apply Kd.V_drewN | apply Kd.V_drew)); exact HO_0.out) gb216 (Nat.le_of_eq hg.symm)) hb)
       have n1_ := Aside0.mk (Kd.N_below (Kd.N_elderB (by (with_reducible repeat (first | apply Kd.N_alloc | apply Kd.N_drewN | apply Kd.N_drew)); exact HO_3.out) gb216 (Nat.le_of_eq hg.symm)) hb)
       have n2_ := Aside0.mk (Kd.N_below (Kd.N_elderB (by (with_reducible repeat (first | apply Kd.N_alloc | apply Kd.N_drewN | apply Kd.N_drew)); exact HO_4.out) gb216 (Nat.le_of_eq hg.symm)) hb)
       have n3_ := Aside0.mk (Kd.R_below (by (with_reducible repeat (first | apply Kd.R_alloc | apply Kd.R_drewN | apply Kd.R_drew)); exact HO_5.out) hb)
       have n4_ := Aside0.mk (Kd.R_below (by (with_reducible repeat (first | apply Kd.R_alloc | apply Kd.R_drewN | apply Kd.R_drew)); exact HO_6.out) hb)
       have n5_ := Aside0.mk (Kd.R_below (by (with_reducible repeat (first | apply Kd.R_alloc | apply Kd.R_drewN | apply Kd.R_drew)); exact HO_7.out) hb)
       have n6_ := Aside0.mk (Kd.V_below (Kd.V_elderB (by (with_reducible repeat (first | apply Kd.V_alloc | apply Kd.V_drewN | apply Kd.V_drew)); exact HL212_3.out) gb216 (Nat.le_of_eq hg.symm)) hb)
       have n7_ := Aside0.mk (Kd.V_below (Kd.V_elderB (by (with_reducible repeat (first | apply Kd.V_alloc | apply Kd.V_drewN | apply Kd.V_drew)); exact HL214_3.out) gb216 (Nat.le_of_eq hg.symm)) hb)
       have n8_ := Aside0.mk (Kd.C_below (by repeat (first | (with_reducible exact HR212_3.out) | (with_reducible refine Kd.C_alloc ?_ _) | (with_reducible refine Kd.C_drewN ?_ _) | (with_reducible refine Kd.C_drew ?_) | exact HR212_3.out)) hb)
       have n9_ := Aside0.mk (Kd.C_below (by repeat (first | (with_reducible exact HR214_3.out) | (with_reducible refine Kd.C_alloc ?_ _) | (with_reducible refine Kd.C_drewN ?_ _) | (with_reducible refine Kd.C_drew ?_) | exact HR214_3.out)) hb)
       have n10_ := Aside0.mk (qam (by repeat (first | (with_reducible first | exact HB.out | apply qac | apply qaa | apply qad) | exact HB.out)) hb)
       have n11_ := Aside0.mk (hbox)
       have n12_ := Aside0.mk ((by rw [hg]; exact (qal (by repeat (first | (with_reducible first | exact HB.out | apply qac | apply qaa | apply qad) | exact HB.out))) : w.heap.size ≤ gb216))
       have n13_ := Aside0.mk ((by rw [hg]; exact (qal (by repeat (first | (with_reducible first | exact HB.out | apply qac | apply qaa | apply qad) | exact HB.out))) : w.heap.size ≤ gb216))
       clear HO_0
       clear HO_3
       clear HO_4
       clear HO_5
       clear HO_6
       clear HO_7
       clear HL212_3
       clear HL214_3
       clear HR212_3
       clear HR214_3
       clear HB
       have HO_0 := n0_
       have HO_3 := n1_
       have HO_4 := n2_
       have HO_5 := n3_
       have HO_6 := n4_
       have HO_7 := n5_
       have HL212_3 := n6_
       have HL214_3 := n7_
       have HR212_3 := n8_
       have HR214_3 := n9_
       have HB := n10_
       have BK216 := n11_
       have GW216 := n12_
       have GE216 := n13_
       clear n0_ n1_ n2_ n3_ n4_ n5_ n6_ n7_ n8_ n9_ n10_ n11_ n12_ n13_
       clear hb hbox hg
       refine hK.out _ _ ⟨HS0_, HS1_, HS2_, HS3_, HS4_, HS5_, HS6_, HS7_⟩ (fun hHeld => ?_)
       clear hK K
       refine qcj (a' := ?_) ?_ ?_
       rotate_left
       ·show Act.put _ (some 9) _ = _
        simp only [Act.put, List.setIfInBounds_toArray, List.set_cons_zero, List.set_cons_succ, qbb, qbc]
        rfl
       refine one_ (i := 6) (N := some 30) #[true, true, true, true, true, true, true, true, true, true, true, true, true, false, false, true, false] rfl rfl (one_of HT_.out (by kernel_rfl)) (by decide) (fun K hK => ?_)
       refine goes_ Try.func44 (by kernel_rfl) rfl #[.slice A0 l0.length c0, .int .i64 ((qab t200 x8_1).f1)] (by rfl) rfl rfl (by (try simp only [List.map_toArray, List.map_cons, List.map_nil]); first | done | rfl | (simp only [List.length_drop, List.length_take]; rfl)) ?_
       with_reducible refine (burgageref22_rank.calls k1 _ _ l0 ((qab t200 x8_1).f1) t213 _ ?side1 ?side2 A14.out).mono ?_
       (case side1 => repeat (first | exact (Kd.V_reads' HO_0.out).2.2 | (with_reducible refine Kd.C_alloc ?_ _) | (with_reducible refine Kd.C_drewN ?_ _) | (with_reducible refine Kd.C_drew ?_)))
       (case side2 => exact (Kd.V_reads' HO_0.out).2.1)
       rintro e w' ⟨rfl, ⟨nd, rfl⟩⟩
       refine ⟨_, rfl, ?_⟩
       refine hK.out _ _ ⟨hHeld.1, hHeld.2.1, hHeld.2.2.1, hHeld.2.2.2.1, hHeld.2.2.2.2.1, hHeld.2.2.2.2.2.1, hHeld.2.2.2.2.2.2.1, hHeld.2.2.2.2.2.2.2⟩ (fun hHeld => ?_)
       clear hK K
       refine qcj (a' := ?_) ?_ ?_
       rotate_left
       ·show Act.put _ (some 30) _ = _
        simp only [Act.put, List.setIfInBounds_toArray, List.set_cons_zero, List.set_cons_succ, qbb, qbc]
        rfl
       refine one_ (i := 13) (N := some 37) #[true, true, true, true, true, true, true, true, true, true, true, true, true, true, false, true, false] rfl rfl (one_of HT_.out (by kernel_rfl)) (by decide) (fun K hK => ?_)
       refine goes_ Try.func44 (by kernel_rfl) rfl #[.slice A0 l0.length c0, .int .i64 ((qab t200 x8_1).f2)] (by rfl) rfl rfl (by (try simp only [List.map_toArray, List.map_cons, List.map_nil]); first | done | rfl | (simp only [List.length_drop, List.length_take]; rfl)) ?_
       with_reducible refine (burgageref22_rank.calls k1 _ _ l0 ((qab t200 x8_1).f2) t215 _ ?side1 ?side2 A15.out).mono ?_
       (case side1 => repeat (first | exact (Kd.V_reads' HO_0.out).2.2 | (with_reducible refine Kd.C_alloc ?_ _) | (with_reducible refine Kd.C_drewN ?_ _) | (with_reducible refine Kd.C_drew ?_)))
       (case side2 => exact (Kd.V_reads' HO_0.out).2.1)
       rintro e w' ⟨rfl, ⟨nd, rfl⟩⟩
       refine ⟨_, rfl, ?_⟩
       refine hK.out _ _ ⟨hHeld.1, hHeld.2.1, hHeld.2.2.1, hHeld.2.2.2.1, hHeld.2.2.2.2.1, hHeld.2.2.2.2.2.1, hHeld.2.2.2.2.2.2.1, hHeld.2.2.2.2.2.2.2⟩ (fun hHeld => ?_)
       clear hK K
       refine qcj (a' := ?_) ?_ ?_
       rotate_left
       ·show Act.put _ (some 37) _ = _
        simp only [Act.put, List.setIfInBounds_toArray, List.set_cons_zero, List.set_cons_succ, qbb, qbc]
        rfl
       refine qbq (i := 14) (N := some 38) (v := ?_) (a' := ?_) #[true, true, true, true, true, true, true, true, true, true, true, true, true, true, true, true, false] rfl rfl (qbe HT_.out (by kernel_rfl)) (fun _ _ _ h => h) (Or.inl ⟨by rfl, ?_⟩) ?_ ?_
       rotate_left
       ·intro w'
        go_simp
        with_reducible rfl
       rotate_left
       ·simp only [Act.put, List.setIfInBounds_toArray, List.set_cons_zero, List.set_cons_succ, qbb, qbc]
        rfl
       exact qcj (by simp only [putAll, Act.put, List.setIfInBounds_toArray, List.set_cons_zero, List.set_cons_succ]) (hCont (gb216) _ ⟨hHeld, (by (with_reducible repeat (first | apply Kd.V_alloc | apply Kd.V_drewN | apply Kd.V_drew)); exact Kd.V_mono HL212_3.out (fun _ hk => ⟨hk.1.1.1, ⟨hk.1.1.2.1, ⟨hk.1.2, ⟨hk.1.1.2.2.1, ⟨hk.1.1.2.2.2.1, ⟨hk.1.1.2.2.2.2, hk.2⟩⟩⟩⟩⟩⟩)), (by (with_reducible repeat (first | apply Kd.V_alloc | apply Kd.V_drewN | apply Kd.V_drew)); exact Kd.V_mono HL214_3.out (fun _ hk => ⟨hk.1.1.1, ⟨hk.1.1.2.1, ⟨hk.1.2, ⟨hk.1.1.2.2.1, ⟨hk.1.1.2.2.2.1, ⟨hk.1.1.2.2.2.2, hk.2⟩⟩⟩⟩⟩⟩)), (by (with_reducible repeat (first | apply Kd.V_alloc | apply Kd.V_drewN | apply Kd.V_drew)); exact Kd.V_mono HO_0.out (fun _ hk => ⟨hk.1.1, ⟨hk.1.2.1, ⟨hk.1.2.2.1, ⟨hk.1.2.2.2.1, ⟨hk.1.2.2.2.2.1, ⟨hk.1.2.2.2.2.2, hk.2⟩⟩⟩⟩⟩⟩)), (by (with_reducible repeat (first | apply Kd.N_alloc | apply Kd.N_drewN | apply Kd.N_drew)); exact Kd.N_mono HO_3.out (fun _ hk => ⟨hk.1.1, ⟨hk.1.2.1, ⟨hk.1.2.2.1, ⟨hk.1.2.2.2.1, ⟨hk.1.2.2.2.2, hk.2⟩⟩⟩⟩⟩)), (by (with_reducible repeat (first | apply Kd.N_alloc | apply Kd.N_drewN | apply Kd.N_drew)); exact Kd.N_mono HO_4.out (fun _ hk => ⟨hk.1.1, ⟨hk.1.2.1, ⟨hk.1.2.2.1, ⟨hk.1.2.2.2.1, ⟨hk.1.2.2.2.2, hk.2⟩⟩⟩⟩⟩)), (by (with_reducible repeat (first | apply Kd.R_alloc | apply Kd.R_drewN | apply Kd.R_drew)); exact HO_5.out), (by (with_reducible repeat (first | apply Kd.R_alloc | apply Kd.R_drewN | apply Kd.R_drew)); exact HO_6.out), (by (with_reducible repeat (first | apply Kd.R_alloc | apply Kd.R_drewN | apply Kd.R_drew)); exact HO_7.out), (by (with_reducible repeat (first | refine qaf ?_ _ | refine qai ?_ | refine qag ?_ _)); exact BK216.out), GW216.out, GE216.out, (by repeat (first | (with_reducible first | exact HB.out | apply qac | apply qaa | apply qad | refine qak ?_ GE216.out) | exact HB.out))⟩)
     rintro gb216 w20 ⟨hS_, h0_, h1_, h2_, h3_, h4_, h5_, h6_, h7_, h8_, h9_, h10_, h11_⟩
     have n0_ : Aside0 (Kd.V k51 51 w20 w.heap.size (fun k_ => (P0_ k_ ∨ w.heap.size ≤ k_) ∧ some k_ ≠ (u3 : Value).ownBlock ∧ some k_ ≠ (.slice (some ad212) t200.length co17 : Value).ownBlock ∧ some k_ ≠ (u5 : Value).ownBlock ∧ some k_ ≠ (u6 : Value).ownBlock ∧ some k_ ≠ (u7 : Value).ownBlock ∧ k_ ≠ gb216) (.slice A212_3 ((qab t200 x8_1).f3).length c212_3) ((qab t200 x8_1).f3)) := ⟨h0_⟩
     have n1_ : Aside0 (Kd.V k51 51 w20 w.heap.size (fun k_ => (P0_ k_ ∨ w.heap.size ≤ k_) ∧ some k_ ≠ (u3 : Value).ownBlock ∧ some k_ ≠ (.slice (some ad212) t200.length co17 : Value).ownBlock ∧ some k_ ≠ (u5 : Value).ownBlock ∧ some k_ ≠ (u6 : Value).ownBlock ∧ some k_ ≠ (u7 : Value).ownBlock ∧ k_ ≠ gb216) (.slice A212_3 ((qab t200 x8_1).f3).length c212_3) ((qab t200 x8_1).f3)) := ⟨h1_⟩
     have n2_ : Aside0 (Kd.V k55 55 w20 w.heap.size (fun k_ => (P0_ k_ ∨ w.heap.size ≤ k_) ∧ some k_ ≠ (u3 : Value).ownBlock ∧ some k_ ≠ (.slice (some ad212) t200.length co17 : Value).ownBlock ∧ some k_ ≠ (u5 : Value).ownBlock ∧ some k_ ≠ (u6 : Value).ownBlock ∧ some k_ ≠ (u7 : Value).ownBlock ∧ k_ ≠ gb216) (.slice A0 l0.length c0) l0) := ⟨h2_⟩
     have n3_ : Aside0 (Kd.N k55 55 w20 w.heap.size (fun k_ => (P0_ k_ ∨ w.heap.size ≤ k_) ∧ some k_ ≠ (.slice (some ad212) t200.length co17 : Value).ownBlock ∧ some k_ ≠ (u5 : Value).ownBlock ∧ some k_ ≠ (u6 : Value).ownBlock ∧ some k_ ≠ (u7 : Value).ownBlock ∧ k_ ≠ gb216) u3 x3_1) := ⟨h3_⟩
     have n4_ : Aside0 (Kd.N k55 55 w20 w.heap.size (fun k_ => (P0_ k_ ∨ w.heap.size ≤ k_) ∧ some k_ ≠ (u3 : Value).ownBlock ∧ some k_ ≠ (u5 : Value).ownBlock ∧ some k_ ≠ (u6 : Value).ownBlock ∧ some k_ ≠ (u7 : Value).ownBlock ∧ k_ ≠ gb216) (.slice (some ad212) t200.length co17) t200) := ⟨h4_⟩
     have n5_ : Aside0 (Kd.R (Kd.int .i64) 3 w20 w.heap.size (fun k_ => (w.heap.size ≤ k_) ∧ some k_ ≠ (u6 : Value).ownBlock ∧ some k_ ≠ (u7 : Value).ownBlock) u5 x5_1) := ⟨h5_⟩
     have n6_ : Aside0 (Kd.R (Kd.int .i64) 3 w20 w.heap.size (fun k_ => (w.heap.size ≤ k_) ∧ some k_ ≠ (u5 : Value).ownBlock ∧ some k_ ≠ (u7 : Value).ownBlock) u6 x6_1) := ⟨h6_⟩
     have n7_ : Aside0 (Kd.R (Kd.int .i64) 3 w20 w.heap.size (fun k_ => (w.heap.size ≤ k_) ∧ some k_ ≠ (u5 : Value).ownBlock ∧ some k_ ≠ (u6 : Value).ownBlock) u7 x7_1) := ⟨h7_⟩
     have n8_ : Aside0 (w20.heap[gb216]? = some (.cells #[.int .i64 0, .int .i64 0, .int .i64 0, .slice none 0 0] 55 (0, 0))) := ⟨h8_⟩
     have n9_ : Aside0 (w.heap.size ≤ gb216) := ⟨h9_⟩
     have n10_ : Aside0 (w.heap.size ≤ gb216) := ⟨h10_⟩
     have n11_ : Aside0 (Below w.heap.size w w20) := ⟨h11_⟩
     clear HO_0
     clear HO_3
     clear HO_4
     clear HO_5
     clear HO_6
     clear HO_7
     clear HB
     clear h0_ h1_ h2_ h3_ h4_ h5_ h6_ h7_ h8_ h9_ h10_ h11_
     have HL212_3 := n0_
     have HL214_3 := n1_
     have HO_0 := n2_
     have HO_3 := n3_
     have HO_4 := n4_
     have HO_5 := n5_
     have HO_6 := n6_
     have HO_7 := n7_
     have BK216 := n8_
     have GW216 := n9_
     have GE216 := n10_
     have HB := n11_
     clear n0_ n1_ n2_ n3_ n4_ n5_ n6_ n7_ n8_ n9_ n10_ n11_
     have hHeld : w20.cell? (ad212.add ((x8_1).toNat * 4)) = some (.int .i64 ((qab t200 x8_1).f0)) ∧ w20.cell? ⟨(ad212.add ((x8_1).toNat * 4)).block, (ad212.add ((x8_1).toNat * 4)).off + 1, none⟩ = some (.int .i64 ((qab t200 x8_1).f1)) ∧ w20.cell? ⟨(ad212.add ((x8_1).toNat * 4)).block, (ad212.add ((x8_1).toNat * 4)).off + 2, none⟩ = some (.int .i64 ((qab t200 x8_1).f2)) ∧ w20.cell? ⟨(ad212.add ((x8_1).toNat * 4)).block, (ad212.add ((x8_1).toNat * 4)).off + 3, none⟩ = some (.slice A212_3 ((qab t200 x8_1).f3).length c212_3) ∧ w20.cell? (ad212.add ((x8_1).toNat * 4)) = some (.int .i64 ((qab t200 x8_1).f0)) ∧ w20.cell? ⟨(ad212.add ((x8_1).toNat * 4)).block, (ad212.add ((x8_1).toNat * 4)).off + 1, none⟩ = some (.int .i64 ((qab t200 x8_1).f1)) ∧ w20.cell? ⟨(ad212.add ((x8_1).toNat * 4)).block, (ad212.add ((x8_1).toNat * 4)).off + 2, none⟩ = some (.int .i64 ((qab t200 x8_1).f2)) ∧ w20.cell? ⟨(ad212.add ((x8_1).toNat * 4)).block, (ad212.add ((x8_1).toNat * 4)).off + 3, none⟩ = some (.slice A212_3 ((qab t200 x8_1).f3).length c212_3) := hS_
     refine qcj (a' := ?_) ?_ ?_
     rotate_left
     ·simp only [putAll, Act.put, List.setIfInBounds_toArray, List.set_cons_zero, List.set_cons_succ]
      rfl
     refine one_ (i := 16) (N := none) #[true, true, true, true, true, true, true, true, true, true, true, true, true, true, true, true, true] rfl rfl (one_of HT_.out (by kernel_rfl)) (by decide) (fun K hK => ?_)
     have hs21 : w20.cell? ⟨gb216, 0, none⟩ = some (.int .i64 0) := (qah BK216.out 0).trans rfl
     have hfs21 := qae BK216.out 0
     have hs22 : w20.cell? ⟨gb216, 1, none⟩ = some (.int .i64 0) := (qah BK216.out 1).trans rfl
     have hfs22 := qae BK216.out 1
     have hs23 : w20.cell? ⟨gb216, 2, none⟩ = some (.int .i64 0) := (qah BK216.out 2).trans rfl
     have hfs23 := qae BK216.out 2
     have hs24 : w20.cell? ⟨gb216, 3, none⟩ = some (.slice none 0 0) := (qah BK216.out 3).trans rfl
     have hfs24 := qae BK216.out 3
     refine skip_ (w1 := ?_) (by rfl) rfl ?_ ?_
     rotate_left
     ·go_simp
      rfl
     refine hK.out _ _ ⟨((cell_far (p := ⟨gb216, _, none⟩) (by first | exact Kd.own_blk (Kd.N_away HO_4.out (fun _ hk => hk.2.2.2.2.2)) | (rw [add_block]; exact Kd.own_blk (Kd.N_away HO_4.out (fun _ hk => hk.2.2.2.2.2))) | (show (Addr.add _ _).block ≠ _; rw [add_block]; exact Kd.own_blk (Kd.N_away HO_4.out (fun _ hk => hk.2.2.2.2.2))) | (dsimp only; exact Kd.own_blk (Kd.N_away HO_4.out (fun _ hk => hk.2.2.2.2.2)))) _).trans (((cell_far (p := ⟨gb216, _, none⟩) (by first | exact Kd.own_blk (Kd.N_away HO_4.out (fun _ hk => hk.2.2.2.2.2)) | (rw [add_block]; exact Kd.own_blk (Kd.N_away HO_4.out (fun _ hk => hk.2.2.2.2.2))) | (show (Addr.add _ _).block ≠ _; rw [add_block]; exact Kd.own_blk (Kd.N_away HO_4.out (fun _ hk => hk.2.2.2.2.2))) | (dsimp only; exact Kd.own_blk (Kd.N_away HO_4.out (fun _ hk => hk.2.2.2.2.2)))) _).trans (((cell_far (p := ⟨gb216, _, none⟩) (by first | exact Kd.own_blk (Kd.N_away HO_4.out (fun _ hk => hk.2.2.2.2.2)) | (rw [add_block]; exact Kd.own_blk (Kd.N_away HO_4.out (fun _ hk => hk.2.2.2.2.2))) | (show (Addr.add _ _).block ≠ _; rw [add_block]; exact Kd.own_blk (Kd.N_away HO_4.out (fun _ hk => hk.2.2.2.2.2))) | (dsimp only; exact Kd.own_blk (Kd.N_away HO_4.out (fun _ hk => hk.2.2.2.2.2)))) _).trans (((cell_far (p := ⟨gb216, _, none⟩) (by first | exact Kd.own_blk (Kd.N_away HO_4.out (fun _ hk => hk.2.2.2.2.2)) | (rw [add_block]; exact Kd.own_blk (Kd.N_away HO_4.out (fun _ hk => hk.2.2.2.2.2))) | (show (Addr.add _ _).block ≠ _; rw [add_block]; exact Kd.own_blk (Kd.N_away HO_4.out (fun _ hk => hk.2.2.2.2.2))) | (dsimp only; exact Kd.own_blk (Kd.N_away HO_4.out (fun _ hk => hk.2.2.2.2.2)))) _).trans (hHeld.1)))))))), ((cell_far (p := ⟨gb216, _, none⟩) (by first | exact Kd.own_blk (Kd.N_away HO_4.out (fun _ hk => hk.2.2.2.2.2)) | (rw [add_block]; exact Kd.own_blk (Kd.N_away HO_4.out (fun _ hk => hk.2.2.2.2.2))) | (show (Addr.add _ _).block ≠ _; rw [add_block]; exact Kd.own_blk (Kd.N_away HO_4.out (fun _ hk => hk.2.2.2.2.2))) | (dsimp only; exact Kd.own_blk (Kd.N_away HO_4.out (fun _ hk => hk.2.2.2.2.2)))) _).trans (((cell_far (p := ⟨gb216, _, none⟩) (by first | exact Kd.own_blk (Kd.N_away HO_4.out (fun _ hk => hk.2.2.2.2.2)) | (rw [add_block]; exact Kd.own_blk (Kd.N_away HO_4.out (fun _ hk => hk.2.2.2.2.2))) | (show (Addr.add _ _).block ≠ _; rw [add_block]; exact Kd.own_blk (Kd.N_away HO_4.out (fun _ hk => hk.2.2.2.2.2))) | (dsimp only; exact Kd.own_blk (Kd.N_away HO_4.out (fun _ hk => hk.2.2.2.2.2)))) _).trans (((cell_far (p := ⟨gb216, _, none⟩) (by first | exact Kd.own_blk (Kd.N_away HO_4.out (fun _ hk => hk.2.2.2.2.2)) | (rw [add_block]; exact Kd.own_blk (Kd.N_away HO_4.out (fun _ hk => hk.2.2.2.2.2))) | (show (Addr.add _ _).block ≠ _; rw [add_block]; exact Kd.own_blk (Kd.N_away HO_4.out (fun _ hk => hk.2.2.2.2.2))) | (dsimp only; exact Kd.own_blk (Kd.N_away HO_4.out (fun _ hk => hk.2.2.2.2.2)))) _).trans (((cell_far (p := ⟨gb216, _, none⟩) (by first | exact Kd.own_blk (Kd.N_away HO_4.out (fun _ hk => hk.2.2.2.2.2)) | (rw [add_block]; exact Kd.own_blk (Kd.N_away HO_4.out (fun _ hk => hk.2.2.2.2.2))) | (show (Addr.add _ _).block ≠ _; rw [add_block]; exact Kd.own_blk (Kd.N_away HO_4.out (fun _ hk => hk.2.2.2.2.2))) | (dsimp only; exact Kd.own_blk (Kd.N_away HO_4.out (fun _ hk => hk.2.2.2.2.2)))) _).trans (hHeld.2.1)))))))), ((cell_far (p := ⟨gb216, _, none⟩) (by first | exact Kd.own_blk (Kd.N_away HO_4.out (fun _ hk => hk.2.2.2.2.2)) | (rw [add_block]; exact Kd.own_blk (Kd.N_away HO_4.out (fun _ hk => hk.2.2.2.2.2))) | (show (Addr.add _ _).block ≠ _; rw [add_block]; exact Kd.own_blk (Kd.N_away HO_4.out (fun _ hk => hk.2.2.2.2.2))) | (dsimp only; exact Kd.own_blk (Kd.N_away HO_4.out (fun _ hk => hk.2.2.2.2.2)))) _).trans (((cell_far (p := ⟨gb216, _, none⟩) (by first | exact Kd.own_blk (Kd.N_away HO_4.out (fun _ hk => hk.2.2.2.2.2)) | (rw [add_block]; exact Kd.own_blk (Kd.N_away HO_4.out (fun _ hk => hk.2.2.2.2.2))) | (show (Addr.add _ _).block ≠ _; rw [add_block]; exact Kd.own_blk (Kd.N_away HO_4.out (fun _ hk => hk.2.2.2.2.2))) | (dsimp only; exact Kd.own_blk (Kd.N_away HO_4.out (fun _ hk => hk.2.2.2.2.2)))) _).trans (((cell_far (p := ⟨gb216, _, none⟩) (by first | exact Kd.own_blk (Kd.N_away HO_4.out (fun _ hk => hk.2.2.2.2.2)) | (rw [add_block]; exact Kd.own_blk (Kd.N_away HO_4.out (fun _ hk => hk.2.2.2.2.2))) | (show (Addr.add _ _).block ≠ _; rw [add_block]; exact Kd.own_blk (Kd.N_away HO_4.out (fun _ hk => hk.2.2.2.2.2))) | (dsimp only; exact Kd.own_blk (Kd.N_away HO_4.out (fun _ hk => hk.2.2.2.2.2)))) _).trans (((cell_far (p := ⟨gb216, _, none⟩) (by first | exact Kd.own_blk (Kd.N_away HO_4.out (fun _ hk => hk.2.2.2.2.2)) | (rw [add_block]; exact Kd.own_blk (Kd.N_away HO_4.out (fun _ hk => hk.2.2.2.2.2))) | (show (Addr.add _ _).block ≠ _; rw [add_block]; exact Kd.own_blk (Kd.N_away HO_4.out (fun _ hk => hk.2.2.2.2.2))) | (dsimp only; exact Kd.own_blk (Kd.N_away HO_4.out (fun _ hk => hk.2.2.2.2.2)))) _).trans (hHeld.2.2.1)))))))), ((cell_far (p := ⟨gb216, _, none⟩) (by first | exact Kd.own_blk (Kd.N_away HO_4.out (fun _ hk => hk.2.2.2.2.2)) | (rw [add_block]; exact Kd.own_blk (Kd.N_away HO_4.out (fun _ hk => hk.2.2.2.2.2))) | (show (Addr.add _ _).block ≠ _; rw [add_block]; exact Kd.own_blk (Kd.N_away HO_4.out (fun _ hk => hk.2.2.2.2.2))) | (dsimp only; exact Kd.own_blk (Kd.N_away HO_4.out (fun _ hk => hk.2.2.2.2.2)))) _).trans (((cell_far (p := ⟨gb216, _, none⟩) (by first | exact Kd.own_blk (Kd.N_away HO_4.out (fun _ hk => hk.2.2.2.2.2)) | (rw [add_block]; exact Kd.own_blk (Kd.N_away HO_4.out (fun _ hk => hk.2.2.2.2.2))) | (show (Addr.add _ _).block ≠ _; rw [add_block]; exact Kd.own_blk (Kd.N_away HO_4.out (fun _ hk => hk.2.2.2.2.2))) | (dsimp only; exact Kd.own_blk (Kd.N_away HO_4.out (fun _ hk => hk.2.2.2.2.2)))) _).trans (((cell_far (p := ⟨gb216, _, none⟩) (by first | exact Kd.own_blk (Kd.N_away HO_4.out (fun _ hk => hk.2.2.2.2.2)) | (rw [add_block]; exact Kd.own_blk (Kd.N_away HO_4.out (fun _ hk => hk.2.2.2.2.2))) | (show (Addr.add _ _).block ≠ _; rw [add_block]; exact Kd.own_blk (Kd.N_away HO_4.out (fun _ hk => hk.2.2.2.2.2))) | (dsimp only; exact Kd.own_blk (Kd.N_away HO_4.out (fun _ hk => hk.2.2.2.2.2)))) _).trans (((cell_far (p := ⟨gb216, _, none⟩) (by first | exact Kd.own_blk (Kd.N_away HO_4.out (fun _ hk => hk.2.2.2.2.2)) | (rw [add_block]; exact Kd.own_blk (Kd.N_away HO_4.out (fun _ hk => hk.2.2.2.2.2))) | (show (Addr.add _ _).block ≠ _; rw [add_block]; exact Kd.own_blk (Kd.N_away HO_4.out (fun _ hk => hk.2.2.2.2.2))) | (dsimp only; exact Kd.own_blk (Kd.N_away HO_4.out (fun _ hk => hk.2.2.2.2.2)))) _).trans (hHeld.2.2.2.1)))))))), ((cell_far (p := ⟨gb216, _, none⟩) (by first | exact Kd.own_blk (Kd.N_away HO_4.out (fun _ hk => hk.2.2.2.2.2)) | (rw [add_block]; exact Kd.own_blk (Kd.N_away HO_4.out (fun _ hk => hk.2.2.2.2.2))) | (show (Addr.add _ _).block ≠ _; rw [add_block]; exact Kd.own_blk (Kd.N_away HO_4.out (fun _ hk => hk.2.2.2.2.2))) | (dsimp only; exact Kd.own_blk (Kd.N_away HO_4.out (fun _ hk => hk.2.2.2.2.2)))) _).trans (((cell_far (p := ⟨gb216, _, none⟩) (by first | exact Kd.own_blk (Kd.N_away HO_4.out (fun _ hk => hk.2.2.2.2.2)) | (rw [add_block]; exact Kd.own_blk (Kd.N_away HO_4.out (fun _ hk => hk.2.2.2.2.2))) | (show (Addr.add _ _).block ≠ _; rw [add_block]; exact Kd.own_blk (Kd.N_away HO_4.out (fun _ hk => hk.2.2.2.2.2))) | (dsimp only; exact Kd.own_blk (Kd.N_away HO_4.out (fun _ hk => hk.2.2.2.2.2)))) _).trans (((cell_far (p := ⟨gb216, _, none⟩) (by first | exact Kd.own_blk (Kd.N_away HO_4.out (fun _ hk => hk.2.2.2.2.2)) | (rw [add_block]; exact Kd.own_blk (Kd.N_away HO_4.out (fun _ hk => hk.2.2.2.2.2))) | (show (Addr.add _ _).block ≠ _; rw [add_block]; exact Kd.own_blk (Kd.N_away HO_4.out (fun _ hk => hk.2.2.2.2.2))) | (dsimp only; exact Kd.own_blk (Kd.N_away HO_4.out (fun _ hk => hk.2.2.2.2.2)))) _).trans (((cell_far (p := ⟨gb216, _, none⟩) (by first | exact Kd.own_blk (Kd.N_away HO_4.out (fun _ hk => hk.2.2.2.2.2)) | (rw [add_block]; exact Kd.own_blk (Kd.N_away HO_4.out (fun _ hk => hk.2.2.2.2.2))) | (show (Addr.add _ _).block ≠ _; rw [add_block]; exact Kd.own_blk (Kd.N_away HO_4.out (fun _ hk => hk.2.2.2.2.2))) | (dsimp only; exact Kd.own_blk (Kd.N_away HO_4.out (fun _ hk => hk.2.2.2.2.2)))) _).trans (hHeld.2.2.2.2.1)))))))), ((cell_far (p := ⟨gb216, _, none⟩) (by first | exact Kd.own_blk (Kd.N_away HO_4.out (fun _ hk => hk.2.2.2.2.2)) | (rw [add_block]; exact Kd.own_blk (Kd.N_away HO_4.out (fun _ hk => hk.2.2.2.2.2))) | (show (Addr.add _ _).block ≠ _; rw [add_block]; exact Kd.own_blk (Kd.N_away HO_4.out (fun _ hk => hk.2.2.2.2.2))) | (dsimp only; exact Kd.own_blk (Kd.N_away HO_4.out (fun _ hk => hk.2.2.2.2.2)))) _).trans (((cell_far (p := ⟨gb216, _, none⟩) (by first | exact Kd.own_blk (Kd.N_away HO_4.out (fun _ hk => hk.2.2.2.2.2)) | (rw [add_block]; exact Kd.own_blk (Kd.N_away HO_4.out (fun _ hk => hk.2.2.2.2.2))) | (show (Addr.add _ _).block ≠ _; rw [add_block]; exact Kd.own_blk (Kd.N_away HO_4.out (fun _ hk => hk.2.2.2.2.2))) | (dsimp only; exact Kd.own_blk (Kd.N_away HO_4.out (fun _ hk => hk.2.2.2.2.2)))) _).trans (((cell_far (p := ⟨gb216, _, none⟩) (by first | exact Kd.own_blk (Kd.N_away HO_4.out (fun _ hk => hk.2.2.2.2.2)) | (rw [add_block]; exact Kd.own_blk (Kd.N_away HO_4.out (fun _ hk => hk.2.2.2.2.2))) | (show (Addr.add _ _).block ≠ _; rw [add_block]; exact Kd.own_blk (Kd.N_away HO_4.out (fun _ hk => hk.2.2.2.2.2))) | (dsimp only; exact Kd.own_blk (Kd.N_away HO_4.out (fun _ hk => hk.2.2.2.2.2)))) _).trans (((cell_far (p := ⟨gb216, _, none⟩) (by first | exact Kd.own_blk (Kd.N_away HO_4.out (fun _ hk => hk.2.2.2.2.2)) | (rw [add_block]; exact Kd.own_blk (Kd.N_away HO_4.out (fun _ hk => hk.2.2.2.2.2))) | (show (Addr.add _ _).block ≠ _; rw [add_block]; exact Kd.own_blk (Kd.N_away HO_4.out (fun _ hk => hk.2.2.2.2.2))) | (dsimp only; exact Kd.own_blk (Kd.N_away HO_4.out (fun _ hk => hk.2.2.2.2.2)))) _).trans (hHeld.2.2.2.2.2.1)))))))), ((cell_far (p := ⟨gb216, _, none⟩) (by first | exact Kd.own_blk (Kd.N_away HO_4.out (fun _ hk => hk.2.2.2.2.2)) | (rw [add_block]; exact Kd.own_blk (Kd.N_away HO_4.out (fun _ hk => hk.2.2.2.2.2))) | (show (Addr.add _ _).block ≠ _; rw [add_block]; exact Kd.own_blk (Kd.N_away HO_4.out (fun _ hk => hk.2.2.2.2.2))) | (dsimp only; exact Kd.own_blk (Kd.N_away HO_4.out (fun _ hk => hk.2.2.2.2.2)))) _).trans (((cell_far (p := ⟨gb216, _, none⟩) (by first | exact Kd.own_blk (Kd.N_away HO_4.out (fun _ hk => hk.2.2.2.2.2)) | (rw [add_block]; exact Kd.own_blk (Kd.N_away HO_4.out (fun _ hk => hk.2.2.2.2.2))) | (show (Addr.add _ _).block ≠ _; rw [add_block]; exact Kd.own_blk (Kd.N_away HO_4.out (fun _ hk => hk.2.2.2.2.2))) | (dsimp only; exact Kd.own_blk (Kd.N_away HO_4.out (fun _ hk => hk.2.2.2.2.2)))) _).trans (((cell_far (p := ⟨gb216, _, none⟩) (by first | exact Kd.own_blk (Kd.N_away HO_4.out (fun _ hk => hk.2.2.2.2.2)) | (rw [add_block]; exact Kd.own_blk (Kd.N_away HO_4.out (fun _ hk => hk.2.2.2.2.2))) | (show (Addr.add _ _).block ≠ _; rw [add_block]; exact Kd.own_blk (Kd.N_away HO_4.out (fun _ hk => hk.2.2.2.2.2))) | (dsimp only; exact Kd.own_blk (Kd.N_away HO_4.out (fun _ hk => hk.2.2.2.2.2)))) _).trans (((cell_far (p := ⟨gb216, _, none⟩) (by first | exact Kd.own_blk (Kd.N_away HO_4.out (fun _ hk => hk.2.2.2.2.2)) | (rw [add_block]; exact Kd.own_blk (Kd.N_away HO_4.out (fun _ hk => hk.2.2.2.2.2))) | (show (Addr.add _ _).block ≠ _; rw [add_block]; exact Kd.own_blk (Kd.N_away HO_4.out (fun _ hk => hk.2.2.2.2.2))) | (dsimp only; exact Kd.own_blk (Kd.N_away HO_4.out (fun _ hk => hk.2.2.2.2.2)))) _).trans (hHeld.2.2.2.2.2.2.1)))))))), ((cell_far (p := ⟨gb216, _, none⟩) (by first | exact Kd.own_blk (Kd.N_away HO_4.out (fun _ hk => hk.2.2.2.2.2)) | (rw [add_block]; exact Kd.own_blk (Kd.N_away HO_4.out (fun _ hk => hk.2.2.2.2.2))) | (show (Addr.add _ _).block ≠ _; rw [add_block]; exact Kd.own_blk (Kd.N_away HO_4.out (fun _ hk => hk.2.2.2.2.2))) | (dsimp only; exact Kd.own_blk (Kd.N_away HO_4.out (fun _ hk => hk.2.2.2.2.2)))) _).trans (((cell_far (p := ⟨gb216, _, none⟩) (by first | exact Kd.own_blk (Kd.N_away HO_4.out (fun _ hk => hk.2.2.2.2.2)) | (rw [add_block]; exact Kd.own_blk (Kd.N_away HO_4.out (fun _ hk => hk.2.2.2.2.2))) | (show (Addr.add _ _).block ≠ _; rw [add_block]; exact Kd.own_blk (Kd.N_away HO_4.out (fun _ hk => hk.2.2.2.2.2))) | (dsimp only; exact Kd.own_blk (Kd.N_away HO_4.out (fun _ hk => hk.2.2.2.2.2)))) _).trans (((cell_far (p := ⟨gb216, _, none⟩) (by first | exact Kd.own_blk (Kd.N_away HO_4.out (fun _ hk => hk.2.2.2.2.2)) | (rw [add_block]; exact Kd.own_blk (Kd.N_away HO_4.out (fun _ hk => hk.2.2.2.2.2))) | (show (Addr.add _ _).block ≠ _; rw [add_block]; exact Kd.own_blk (Kd.N_away HO_4.out (fun _ hk => hk.2.2.2.2.2))) | (dsimp only; exact Kd.own_blk (Kd.N_away HO_4.out (fun _ hk => hk.2.2.2.2.2)))) _).trans (((cell_far (p := ⟨gb216, _, none⟩) (by first | exact Kd.own_blk (Kd.N_away HO_4.out (fun _ hk => hk.2.2.2.2.2)) | (rw [add_block]; exact Kd.own_blk (Kd.N_away HO_4.out (fun _ hk => hk.2.2.2.2.2))) | (show (Addr.add _ _).block ≠ _; rw [add_block]; exact Kd.own_blk (Kd.N_away HO_4.out (fun _ hk => hk.2.2.2.2.2))) | (dsimp only; exact Kd.own_blk (Kd.N_away HO_4.out (fun _ hk => hk.2.2.2.2.2)))) _).trans (hHeld.2.2.2.2.2.2.2))))))))⟩ (fun hHeld => ?_)
     clear hK K
     refine done_ (done_of HT_.out (by kernel_rfl)) ?_
     have n0_ : Aside0 (Kd.V k55 55 ((((w20.setCell ⟨gb216, 0, none⟩ (.int .i64 0)).setCell ⟨gb216, 1, none⟩ (.int .i64 t213)).setCell ⟨gb216, 2, none⟩ (.int .i64 t215)).setCell ⟨gb216, 3, none⟩ (.slice none 0 0)) w.heap.size (fun k_ => (P0_ k_ ∨ w.heap.size ≤ k_) ∧ some k_ ≠ (u3 : Value).ownBlock ∧ some k_ ≠ (.slice (some ad212) t200.length co17 : Value).ownBlock ∧ some k_ ≠ (u5 : Value).ownBlock ∧ some k_ ≠ (u6 : Value).ownBlock ∧ some k_ ≠ (u7 : Value).ownBlock ∧ k_ ≠ gb216) (.slice A0 l0.length c0) l0) := ⟨by (with_reducible repeat (first | apply Kd.V_alloc | apply Kd.V_drewN | apply Kd.V_drew)); exact Kd.V_mono (Kd.V_far (p := ⟨gb216, 3, none⟩) (Kd.V_far (p := ⟨gb216, 2, none⟩) (Kd.V_far (p := ⟨gb216, 1, none⟩) (Kd.V_far (p := ⟨gb216, 0, none⟩) (Kd.V_mono HO_0.out (fun k_ hk => (⟨hk, hk.2.2.2.2.2.2⟩ : _ ∧ k_ ≠ gb216))) (fun _ hk => hk.2) (.int .i64 0)) (fun _ hk => hk.2) (.int .i64 t213)) (fun _ hk => hk.2) (.int .i64 t215)) (fun _ hk => hk.2) (.slice none 0 0)) (fun _ hk => ⟨hk.1.1, ⟨hk.1.2.1, ⟨hk.1.2.2.1, ⟨hk.1.2.2.2.1, ⟨hk.1.2.2.2.2.1, ⟨hk.1.2.2.2.2.2.1, hk.1.2.2.2.2.2.2⟩⟩⟩⟩⟩⟩)⟩
     have n1_ : Aside0 (Kd.N k55 55 ((((w20.setCell ⟨gb216, 0, none⟩ (.int .i64 0)).setCell ⟨gb216, 1, none⟩ (.int .i64 t213)).setCell ⟨gb216, 2, none⟩ (.int .i64 t215)).setCell ⟨gb216, 3, none⟩ (.slice none 0 0)) w.heap.size (fun k_ => (P0_ k_ ∨ w.heap.size ≤ k_) ∧ some k_ ≠ (.slice (some ad212) t200.length co17 : Value).ownBlock ∧ some k_ ≠ (u5 : Value).ownBlock ∧ some k_ ≠ (u6 : Value).ownBlock ∧ some k_ ≠ (u7 : Value).ownBlock ∧ k_ ≠ gb216) u3 x3_1) := ⟨by (with_reducible repeat (first | apply Kd.N_alloc | apply Kd.N_drewN | apply Kd.N_drew)); exact Kd.N_mono (Kd.N_far (p := ⟨gb216, 3, none⟩) (Kd.N_far (p := ⟨gb216, 2, none⟩) (Kd.N_far (p := ⟨gb216, 1, none⟩) (Kd.N_far (p := ⟨gb216, 0, none⟩) (Kd.N_mono HO_3.out (fun k_ hk => (⟨hk, hk.2.2.2.2.2⟩ : _ ∧ k_ ≠ gb216))) (fun _ hk => hk.2) (.int .i64 0)) (fun _ hk => hk.2) (.int .i64 t213)) (fun _ hk => hk.2) (.int .i64 t215)) (fun _ hk => hk.2) (.slice none 0 0)) (fun _ hk => ⟨hk.1.1, ⟨hk.1.2.1, ⟨hk.1.2.2.1, ⟨hk.1.2.2.2.1, ⟨hk.1.2.2.2.2.1, hk.1.2.2.2.2.2⟩⟩⟩⟩⟩)⟩
     have n2_ : Aside0 (Kd.N k55 55 ((((w20.setCell ⟨gb216, 0, none⟩ (.int .i64 0)).setCell ⟨gb216, 1, none⟩ (.int .i64 t213)).setCell ⟨gb216, 2, none⟩ (.int .i64 t215)).setCell ⟨gb216, 3, none⟩ (.slice none 0 0)) w.heap.size (fun k_ => (P0_ k_ ∨ w.heap.size ≤ k_) ∧ some k_ ≠ (u3 : Value).ownBlock ∧ some k_ ≠ (u5 : Value).ownBlock ∧ some k_ ≠ (u6 : Value).ownBlock ∧ some k_ ≠ (u7 : Value).ownBlock ∧ k_ ≠ gb216) (.slice (some ad212) t200.length co17) t200) := ⟨by (with_reducible repeat (first | apply Kd.N_alloc | apply Kd.N_drewN | apply Kd.N_drew)); exact Kd.N_mono (Kd.N_far (p := ⟨gb216, 3, none⟩) (Kd.N_far (p := ⟨gb216, 2, none⟩) (Kd.N_far (p := ⟨gb216, 1, none⟩) (Kd.N_far (p := ⟨gb216, 0, none⟩) (Kd.N_mono HO_4.out (fun k_ hk => (⟨hk, hk.2.2.2.2.2⟩ : _ ∧ k_ ≠ gb216))) (fun _ hk => hk.2) (.int .i64 0)) (fun _ hk => hk.2) (.int .i64 t213)) (fun _ hk => hk.2) (.int .i64 t215)) (fun _ hk => hk.2) (.slice none 0 0)) (fun _ hk => ⟨hk.1.1, ⟨hk.1.2.1, ⟨hk.1.2.2.1, ⟨hk.1.2.2.2.1, ⟨hk.1.2.2.2.2.1, hk.1.2.2.2.2.2⟩⟩⟩⟩⟩)⟩
     have n3_ : Aside0 (Kd.R (Kd.int .i64) 3 ((((w20.setCell ⟨gb216, 0, none⟩ (.int .i64 0)).setCell ⟨gb216, 1, none⟩ (.int .i64 t213)).setCell ⟨gb216, 2, none⟩ (.int .i64 t215)).setCell ⟨gb216, 3, none⟩ (.slice none 0 0)) w.heap.size (fun k_ => (w.heap.size ≤ k_) ∧ some k_ ≠ (u6 : Value).ownBlock ∧ some k_ ≠ (u7 : Value).ownBlock) u5 x5_1) := ⟨by (with_reducible repeat (first | apply Kd.R_alloc | apply Kd.R_drewN | apply Kd.R_drew)); exact Kd.R_mono (Kd.R_far (p := ⟨gb216, 3, none⟩) (Kd.R_far (p := ⟨gb216, 2, none⟩) (Kd.R_far (p := ⟨gb216, 1, none⟩) (Kd.R_far (p := ⟨gb216, 0, none⟩) (Kd.R_types HO_5.out BK216.out (by decide)) (fun _ hk => hk.2) (.int .i64 0)) (fun _ hk => hk.2) (.int .i64 t213)) (fun _ hk => hk.2) (.int .i64 t215)) (fun _ hk => hk.2) (.slice none 0 0)) (fun _ hk => ⟨hk.1.1, ⟨hk.1.2.1, hk.1.2.2⟩⟩)⟩
     have n4_ : Aside0 (Kd.R (Kd.int .i64) 3 ((((w20.setCell ⟨gb216, 0, none⟩ (.int .i64 0)).setCell ⟨gb216, 1, none⟩ (.int .i64 t213)).setCell ⟨gb216, 2, none⟩ (.int .i64 t215)).setCell ⟨gb216, 3, none⟩ (.slice none 0 0)) w.heap.size (fun k_ => (w.heap.size ≤ k_) ∧ some k_ ≠ (u5 : Value).ownBlock ∧ some k_ ≠ (u7 : Value).ownBlock) u6 x6_1) := ⟨by (with_reducible repeat (first | apply Kd.R_alloc | apply Kd.R_drewN | apply Kd.R_drew)); exact Kd.R_mono (Kd.R_far (p := ⟨gb216, 3, none⟩) (Kd.R_far (p := ⟨gb216, 2, none⟩) (Kd.R_far (p := ⟨gb216, 1, none⟩) (Kd.R_far (p := ⟨gb216, 0, none⟩) (Kd.R_types HO_6.out BK216.out (by decide)) (fun _ hk => hk.2) (.int .i64 0)) (fun _ hk => hk.2) (.int .i64 t213)) (fun _ hk => hk.2) (.int .i64 t215)) (fun _ hk => hk.2) (.slice none 0 0)) (fun _ hk => ⟨hk.1.1, ⟨hk.1.2.1, hk.1.2.2⟩⟩)⟩
     have n5_ : Aside0 (Kd.R (Kd.int .i64) 3 ((((w20.setCell ⟨gb216, 0, none⟩ (.int .i64 0)).setCell ⟨gb216, 1, none⟩ (.int .i64 t213)).setCell ⟨gb216, 2, none⟩ (.int .i64 t215)).setCell ⟨gb216, 3, none⟩ (.slice none 0 0)) w.heap.size (fun k_ => (w.heap.size ≤ k_) ∧ some k_ ≠ (u5 : Value).ownBlock ∧ some k_ ≠ (u6 : Value).ownBlock) u7 x7_1) := ⟨by (with_reducible repeat (first | apply Kd.R_alloc | apply Kd.R_drewN | apply Kd.R_drew)); exact Kd.R_mono (Kd.R_far (p := ⟨gb216, 3, none⟩) (Kd.R_far (p := ⟨gb216, 2, none⟩) (Kd.R_far (p := ⟨gb216, 1, none⟩) (Kd.R_far (p := ⟨gb216, 0, none⟩) (Kd.R_types HO_7.out BK216.out (by decide)) (fun _ hk => hk.2) (.int .i64 0)) (fun _ hk => hk.2) (.int .i64 t213)) (fun _ hk => hk.2) (.int .i64 t215)) (fun _ hk => hk.2) (.slice none 0 0)) (fun _ hk => ⟨hk.1.1, ⟨hk.1.2.1, hk.1.2.2⟩⟩)⟩
     have n6_ : Aside0 (Kd.V k51 51 ((((w20.setCell ⟨gb216, 0, none⟩ (.int .i64 0)).setCell ⟨gb216, 1, none⟩ (.int .i64 t213)).setCell ⟨gb216, 2, none⟩ (.int .i64 t215)).setCell ⟨gb216, 3, none⟩ (.slice none 0 0)) w.heap.size (fun k_ => (P0_ k_ ∨ w.heap.size ≤ k_) ∧ some k_ ≠ (u3 : Value).ownBlock ∧ some k_ ≠ (.slice (some ad212) t200.length co17 : Value).ownBlock ∧ some k_ ≠ (u5 : Value).ownBlock ∧ some k_ ≠ (u6 : Value).ownBlock ∧ some k_ ≠ (u7 : Value).ownBlock ∧ k_ ≠ gb216) (.slice A212_3 ((qab t200 x8_1).f3).length c212_3) ((qab t200 x8_1).f3)) := ⟨by (with_reducible repeat (first | apply Kd.V_alloc | apply Kd.V_drewN | apply Kd.V_drew)); exact Kd.V_mono (Kd.V_far (p := ⟨gb216, 3, none⟩) (Kd.V_far (p := ⟨gb216, 2, none⟩) (Kd.V_far (p := ⟨gb216, 1, none⟩) (Kd.V_far (p := ⟨gb216, 0, none⟩) (Kd.V_mono HL212_3.out (fun k_ hk => (⟨hk, hk.2.2.2.2.2.2⟩ : _ ∧ k_ ≠ gb216))) (fun _ hk => hk.2) (.int .i64 0)) (fun _ hk => hk.2) (.int .i64 t213)) (fun _ hk => hk.2) (.int .i64 t215)) (fun _ hk => hk.2) (.slice none 0 0)) (fun _ hk => ⟨hk.1.1, ⟨hk.1.2.1, ⟨hk.1.2.2.1, ⟨hk.1.2.2.2.1, ⟨hk.1.2.2.2.2.1, ⟨hk.1.2.2.2.2.2.1, hk.1.2.2.2.2.2.2⟩⟩⟩⟩⟩⟩)⟩
     have n7_ : Aside0 (Kd.V k51 51 ((((w20.setCell ⟨gb216, 0, none⟩ (.int .i64 0)).setCell ⟨gb216, 1, none⟩ (.int .i64 t213)).setCell ⟨gb216, 2, none⟩ (.int .i64 t215)).setCell ⟨gb216, 3, none⟩ (.slice none 0 0)) w.heap.size (fun k_ => (P0_ k_ ∨ w.heap.size ≤ k_) ∧ some k_ ≠ (u3 : Value).ownBlock ∧ some k_ ≠ (.slice (some ad212) t200.length co17 : Value).ownBlock ∧ some k_ ≠ (u5 : Value).ownBlock ∧ some k_ ≠ (u6 : Value).ownBlock ∧ some k_ ≠ (u7 : Value).ownBlock ∧ k_ ≠ gb216) (.slice A212_3 ((qab t200 x8_1).f3).length c212_3) ((qab t200 x8_1).f3)) := ⟨by (with_reducible repeat (first | apply Kd.V_alloc | apply Kd.V_drewN | apply Kd.V_drew)); exact Kd.V_mono (Kd.V_far (p := ⟨gb216, 3, none⟩) (Kd.V_far (p := ⟨gb216, 2, none⟩) (Kd.V_far (p := ⟨gb216, 1, none⟩) (Kd.V_far (p := ⟨gb216, 0, none⟩) (Kd.V_mono HL214_3.out (fun k_ hk => (⟨hk, hk.2.2.2.2.2.2⟩ : _ ∧ k_ ≠ gb216))) (fun _ hk => hk.2) (.int .i64 0)) (fun _ hk => hk.2) (.int .i64 t213)) (fun _ hk => hk.2) (.int .i64 t215)) (fun _ hk => hk.2) (.slice none 0 0)) (fun _ hk => ⟨hk.1.1, ⟨hk.1.2.1, ⟨hk.1.2.2.1, ⟨hk.1.2.2.2.1, ⟨hk.1.2.2.2.2.1, ⟨hk.1.2.2.2.2.2.1, hk.1.2.2.2.2.2.2⟩⟩⟩⟩⟩⟩)⟩
     have n8_ : Aside0 (((((w20.setCell ⟨gb216, 0, none⟩ (.int .i64 0)).setCell ⟨gb216, 1, none⟩ (.int .i64 t213)).setCell ⟨gb216, 2, none⟩ (.int .i64 t215)).setCell ⟨gb216, 3, none⟩ (.slice none 0 0)).heap[gb216]? = some (.cells #[.int .i64 0, .int .i64 t213, .int .i64 t215, .slice none 0 0] 55 (0, 0))) := ⟨by (with_reducible repeat (first | refine qaf ?_ _ | refine qai ?_ | refine qag ?_ _)); refine qaq (cs := #[.int .i64 0, .int .i64 t213, .int .i64 t215, .slice none 0 0]) ?_ 3 _ rfl; (with_reducible repeat (first | refine qaf ?_ _ | refine qai ?_ | refine qag ?_ _)); refine qaq (cs := #[.int .i64 0, .int .i64 t213, .int .i64 0, .slice none 0 0]) ?_ 2 _ rfl; (with_reducible repeat (first | refine qaf ?_ _ | refine qai ?_ | refine qag ?_ _)); refine qaq (cs := #[.int .i64 0, .int .i64 0, .int .i64 0, .slice none 0 0]) ?_ 1 _ rfl; (with_reducible repeat (first | refine qaf ?_ _ | refine qai ?_ | refine qag ?_ _)); refine qaq (cs := #[.int .i64 0, .int .i64 0, .int .i64 0, .slice none 0 0]) ?_ 0 _ rfl; (with_reducible repeat (first | refine qaf ?_ _ | refine qai ?_ | refine qag ?_ _)); exact BK216.out⟩
     have n9_ : Aside0 (Below w.heap.size w ((((w20.setCell ⟨gb216, 0, none⟩ (.int .i64 0)).setCell ⟨gb216, 1, none⟩ (.int .i64 t213)).setCell ⟨gb216, 2, none⟩ (.int .i64 t215)).setCell ⟨gb216, 3, none⟩ (.slice none 0 0))) := ⟨by repeat (first | (with_reducible first | exact HB.out | apply qac | apply qaa | apply qad | refine qak ?_ GE216.out) | exact HB.out)⟩
     (try clear HO_0)
     (try clear HO_3)
     (try clear HO_4)
     (try clear HO_5)
     (try clear HO_6)
     (try clear HO_7)
     (try clear HL212_3)
     (try clear HL214_3)
     (try clear BK216)
     (try clear HB)
     generalize ((((w20.setCell ⟨gb216, 0, none⟩ (.int .i64 0)).setCell ⟨gb216, 1, none⟩ (.int .i64 t213)).setCell ⟨gb216, 2, none⟩ (.int .i64 t215)).setCell ⟨gb216, 3, none⟩ (.slice none 0 0)) = w25 at n0_ n1_ n2_ n3_ n4_ n5_ n6_ n7_ n8_ n9_ ⊢
     have HO_0 := n0_
     have HO_3 := n1_
     have HO_4 := n2_
     have HO_5 := n3_
     have HO_6 := n4_
     have HO_7 := n5_
     have HL212_3 := n6_
     have HL214_3 := n7_
     have BK216 := n8_
     have HB := n9_
     clear n0_ n1_ n2_ n3_ n4_ n5_ n6_ n7_ n8_ n9_
     have p217 : 0 ≤ (x8_1 : Int) := of_decide_eq_true (by first | (with_reducible assumption) | assumption)
     have q217 : x8_1 < (t200.length : Int) := of_decide_eq_true (by first | (with_reducible assumption) | assumption)
     obtain ⟨ad217, A217_3, c217_3, e217, hx217_0, hx217_1, hx217_2, hx217_3, hl217_3, hi217_3⟩ := qa8 (Kd.N_reads' HO_4.out).2.2 x8_1 p217 q217
     obtain rfl : ad212 = ad217 := (by injection e217)
     obtain ⟨ce217, hce217, hMe217, hcc217⟩ := Kd.N_get HO_4.out z55 x8_1 p217 (by first | exact q217 | exact of_decide_eq_true (by first | (with_reducible assumption) | assumption) | (have e_ := (Kd.N_reads' HO_4.out).1; omega))
     obtain ⟨ua217_3, uc217_3, rfl, ul217_3, ge217_3⟩ := qbo hMe217
     have hv217_3 := hcc217 3 _ rfl
     rw [qax _ _ 3 (by omega)] at hv217_3
     replace hv217_3 := Option.some.inj (hv217_3.symm.trans hx217_3)
     injection hv217_3 with hva_ hvn_ hvc_
     rw [hva_] at ge217_3
     rw [hvc_] at ul217_3
     have HL217_3 := Aside0.mk (show Kd.V k51 51 _ w.heap.size _ _ ((qab t200 x8_1).f3) from Kd.V_mk ul217_3 ge217_3)
     clear hva_ hvn_ hvc_ ge217_3 ul217_3
     clear hcc217 hce217
     have HR217_3 := Aside0.mk hi217_3
     have HC217_3 := Aside0.mk hl217_3
     clear hi217_3 hl217_3
     replace p217 := eq_true p217
     replace q217 := eq_true q217
     obtain ⟨Ao26, co26, eo26⟩ := Kd.R_slice HO_5.out
     subst eo26
     try go_wp2_with (first | ((with_reducible refine qbd (f := 45) rfl ?_); refine qce (some 46) rfl rfl Try.func45 (by kernel_rfl) rfl #[.slice Ao26 x5_1.length co26, .int .i64 ((qab t200 x8_1).f0)] rfl (by (try simp only [List.map_toArray, List.map_cons, List.map_nil]); first | done | rfl | (simp only [List.length_drop, List.length_take]; rfl)) ?_; (with_reducible refine (burgageref22_name.calls k1 (fun k_ => some k_ = (.slice Ao26 x5_1.length co26 : Value).ownBlock) (.slice Ao26 x5_1.length co26) x5_1 ((qab t200 x8_1).f0) t218 t221 w _ ?side1 ?side2 A16.out).mono ?_); (case side1 => repeat (first | (with_reducible first | exact HB.out | apply qac | apply qaa | apply qad | refine qak ?_ GE216.out) | exact HB.out)); (case side2 => exact Kd.R_tight rfl HO_5.out); rintro e w27 ⟨v219, rfl, ho0, hb, hkp⟩; refine ⟨_, rfl, ?_⟩; have n0_ := Aside0.mk (Kd.V_mono (ok' := fun k_ => (P0_ k_ ∨ w.heap.size ≤ k_) ∧ some k_ ≠ (u3 : Value).ownBlock ∧ some k_ ≠ (.slice (some ad212) t200.length co17 : Value).ownBlock ∧ some k_ ≠ (u6 : Value).ownBlock ∧ some k_ ≠ (u7 : Value).ownBlock ∧ k_ ≠ gb216 ∧ some k_ ≠ (v219 : Value).ownBlock) (Kd.V_keptB (HO_0.out) hkp (fun k_ hk_ hs_ => (hk_.2.2.2.1) hs_)) (fun k_ hk_ => ⟨hk_.1.1, hk_.1.2.1, hk_.1.2.2.1, hk_.1.2.2.2.2.1, hk_.1.2.2.2.2.2.1, hk_.1.2.2.2.2.2.2, fun e_ => Or.elim (ho0.1 k_ e_.symm) (fun hs_ => hk_.2.1 hs_) (fun hn_ => Nat.not_le.2 hk_.2.2 hn_)⟩)); have n1_ := Aside0.mk (Kd.N_mono (ok' := fun k_ => (P0_ k_ ∨ w.heap.size ≤ k_) ∧ some k_ ≠ (.slice (some ad212) t200.length co17 : Value).ownBlock ∧ some k_ ≠ (u6 : Value).ownBlock ∧ some k_ ≠ (u7 : Value).ownBlock ∧ k_ ≠ gb216 ∧ some k_ ≠ (v219 : Value).ownBlock) (Kd.N_keptB (HO_3.out) hkp (fun k_ hk_ hs_ => (hk_.2.2.1) hs_)) (fun k_ hk_ => ⟨hk_.1.1, hk_.1.2.1, hk_.1.2.2.2.1, hk_.1.2.2.2.2.1, hk_.1.2.2.2.2.2, fun e_ => Or.elim (ho0.1 k_ e_.symm) (fun hs_ => hk_.2.1 hs_) (fun hn_ => Nat.not_le.2 hk_.2.2 hn_)⟩)); have n2_ := Aside0.mk (Kd.N_mono (ok' := fun k_ => (P0_ k_ ∨ w.heap.size ≤ k_) ∧ some k_ ≠ (u3 : Value).ownBlock ∧ some k_ ≠ (u6 : Value).ownBlock ∧ some k_ ≠ (u7 : Value).ownBlock ∧ k_ ≠ gb216 ∧ some k_ ≠ (v219 : Value).ownBlock) (Kd.N_keptB (HO_4.out) hkp (fun k_ hk_ hs_ => (hk_.2.2.1) hs_)) (fun k_ hk_ => ⟨hk_.1.1, hk_.1.2.1, hk_.1.2.2.2.1, hk_.1.2.2.2.2.1, hk_.1.2.2.2.2.2, fun e_ => Or.elim (ho0.1 k_ e_.symm) (fun hs_ => hk_.2.1 hs_) (fun hn_ => Nat.not_le.2 hk_.2.2 hn_)⟩)); have n3_ := Aside0.mk (Kd.R_mono (ok' := fun k_ => (w.heap.size ≤ k_) ∧ some k_ ≠ (u7 : Value).ownBlock ∧ some k_ ≠ (v219 : Value).ownBlock) (Kd.R_keptB (HO_6.out) hkp (fun k_ hk_ hs_ => (hk_.2.1) hs_)) (fun k_ hk_ => ⟨hk_.1.1, hk_.1.2.2, fun e_ => Or.elim (ho0.1 k_ e_.symm) (fun hs_ => hk_.2.1 hs_) (fun hn_ => Nat.not_le.2 hk_.2.2 hn_)⟩)); have n4_ := Aside0.mk (Kd.R_mono (ok' := fun k_ => (w.heap.size ≤ k_) ∧ some k_ ≠ (u6 : Value).ownBlock ∧ some k_ ≠ (v219 : Value).ownBlock) (Kd.R_keptB (HO_7.out) hkp (fun k_ hk_ hs_ => (hk_.2.1) hs_)) (fun k_ hk_ => ⟨hk_.1.1, hk_.1.2.2, fun e_ => Or.elim (ho0.1 k_ e_.symm) (fun hs_ => hk_.2.1 hs_) (fun hn_ => Nat.not_le.2 hk_.2.2 hn_)⟩)); have n5_ := Aside0.mk (blk_kept (by (with_reducible repeat (first | refine qaf ?_ _ | refine qai ?_ | refine qag ?_ _)); exact BK216.out) hkp (fun hs_ => (fun e_ => (Kd.R_ne HO_5.out BK216.out (by decide)) e_) hs_)); have n6_ := Aside0.mk (Kd.R_mono (ok' := fun k_ => (w.heap.size ≤ k_) ∧ some k_ ≠ (u6 : Value).ownBlock ∧ some k_ ≠ (u7 : Value).ownBlock) ho0 (fun k_ hk_ => ⟨Or.elim hk_ (fun hs_ => (HO_5.out.1 k_ (hs_).symm).1) (fun hn_ => (Nat.le_trans (qal (by repeat (first | (with_reducible first | exact HB.out | apply qac | apply qaa | apply qad | refine qak ?_ GE216.out) | exact HB.out))) hn_)), Or.elim hk_ (fun hs_ => fun e_ => (((HO_6.out).1 k_ e_.symm).2.1) hs_) (fun hn_ => (Kd.fresh' (Kd.R_lt (by (with_reducible repeat (first | apply Kd.R_alloc | apply Kd.R_drewN | apply Kd.R_drew)); exact HO_6.out)) k_ hn_)), Or.elim hk_ (fun hs_ => fun e_ => (((HO_7.out).1 k_ e_.symm).2.1) hs_) (fun hn_ => (Kd.fresh' (Kd.R_lt (by (with_reducible repeat (first | apply Kd.R_alloc | apply Kd.R_drewN | apply Kd.R_drew)); exact HO_7.out)) k_ hn_))⟩)); have n7_ := Aside0.mk (hb); clear HO_0; clear HO_3; clear HO_4; clear HO_6; clear HO_7; clear BK216; clear HB; clear HO_5; clear HL212_3; clear HL214_3; clear HL217_3; have HO_0 := n0_; have HO_3 := n1_; have HO_4 := n2_; have HO_6 := n3_; have HO_7 := n4_; have BK216 := n5_; have HO220 := n6_; have HB := n7_; clear n0_ n1_ n2_ n3_ n4_ n5_ n6_ n7_; (try clear hb); (try clear hkp); (try clear ho0); have hcz28_0 : w27.cell? ⟨gb216, 0, none⟩ = some (.int .i64 0) := (qah BK216.out 0).trans rfl; have hcz28_1 : w27.cell? ⟨gb216, 1, none⟩ = some (.int .i64 t213) := (qah BK216.out 1).trans rfl; have hcz28_2 : w27.cell? ⟨gb216, 2, none⟩ = some (.int .i64 t215) := (qah BK216.out 2).trans rfl; have hcz28_3 : w27.cell? ⟨gb216, 3, none⟩ = some (.slice none 0 0) := (qah BK216.out 3).trans rfl; have hfz28_0 := qae BK216.out 0; have hfz28_1 := qae BK216.out 1; have hfz28_2 := qae BK216.out 2; have hfz28_3 := qae BK216.out 3))
     go_loopg [6, 7, 10] k1 (fun kq v6 v7 v10 w' => ∃ (x6_2 : List Int) (x7_2 : List Int) (x10_2 : Int) (x217003_2 : List (S51)) (u217003 : Value), v10 = .int .i64 x10_2 ∧ Aside0 (burgageref22_Of.l1 kq l0 x3_1 t200 t218 x6_2 x7_2 x8_1 x10_2 t221 t213 t215 x217003_2 = some r) ∧ Aside0 (kq ≤ k1) ∧ Aside0 (Kd.V k55 55 w' w.heap.size (fun k_ => (P0_ k_ ∨ w.heap.size ≤ k_) ∧ some k_ ≠ (u3 : Value).ownBlock ∧ some k_ ≠ ((.slice (some ad212) t200.length co17) : Value).ownBlock ∧ some k_ ≠ (v219 : Value).ownBlock ∧ some k_ ≠ (v6 : Value).ownBlock ∧ some k_ ≠ (v7 : Value).ownBlock ∧ some k_ ≠ (u217003 : Value).ownBlock ∧ k_ ≠ gb216) (.slice A0 l0.length c0) l0) ∧ Aside0 (Kd.N k55 55 w' w.heap.size (fun k_ => (P0_ k_ ∨ w.heap.size ≤ k_) ∧ some k_ ≠ ((.slice (some ad212) t200.length co17) : Value).ownBlock ∧ some k_ ≠ (v219 : Value).ownBlock ∧ some k_ ≠ (v6 : Value).ownBlock ∧ some k_ ≠ (v7 : Value).ownBlock ∧ some k_ ≠ (u217003 : Value).ownBlock ∧ k_ ≠ gb216) u3 x3_1) ∧ Aside0 (Kd.N k55 55 w' w.heap.size (fun k_ => (P0_ k_ ∨ w.heap.size ≤ k_) ∧ some k_ ≠ (u3 : Value).ownBlock ∧ some k_ ≠ (v219 : Value).ownBlock ∧ some k_ ≠ (v6 : Value).ownBlock ∧ some k_ ≠ (v7 : Value).ownBlock ∧ some k_ ≠ (u217003 : Value).ownBlock ∧ k_ ≠ gb216) (.slice (some ad212) t200.length co17) t200) ∧ Aside0 (Kd.R (Kd.int .i64) 3 w' w.heap.size (fun k_ => (w.heap.size ≤ k_) ∧ some k_ ≠ (v6 : Value).ownBlock ∧ some k_ ≠ (v7 : Value).ownBlock) v219 t218) ∧ Aside0 (Kd.R (Kd.int .i64) 3 w' w.heap.size (fun k_ => (w.heap.size ≤ k_) ∧ some k_ ≠ (v219 : Value).ownBlock ∧ some k_ ≠ (v7 : Value).ownBlock) v6 x6_2) ∧ Aside0 (Kd.R (Kd.int .i64) 3 w' w.heap.size (fun k_ => (w.heap.size ≤ k_) ∧ some k_ ≠ (v219 : Value).ownBlock ∧ some k_ ≠ (v6 : Value).ownBlock) v7 x7_2) ∧ Aside0 (Kd.R k51 51 w' w.heap.size (fun k_ => (w.heap.size ≤ k_)) u217003 x217003_2) ∧ Aside0 (w'.heap[gb216]? = some (.cells #[.int .i64 t221, .int .i64 t213, .int .i64 t215, u217003] 55 (0, 0))) ∧ Aside0 (Below w.heap.size w w'))
     case atStart => exact ⟨(x6_1), (x7_1), (0), (([] : List (S51))), (.slice none 0 0), (by first | rfl | (simp; done) | (simp [*]; done)), H', ⟨Nat.le_refl _⟩, ⟨by (with_reducible repeat (first | apply Kd.V_alloc | apply Kd.V_drewN | apply Kd.V_drew)); exact Kd.V_mono (Kd.V_far (p := ⟨gb216, 0, none⟩) (Kd.V_mono HO_0.out (fun k_ hk => (⟨hk, hk.2.2.2.2.2.1⟩ : _ ∧ k_ ≠ gb216))) (fun _ hk => hk.2) (.int .i64 t221)) (fun _ hk => ⟨hk.1.1, ⟨hk.1.2.1, ⟨hk.1.2.2.1, ⟨hk.1.2.2.2.2.2.2, ⟨hk.1.2.2.2.1, ⟨hk.1.2.2.2.2.1, ⟨(by simp [Value.ownBlock]), hk.1.2.2.2.2.2.1⟩⟩⟩⟩⟩⟩⟩)⟩, ⟨by (with_reducible repeat (first | apply Kd.N_alloc | apply Kd.N_drewN | apply Kd.N_drew)); exact Kd.N_mono (Kd.N_far (p := ⟨gb216, 0, none⟩) (Kd.N_mono HO_3.out (fun k_ hk => (⟨hk, hk.2.2.2.2.1⟩ : _ ∧ k_ ≠ gb216))) (fun _ hk => hk.2) (.int .i64 t221)) (fun _ hk => ⟨hk.1.1, ⟨hk.1.2.1, ⟨hk.1.2.2.2.2.2, ⟨hk.1.2.2.1, ⟨hk.1.2.2.2.1, ⟨(by simp [Value.ownBlock]), hk.1.2.2.2.2.1⟩⟩⟩⟩⟩⟩)⟩, ⟨by (with_reducible repeat (first | apply Kd.N_alloc | apply Kd.N_drewN | apply Kd.N_drew)); exact Kd.N_mono (Kd.N_far (p := ⟨gb216, 0, none⟩) (Kd.N_mono HO_4.out (fun k_ hk => (⟨hk, hk.2.2.2.2.1⟩ : _ ∧ k_ ≠ gb216))) (fun _ hk => hk.2) (.int .i64 t221)) (fun _ hk => ⟨hk.1.1, ⟨hk.1.2.1, ⟨hk.1.2.2.2.2.2, ⟨hk.1.2.2.1, ⟨hk.1.2.2.2.1, ⟨(by simp [Value.ownBlock]), hk.1.2.2.2.2.1⟩⟩⟩⟩⟩⟩)⟩, ⟨by (with_reducible repeat (first | apply Kd.R_alloc | apply Kd.R_drewN | apply Kd.R_drew)); exact Kd.R_mono (Kd.R_far (p := ⟨gb216, 0, none⟩) (Kd.R_types HO220.out BK216.out (by decide)) (fun _ hk => hk.2) (.int .i64 t221)) (fun _ hk => ⟨hk.1.1, ⟨hk.1.2.1, hk.1.2.2⟩⟩)⟩, ⟨by (with_reducible repeat (first | apply Kd.R_alloc | apply Kd.R_drewN | apply Kd.R_drew)); exact Kd.R_mono (Kd.R_far (p := ⟨gb216, 0, none⟩) (Kd.R_types HO_6.out BK216.out (by decide)) (fun _ hk => hk.2) (.int .i64 t221)) (fun _ hk => ⟨hk.1.1, ⟨hk.1.2.2, hk.1.2.1⟩⟩)⟩, ⟨by (with_reducible repeat (first | apply Kd.R_alloc | apply Kd.R_drewN | apply Kd.R_drew)); exact Kd.R_mono (Kd.R_far (p := ⟨gb216, 0, none⟩) (Kd.R_types HO_7.out BK216.out (by decide)) (fun _ hk => hk.2) (.int .i64 t221)) (fun _ hk => ⟨hk.1.1, ⟨hk.1.2.2, hk.1.2.1⟩⟩)⟩, ⟨by first | exact Kd.R_nil _ _ _ _ _ | exact Kd.N_nil _ _ _ _ _ | exact Kd.V_nil _ _ _ _ _ | exact Kd.Q_nil _ _ _ _ _ | exact Kd.S_nil _ _ _ _ _⟩, ⟨by (with_reducible repeat (first | refine qaf ?_ _ | refine qai ?_ | refine qag ?_ _)); refine qaq (cs := #[.int .i64 0, .int .i64 t213, .int .i64 t215, .slice none 0 0]) ?_ 0 _ rfl; (with_reducible repeat (first | refine qaf ?_ _ | refine qai ?_ | refine qag ?_ _)); exact BK216.out⟩, ⟨by repeat (first | (with_reducible first | exact HB.out | apply qac | apply qaa | apply qad | refine qak ?_ GE216.out) | exact HB.out)⟩⟩
     case round =>
      clear H'
      try clear c1
      try clear c2
      try clear p2
      try clear q2
      try clear hx2
      try clear c4
      try clear c12
      try clear c12b0
      try clear c13
      try clear c13b0
      try clear c21
      try clear p21
      try clear q21
      try clear hx21
      try clear hcz28_0
      try clear hcz28_1
      try clear hcz28_2
      try clear hcz28_3
      try clear hfz28_0
      try clear hfz28_1
      try clear hfz28_2
      try clear hfz28_3
      try clear hx212_0
      try clear hx212_1
      try clear hx212_2
      try clear hx212_3
      try clear hx214_0
      try clear hx214_1
      try clear hx214_2
      try clear hx214_3
      try clear hx217_0
      try clear hx217_1
      try clear hx217_2
      try clear hx217_3
      try clear p2
      try clear p212
      try clear p214
      try clear p217
      try clear q212
      try clear q214
      try clear q217
      obtain ⟨x6_2, x7_2, x10_2, x217003_2, u217003, rfl, HA, HK2, HO_0, HO_3, HO_4, HO_5, HO_6, HO_7, HO_217003, BK216, HB⟩ := hrel
      cases gk with
      | zero => exact absurd HA.out (by simp [burgageref22_Of.l1])
      | succ k2 =>
       have H := HA.out
       clear HA
       simp only [burgageref22_Of.l1] at H
       by_cases c29 : 0 ≤ x8_1
       ·rw [if_pos c29] at H
        have c29b0 : decide (0 ≤ x8_1) = true := decide_eq_true c29
        clear c29
        by_cases c30 : x8_1 < (t200.length : Int)
        ·rw [if_pos c30] at H
         have c30b0 : decide (x8_1 < (t200.length : Int)) = true := decide_eq_true c30
         clear c30
         by_cases c31 : x10_2 < (((qab t200 x8_1).f3).length : Int)
         ·rw [if_pos c31] at H
          have c31b0 : decide (x10_2 < (((qab t200 x8_1).f3).length : Int)) = true := decide_eq_true c31
          clear c31
          by_cases c32 : 0 ≤ x10_2
          ·rw [if_pos c32] at H
           have c32b0 : decide (0 ≤ x10_2) = true := decide_eq_true c32
           clear c32
           replace H := Option.bind_eq_some_iff.mp H
           obtain ⟨⟨t229, t232⟩, A330, H⟩ := H
           replace H : (if ((qaj ((qab t200 x8_1).f3) x10_2).f2) = 0 then (if x217003_2.length < 5864062014805 then (burgageref22_Of.l1 k2 l0 x3_1 t200 t218 t229 x7_2 x8_1 (wrap64 (x10_2 + 1)) t221 t213 t215 (x217003_2 ++ [(⟨(qaj ((qab t200 x8_1).f3) x10_2).f0, t232, (qaj ((qab t200 x8_1).f3) x10_2).f2⟩ : S51)])) else (none)) else ((burgageref22_name.f k2 x7_2 ((qaj ((qab t200 x8_1).f3) x10_2).f2)).bind fun bt236 => (if x217003_2.length < 5864062014805 then (burgageref22_Of.l1 k2 l0 x3_1 t200 t218 t229 bt236.1 x8_1 (wrap64 (x10_2 + 1)) t221 t213 t215 (x217003_2 ++ [(⟨(qaj ((qab t200 x8_1).f3) x10_2).f0, t232, wrap64 (bt236.2 + 1)⟩ : S51)])) else (none)))) = some r := H
           have A33 := Aside0.mk A330
           clear A330
           by_cases c34 : ((qaj ((qab t200 x8_1).f3) x10_2).f2) = 0
           ·rw [if_pos c34] at H
            have c34b0 : (((qaj ((qab t200 x8_1).f3) x10_2).f2) == 0) = true := beq_iff_eq.mpr c34
            have c34b1 : (((qaj ((qab t200 x8_1).f3) x10_2).f2) != 0) = false := bne_eq_false_iff_eq.mpr c34
            clear c34
            by_cases c35 : x217003_2.length < 5864062014805
            ·rw [if_pos c35] at H
             have LMc35 := Aside0.mk c35
             clear c35
             obtain ⟨y233, hy233⟩ : ∃ y_ : List (S51), y_ = (x217003_2 ++ [(⟨(qaj ((qab t200 x8_1).f3) x10_2).f0, t232, (qaj ((qab t200 x8_1).f3) x10_2).f2⟩ : S51)]) := ⟨_, rfl⟩
             replace H : (burgageref22_Of.l1 k2 l0 x3_1 t200 t218 t229 x7_2 x8_1 (wrap64 (x10_2 + 1)) t221 t213 t215 y233) = some r := by first | (rw [hy233]; with_reducible exact H) | (have H2_ := (Option.bind_some _ _).symm.trans H; rw [hy233]; with_reducible exact H2_) | (have H2_ := (Option.bind_some _ _).symm.trans H; with_reducible exact H2_) | with_reducible exact H | (rw [hy233]; exact H) | exact H
             have Ny233 := Aside0.mk hy233
             clear hy233
             have H' := Aside0.mk H
             clear H
             have p222 : 0 ≤ (x8_1 : Int) := of_decide_eq_true (by first | (with_reducible assumption) | assumption)
             have q222 : x8_1 < (t200.length : Int) := of_decide_eq_true (by first | (with_reducible assumption) | assumption)
             obtain ⟨ad222, A222_3, c222_3, e222, hx222_0, hx222_1, hx222_2, hx222_3, hl222_3, hi222_3⟩ := qa8 (Kd.N_reads' HO_4.out).2.2 x8_1 p222 q222
             obtain rfl : ad212 = ad222 := (by injection e222)
             obtain ⟨ce222, hce222, hMe222, hcc222⟩ := Kd.N_get HO_4.out z55 x8_1 p222 (by first | exact q222 | exact of_decide_eq_true (by first | (with_reducible assumption) | assumption) | (have e_ := (Kd.N_reads' HO_4.out).1; omega))
             obtain ⟨ua222_3, uc222_3, rfl, ul222_3, ge222_3⟩ := qbo hMe222
             have hv222_3 := hcc222 3 _ rfl
             rw [qax _ _ 3 (by omega)] at hv222_3
             replace hv222_3 := Option.some.inj (hv222_3.symm.trans hx222_3)
             injection hv222_3 with hva_ hvn_ hvc_
             rw [hva_] at ge222_3
             rw [hvc_] at ul222_3
             have HL222_3 := Aside0.mk (show Kd.V k51 51 _ w.heap.size _ _ ((qab t200 x8_1).f3) from Kd.V_mk ul222_3 ge222_3)
             clear hva_ hvn_ hvc_ ge222_3 ul222_3
             clear hcc222 hce222
             have HR222_3 := Aside0.mk hi222_3
             have HC222_3 := Aside0.mk hl222_3
             clear hi222_3 hl222_3
             replace p222 := eq_true p222
             replace q222 := eq_true q222
             have p226 : 0 ≤ (x8_1 : Int) := of_decide_eq_true (by first | (with_reducible assumption) | assumption)
             have q226 : x8_1 < (t200.length : Int) := of_decide_eq_true (by first | (with_reducible assumption) | assumption)
             obtain ⟨ad226, A226_3, c226_3, e226, hx226_0, hx226_1, hx226_2, hx226_3, hl226_3, hi226_3⟩ := qa8 (Kd.N_reads' HO_4.out).2.2 x8_1 p226 q226
             obtain rfl : ad212 = ad226 := (by injection e226)
             obtain ⟨ce226, hce226, hMe226, hcc226⟩ := Kd.N_get HO_4.out z55 x8_1 p226 (by first | exact q226 | exact of_decide_eq_true (by first | (with_reducible assumption) | assumption) | (have e_ := (Kd.N_reads' HO_4.out).1; omega))
             obtain ⟨ua226_3, uc226_3, rfl, ul226_3, ge226_3⟩ := qbo hMe226
             have hv226_3 := hcc226 3 _ rfl
             rw [qax _ _ 3 (by omega)] at hv226_3
             replace hv226_3 := Option.some.inj (hv226_3.symm.trans hx226_3)
             injection hv226_3 with hva_ hvn_ hvc_
             rw [hva_] at ge226_3
             rw [hvc_] at ul226_3
             have HL226_3 := Aside0.mk (show Kd.V k51 51 _ w.heap.size _ _ ((qab t200 x8_1).f3) from Kd.V_mk ul226_3 ge226_3)
             clear hva_ hvn_ hvc_ ge226_3 ul226_3
             clear hcc226 hce226
             have HR226_3 := Aside0.mk hi226_3
             have HC226_3 := Aside0.mk hl226_3
             clear hi226_3 hl226_3
             replace p226 := eq_true p226
             replace q226 := eq_true q226
             have ea_ := Option.some.inj (hx222_3.symm.trans hx226_3)
             injection ea_ with ea_ en_ ec_
             subst ea_
             subst ec_
             clear en_
             have p227 : 0 ≤ (x10_2 : Int) := of_decide_eq_true (by first | (with_reducible assumption) | assumption)
             have q227 : x10_2 < (((qab t200 x8_1).f3).length : Int) := of_decide_eq_true (by first | (with_reducible assumption) | assumption)
             obtain ⟨ad227, e227, hx227_0, hx227_1, hx227_2⟩ := qbx (by repeat (first | (with_reducible exact HR226_3.out) | (with_reducible refine Kd.C_alloc ?_ _) | (with_reducible refine Kd.C_drewN ?_ _) | (with_reducible refine Kd.C_drew ?_) | exact HR226_3.out)) x10_2 p227 q227
             cases e227
             replace p227 := eq_true p227
             replace q227 := eq_true q227
             go_wp2_with (first | ((with_reducible refine qau (N := 11) rfl ?_); refine qat ?hg (N := 11) ?hd (cs := #[.bool false, .int .i64 0, .int .i64 0]) (t := 51) ?hr ?_; (case hd => rfl); (case hg => rfl); (case hr => first | (go_simp; done) | (go_simp; rfl)); intro gb228 hg w36 hbox hb; have n0_ := Aside0.mk (Kd.V_below (Kd.V_elderB (by (with_reducible repeat (first | apply Kd.V_alloc | apply Kd.V_drewN | apply Kd.V_drew)); exact HO_0.out) gb228 (Nat.le_of_eq hg.symm)) hb); have n1_ := Aside0.mk (Kd.N_below (Kd.N_elderB (by (with_reducible repeat (first | apply Kd.N_alloc | apply Kd.N_drewN | apply Kd.N_drew)); exact HO_3.out) gb228 (Nat.le_of_eq hg.symm)) hb); have n2_ := Aside0.mk (Kd.N_below (Kd.N_elderB (by (with_reducible repeat (first | apply Kd.N_alloc | apply Kd.N_drewN | apply Kd.N_drew)); exact HO_4.out) gb228 (Nat.le_of_eq hg.symm)) hb); have n3_ := Aside0.mk (Kd.R_below (by (with_reducible repeat (first | apply Kd.R_alloc | apply Kd.R_drewN | apply Kd.R_drew)); exact HO_5.out) hb); have n4_ := Aside0.mk (Kd.R_below (by (with_reducible repeat (first | apply Kd.R_alloc | apply Kd.R_drewN | apply Kd.R_drew)); exact HO_6.out) hb); have n5_ := Aside0.mk (Kd.R_below (by (with_reducible repeat (first | apply Kd.R_alloc | apply Kd.R_drewN | apply Kd.R_drew)); exact HO_7.out) hb); have n6_ := Aside0.mk (Kd.R_below (Kd.R_elderB (by (with_reducible repeat (first | apply Kd.R_alloc | apply Kd.R_drewN | apply Kd.R_drew)); exact HO_217003.out) gb228 (Nat.le_of_eq hg.symm)) hb); have n7_ := Aside0.mk (Kd.V_below (Kd.V_elderB (by (with_reducible repeat (first | apply Kd.V_alloc | apply Kd.V_drewN | apply Kd.V_drew)); exact HL222_3.out) gb228 (Nat.le_of_eq hg.symm)) hb); have n8_ := Aside0.mk (Kd.V_below (Kd.V_elderB (by (with_reducible repeat (first | apply Kd.V_alloc | apply Kd.V_drewN | apply Kd.V_drew)); exact HL226_3.out) gb228 (Nat.le_of_eq hg.symm)) hb); have n9_ := Aside0.mk (qa1 (g := gb216) (o := .cells #[.int .i64 t221, .int .i64 t213, .int .i64 t215, u217003] 55 (0, 0)) (by (with_reducible repeat (first | refine qaf ?_ _ | refine qai ?_ | refine qag ?_ _)); exact BK216.out) hb); have n10_ := Aside0.mk (Kd.C_below (by repeat (first | (with_reducible exact HR222_3.out) | (with_reducible refine Kd.C_alloc ?_ _) | (with_reducible refine Kd.C_drewN ?_ _) | (with_reducible refine Kd.C_drew ?_) | exact HR222_3.out)) hb); have n11_ := Aside0.mk (Kd.C_below (by repeat (first | (with_reducible exact HR226_3.out) | (with_reducible refine Kd.C_alloc ?_ _) | (with_reducible refine Kd.C_drewN ?_ _) | (with_reducible refine Kd.C_drew ?_) | exact HR226_3.out)) hb); have n12_ := Aside0.mk (qam (by repeat (first | (with_reducible first | exact HB.out | apply qac | apply qaa | apply qad | refine qak ?_ GE216.out) | exact HB.out)) hb); have n13_ := Aside0.mk (hbox); have n14_ := Aside0.mk ((by rw [hg]; exact (qal (by repeat (first | (with_reducible first | exact HB.out | apply qac | apply qaa | apply qad | refine qak ?_ GE216.out) | exact HB.out))) : w.heap.size ≤ gb228)); have n15_ := Aside0.mk ((by rw [hg]; exact (qal (by repeat (first | (with_reducible first | exact HB.out | apply qac | apply qaa | apply qad | refine qak ?_ GE216.out) | exact HB.out))) : w.heap.size ≤ gb228)); have n16_ := Aside0.mk ((by rw [hg]; exact Nat.ne_of_lt (qa9 (g := gb216) (o := .cells #[.int .i64 t221, .int .i64 t213, .int .i64 t215, u217003] 55 (0, 0)) (by (with_reducible repeat (first | refine qaf ?_ _ | refine qai ?_ | refine qag ?_ _)); exact BK216.out)) : gb216 ≠ gb228)); have n17_ := Aside0.mk ((by rw [hg]; exact Nat.ne_of_gt (qa9 (g := gb216) (o := .cells #[.int .i64 t221, .int .i64 t213, .int .i64 t215, u217003] 55 (0, 0)) (by (with_reducible repeat (first | refine qaf ?_ _ | refine qai ?_ | refine qag ?_ _)); exact BK216.out)) : gb228 ≠ gb216)); clear HO_0; clear HO_3; clear HO_4; clear HO_5; clear HO_6; clear HO_7; clear HO_217003; clear HL222_3; clear HL226_3; clear BK216; clear HR222_3; clear HR226_3; clear HB; have HO_0 := n0_; have HO_3 := n1_; have HO_4 := n2_; have HO_5 := n3_; have HO_6 := n4_; have HO_7 := n5_; have HO_217003 := n6_; have HL222_3 := n7_; have HL226_3 := n8_; have BK216 := n9_; have HR222_3 := n10_; have HR226_3 := n11_; have HB := n12_; have BK228 := n13_; have GW228 := n14_; have GE228 := n15_; have NB216_228 := n16_; have NB228_216 := n17_; clear n0_ n1_ n2_ n3_ n4_ n5_ n6_ n7_ n8_ n9_ n10_ n11_ n12_ n13_ n14_ n15_ n16_ n17_; clear hb hbox hg; have hnb37 := NB228_216.out; have hnc37 := NB216_228.out; have hcz38_0 : w36.cell? ⟨gb228, 0, none⟩ = some (.bool false) := (qah BK228.out 0).trans rfl; have hcz38_1 : w36.cell? ⟨gb228, 1, none⟩ = some (.int .i64 0) := (qah BK228.out 1).trans rfl; have hcz38_2 : w36.cell? ⟨gb228, 2, none⟩ = some (.int .i64 0) := (qah BK228.out 2).trans rfl; have hfz38_0 := qae BK228.out 0; have hfz38_1 := qae BK228.out 1; have hfz38_2 := qae BK228.out 2) | ((with_reducible refine gate_store (t := 51) (p := 11) rfl ?_); refine store_event (t := 51) (p := 11) (v := ?vo_w39) (w1 := (((w36.setCell ⟨gb228, 0, none⟩ (.bool ((qaj ((qab t200 x8_1).f3) x10_2).f0))).setCell ⟨gb228, 1, none⟩ (.int .i64 ((qaj ((qab t200 x8_1).f3) x10_2).f1))).setCell ⟨gb228, 2, none⟩ (.int .i64 ((qaj ((qab t200 x8_1).f3) x10_2).f2)))) ?hg ?ho ?hn ?hr ?_; (case ho => rfl); (case hg => rfl); (case hn => rfl); (case hr => first | (go_simp; done) | (go_simp; rfl)); intro w39 hw; have n0_ : Aside0 (Kd.V k55 55 w39 w.heap.size (fun k_ => (P0_ k_ ∨ w.heap.size ≤ k_) ∧ some k_ ≠ (u3 : Value).ownBlock ∧ some k_ ≠ (.slice (some ad212) t200.length co17 : Value).ownBlock ∧ some k_ ≠ (v219 : Value).ownBlock ∧ some k_ ≠ (u6 : Value).ownBlock ∧ some k_ ≠ (u7 : Value).ownBlock ∧ some k_ ≠ (u217003 : Value).ownBlock ∧ k_ ≠ gb216 ∧ k_ ≠ gb228) (.slice A0 l0.length c0) l0) := ⟨(by rw [hw]; exact (by (with_reducible repeat (first | apply Kd.V_alloc | apply Kd.V_drewN | apply Kd.V_drew)); exact Kd.V_mono (Kd.V_far (p := ⟨gb228, 2, none⟩) (Kd.V_far (p := ⟨gb228, 1, none⟩) (Kd.V_far (p := ⟨gb228, 0, none⟩) (Kd.V_mono HO_0.out (fun k_ hk => (⟨hk, hk.2⟩ : _ ∧ k_ ≠ gb228))) (fun _ hk => hk.2) (.bool ((qaj ((qab t200 x8_1).f3) x10_2).f0))) (fun _ hk => hk.2) (.int .i64 ((qaj ((qab t200 x8_1).f3) x10_2).f1))) (fun _ hk => hk.2) (.int .i64 ((qaj ((qab t200 x8_1).f3) x10_2).f2))) (fun _ hk => ⟨hk.1.1.1, ⟨hk.1.1.2.1, ⟨hk.1.1.2.2.1, ⟨hk.1.1.2.2.2.1, ⟨hk.1.1.2.2.2.2.1, ⟨hk.1.1.2.2.2.2.2.1, ⟨hk.1.1.2.2.2.2.2.2.1, ⟨hk.1.1.2.2.2.2.2.2.2, hk.1.2⟩⟩⟩⟩⟩⟩⟩⟩)))⟩; have n1_ : Aside0 (Kd.N k55 55 w39 w.heap.size (fun k_ => (P0_ k_ ∨ w.heap.size ≤ k_) ∧ some k_ ≠ (.slice (some ad212) t200.length co17 : Value).ownBlock ∧ some k_ ≠ (v219 : Value).ownBlock ∧ some k_ ≠ (u6 : Value).ownBlock ∧ some k_ ≠ (u7 : Value).ownBlock ∧ some k_ ≠ (u217003 : Value).ownBlock ∧ k_ ≠ gb216 ∧ k_ ≠ gb228) u3 x3_1) := ⟨(by rw [hw]; exact (by (with_reducible repeat (first | apply Kd.N_alloc | apply Kd.N_drewN | apply Kd.N_drew)); exact Kd.N_mono (Kd.N_far (p := ⟨gb228, 2, none⟩) (Kd.N_far (p := ⟨gb228, 1, none⟩) (Kd.N_far (p := ⟨gb228, 0, none⟩) (Kd.N_mono HO_3.out (fun k_ hk => (⟨hk, hk.2⟩ : _ ∧ k_ ≠ gb228))) (fun _ hk => hk.2) (.bool ((qaj ((qab t200 x8_1).f3) x10_2).f0))) (fun _ hk => hk.2) (.int .i64 ((qaj ((qab t200 x8_1).f3) x10_2).f1))) (fun _ hk => hk.2) (.int .i64 ((qaj ((qab t200 x8_1).f3) x10_2).f2))) (fun _ hk => ⟨hk.1.1.1, ⟨hk.1.1.2.1, ⟨hk.1.1.2.2.1, ⟨hk.1.1.2.2.2.1, ⟨hk.1.1.2.2.2.2.1, ⟨hk.1.1.2.2.2.2.2.1, ⟨hk.1.1.2.2.2.2.2.2, hk.1.2⟩⟩⟩⟩⟩⟩⟩)))⟩; have n2_ : Aside0 (Kd.N k55 55 w39 w.heap.size (fun k_ => (P0_ k_ ∨ w.heap.size ≤ k_) ∧ some k_ ≠ (u3 : Value).ownBlock ∧ some k_ ≠ (v219 : Value).ownBlock ∧ some k_ ≠ (u6 : Value).ownBlock ∧ some k_ ≠ (u7 : Value).ownBlock ∧ some k_ ≠ (u217003 : Value).ownBlock ∧ k_ ≠ gb216 ∧ k_ ≠ gb228) (.slice (some ad212) t200.length co17) t200) := ⟨(by rw [hw]; exact (by (with_reducible repeat (first | apply Kd.N_alloc | apply Kd.N_drewN | apply Kd.N_drew)); exact Kd.N_mono (Kd.N_far (p := ⟨gb228, 2, none⟩) (Kd.N_far (p := ⟨gb228, 1, none⟩) (Kd.N_far (p := ⟨gb228, 0, none⟩) (Kd.N_mono HO_4.out (fun k_ hk => (⟨hk, hk.2⟩ : _ ∧ k_ ≠ gb228))) (fun _ hk => hk.2) (.bool ((qaj ((qab t200 x8_1).f3) x10_2).f0))) (fun _ hk => hk.2) (.int .i64 ((qaj ((qab t200 x8_1).f3) x10_2).f1))) (fun _ hk => hk.2) (.int .i64 ((qaj ((qab t200 x8_1).f3) x10_2).f2))) (fun _ hk => ⟨hk.1.1.1, ⟨hk.1.1.2.1, ⟨hk.1.1.2.2.1, ⟨hk.1.1.2.2.2.1, ⟨hk.1.1.2.2.2.2.1, ⟨hk.1.1.2.2.2.2.2.1, ⟨hk.1.1.2.2.2.2.2.2, hk.1.2⟩⟩⟩⟩⟩⟩⟩)))⟩; have n3_ : Aside0 (Kd.R (Kd.int .i64) 3 w39 w.heap.size (fun k_ => (w.heap.size ≤ k_) ∧ some k_ ≠ (u6 : Value).ownBlock ∧ some k_ ≠ (u7 : Value).ownBlock) v219 t218) := ⟨(by rw [hw]; exact (by (with_reducible repeat (first | apply Kd.R_alloc | apply Kd.R_drewN | apply Kd.R_drew)); exact Kd.R_mono (Kd.R_far (p := ⟨gb228, 2, none⟩) (Kd.R_far (p := ⟨gb228, 1, none⟩) (Kd.R_far (p := ⟨gb228, 0, none⟩) (Kd.R_types HO_5.out BK228.out (by decide)) (fun _ hk => hk.2) (.bool ((qaj ((qab t200 x8_1).f3) x10_2).f0))) (fun _ hk => hk.2) (.int .i64 ((qaj ((qab t200 x8_1).f3) x10_2).f1))) (fun _ hk => hk.2) (.int .i64 ((qaj ((qab t200 x8_1).f3) x10_2).f2))) (fun _ hk => ⟨hk.1.1, ⟨hk.1.2.1, hk.1.2.2⟩⟩)))⟩; have n4_ : Aside0 (Kd.R (Kd.int .i64) 3 w39 w.heap.size (fun k_ => (w.heap.size ≤ k_) ∧ some k_ ≠ (v219 : Value).ownBlock ∧ some k_ ≠ (u7 : Value).ownBlock) u6 x6_2) := ⟨(by rw [hw]; exact (by (with_reducible repeat (first | apply Kd.R_alloc | apply Kd.R_drewN | apply Kd.R_drew)); exact Kd.R_mono (Kd.R_far (p := ⟨gb228, 2, none⟩) (Kd.R_far (p := ⟨gb228, 1, none⟩) (Kd.R_far (p := ⟨gb228, 0, none⟩) (Kd.R_types HO_6.out BK228.out (by decide)) (fun _ hk => hk.2) (.bool ((qaj ((qab t200 x8_1).f3) x10_2).f0))) (fun _ hk => hk.2) (.int .i64 ((qaj ((qab t200 x8_1).f3) x10_2).f1))) (fun _ hk => hk.2) (.int .i64 ((qaj ((qab t200 x8_1).f3) x10_2).f2))) (fun _ hk => ⟨hk.1.1, ⟨hk.1.2.1, hk.1.2.2⟩⟩)))⟩; have n5_ : Aside0 (Kd.R (Kd.int .i64) 3 w39 w.heap.size (fun k_ => (w.heap.size ≤ k_) ∧ some k_ ≠ (v219 : Value).ownBlock ∧ some k_ ≠ (u6 : Value).ownBlock) u7 x7_2) := ⟨(by rw [hw]; exact (by (with_reducible repeat (first | apply Kd.R_alloc | apply Kd.R_drewN | apply Kd.R_drew)); exact Kd.R_mono (Kd.R_far (p := ⟨gb228, 2, none⟩) (Kd.R_far (p := ⟨gb228, 1, none⟩) (Kd.R_far (p := ⟨gb228, 0, none⟩) (Kd.R_types HO_7.out BK228.out (by decide)) (fun _ hk => hk.2) (.bool ((qaj ((qab t200 x8_1).f3) x10_2).f0))) (fun _ hk => hk.2) (.int .i64 ((qaj ((qab t200 x8_1).f3) x10_2).f1))) (fun _ hk => hk.2) (.int .i64 ((qaj ((qab t200 x8_1).f3) x10_2).f2))) (fun _ hk => ⟨hk.1.1, ⟨hk.1.2.1, hk.1.2.2⟩⟩)))⟩; have n6_ : Aside0 (Kd.R k51 51 w39 w.heap.size (fun k_ => (w.heap.size ≤ k_) ∧ k_ ≠ gb228) u217003 x217003_2) := ⟨(by rw [hw]; exact (by (with_reducible repeat (first | apply Kd.R_alloc | apply Kd.R_drewN | apply Kd.R_drew)); exact Kd.R_mono (Kd.R_far (p := ⟨gb228, 2, none⟩) (Kd.R_far (p := ⟨gb228, 1, none⟩) (Kd.R_far (p := ⟨gb228, 0, none⟩) (Kd.R_mono HO_217003.out (fun k_ hk => (⟨hk, hk.2⟩ : _ ∧ k_ ≠ gb228))) (fun _ hk => hk.2) (.bool ((qaj ((qab t200 x8_1).f3) x10_2).f0))) (fun _ hk => hk.2) (.int .i64 ((qaj ((qab t200 x8_1).f3) x10_2).f1))) (fun _ hk => hk.2) (.int .i64 ((qaj ((qab t200 x8_1).f3) x10_2).f2))) (fun _ hk => ⟨hk.1.1, hk.1.2⟩)))⟩; have n7_ : Aside0 (Kd.V k51 51 w39 w.heap.size (fun k_ => (P0_ k_ ∨ w.heap.size ≤ k_) ∧ some k_ ≠ (u3 : Value).ownBlock ∧ some k_ ≠ (.slice (some ad212) t200.length co17 : Value).ownBlock ∧ some k_ ≠ (v219 : Value).ownBlock ∧ some k_ ≠ (u6 : Value).ownBlock ∧ some k_ ≠ (u7 : Value).ownBlock ∧ some k_ ≠ (u217003 : Value).ownBlock ∧ k_ ≠ gb216 ∧ k_ ≠ gb228) (.slice (some ad227) ((qab t200 x8_1).f3).length c222_3) ((qab t200 x8_1).f3)) := ⟨(by rw [hw]; exact (by (with_reducible repeat (first | apply Kd.V_alloc | apply Kd.V_drewN | apply Kd.V_drew)); exact Kd.V_mono (Kd.V_far (p := ⟨gb228, 2, none⟩) (Kd.V_far (p := ⟨gb228, 1, none⟩) (Kd.V_far (p := ⟨gb228, 0, none⟩) (Kd.V_mono HL222_3.out (fun k_ hk => (⟨hk, hk.2⟩ : _ ∧ k_ ≠ gb228))) (fun _ hk => hk.2) (.bool ((qaj ((qab t200 x8_1).f3) x10_2).f0))) (fun _ hk => hk.2) (.int .i64 ((qaj ((qab t200 x8_1).f3) x10_2).f1))) (fun _ hk => hk.2) (.int .i64 ((qaj ((qab t200 x8_1).f3) x10_2).f2))) (fun _ hk => ⟨hk.1.1.1.1, ⟨hk.1.1.1.2.1, ⟨hk.1.1.2, ⟨hk.1.1.1.2.2.1, ⟨hk.1.1.1.2.2.2.1, ⟨hk.1.1.1.2.2.2.2.1, ⟨hk.1.1.1.2.2.2.2.2.1, ⟨hk.1.1.1.2.2.2.2.2.2, hk.1.2⟩⟩⟩⟩⟩⟩⟩⟩)))⟩; have n8_ : Aside0 (Kd.V k51 51 w39 w.heap.size (fun k_ => (P0_ k_ ∨ w.heap.size ≤ k_) ∧ some k_ ≠ (u3 : Value).ownBlock ∧ some k_ ≠ (.slice (some ad212) t200.length co17 : Value).ownBlock ∧ some k_ ≠ (v219 : Value).ownBlock ∧ some k_ ≠ (u6 : Value).ownBlock ∧ some k_ ≠ (u7 : Value).ownBlock ∧ some k_ ≠ (u217003 : Value).ownBlock ∧ k_ ≠ gb216 ∧ k_ ≠ gb228) (.slice (some ad227) ((qab t200 x8_1).f3).length c222_3) ((qab t200 x8_1).f3)) := ⟨(by rw [hw]; exact (by (with_reducible repeat (first | apply Kd.V_alloc | apply Kd.V_drewN | apply Kd.V_drew)); exact Kd.V_mono (Kd.V_far (p := ⟨gb228, 2, none⟩) (Kd.V_far (p := ⟨gb228, 1, none⟩) (Kd.V_far (p := ⟨gb228, 0, none⟩) (Kd.V_mono HL226_3.out (fun k_ hk => (⟨hk, hk.2⟩ : _ ∧ k_ ≠ gb228))) (fun _ hk => hk.2) (.bool ((qaj ((qab t200 x8_1).f3) x10_2).f0))) (fun _ hk => hk.2) (.int .i64 ((qaj ((qab t200 x8_1).f3) x10_2).f1))) (fun _ hk => hk.2) (.int .i64 ((qaj ((qab t200 x8_1).f3) x10_2).f2))) (fun _ hk => ⟨hk.1.1.1.1, ⟨hk.1.1.1.2.1, ⟨hk.1.1.2, ⟨hk.1.1.1.2.2.1, ⟨hk.1.1.1.2.2.2.1, ⟨hk.1.1.1.2.2.2.2.1, ⟨hk.1.1.1.2.2.2.2.2.1, ⟨hk.1.1.1.2.2.2.2.2.2, hk.1.2⟩⟩⟩⟩⟩⟩⟩⟩)))⟩; have n9_ : Aside0 (w39.heap[gb216]? = some (.cells #[.int .i64 t221, .int .i64 t213, .int .i64 t215, u217003] 55 (0, 0))) := ⟨(by rw [hw]; exact (by (with_reducible repeat (first | refine qaf ?_ _ | refine qai ?_ | refine qag ?_ _)); refine qa0 ?_ NB216_228.out _; (with_reducible repeat (first | refine qaf ?_ _ | refine qai ?_ | refine qag ?_ _)); refine qa0 ?_ NB216_228.out _; (with_reducible repeat (first | refine qaf ?_ _ | refine qai ?_ | refine qag ?_ _)); refine qa0 ?_ NB216_228.out _; (with_reducible repeat (first | refine qaf ?_ _ | refine qai ?_ | refine qag ?_ _)); exact BK216.out))⟩; have n10_ : Aside0 (w39.heap[gb228]? = some (.cells #[.bool ((qaj ((qab t200 x8_1).f3) x10_2).f0), .int .i64 ((qaj ((qab t200 x8_1).f3) x10_2).f1), .int .i64 ((qaj ((qab t200 x8_1).f3) x10_2).f2)] 51 (0, 0))) := ⟨(by rw [hw]; exact (by (with_reducible repeat (first | refine qaf ?_ _ | refine qai ?_ | refine qag ?_ _)); refine qaq (cs := #[.bool ((qaj ((qab t200 x8_1).f3) x10_2).f0), .int .i64 ((qaj ((qab t200 x8_1).f3) x10_2).f1), .int .i64 0]) ?_ 2 _ rfl; (with_reducible repeat (first | refine qaf ?_ _ | refine qai ?_ | refine qag ?_ _)); refine qaq (cs := #[.bool ((qaj ((qab t200 x8_1).f3) x10_2).f0), .int .i64 0, .int .i64 0]) ?_ 1 _ rfl; (with_reducible repeat (first | refine qaf ?_ _ | refine qai ?_ | refine qag ?_ _)); refine qaq (cs := #[.bool false, .int .i64 0, .int .i64 0]) ?_ 0 _ rfl; (with_reducible repeat (first | refine qaf ?_ _ | refine qai ?_ | refine qag ?_ _)); exact BK228.out))⟩; have n11_ : Aside0 (Below w.heap.size w w39) := ⟨(by rw [hw]; exact (by repeat (first | (with_reducible first | exact HB.out | apply qac | apply qaa | apply qad | refine qak ?_ GE216.out | refine qak ?_ GE228.out) | exact HB.out)))⟩; clear hw; clear HO_0; clear HO_3; clear HO_4; clear HO_5; clear HO_6; clear HO_7; clear HO_217003; clear HL222_3; clear HL226_3; clear BK216; clear BK228; clear HB; have HO_0 := n0_; have HO_3 := n1_; have HO_4 := n2_; have HO_5 := n3_; have HO_6 := n4_; have HO_7 := n5_; have HO_217003 := n6_; have HL222_3 := n7_; have HL226_3 := n8_; have BK216 := n9_; have BK228 := n10_; have HB := n11_; clear n0_ n1_ n2_ n3_ n4_ n5_ n6_ n7_ n8_ n9_ n10_ n11_; have hcz40_0 : w39.cell? ⟨gb228, 0, none⟩ = some (.bool ((qaj ((qab t200 x8_1).f3) x10_2).f0)) := (qah BK228.out 0).trans rfl; have hcz40_1 : w39.cell? ⟨gb228, 1, none⟩ = some (.int .i64 ((qaj ((qab t200 x8_1).f3) x10_2).f1)) := (qah BK228.out 1).trans rfl; have hcz40_2 : w39.cell? ⟨gb228, 2, none⟩ = some (.int .i64 ((qaj ((qab t200 x8_1).f3) x10_2).f2)) := (qah BK228.out 2).trans rfl; have hfz40_0 := qae BK228.out 0; have hfz40_1 := qae BK228.out 1; have hfz40_2 := qae BK228.out 2; obtain ⟨Ao41, co41, eo41⟩ := Kd.R_slice HO_6.out; subst eo41) | ((with_reducible refine qbd (f := 45) rfl ?_); refine qce (some 72) rfl rfl Try.func45 (by kernel_rfl) rfl #[.slice Ao41 x6_2.length co41, .int .i64 ((qaj ((qab t200 x8_1).f3) x10_2).f1)] rfl (by (try simp only [List.map_toArray, List.map_cons, List.map_nil]); first | done | rfl | (simp only [List.length_drop, List.length_take]; rfl)) ?_; (with_reducible refine (burgageref22_name.calls k2 (fun k_ => some k_ = (.slice Ao41 x6_2.length co41 : Value).ownBlock) (.slice Ao41 x6_2.length co41) x6_2 ((qaj ((qab t200 x8_1).f3) x10_2).f1) t229 t232 w _ ?side1 ?side2 A33.out).mono ?_); (case side1 => repeat (first | (with_reducible first | exact HB.out | apply qac | apply qaa | apply qad | refine qak ?_ GE216.out | refine qak ?_ GE228.out) | exact HB.out)); (case side2 => exact Kd.R_tight rfl HO_6.out); rintro e w42 ⟨v230, rfl, ho0, hb, hkp⟩; refine ⟨_, rfl, ?_⟩; have n0_ := Aside0.mk (Kd.V_mono (ok' := fun k_ => (P0_ k_ ∨ w.heap.size ≤ k_) ∧ some k_ ≠ (u3 : Value).ownBlock ∧ some k_ ≠ (.slice (some ad212) t200.length co17 : Value).ownBlock ∧ some k_ ≠ (v219 : Value).ownBlock ∧ some k_ ≠ (u7 : Value).ownBlock ∧ some k_ ≠ (u217003 : Value).ownBlock ∧ k_ ≠ gb216 ∧ k_ ≠ gb228 ∧ some k_ ≠ (v230 : Value).ownBlock) (Kd.V_keptB (HO_0.out) hkp (fun k_ hk_ hs_ => (hk_.2.2.2.2.1) hs_)) (fun k_ hk_ => ⟨hk_.1.1, hk_.1.2.1, hk_.1.2.2.1, hk_.1.2.2.2.1, hk_.1.2.2.2.2.2.1, hk_.1.2.2.2.2.2.2.1, hk_.1.2.2.2.2.2.2.2.1, hk_.1.2.2.2.2.2.2.2.2, fun e_ => Or.elim (ho0.1 k_ e_.symm) (fun hs_ => hk_.2.1 hs_) (fun hn_ => Nat.not_le.2 hk_.2.2 hn_)⟩)); have n1_ := Aside0.mk (Kd.N_mono (ok' := fun k_ => (P0_ k_ ∨ w.heap.size ≤ k_) ∧ some k_ ≠ (.slice (some ad212) t200.length co17 : Value).ownBlock ∧ some k_ ≠ (v219 : Value).ownBlock ∧ some k_ ≠ (u7 : Value).ownBlock ∧ some k_ ≠ (u217003 : Value).ownBlock ∧ k_ ≠ gb216 ∧ k_ ≠ gb228 ∧ some k_ ≠ (v230 : Value).ownBlock) (Kd.N_keptB (HO_3.out) hkp (fun k_ hk_ hs_ => (hk_.2.2.2.1) hs_)) (fun k_ hk_ => ⟨hk_.1.1, hk_.1.2.1, hk_.1.2.2.1, hk_.1.2.2.2.2.1, hk_.1.2.2.2.2.2.1, hk_.1.2.2.2.2.2.2.1, hk_.1.2.2.2.2.2.2.2, fun e_ => Or.elim (ho0.1 k_ e_.symm) (fun hs_ => hk_.2.1 hs_) (fun hn_ => Nat.not_le.2 hk_.2.2 hn_)⟩)); have n2_ := Aside0.mk (Kd.N_mono (ok' := fun k_ => (P0_ k_ ∨ w.heap.size ≤ k_) ∧ some k_ ≠ (u3 : Value).ownBlock ∧ some k_ ≠ (v219 : Value).ownBlock ∧ some k_ ≠ (u7 : Value).ownBlock ∧ some k_ ≠ (u217003 : Value).ownBlock ∧ k_ ≠ gb216 ∧ k_ ≠ gb228 ∧ some k_ ≠ (v230 : Value).ownBlock) (Kd.N_keptB (HO_4.out) hkp (fun k_ hk_ hs_ => (hk_.2.2.2.1) hs_)) (fun k_ hk_ => ⟨hk_.1.1, hk_.1.2.1, hk_.1.2.2.1, hk_.1.2.2.2.2.1, hk_.1.2.2.2.2.2.1, hk_.1.2.2.2.2.2.2.1, hk_.1.2.2.2.2.2.2.2, fun e_ => Or.elim (ho0.1 k_ e_.symm) (fun hs_ => hk_.2.1 hs_) (fun hn_ => Nat.not_le.2 hk_.2.2 hn_)⟩)); have n3_ := Aside0.mk (Kd.R_mono (ok' := fun k_ => (w.heap.size ≤ k_) ∧ some k_ ≠ (u7 : Value).ownBlock ∧ some k_ ≠ (v230 : Value).ownBlock) (Kd.R_keptB (HO_5.out) hkp (fun k_ hk_ hs_ => (hk_.2.1) hs_)) (fun k_ hk_ => ⟨hk_.1.1, hk_.1.2.2, fun e_ => Or.elim (ho0.1 k_ e_.symm) (fun hs_ => hk_.2.1 hs_) (fun hn_ => Nat.not_le.2 hk_.2.2 hn_)⟩)); have n4_ := Aside0.mk (Kd.R_mono (ok' := fun k_ => (w.heap.size ≤ k_) ∧ some k_ ≠ (v219 : Value).ownBlock ∧ some k_ ≠ (v230 : Value).ownBlock) (Kd.R_keptB (HO_7.out) hkp (fun k_ hk_ hs_ => (hk_.2.2) hs_)) (fun k_ hk_ => ⟨hk_.1.1, hk_.1.2.1, fun e_ => Or.elim (ho0.1 k_ e_.symm) (fun hs_ => hk_.2.1 hs_) (fun hn_ => Nat.not_le.2 hk_.2.2 hn_)⟩)); have n5_ := Aside0.mk (Kd.R_mono (ok' := fun k_ => (w.heap.size ≤ k_) ∧ k_ ≠ gb228) (Kd.R_keptB ((Kd.R_apart' HO_217003.out (Kd.R_typed HO_6.out) (by decide))) hkp (fun k_ hk_ hs_ => (hk_.2) hs_)) (fun k_ hk_ => ⟨hk_.1.1.1, hk_.1.1.2⟩)); have n6_ := Aside0.mk (blk_kept (by (with_reducible repeat (first | refine qaf ?_ _ | refine qai ?_ | refine qag ?_ _)); exact BK216.out) hkp (fun hs_ => (fun e_ => (Kd.R_ne HO_6.out BK216.out (by decide)) e_) hs_)); have n7_ := Aside0.mk (blk_kept (by (with_reducible repeat (first | refine qaf ?_ _ | refine qai ?_ | refine qag ?_ _)); exact BK228.out) hkp (fun hs_ => (fun e_ => (Kd.R_ne HO_6.out BK228.out (by decide)) e_) hs_)); have n8_ := Aside0.mk (Kd.R_mono (ok' := fun k_ => (w.heap.size ≤ k_) ∧ some k_ ≠ (v219 : Value).ownBlock ∧ some k_ ≠ (u7 : Value).ownBlock) ho0 (fun k_ hk_ => ⟨Or.elim hk_ (fun hs_ => (HO_6.out.1 k_ (hs_).symm).1) (fun hn_ => (Nat.le_trans (qal (by repeat (first | (with_reducible first | exact HB.out | apply qac | apply qaa | apply qad | refine qak ?_ GE216.out | refine qak ?_ GE228.out) | exact HB.out))) hn_)), Or.elim hk_ (fun hs_ => fun e_ => (((HO_5.out).1 k_ e_.symm).2.1) hs_) (fun hn_ => (Kd.fresh' (Kd.R_lt (by (with_reducible repeat (first | apply Kd.R_alloc | apply Kd.R_drewN | apply Kd.R_drew)); exact HO_5.out)) k_ hn_)), Or.elim hk_ (fun hs_ => fun e_ => (((HO_7.out).1 k_ e_.symm).2.2) hs_) (fun hn_ => (Kd.fresh' (Kd.R_lt (by (with_reducible repeat (first | apply Kd.R_alloc | apply Kd.R_drewN | apply Kd.R_drew)); exact HO_7.out)) k_ hn_))⟩)); have n9_ := Aside0.mk (hb); clear HO_0; clear HO_3; clear HO_4; clear HO_5; clear HO_7; clear HO_217003; clear BK216; clear BK228; clear HB; clear HO_6; clear HL222_3; clear HL226_3; have HO_0 := n0_; have HO_3 := n1_; have HO_4 := n2_; have HO_5 := n3_; have HO_7 := n4_; have HO_217003 := n5_; have BK216 := n6_; have BK228 := n7_; have HO231 := n8_; have HB := n9_; clear n0_ n1_ n2_ n3_ n4_ n5_ n6_ n7_ n8_ n9_; (try clear hb); (try clear hkp); (try clear ho0); have hcz43_0 : w42.cell? ⟨gb228, 0, none⟩ = some (.bool ((qaj ((qab t200 x8_1).f3) x10_2).f0)) := (qah BK228.out 0).trans rfl; have hcz43_1 : w42.cell? ⟨gb228, 1, none⟩ = some (.int .i64 ((qaj ((qab t200 x8_1).f3) x10_2).f1)) := (qah BK228.out 1).trans rfl; have hcz43_2 : w42.cell? ⟨gb228, 2, none⟩ = some (.int .i64 ((qaj ((qab t200 x8_1).f3) x10_2).f2)) := (qah BK228.out 2).trans rfl; have hfz43_0 := qae BK228.out 0; have hfz43_1 := qae BK228.out 1; have hfz43_2 := qae BK228.out 2; have hcz44_0 : w42.cell? ⟨gb216, 0, none⟩ = some (.int .i64 t221) := (qah BK216.out 0).trans rfl; have hcz44_1 : w42.cell? ⟨gb216, 1, none⟩ = some (.int .i64 t213) := (qah BK216.out 1).trans rfl; have hcz44_2 : w42.cell? ⟨gb216, 2, none⟩ = some (.int .i64 t215) := (qah BK216.out 2).trans rfl; have hcz44_3 : w42.cell? ⟨gb216, 3, none⟩ = some (u217003) := (qah BK216.out 3).trans rfl; have hfz44_0 := qae BK216.out 0; have hfz44_1 := qae BK216.out 1; have hfz44_2 := qae BK216.out 2; have hfz44_3 := qae BK216.out 3) | ((with_reducible refine gate_builtin (b := .append) (xs := #[.tmp 92, .tmp 94]) rfl ?_); at_builtin; refine Kd.R_append k51 (w0 := w) w.heap.size rfl (.tmp 92) (.tmp 94) 53 51 (.agg #[(.bool false), (.int .i64 0), (.int .i64 0)]) 24 rfl Try.underlying53 info51 rfl (by decide) (by omega) u217003 x217003_2 (⟨(qaj ((qab t200 x8_1).f3) x10_2).f0, t232, (qaj ((qab t200 x8_1).f3) x10_2).f2⟩ : S51) [.bool ((qaj ((qab t200 x8_1).f3) x10_2).f0), .int .i64 t232, .int .i64 ((qaj ((qab t200 x8_1).f3) x10_2).f2)] (fun k_ => (w.heap.size ≤ k_) ∧ k_ ≠ gb228) (fun _ => False) rfl (by first | (go_simp; done) | (go_simp; rfl)) ?aP (fun _ hk => hk.elim) ?aF ?aO ?aB ?aS ?aL ?_; (case aP => exact k51_mkM _ _ _ (⟨(qaj ((qab t200 x8_1).f3) x10_2).f0, t232, (qaj ((qab t200 x8_1).f3) x10_2).f2⟩ : S51)); (case aB => exact (by repeat (first | (with_reducible first | exact HB.out | apply qac | apply qaa | apply qad | refine qak ?_ GE216.out | refine qak ?_ GE228.out) | exact HB.out))); (case aF => exact (fun k_ hk => ⟨(Nat.le_trans (qal (by repeat (first | (with_reducible first | exact HB.out | apply qac | apply qaa | apply qad | refine qak ?_ GE216.out | refine qak ?_ GE228.out) | exact HB.out))) hk), Kd.freshB (g := gb228) (o := .cells #[.bool ((qaj ((qab t200 x8_1).f3) x10_2).f0), .int .i64 t232, .int .i64 ((qaj ((qab t200 x8_1).f3) x10_2).f2)] 51 (0, 0)) (by (with_reducible repeat (first | refine qaf ?_ _ | refine qai ?_ | refine qag ?_ _)); refine qaq (cs := #[.bool ((qaj ((qab t200 x8_1).f3) x10_2).f0), .int .i64 ((qaj ((qab t200 x8_1).f3) x10_2).f1), .int .i64 ((qaj ((qab t200 x8_1).f3) x10_2).f2)]) ?_ 1 _ rfl; (with_reducible repeat (first | refine qaf ?_ _ | refine qai ?_ | refine qag ?_ _)); exact BK228.out) k_ hk⟩)); (case aO => exact (by (with_reducible repeat (first | apply Kd.R_alloc | apply Kd.R_drewN | apply Kd.R_drew)); exact Kd.R_mono (Kd.R_far (p := ⟨gb228, 1, none⟩) (Kd.R_mono HO_217003.out (fun k_ hk => (⟨hk, hk.2⟩ : _ ∧ k_ ≠ gb228))) (fun _ hk => hk.2) (.int .i64 t232)) (fun _ hk => ⟨hk.1.1, hk.1.2⟩))); (case aS => exact (qal (by repeat (first | (with_reducible first | exact HB.out | apply qac | apply qaa | apply qad | refine qak ?_ GE216.out | refine qak ?_ GE228.out) | exact HB.out)))); (case aL => have := LMc35.out; omega); intro v234 w45 ho hb hg hat; rw [← Ny233.out] at ho; have n0_ := Aside0.mk (Kd.V_afterv (ok := (fun k_ => (P0_ k_ ∨ w.heap.size ≤ k_) ∧ some k_ ≠ (u3 : Value).ownBlock ∧ some k_ ≠ (.slice (some ad212) t200.length co17 : Value).ownBlock ∧ some k_ ≠ (v219 : Value).ownBlock ∧ some k_ ≠ (u7 : Value).ownBlock ∧ some k_ ≠ (v230 : Value).ownBlock ∧ k_ ≠ gb216 ∧ k_ ≠ gb228)) (by (with_reducible repeat (first | apply Kd.V_alloc | apply Kd.V_drewN | apply Kd.V_drew)); exact Kd.V_mono (Kd.V_far (p := ⟨gb228, 1, none⟩) (Kd.V_mono HO_0.out (fun k_ hk => (⟨hk, hk.2.2.2.2.2.2.2.1⟩ : _ ∧ k_ ≠ gb228))) (fun _ hk => hk.2) (.int .i64 t232)) (fun _ hk => ⟨⟨hk.1.1, ⟨hk.1.2.1, ⟨hk.1.2.2.1, ⟨hk.1.2.2.2.1, ⟨hk.1.2.2.2.2.1, ⟨hk.1.2.2.2.2.2.2.2.2, ⟨hk.1.2.2.2.2.2.2.1, hk.1.2.2.2.2.2.2.2.1⟩⟩⟩⟩⟩⟩⟩, hk.1.2.2.2.2.2.1⟩)) hg hat); have n1_ := Aside0.mk (Kd.N_afterv (ok := (fun k_ => (P0_ k_ ∨ w.heap.size ≤ k_) ∧ some k_ ≠ (.slice (some ad212) t200.length co17 : Value).ownBlock ∧ some k_ ≠ (v219 : Value).ownBlock ∧ some k_ ≠ (u7 : Value).ownBlock ∧ some k_ ≠ (v230 : Value).ownBlock ∧ k_ ≠ gb216 ∧ k_ ≠ gb228)) (by (with_reducible repeat (first | apply Kd.N_alloc | apply Kd.N_drewN | apply Kd.N_drew)); exact Kd.N_mono (Kd.N_far (p := ⟨gb228, 1, none⟩) (Kd.N_mono HO_3.out (fun k_ hk => (⟨hk, hk.2.2.2.2.2.2.1⟩ : _ ∧ k_ ≠ gb228))) (fun _ hk => hk.2) (.int .i64 t232)) (fun _ hk => ⟨⟨hk.1.1, ⟨hk.1.2.1, ⟨hk.1.2.2.1, ⟨hk.1.2.2.2.1, ⟨hk.1.2.2.2.2.2.2.2, ⟨hk.1.2.2.2.2.2.1, hk.1.2.2.2.2.2.2.1⟩⟩⟩⟩⟩⟩, hk.1.2.2.2.2.1⟩)) hg hat); have n2_ := Aside0.mk (Kd.N_afterv (ok := (fun k_ => (P0_ k_ ∨ w.heap.size ≤ k_) ∧ some k_ ≠ (u3 : Value).ownBlock ∧ some k_ ≠ (v219 : Value).ownBlock ∧ some k_ ≠ (u7 : Value).ownBlock ∧ some k_ ≠ (v230 : Value).ownBlock ∧ k_ ≠ gb216 ∧ k_ ≠ gb228)) (by (with_reducible repeat (first | apply Kd.N_alloc | apply Kd.N_drewN | apply Kd.N_drew)); exact Kd.N_mono (Kd.N_far (p := ⟨gb228, 1, none⟩) (Kd.N_mono HO_4.out (fun k_ hk => (⟨hk, hk.2.2.2.2.2.2.1⟩ : _ ∧ k_ ≠ gb228))) (fun _ hk => hk.2) (.int .i64 t232)) (fun _ hk => ⟨⟨hk.1.1, ⟨hk.1.2.1, ⟨hk.1.2.2.1, ⟨hk.1.2.2.2.1, ⟨hk.1.2.2.2.2.2.2.2, ⟨hk.1.2.2.2.2.2.1, hk.1.2.2.2.2.2.2.1⟩⟩⟩⟩⟩⟩, hk.1.2.2.2.2.1⟩)) hg hat); have n3_ := Aside0.mk (Kd.R_over' (by (with_reducible repeat (first | apply Kd.R_alloc | apply Kd.R_drewN | apply Kd.R_drew)); exact (Kd.R_mono (Kd.R_far (p := ⟨gb228, 1, none⟩) (Kd.R_types HO_5.out BK228.out (by decide)) (fun _ hk => hk.2) (.int .i64 t232)) (fun _ h_ => h_.1))) (Kd.R_typed (by (with_reducible repeat (first | apply Kd.R_alloc | apply Kd.R_drewN | apply Kd.R_drew)); exact (Kd.R_mono (Kd.R_far (p := ⟨gb228, 1, none⟩) (Kd.R_mono HO_217003.out (fun k_ hk => (⟨hk, hk.2⟩ : _ ∧ k_ ≠ gb228))) (fun _ hk => hk.2) (.int .i64 t232)) (fun _ h_ => h_.1)))) (by decide) hg); have n4_ := Aside0.mk (Kd.R_over' (by (with_reducible repeat (first | apply Kd.R_alloc | apply Kd.R_drewN | apply Kd.R_drew)); exact (Kd.R_mono (Kd.R_far (p := ⟨gb228, 1, none⟩) (Kd.R_types HO_7.out BK228.out (by decide)) (fun _ hk => hk.2) (.int .i64 t232)) (fun _ h_ => h_.1))) (Kd.R_typed (by (with_reducible repeat (first | apply Kd.R_alloc | apply Kd.R_drewN | apply Kd.R_drew)); exact (Kd.R_mono (Kd.R_far (p := ⟨gb228, 1, none⟩) (Kd.R_mono HO_217003.out (fun k_ hk => (⟨hk, hk.2⟩ : _ ∧ k_ ≠ gb228))) (fun _ hk => hk.2) (.int .i64 t232)) (fun _ h_ => h_.1)))) (by decide) hg); have n5_ := Aside0.mk (blk_grown (g := gb216) (o := .cells #[.int .i64 t221, .int .i64 t213, .int .i64 t215, u217003] 55 (0, 0)) (by (with_reducible repeat (first | refine qaf ?_ _ | refine qai ?_ | refine qag ?_ _)); refine qa0 ?_ NB216_228.out _; (with_reducible repeat (first | refine qaf ?_ _ | refine qai ?_ | refine qag ?_ _)); exact BK216.out) hg (Kd.R_ne HO_217003.out BK216.out (by decide))); have n6_ := Aside0.mk (blk_grown (g := gb228) (o := .cells #[.bool ((qaj ((qab t200 x8_1).f3) x10_2).f0), .int .i64 t232, .int .i64 ((qaj ((qab t200 x8_1).f3) x10_2).f2)] 51 (0, 0)) (by (with_reducible repeat (first | refine qaf ?_ _ | refine qai ?_ | refine qag ?_ _)); refine qaq (cs := #[.bool ((qaj ((qab t200 x8_1).f3) x10_2).f0), .int .i64 ((qaj ((qab t200 x8_1).f3) x10_2).f1), .int .i64 ((qaj ((qab t200 x8_1).f3) x10_2).f2)]) ?_ 1 _ rfl; (with_reducible repeat (first | refine qaf ?_ _ | refine qai ?_ | refine qag ?_ _)); exact BK228.out) hg (Kd.R_away HO_217003.out (fun _ hk => hk.2))); have n7_ := Aside0.mk (Kd.R_over' (by (with_reducible repeat (first | apply Kd.R_alloc | apply Kd.R_drewN | apply Kd.R_drew)); exact (Kd.R_mono (Kd.R_far (p := ⟨gb228, 1, none⟩) (Kd.R_types HO231.out BK228.out (by decide)) (fun _ hk => hk.2) (.int .i64 t232)) (fun _ h_ => h_.1))) (Kd.R_typed (by (with_reducible repeat (first | apply Kd.R_alloc | apply Kd.R_drewN | apply Kd.R_drew)); exact (Kd.R_mono (Kd.R_far (p := ⟨gb228, 1, none⟩) (Kd.R_mono HO_217003.out (fun k_ hk => (⟨hk, hk.2⟩ : _ ∧ k_ ≠ gb228))) (fun _ hk => hk.2) (.int .i64 t232)) (fun _ h_ => h_.1)))) (by decide) hg); have n8_ := Aside0.mk (hb); have n9_ := Aside0.mk (ho); clear HO_0; clear HO_3; clear HO_4; clear HO_5; clear HO_7; clear BK216; clear BK228; clear HO231; clear HB; clear HO_217003; have HO_0 := n0_; have HO_3 := n1_; have HO_4 := n2_; have HO_5 := n3_; have HO_7 := n4_; have BK216 := n5_; have BK228 := n6_; have HO231 := n7_; have HB := n8_; have HO235 := n9_; clear n0_ n1_ n2_ n3_ n4_ n5_ n6_ n7_ n8_ n9_; clear ho hb hg hat; obtain ⟨Ao46, co46, eo46⟩ := Kd.R_slice HO235.out; subst eo46; have hcz47_0 : w45.cell? ⟨gb216, 0, none⟩ = some (.int .i64 t221) := (qah BK216.out 0).trans rfl; have hcz47_1 : w45.cell? ⟨gb216, 1, none⟩ = some (.int .i64 t213) := (qah BK216.out 1).trans rfl; have hcz47_2 : w45.cell? ⟨gb216, 2, none⟩ = some (.int .i64 t215) := (qah BK216.out 2).trans rfl; have hcz47_3 : w45.cell? ⟨gb216, 3, none⟩ = some (u217003) := (qah BK216.out 3).trans rfl; have hfz47_0 := qae BK216.out 0; have hfz47_1 := qae BK216.out 1; have hfz47_2 := qae BK216.out 2; have hfz47_3 := qae BK216.out 3))
             go_roundg k2
             case measure => have := HK1.out; have := HK2.out; omega
             case rel => exact ⟨(t229), (x7_2), (wrap64 (x10_2 + 1)), (y233), (.slice Ao46 y233.length co46), (by first | rfl | (simp; done) | (simp [*]; done)), H', ⟨by have := HK1.out; have := HK2.out; omega⟩, ⟨by (with_reducible repeat (first | apply Kd.V_alloc | apply Kd.V_drewN | apply Kd.V_drew)); exact Kd.V_mono (Kd.V_far (p := ⟨gb216, 3, none⟩) (Kd.V_mono HO_0.out (fun k_ hk => (⟨hk, hk.1.2.2.2.2.2.2.1⟩ : _ ∧ k_ ≠ gb216))) (fun _ hk => hk.2) (.slice Ao46 y233.length co46)) (fun _ hk => ⟨hk.1.1.1, ⟨hk.1.1.2.1, ⟨hk.1.1.2.2.1, ⟨hk.1.1.2.2.2.1, ⟨hk.1.1.2.2.2.2.2.1, ⟨hk.1.1.2.2.2.2.1, ⟨hk.1.2, hk.1.1.2.2.2.2.2.2.1⟩⟩⟩⟩⟩⟩⟩)⟩, ⟨by (with_reducible repeat (first | apply Kd.N_alloc | apply Kd.N_drewN | apply Kd.N_drew)); exact Kd.N_mono (Kd.N_far (p := ⟨gb216, 3, none⟩) (Kd.N_mono HO_3.out (fun k_ hk => (⟨hk, hk.1.2.2.2.2.2.1⟩ : _ ∧ k_ ≠ gb216))) (fun _ hk => hk.2) (.slice Ao46 y233.length co46)) (fun _ hk => ⟨hk.1.1.1, ⟨hk.1.1.2.1, ⟨hk.1.1.2.2.1, ⟨hk.1.1.2.2.2.2.1, ⟨hk.1.1.2.2.2.1, ⟨hk.1.2, hk.1.1.2.2.2.2.2.1⟩⟩⟩⟩⟩⟩)⟩, ⟨by (with_reducible repeat (first | apply Kd.N_alloc | apply Kd.N_drewN | apply Kd.N_drew)); exact Kd.N_mono (Kd.N_far (p := ⟨gb216, 3, none⟩) (Kd.N_mono HO_4.out (fun k_ hk => (⟨hk, hk.1.2.2.2.2.2.1⟩ : _ ∧ k_ ≠ gb216))) (fun _ hk => hk.2) (.slice Ao46 y233.length co46)) (fun _ hk => ⟨hk.1.1.1, ⟨hk.1.1.2.1, ⟨hk.1.1.2.2.1, ⟨hk.1.1.2.2.2.2.1, ⟨hk.1.1.2.2.2.1, ⟨hk.1.2, hk.1.1.2.2.2.2.2.1⟩⟩⟩⟩⟩⟩)⟩, ⟨by (with_reducible repeat (first | apply Kd.R_alloc | apply Kd.R_drewN | apply Kd.R_drew)); exact Kd.R_mono (Kd.R_far (p := ⟨gb216, 3, none⟩) (Kd.R_types HO_5.out BK216.out (by decide)) (fun _ hk => hk.2) (.slice Ao46 y233.length co46)) (fun _ hk => ⟨hk.1.1, ⟨hk.1.2.2, hk.1.2.1⟩⟩)⟩, ⟨by (with_reducible repeat (first | apply Kd.R_alloc | apply Kd.R_drewN | apply Kd.R_drew)); exact Kd.R_mono (Kd.R_far (p := ⟨gb216, 3, none⟩) (Kd.R_types HO231.out BK216.out (by decide)) (fun _ hk => hk.2) (.slice Ao46 y233.length co46)) (fun _ hk => ⟨hk.1.1, ⟨hk.1.2.1, hk.1.2.2⟩⟩)⟩, ⟨by (with_reducible repeat (first | apply Kd.R_alloc | apply Kd.R_drewN | apply Kd.R_drew)); exact Kd.R_mono (Kd.R_far (p := ⟨gb216, 3, none⟩) (Kd.R_types HO_7.out BK216.out (by decide)) (fun _ hk => hk.2) (.slice Ao46 y233.length co46)) (fun _ hk => ⟨hk.1.1, ⟨hk.1.2.1, hk.1.2.2⟩⟩)⟩, ⟨by (with_reducible repeat (first | apply Kd.R_alloc | apply Kd.R_drewN | apply Kd.R_drew)); exact Kd.R_mono (Kd.R_far (p := ⟨gb216, 3, none⟩) (Kd.R_types HO235.out BK216.out (by decide)) (fun _ hk => hk.2) (.slice Ao46 y233.length co46)) (fun _ hk => hk.1.1)⟩, ⟨by (with_reducible repeat (first | refine qaf ?_ _ | refine qai ?_ | refine qag ?_ _)); refine qaq (cs := #[.int .i64 t221, .int .i64 t213, .int .i64 t215, u217003]) ?_ 3 _ rfl; (with_reducible repeat (first | refine qaf ?_ _ | refine qai ?_ | refine qag ?_ _)); exact BK216.out⟩, ⟨by repeat (first | (with_reducible first | exact HB.out | apply qac | apply qaa | apply qad | refine qak ?_ GE216.out | refine qak ?_ GE228.out) | exact HB.out)⟩⟩
            ·rw [if_neg c35] at H
             exact absurd H (by simp)
           ·rw [if_neg c34] at H
            have c34b0 : (((qaj ((qab t200 x8_1).f3) x10_2).f2) == 0) = false := beq_eq_false_iff_ne.mpr c34
            have c34b1 : (((qaj ((qab t200 x8_1).f3) x10_2).f2) != 0) = true := bne_iff_ne.mpr c34
            replace H := Option.bind_eq_some_iff.mp H
            obtain ⟨⟨t236, t239⟩, A480, H⟩ := H
            replace H : (if x217003_2.length < 5864062014805 then (burgageref22_Of.l1 k2 l0 x3_1 t200 t218 t229 t236 x8_1 (wrap64 (x10_2 + 1)) t221 t213 t215 (x217003_2 ++ [(⟨(qaj ((qab t200 x8_1).f3) x10_2).f0, t232, wrap64 (t239 + 1)⟩ : S51)])) else (none)) = some r := H
            have A48 := Aside0.mk A480
            clear A480
            by_cases c49 : x217003_2.length < 5864062014805
            ·rw [if_pos c49] at H
             have LMc49 := Aside0.mk c49
             clear c49
             obtain ⟨y240, hy240⟩ : ∃ y_ : List (S51), y_ = (x217003_2 ++ [(⟨(qaj ((qab t200 x8_1).f3) x10_2).f0, t232, wrap64 (t239 + 1)⟩ : S51)]) := ⟨_, rfl⟩
             replace H : (burgageref22_Of.l1 k2 l0 x3_1 t200 t218 t229 t236 x8_1 (wrap64 (x10_2 + 1)) t221 t213 t215 y240) = some r := by first | (rw [hy240]; with_reducible exact H) | (have H2_ := (Option.bind_some _ _).symm.trans H; rw [hy240]; with_reducible exact H2_) | (have H2_ := (Option.bind_some _ _).symm.trans H; with_reducible exact H2_) | with_reducible exact H | (rw [hy240]; exact H) | exact H
             have Ny240 := Aside0.mk hy240
             clear hy240
             have H' := Aside0.mk H
             clear H
             have p222 : 0 ≤ (x8_1 : Int) := of_decide_eq_true (by first | (with_reducible assumption) | assumption)
             have q222 : x8_1 < (t200.length : Int) := of_decide_eq_true (by first | (with_reducible assumption) | assumption)
             obtain ⟨ad222, A222_3, c222_3, e222, hx222_0, hx222_1, hx222_2, hx222_3, hl222_3, hi222_3⟩ := qa8 (Kd.N_reads' HO_4.out).2.2 x8_1 p222 q222
             obtain rfl : ad212 = ad222 := (by injection e222)
             obtain ⟨ce222, hce222, hMe222, hcc222⟩ := Kd.N_get HO_4.out z55 x8_1 p222 (by first | exact q222 | exact of_decide_eq_true (by first | (with_reducible assumption) | assumption) | (have e_ := (Kd.N_reads' HO_4.out).1; omega))
             obtain ⟨ua222_3, uc222_3, rfl, ul222_3, ge222_3⟩ := qbo hMe222
             have hv222_3 := hcc222 3 _ rfl
             rw [qax _ _ 3 (by omega)] at hv222_3
             replace hv222_3 := Option.some.inj (hv222_3.symm.trans hx222_3)
             injection hv222_3 with hva_ hvn_ hvc_
             rw [hva_] at ge222_3
             rw [hvc_] at ul222_3
             have HL222_3 := Aside0.mk (show Kd.V k51 51 _ w.heap.size _ _ ((qab t200 x8_1).f3) from Kd.V_mk ul222_3 ge222_3)
             clear hva_ hvn_ hvc_ ge222_3 ul222_3
             clear hcc222 hce222
             have HR222_3 := Aside0.mk hi222_3
             have HC222_3 := Aside0.mk hl222_3
             clear hi222_3 hl222_3
             replace p222 := eq_true p222
             replace q222 := eq_true q222
             have p226 : 0 ≤ (x8_1 : Int) := of_decide_eq_true (by first | (with_reducible assumption) | assumption)
             have q226 : x8_1 < (t200.length : Int) := of_decide_eq_true (by first | (with_reducible assumption) | assumption)
             obtain ⟨ad226, A226_3, c226_3, e226, hx226_0, hx226_1, hx226_2, hx226_3, hl226_3, hi226_3⟩ := qa8 (Kd.N_reads' HO_4.out).2.2 x8_1 p226 q226
             obtain rfl : ad212 = ad226 := (by injection e226)
             obtain ⟨ce226, hce226, hMe226, hcc226⟩ := Kd.N_get HO_4.out z55 x8_1 p226 (by first | exact q226 | exact of_decide_eq_true (by first | (with_reducible assumption) | assumption) | (have e_ := (Kd.N_reads' HO_4.out).1; omega))
             obtain ⟨ua226_3, uc226_3, rfl, ul226_3, ge226_3⟩ := qbo hMe226
             have hv226_3 := hcc226 3 _ rfl
             rw [qax _ _ 3 (by omega)] at hv226_3
             replace hv226_3 := Option.some.inj (hv226_3.symm.trans hx226_3)
             injection hv226_3 with hva_ hvn_ hvc_
             rw [hva_] at ge226_3
             rw [hvc_] at ul226_3
             have HL226_3 := Aside0.mk (show Kd.V k51 51 _ w.heap.size _ _ ((qab t200 x8_1).f3) from Kd.V_mk ul226_3 ge226_3)
             clear hva_ hvn_ hvc_ ge226_3 ul226_3
             clear hcc226 hce226
             have HR226_3 := Aside0.mk hi226_3
             have HC226_3 := Aside0.mk hl226_3
             clear hi226_3 hl226_3
             replace p226 := eq_true p226
             replace q226 := eq_true q226
             have ea_ := Option.some.inj (hx222_3.symm.trans hx226_3)
             injection ea_ with ea_ en_ ec_
             subst ea_
             subst ec_
             clear en_
             have p227 : 0 ≤ (x10_2 : Int) := of_decide_eq_true (by first | (with_reducible assumption) | assumption)
             have q227 : x10_2 < (((qab t200 x8_1).f3).length : Int) := of_decide_eq_true (by first | (with_reducible assumption) | assumption)
             obtain ⟨ad227, e227, hx227_0, hx227_1, hx227_2⟩ := qbx (by repeat (first | (with_reducible exact HR226_3.out) | (with_reducible refine Kd.C_alloc ?_ _) | (with_reducible refine Kd.C_drewN ?_ _) | (with_reducible refine Kd.C_drew ?_) | exact HR226_3.out)) x10_2 p227 q227
             cases e227
             replace p227 := eq_true p227
             replace q227 := eq_true q227
             go_wp2_with (first | ((with_reducible refine qau (N := 11) rfl ?_); refine qat ?hg (N := 11) ?hd (cs := #[.bool false, .int .i64 0, .int .i64 0]) (t := 51) ?hr ?_; (case hd => rfl); (case hg => rfl); (case hr => first | (go_simp; done) | (go_simp; rfl)); intro gb228 hg w50 hbox hb; have n0_ := Aside0.mk (Kd.V_below (Kd.V_elderB (by (with_reducible repeat (first | apply Kd.V_alloc | apply Kd.V_drewN | apply Kd.V_drew)); exact HO_0.out) gb228 (Nat.le_of_eq hg.symm)) hb); have n1_ := Aside0.mk (Kd.N_below (Kd.N_elderB (by (with_reducible repeat (first | apply Kd.N_alloc | apply Kd.N_drewN | apply Kd.N_drew)); exact HO_3.out) gb228 (Nat.le_of_eq hg.symm)) hb); have n2_ := Aside0.mk (Kd.N_below (Kd.N_elderB (by (with_reducible repeat (first | apply Kd.N_alloc | apply Kd.N_drewN | apply Kd.N_drew)); exact HO_4.out) gb228 (Nat.le_of_eq hg.symm)) hb); have n3_ := Aside0.mk (Kd.R_below (by (with_reducible repeat (first | apply Kd.R_alloc | apply Kd.R_drewN | apply Kd.R_drew)); exact HO_5.out) hb); have n4_ := Aside0.mk (Kd.R_below (by (with_reducible repeat (first | apply Kd.R_alloc | apply Kd.R_drewN | apply Kd.R_drew)); exact HO_6.out) hb); have n5_ := Aside0.mk (Kd.R_below (by (with_reducible repeat (first | apply Kd.R_alloc | apply Kd.R_drewN | apply Kd.R_drew)); exact HO_7.out) hb); have n6_ := Aside0.mk (Kd.R_below (Kd.R_elderB (by (with_reducible repeat (first | apply Kd.R_alloc | apply Kd.R_drewN | apply Kd.R_drew)); exact HO_217003.out) gb228 (Nat.le_of_eq hg.symm)) hb); have n7_ := Aside0.mk (Kd.V_below (Kd.V_elderB (by (with_reducible repeat (first | apply Kd.V_alloc | apply Kd.V_drewN | apply Kd.V_drew)); exact HL222_3.out) gb228 (Nat.le_of_eq hg.symm)) hb); have n8_ := Aside0.mk (Kd.V_below (Kd.V_elderB (by (with_reducible repeat (first | apply Kd.V_alloc | apply Kd.V_drewN | apply Kd.V_drew)); exact HL226_3.out) gb228 (Nat.le_of_eq hg.symm)) hb); have n9_ := Aside0.mk (qa1 (g := gb216) (o := .cells #[.int .i64 t221, .int .i64 t213, .int .i64 t215, u217003] 55 (0, 0)) (by (with_reducible repeat (first | refine qaf ?_ _ | refine qai ?_ | refine qag ?_ _)); exact BK216.out) hb); have n10_ := Aside0.mk (Kd.C_below (by repeat (first | (with_reducible exact HR222_3.out) | (with_reducible refine Kd.C_alloc ?_ _) | (with_reducible refine Kd.C_drewN ?_ _) | (with_reducible refine Kd.C_drew ?_) | exact HR222_3.out)) hb); have n11_ := Aside0.mk (Kd.C_below (by repeat (first | (with_reducible exact HR226_3.out) | (with_reducible refine Kd.C_alloc ?_ _) | (with_reducible refine Kd.C_drewN ?_ _) | (with_reducible refine Kd.C_drew ?_) | exact HR226_3.out)) hb); have n12_ := Aside0.mk (qam (by repeat (first | (with_reducible first | exact HB.out | apply qac | apply qaa | apply qad | refine qak ?_ GE216.out) | exact HB.out)) hb); have n13_ := Aside0.mk (hbox); have n14_ := Aside0.mk ((by rw [hg]; exact (qal (by repeat (first | (with_reducible first | exact HB.out | apply qac | apply qaa | apply qad | refine qak ?_ GE216.out) | exact HB.out))) : w.heap.size ≤ gb228)); have n15_ := Aside0.mk ((by rw [hg]; exact (qal (by repeat (first | (with_reducible first | exact HB.out | apply qac | apply qaa | apply qad | refine qak ?_ GE216.out) | exact HB.out))) : w.heap.size ≤ gb228)); have n16_ := Aside0.mk ((by rw [hg]; exact Nat.ne_of_lt (qa9 (g := gb216) (o := .cells #[.int .i64 t221, .int .i64 t213, .int .i64 t215, u217003] 55 (0, 0)) (by (with_reducible repeat (first | refine qaf ?_ _ | refine qai ?_ | refine qag ?_ _)); exact BK216.out)) : gb216 ≠ gb228)); have n17_ := Aside0.mk ((by rw [hg]; exact Nat.ne_of_gt (qa9 (g := gb216) (o := .cells #[.int .i64 t221, .int .i64 t213, .int .i64 t215, u217003] 55 (0, 0)) (by (with_reducible repeat (first | refine qaf ?_ _ | refine qai ?_ | refine qag ?_ _)); exact BK216.out)) : gb228 ≠ gb216)); clear HO_0; clear HO_3; clear HO_4; clear HO_5; clear HO_6; clear HO_7; clear HO_217003; clear HL222_3; clear HL226_3; clear BK216; clear HR222_3; clear HR226_3; clear HB; have HO_0 := n0_; have HO_3 := n1_; have HO_4 := n2_; have HO_5 := n3_; have HO_6 := n4_; have HO_7 := n5_; have HO_217003 := n6_; have HL222_3 := n7_; have HL226_3 := n8_; have BK216 := n9_; have HR222_3 := n10_; have HR226_3 := n11_; have HB := n12_; have BK228 := n13_; have GW228 := n14_; have GE228 := n15_; have NB216_228 := n16_; have NB228_216 := n17_; clear n0_ n1_ n2_ n3_ n4_ n5_ n6_ n7_ n8_ n9_ n10_ n11_ n12_ n13_ n14_ n15_ n16_ n17_; clear hb hbox hg; have hnb51 := NB228_216.out; have hnc51 := NB216_228.out; have hcz52_0 : w50.cell? ⟨gb228, 0, none⟩ = some (.bool false) := (qah BK228.out 0).trans rfl; have hcz52_1 : w50.cell? ⟨gb228, 1, none⟩ = some (.int .i64 0) := (qah BK228.out 1).trans rfl; have hcz52_2 : w50.cell? ⟨gb228, 2, none⟩ = some (.int .i64 0) := (qah BK228.out 2).trans rfl; have hfz52_0 := qae BK228.out 0; have hfz52_1 := qae BK228.out 1; have hfz52_2 := qae BK228.out 2) | ((with_reducible refine gate_store (t := 51) (p := 11) rfl ?_); refine store_event (t := 51) (p := 11) (v := ?vo_w53) (w1 := (((w50.setCell ⟨gb228, 0, none⟩ (.bool ((qaj ((qab t200 x8_1).f3) x10_2).f0))).setCell ⟨gb228, 1, none⟩ (.int .i64 ((qaj ((qab t200 x8_1).f3) x10_2).f1))).setCell ⟨gb228, 2, none⟩ (.int .i64 ((qaj ((qab t200 x8_1).f3) x10_2).f2)))) ?hg ?ho ?hn ?hr ?_; (case ho => rfl); (case hg => rfl); (case hn => rfl); (case hr => first | (go_simp; done) | (go_simp; rfl)); intro w53 hw; have n0_ : Aside0 (Kd.V k55 55 w53 w.heap.size (fun k_ => (P0_ k_ ∨ w.heap.size ≤ k_) ∧ some k_ ≠ (u3 : Value).ownBlock ∧ some k_ ≠ (.slice (some ad212) t200.length co17 : Value).ownBlock ∧ some k_ ≠ (v219 : Value).ownBlock ∧ some k_ ≠ (u6 : Value).ownBlock ∧ some k_ ≠ (u7 : Value).ownBlock ∧ some k_ ≠ (u217003 : Value).ownBlock ∧ k_ ≠ gb216 ∧ k_ ≠ gb228) (.slice A0 l0.length c0) l0) := ⟨(by rw [hw]; exact (by (with_reducible repeat (first | apply Kd.V_alloc | apply Kd.V_drewN | apply Kd.V_drew)); exact Kd.V_mono (Kd.V_far (p := ⟨gb228, 2, none⟩) (Kd.V_far (p := ⟨gb228, 1, none⟩) (Kd.V_far (p := ⟨gb228, 0, none⟩) (Kd.V_mono HO_0.out (fun k_ hk => (⟨hk, hk.2⟩ : _ ∧ k_ ≠ gb228))) (fun _ hk => hk.2) (.bool ((qaj ((qab t200 x8_1).f3) x10_2).f0))) (fun _ hk => hk.2) (.int .i64 ((qaj ((qab t200 x8_1).f3) x10_2).f1))) (fun _ hk => hk.2) (.int .i64 ((qaj ((qab t200 x8_1).f3) x10_2).f2))) (fun _ hk => ⟨hk.1.1.1, ⟨hk.1.1.2.1, ⟨hk.1.1.2.2.1, ⟨hk.1.1.2.2.2.1, ⟨hk.1.1.2.2.2.2.1, ⟨hk.1.1.2.2.2.2.2.1, ⟨hk.1.1.2.2.2.2.2.2.1, ⟨hk.1.1.2.2.2.2.2.2.2, hk.1.2⟩⟩⟩⟩⟩⟩⟩⟩)))⟩; have n1_ : Aside0 (Kd.N k55 55 w53 w.heap.size (fun k_ => (P0_ k_ ∨ w.heap.size ≤ k_) ∧ some k_ ≠ (.slice (some ad212) t200.length co17 : Value).ownBlock ∧ some k_ ≠ (v219 : Value).ownBlock ∧ some k_ ≠ (u6 : Value).ownBlock ∧ some k_ ≠ (u7 : Value).ownBlock ∧ some k_ ≠ (u217003 : Value).ownBlock ∧ k_ ≠ gb216 ∧ k_ ≠ gb228) u3 x3_1) := ⟨(by rw [hw]; exact (by (with_reducible repeat (first | apply Kd.N_alloc | apply Kd.N_drewN | apply Kd.N_drew)); exact Kd.N_mono (Kd.N_far (p := ⟨gb228, 2, none⟩) (Kd.N_far (p := ⟨gb228, 1, none⟩) (Kd.N_far (p := ⟨gb228, 0, none⟩) (Kd.N_mono HO_3.out (fun k_ hk => (⟨hk, hk.2⟩ : _ ∧ k_ ≠ gb228))) (fun _ hk => hk.2) (.bool ((qaj ((qab t200 x8_1).f3) x10_2).f0))) (fun _ hk => hk.2) (.int .i64 ((qaj ((qab t200 x8_1).f3) x10_2).f1))) (fun _ hk => hk.2) (.int .i64 ((qaj ((qab t200 x8_1).f3) x10_2).f2))) (fun _ hk => ⟨hk.1.1.1, ⟨hk.1.1.2.1, ⟨hk.1.1.2.2.1, ⟨hk.1.1.2.2.2.1, ⟨hk.1.1.2.2.2.2.1, ⟨hk.1.1.2.2.2.2.2.1, ⟨hk.1.1.2.2.2.2.2.2, hk.1.2⟩⟩⟩⟩⟩⟩⟩)))⟩; have n2_ : Aside0 (Kd.N k55 55 w53 w.heap.size (fun k_ => (P0_ k_ ∨ w.heap.size ≤ k_) ∧ some k_ ≠ (u3 : Value).ownBlock ∧ some k_ ≠ (v219 : Value).ownBlock ∧ some k_ ≠ (u6 : Value).ownBlock ∧ some k_ ≠ (u7 : Value).ownBlock ∧ some k_ ≠ (u217003 : Value).ownBlock ∧ k_ ≠ gb216 ∧ k_ ≠ gb228) (.slice (some ad212) t200.length co17) t200) := ⟨(by rw [hw]; exact (by (with_reducible repeat (first | apply Kd.N_alloc | apply Kd.N_drewN | apply Kd.N_drew)); exact Kd.N_mono (Kd.N_far (p := ⟨gb228, 2, none⟩) (Kd.N_far (p := ⟨gb228, 1, none⟩) (Kd.N_far (p := ⟨gb228, 0, none⟩) (Kd.N_mono HO_4.out (fun k_ hk => (⟨hk, hk.2⟩ : _ ∧ k_ ≠ gb228))) (fun _ hk => hk.2) (.bool ((qaj ((qab t200 x8_1).f3) x10_2).f0))) (fun _ hk => hk.2) (.int .i64 ((qaj ((qab t200 x8_1).f3) x10_2).f1))) (fun _ hk => hk.2) (.int .i64 ((qaj ((qab t200 x8_1).f3) x10_2).f2))) (fun _ hk => ⟨hk.1.1.1, ⟨hk.1.1.2.1, ⟨hk.1.1.2.2.1, ⟨hk.1.1.2.2.2.1, ⟨hk.1.1.2.2.2.2.1, ⟨hk.1.1.2.2.2.2.2.1, ⟨hk.1.1.2.2.2.2.2.2, hk.1.2⟩⟩⟩⟩⟩⟩⟩)))⟩; have n3_ : Aside0 (Kd.R (Kd.int .i64) 3 w53 w.heap.size (fun k_ => (w.heap.size ≤ k_) ∧ some k_ ≠ (u6 : Value).ownBlock ∧ some k_ ≠ (u7 : Value).ownBlock) v219 t218) := ⟨(by rw [hw]; exact (by (with_reducible repeat (first | apply Kd.R_alloc | apply Kd.R_drewN | apply Kd.R_drew)); exact Kd.R_mono (Kd.R_far (p := ⟨gb228, 2, none⟩) (Kd.R_far (p := ⟨gb228, 1, none⟩) (Kd.R_far (p := ⟨gb228, 0, none⟩) (Kd.R_types HO_5.out BK228.out (by decide)) (fun _ hk => hk.2) (.bool ((qaj ((qab t200 x8_1).f3) x10_2).f0))) (fun _ hk => hk.2) (.int .i64 ((qaj ((qab t200 x8_1).f3) x10_2).f1))) (fun _ hk => hk.2) (.int .i64 ((qaj ((qab t200 x8_1).f3) x10_2).f2))) (fun _ hk => ⟨hk.1.1, ⟨hk.1.2.1, hk.1.2.2⟩⟩)))⟩; have n4_ : Aside0 (Kd.R (Kd.int .i64) 3 w53 w.heap.size (fun k_ => (w.heap.size ≤ k_) ∧ some k_ ≠ (v219 : Value).ownBlock ∧ some k_ ≠ (u7 : Value).ownBlock) u6 x6_2) := ⟨(by rw [hw]; exact (by (with_reducible repeat (first | apply Kd.R_alloc | apply Kd.R_drewN | apply Kd.R_drew)); exact Kd.R_mono (Kd.R_far (p := ⟨gb228, 2, none⟩) (Kd.R_far (p := ⟨gb228, 1, none⟩) (Kd.R_far (p := ⟨gb228, 0, none⟩) (Kd.R_types HO_6.out BK228.out (by decide)) (fun _ hk => hk.2) (.bool ((qaj ((qab t200 x8_1).f3) x10_2).f0))) (fun _ hk => hk.2) (.int .i64 ((qaj ((qab t200 x8_1).f3) x10_2).f1))) (fun _ hk => hk.2) (.int .i64 ((qaj ((qab t200 x8_1).f3) x10_2).f2))) (fun _ hk => ⟨hk.1.1, ⟨hk.1.2.1, hk.1.2.2⟩⟩)))⟩; have n5_ : Aside0 (Kd.R (Kd.int .i64) 3 w53 w.heap.size (fun k_ => (w.heap.size ≤ k_) ∧ some k_ ≠ (v219 : Value).ownBlock ∧ some k_ ≠ (u6 : Value).ownBlock) u7 x7_2) := ⟨(by rw [hw]; exact (by (with_reducible repeat (first | apply Kd.R_alloc | apply Kd.R_drewN | apply Kd.R_drew)); exact Kd.R_mono (Kd.R_far (p := ⟨gb228, 2, none⟩) (Kd.R_far (p := ⟨gb228, 1, none⟩) (Kd.R_far (p := ⟨gb228, 0, none⟩) (Kd.R_types HO_7.out BK228.out (by decide)) (fun _ hk => hk.2) (.bool ((qaj ((qab t200 x8_1).f3) x10_2).f0))) (fun _ hk => hk.2) (.int .i64 ((qaj ((qab t200 x8_1).f3) x10_2).f1))) (fun _ hk => hk.2) (.int .i64 ((qaj ((qab t200 x8_1).f3) x10_2).f2))) (fun _ hk => ⟨hk.1.1, ⟨hk.1.2.1, hk.1.2.2⟩⟩)))⟩; have n6_ : Aside0 (Kd.R k51 51 w53 w.heap.size (fun k_ => (w.heap.size ≤ k_) ∧ k_ ≠ gb228) u217003 x217003_2) := ⟨(by rw [hw]; exact (by (with_reducible repeat (first | apply Kd.R_alloc | apply Kd.R_drewN | apply Kd.R_drew)); exact Kd.R_mono (Kd.R_far (p := ⟨gb228, 2, none⟩) (Kd.R_far (p := ⟨gb228, 1, none⟩) (Kd.R_far (p := ⟨gb228, 0, none⟩) (Kd.R_mono HO_217003.out (fun k_ hk => (⟨hk, hk.2⟩ : _ ∧ k_ ≠ gb228))) (fun _ hk => hk.2) (.bool ((qaj ((qab t200 x8_1).f3) x10_2).f0))) (fun _ hk => hk.2) (.int .i64 ((qaj ((qab t200 x8_1).f3) x10_2).f1))) (fun _ hk => hk.2) (.int .i64 ((qaj ((qab t200 x8_1).f3) x10_2).f2))) (fun _ hk => ⟨hk.1.1, hk.1.2⟩)))⟩; have n7_ : Aside0 (Kd.V k51 51 w53 w.heap.size (fun k_ => (P0_ k_ ∨ w.heap.size ≤ k_) ∧ some k_ ≠ (u3 : Value).ownBlock ∧ some k_ ≠ (.slice (some ad212) t200.length co17 : Value).ownBlock ∧ some k_ ≠ (v219 : Value).ownBlock ∧ some k_ ≠ (u6 : Value).ownBlock ∧ some k_ ≠ (u7 : Value).ownBlock ∧ some k_ ≠ (u217003 : Value).ownBlock ∧ k_ ≠ gb216 ∧ k_ ≠ gb228) (.slice (some ad227) ((qab t200 x8_1).f3).length c222_3) ((qab t200 x8_1).f3)) := ⟨(by rw [hw]; exact (by (with_reducible repeat (first | apply Kd.V_alloc | apply Kd.V_drewN | apply Kd.V_drew)); exact Kd.V_mono (Kd.V_far (p := ⟨gb228, 2, none⟩) (Kd.V_far (p := ⟨gb228, 1, none⟩) (Kd.V_far (p := ⟨gb228, 0, none⟩) (Kd.V_mono HL222_3.out (fun k_ hk => (⟨hk, hk.2⟩ : _ ∧ k_ ≠ gb228))) (fun _ hk => hk.2) (.bool ((qaj ((qab t200 x8_1).f3) x10_2).f0))) (fun _ hk => hk.2) (.int .i64 ((qaj ((qab t200 x8_1).f3) x10_2).f1))) (fun _ hk => hk.2) (.int .i64 ((qaj ((qab t200 x8_1).f3) x10_2).f2))) (fun _ hk => ⟨hk.1.1.1.1, ⟨hk.1.1.1.2.1, ⟨hk.1.1.2, ⟨hk.1.1.1.2.2.1, ⟨hk.1.1.1.2.2.2.1, ⟨hk.1.1.1.2.2.2.2.1, ⟨hk.1.1.1.2.2.2.2.2.1, ⟨hk.1.1.1.2.2.2.2.2.2, hk.1.2⟩⟩⟩⟩⟩⟩⟩⟩)))⟩; have n8_ : Aside0 (Kd.V k51 51 w53 w.heap.size (fun k_ => (P0_ k_ ∨ w.heap.size ≤ k_) ∧ some k_ ≠ (u3 : Value).ownBlock ∧ some k_ ≠ (.slice (some ad212) t200.length co17 : Value).ownBlock ∧ some k_ ≠ (v219 : Value).ownBlock ∧ some k_ ≠ (u6 : Value).ownBlock ∧ some k_ ≠ (u7 : Value).ownBlock ∧ some k_ ≠ (u217003 : Value).ownBlock ∧ k_ ≠ gb216 ∧ k_ ≠ gb228) (.slice (some ad227) ((qab t200 x8_1).f3).length c222_3) ((qab t200 x8_1).f3)) := ⟨(by rw [hw]; exact (by (with_reducible repeat (first | apply Kd.V_alloc | apply Kd.V_drewN | apply Kd.V_drew)); exact Kd.V_mono (Kd.V_far (p := ⟨gb228, 2, none⟩) (Kd.V_far (p := ⟨gb228, 1, none⟩) (Kd.V_far (p := ⟨gb228, 0, none⟩) (Kd.V_mono HL226_3.out (fun k_ hk => (⟨hk, hk.2⟩ : _ ∧ k_ ≠ gb228))) (fun _ hk => hk.2) (.bool ((qaj ((qab t200 x8_1).f3) x10_2).f0))) (fun _ hk => hk.2) (.int .i64 ((qaj ((qab t200 x8_1).f3) x10_2).f1))) (fun _ hk => hk.2) (.int .i64 ((qaj ((qab t200 x8_1).f3) x10_2).f2))) (fun _ hk => ⟨hk.1.1.1.1, ⟨hk.1.1.1.2.1, ⟨hk.1.1.2, ⟨hk.1.1.1.2.2.1, ⟨hk.1.1.1.2.2.2.1, ⟨hk.1.1.1.2.2.2.2.1, ⟨hk.1.1.1.2.2.2.2.2.1, ⟨hk.1.1.1.2.2.2.2.2.2, hk.1.2⟩⟩⟩⟩⟩⟩⟩⟩)))⟩; have n9_ : Aside0 (w53.heap[gb216]? = some (.cells #[.int .i64 t221, .int .i64 t213, .int .i64 t215, u217003] 55 (0, 0))) := ⟨(by rw [hw]; exact (by (with_reducible repeat (first | refine qaf ?_ _ | refine qai ?_ | refine qag ?_ _)); refine qa0 ?_ NB216_228.out _; (with_reducible repeat (first | refine qaf ?_ _ | refine qai ?_ | refine qag ?_ _)); refine qa0 ?_ NB216_228.out _; (with_reducible repeat (first | refine qaf ?_ _ | refine qai ?_ | refine qag ?_ _)); refine qa0 ?_ NB216_228.out _; (with_reducible repeat (first | refine qaf ?_ _ | refine qai ?_ | refine qag ?_ _)); exact BK216.out))⟩; have n10_ : Aside0 (w53.heap[gb228]? = some (.cells #[.bool ((qaj ((qab t200 x8_1).f3) x10_2).f0), .int .i64 ((qaj ((qab t200 x8_1).f3) x10_2).f1), .int .i64 ((qaj ((qab t200 x8_1).f3) x10_2).f2)] 51 (0, 0))) := ⟨(by rw [hw]; exact (by (with_reducible repeat (first | refine qaf ?_ _ | refine qai ?_ | refine qag ?_ _)); refine qaq (cs := #[.bool ((qaj ((qab t200 x8_1).f3) x10_2).f0), .int .i64 ((qaj ((qab t200 x8_1).f3) x10_2).f1), .int .i64 0]) ?_ 2 _ rfl; (with_reducible repeat (first | refine qaf ?_ _ | refine qai ?_ | refine qag ?_ _)); refine qaq (cs := #[.bool ((qaj ((qab t200 x8_1).f3) x10_2).f0), .int .i64 0, .int .i64 0]) ?_ 1 _ rfl; (with_reducible repeat (first | refine qaf ?_ _ | refine qai ?_ | refine qag ?_ _)); refine qaq (cs := #[.bool false, .int .i64 0, .int .i64 0]) ?_ 0 _ rfl; (with_reducible repeat (first | refine qaf ?_ _ | refine qai ?_ | refine qag ?_ _)); exact BK228.out))⟩; have n11_ : Aside0 (Below w.heap.size w w53) := ⟨(by rw [hw]; exact (by repeat (first | (with_reducible first | exact HB.out | apply qac | apply qaa | apply qad | refine qak ?_ GE216.out | refine qak ?_ GE228.out) | exact HB.out)))⟩; clear hw; clear HO_0; clear HO_3; clear HO_4; clear HO_5; clear HO_6; clear HO_7; clear HO_217003; clear HL222_3; clear HL226_3; clear BK216; clear BK228; clear HB; have HO_0 := n0_; have HO_3 := n1_; have HO_4 := n2_; have HO_5 := n3_; have HO_6 := n4_; have HO_7 := n5_; have HO_217003 := n6_; have HL222_3 := n7_; have HL226_3 := n8_; have BK216 := n9_; have BK228 := n10_; have HB := n11_; clear n0_ n1_ n2_ n3_ n4_ n5_ n6_ n7_ n8_ n9_ n10_ n11_; have hcz54_0 : w53.cell? ⟨gb228, 0, none⟩ = some (.bool ((qaj ((qab t200 x8_1).f3) x10_2).f0)) := (qah BK228.out 0).trans rfl; have hcz54_1 : w53.cell? ⟨gb228, 1, none⟩ = some (.int .i64 ((qaj ((qab t200 x8_1).f3) x10_2).f1)) := (qah BK228.out 1).trans rfl; have hcz54_2 : w53.cell? ⟨gb228, 2, none⟩ = some (.int .i64 ((qaj ((qab t200 x8_1).f3) x10_2).f2)) := (qah BK228.out 2).trans rfl; have hfz54_0 := qae BK228.out 0; have hfz54_1 := qae BK228.out 1; have hfz54_2 := qae BK228.out 2; obtain ⟨Ao55, co55, eo55⟩ := Kd.R_slice HO_6.out; subst eo55) | ((with_reducible refine qbd (f := 45) rfl ?_); refine qce (some 72) rfl rfl Try.func45 (by kernel_rfl) rfl #[.slice Ao55 x6_2.length co55, .int .i64 ((qaj ((qab t200 x8_1).f3) x10_2).f1)] rfl (by (try simp only [List.map_toArray, List.map_cons, List.map_nil]); first | done | rfl | (simp only [List.length_drop, List.length_take]; rfl)) ?_; (with_reducible refine (burgageref22_name.calls k2 (fun k_ => some k_ = (.slice Ao55 x6_2.length co55 : Value).ownBlock) (.slice Ao55 x6_2.length co55) x6_2 ((qaj ((qab t200 x8_1).f3) x10_2).f1) t229 t232 w _ ?side1 ?side2 A33.out).mono ?_); (case side1 => repeat (first | (with_reducible first | exact HB.out | apply qac | apply qaa | apply qad | refine qak ?_ GE216.out | refine qak ?_ GE228.out) | exact HB.out)); (case side2 => exact Kd.R_tight rfl HO_6.out); rintro e w56 ⟨v230, rfl, ho0, hb, hkp⟩; refine ⟨_, rfl, ?_⟩; have n0_ := Aside0.mk (Kd.V_mono (ok' := fun k_ => (P0_ k_ ∨ w.heap.size ≤ k_) ∧ some k_ ≠ (u3 : Value).ownBlock ∧ some k_ ≠ (.slice (some ad212) t200.length co17 : Value).ownBlock ∧ some k_ ≠ (v219 : Value).ownBlock ∧ some k_ ≠ (u7 : Value).ownBlock ∧ some k_ ≠ (u217003 : Value).ownBlock ∧ k_ ≠ gb216 ∧ k_ ≠ gb228 ∧ some k_ ≠ (v230 : Value).ownBlock) (Kd.V_keptB (HO_0.out) hkp (fun k_ hk_ hs_ => (hk_.2.2.2.2.1) hs_)) (fun k_ hk_ => ⟨hk_.1.1, hk_.1.2.1, hk_.1.2.2.1, hk_.1.2.2.2.1, hk_.1.2.2.2.2.2.1, hk_.1.2.2.2.2.2.2.1, hk_.1.2.2.2.2.2.2.2.1, hk_.1.2.2.2.2.2.2.2.2, fun e_ => Or.elim (ho0.1 k_ e_.symm) (fun hs_ => hk_.2.1 hs_) (fun hn_ => Nat.not_le.2 hk_.2.2 hn_)⟩)); have n1_ := Aside0.mk (Kd.N_mono (ok' := fun k_ => (P0_ k_ ∨ w.heap.size ≤ k_) ∧ some k_ ≠ (.slice (some ad212) t200.length co17 : Value).ownBlock ∧ some k_ ≠ (v219 : Value).ownBlock ∧ some k_ ≠ (u7 : Value).ownBlock ∧ some k_ ≠ (u217003 : Value).ownBlock ∧ k_ ≠ gb216 ∧ k_ ≠ gb228 ∧ some k_ ≠ (v230 : Value).ownBlock) (Kd.N_keptB (HO_3.out) hkp (fun k_ hk_ hs_ => (hk_.2.2.2.1) hs_)) (fun k_ hk_ => ⟨hk_.1.1, hk_.1.2.1, hk_.1.2.2.1, hk_.1.2.2.2.2.1, hk_.1.2.2.2.2.2.1, hk_.1.2.2.2.2.2.2.1, hk_.1.2.2.2.2.2.2.2, fun e_ => Or.elim (ho0.1 k_ e_.symm) (fun hs_ => hk_.2.1 hs_) (fun hn_ => Nat.not_le.2 hk_.2.2 hn_)⟩)); have n2_ := Aside0.mk (Kd.N_mono (ok' := fun k_ => (P0_ k_ ∨ w.heap.size ≤ k_) ∧ some k_ ≠ (u3 : Value).ownBlock ∧ some k_ ≠ (v219 : Value).ownBlock ∧ some k_ ≠ (u7 : Value).ownBlock ∧ some k_ ≠ (u217003 : Value).ownBlock ∧ k_ ≠ gb216 ∧ k_ ≠ gb228 ∧ some k_ ≠ (v230 : Value).ownBlock) (Kd.N_keptB (HO_4.out) hkp (fun k_ hk_ hs_ => (hk_.2.2.2.1) hs_)) (fun k_ hk_ => ⟨hk_.1.1, hk_.1.2.1, hk_.1.2.2.1, hk_.1.2.2.2.2.1, hk_.1.2.2.2.2.2.1, hk_.1.2.2.2.2.2.2.1, hk_.1.2.2.2.2.2.2.2, fun e_ => Or.elim (ho0.1 k_ e_.symm) (fun hs_ => hk_.2.1 hs_) (fun hn_ => Nat.not_le.2 hk_.2.2 hn_)⟩)); have n3_ := Aside0.mk (Kd.R_mono (ok' := fun k_ => (w.heap.size ≤ k_) ∧ some k_ ≠ (u7 : Value).ownBlock ∧ some k_ ≠ (v230 : Value).ownBlock) (Kd.R_keptB (HO_5.out) hkp (fun k_ hk_ hs_ => (hk_.2.1) hs_)) (fun k_ hk_ => ⟨hk_.1.1, hk_.1.2.2, fun e_ => Or.elim (ho0.1 k_ e_.symm) (fun hs_ => hk_.2.1 hs_) (fun hn_ => Nat.not_le.2 hk_.2.2 hn_)⟩)); have n4_ := Aside0.mk (Kd.R_mono (ok' := fun k_ => (w.heap.size ≤ k_) ∧ some k_ ≠ (v219 : Value).ownBlock ∧ some k_ ≠ (v230 : Value).ownBlock) (Kd.R_keptB (HO_7.out) hkp (fun k_ hk_ hs_ => (hk_.2.2) hs_)) (fun k_ hk_ => ⟨hk_.1.1, hk_.1.2.1, fun e_ => Or.elim (ho0.1 k_ e_.symm) (fun hs_ => hk_.2.1 hs_) (fun hn_ => Nat.not_le.2 hk_.2.2 hn_)⟩)); have n5_ := Aside0.mk (Kd.R_mono (ok' := fun k_ => (w.heap.size ≤ k_) ∧ k_ ≠ gb228) (Kd.R_keptB ((Kd.R_apart' HO_217003.out (Kd.R_typed HO_6.out) (by decide))) hkp (fun k_ hk_ hs_ => (hk_.2) hs_)) (fun k_ hk_ => ⟨hk_.1.1.1, hk_.1.1.2⟩)); have n6_ := Aside0.mk (blk_kept (by (with_reducible repeat (first | refine qaf ?_ _ | refine qai ?_ | refine qag ?_ _)); exact BK216.out) hkp (fun hs_ => (fun e_ => (Kd.R_ne HO_6.out BK216.out (by decide)) e_) hs_)); have n7_ := Aside0.mk (blk_kept (by (with_reducible repeat (first | refine qaf ?_ _ | refine qai ?_ | refine qag ?_ _)); exact BK228.out) hkp (fun hs_ => (fun e_ => (Kd.R_ne HO_6.out BK228.out (by decide)) e_) hs_)); have n8_ := Aside0.mk (Kd.R_mono (ok' := fun k_ => (w.heap.size ≤ k_) ∧ some k_ ≠ (v219 : Value).ownBlock ∧ some k_ ≠ (u7 : Value).ownBlock) ho0 (fun k_ hk_ => ⟨Or.elim hk_ (fun hs_ => (HO_6.out.1 k_ (hs_).symm).1) (fun hn_ => (Nat.le_trans (qal (by repeat (first | (with_reducible first | exact HB.out | apply qac | apply qaa | apply qad | refine qak ?_ GE216.out | refine qak ?_ GE228.out) | exact HB.out))) hn_)), Or.elim hk_ (fun hs_ => fun e_ => (((HO_5.out).1 k_ e_.symm).2.1) hs_) (fun hn_ => (Kd.fresh' (Kd.R_lt (by (with_reducible repeat (first | apply Kd.R_alloc | apply Kd.R_drewN | apply Kd.R_drew)); exact HO_5.out)) k_ hn_)), Or.elim hk_ (fun hs_ => fun e_ => (((HO_7.out).1 k_ e_.symm).2.2) hs_) (fun hn_ => (Kd.fresh' (Kd.R_lt (by (with_reducible repeat (first | apply Kd.R_alloc | apply Kd.R_drewN | apply Kd.R_drew)); exact HO_7.out)) k_ hn_))⟩)); have n9_ := Aside0.mk (hb); clear HO_0; clear HO_3; clear HO_4; clear HO_5; clear HO_7; clear HO_217003; clear BK216; clear BK228; clear HB; clear HO_6; clear HL222_3; clear HL226_3; have HO_0 := n0_; have HO_3 := n1_; have HO_4 := n2_; have HO_5 := n3_; have HO_7 := n4_; have HO_217003 := n5_; have BK216 := n6_; have BK228 := n7_; have HO231 := n8_; have HB := n9_; clear n0_ n1_ n2_ n3_ n4_ n5_ n6_ n7_ n8_ n9_; (try clear hb); (try clear hkp); (try clear ho0); have hcz57_0 : w56.cell? ⟨gb228, 0, none⟩ = some (.bool ((qaj ((qab t200 x8_1).f3) x10_2).f0)) := (qah BK228.out 0).trans rfl; have hcz57_1 : w56.cell? ⟨gb228, 1, none⟩ = some (.int .i64 ((qaj ((qab t200 x8_1).f3) x10_2).f1)) := (qah BK228.out 1).trans rfl; have hcz57_2 : w56.cell? ⟨gb228, 2, none⟩ = some (.int .i64 ((qaj ((qab t200 x8_1).f3) x10_2).f2)) := (qah BK228.out 2).trans rfl; have hfz57_0 := qae BK228.out 0; have hfz57_1 := qae BK228.out 1; have hfz57_2 := qae BK228.out 2) | ((with_reducible refine gate_store (t := 3) (p := 75) rfl ?_); refine store_event (t := 3) (p := 75) (v := ?vo_w58) (w1 := (w56.setCell ⟨gb228, 1, none⟩ (.int .i64 t232))) ?hg ?ho ?hn ?hr ?_; (case ho => rfl); (case hg => rfl); (case hn => rfl); (case hr => first | (go_simp; done) | (go_simp; rfl)); intro w58 hw; have n0_ : Aside0 (Kd.V k55 55 w58 w.heap.size (fun k_ => (P0_ k_ ∨ w.heap.size ≤ k_) ∧ some k_ ≠ (u3 : Value).ownBlock ∧ some k_ ≠ (.slice (some ad212) t200.length co17 : Value).ownBlock ∧ some k_ ≠ (v219 : Value).ownBlock ∧ some k_ ≠ (u7 : Value).ownBlock ∧ some k_ ≠ (u217003 : Value).ownBlock ∧ some k_ ≠ (v230 : Value).ownBlock ∧ k_ ≠ gb216 ∧ k_ ≠ gb228) (.slice A0 l0.length c0) l0) := ⟨(by rw [hw]; exact (by (with_reducible repeat (first | apply Kd.V_alloc | apply Kd.V_drewN | apply Kd.V_drew)); exact Kd.V_mono (Kd.V_far (p := ⟨gb228, 1, none⟩) (Kd.V_mono HO_0.out (fun k_ hk => (⟨hk, hk.2.2.2.2.2.2.2.1⟩ : _ ∧ k_ ≠ gb228))) (fun _ hk => hk.2) (.int .i64 t232)) (fun _ hk => ⟨hk.1.1, ⟨hk.1.2.1, ⟨hk.1.2.2.1, ⟨hk.1.2.2.2.1, ⟨hk.1.2.2.2.2.1, ⟨hk.1.2.2.2.2.2.1, ⟨hk.1.2.2.2.2.2.2.2.2, ⟨hk.1.2.2.2.2.2.2.1, hk.1.2.2.2.2.2.2.2.1⟩⟩⟩⟩⟩⟩⟩⟩)))⟩; have n1_ : Aside0 (Kd.N k55 55 w58 w.heap.size (fun k_ => (P0_ k_ ∨ w.heap.size ≤ k_) ∧ some k_ ≠ (.slice (some ad212) t200.length co17 : Value).ownBlock ∧ some k_ ≠ (v219 : Value).ownBlock ∧ some k_ ≠ (u7 : Value).ownBlock ∧ some k_ ≠ (u217003 : Value).ownBlock ∧ some k_ ≠ (v230 : Value).ownBlock ∧ k_ ≠ gb216 ∧ k_ ≠ gb228) u3 x3_1) := ⟨(by rw [hw]; exact (by (with_reducible repeat (first | apply Kd.N_alloc | apply Kd.N_drewN | apply Kd.N_drew)); exact Kd.N_mono (Kd.N_far (p := ⟨gb228, 1, none⟩) (Kd.N_mono HO_3.out (fun k_ hk => (⟨hk, hk.2.2.2.2.2.2.1⟩ : _ ∧ k_ ≠ gb228))) (fun _ hk => hk.2) (.int .i64 t232)) (fun _ hk => ⟨hk.1.1, ⟨hk.1.2.1, ⟨hk.1.2.2.1, ⟨hk.1.2.2.2.1, ⟨hk.1.2.2.2.2.1, ⟨hk.1.2.2.2.2.2.2.2, ⟨hk.1.2.2.2.2.2.1, hk.1.2.2.2.2.2.2.1⟩⟩⟩⟩⟩⟩⟩)))⟩; have n2_ : Aside0 (Kd.N k55 55 w58 w.heap.size (fun k_ => (P0_ k_ ∨ w.heap.size ≤ k_) ∧ some k_ ≠ (u3 : Value).ownBlock ∧ some k_ ≠ (v219 : Value).ownBlock ∧ some k_ ≠ (u7 : Value).ownBlock ∧ some k_ ≠ (u217003 : Value).ownBlock ∧ some k_ ≠ (v230 : Value).ownBlock ∧ k_ ≠ gb216 ∧ k_ ≠ gb228) (.slice (some ad212) t200.length co17) t200) := ⟨(by rw [hw]; exact (by (with_reducible repeat (first | apply Kd.N_alloc | apply Kd.N_drewN | apply Kd.N_drew)); exact Kd.N_mono (Kd.N_far (p := ⟨gb228, 1, none⟩) (Kd.N_mono HO_4.out (fun k_ hk => (⟨hk, hk.2.2.2.2.2.2.1⟩ : _ ∧ k_ ≠ gb228))) (fun _ hk => hk.2) (.int .i64 t232)) (fun _ hk => ⟨hk.1.1, ⟨hk.1.2.1, ⟨hk.1.2.2.1, ⟨hk.1.2.2.2.1, ⟨hk.1.2.2.2.2.1, ⟨hk.1.2.2.2.2.2.2.2, ⟨hk.1.2.2.2.2.2.1, hk.1.2.2.2.2.2.2.1⟩⟩⟩⟩⟩⟩⟩)))⟩; have n3_ : Aside0 (Kd.R (Kd.int .i64) 3 w58 w.heap.size (fun k_ => (w.heap.size ≤ k_) ∧ some k_ ≠ (u7 : Value).ownBlock ∧ some k_ ≠ (v230 : Value).ownBlock) v219 t218) := ⟨(by rw [hw]; exact (by (with_reducible repeat (first | apply Kd.R_alloc | apply Kd.R_drewN | apply Kd.R_drew)); exact Kd.R_mono (Kd.R_far (p := ⟨gb228, 1, none⟩) (Kd.R_types HO_5.out BK228.out (by decide)) (fun _ hk => hk.2) (.int .i64 t232)) (fun _ hk => ⟨hk.1.1, ⟨hk.1.2.1, hk.1.2.2⟩⟩)))⟩; have n4_ : Aside0 (Kd.R (Kd.int .i64) 3 w58 w.heap.size (fun k_ => (w.heap.size ≤ k_) ∧ some k_ ≠ (v219 : Value).ownBlock ∧ some k_ ≠ (v230 : Value).ownBlock) u7 x7_2) := ⟨(by rw [hw]; exact (by (with_reducible repeat (first | apply Kd.R_alloc | apply Kd.R_drewN | apply Kd.R_drew)); exact Kd.R_mono (Kd.R_far (p := ⟨gb228, 1, none⟩) (Kd.R_types HO_7.out BK228.out (by decide)) (fun _ hk => hk.2) (.int .i64 t232)) (fun _ hk => ⟨hk.1.1, ⟨hk.1.2.1, hk.1.2.2⟩⟩)))⟩; have n5_ : Aside0 (Kd.R k51 51 w58 w.heap.size (fun k_ => (w.heap.size ≤ k_) ∧ k_ ≠ gb228) u217003 x217003_2) := ⟨(by rw [hw]; exact (by (with_reducible repeat (first | apply Kd.R_alloc | apply Kd.R_drewN | apply Kd.R_drew)); exact Kd.R_mono (Kd.R_far (p := ⟨gb228, 1, none⟩) (Kd.R_mono HO_217003.out (fun k_ hk => (⟨hk, hk.2⟩ : _ ∧ k_ ≠ gb228))) (fun _ hk => hk.2) (.int .i64 t232)) (fun _ hk => ⟨hk.1.1, hk.1.2⟩)))⟩; have n6_ : Aside0 (Kd.R (Kd.int .i64) 3 w58 w.heap.size (fun k_ => (w.heap.size ≤ k_) ∧ some k_ ≠ (v219 : Value).ownBlock ∧ some k_ ≠ (u7 : Value).ownBlock) v230 t229) := ⟨(by rw [hw]; exact (by (with_reducible repeat (first | apply Kd.R_alloc | apply Kd.R_drewN | apply Kd.R_drew)); exact Kd.R_mono (Kd.R_far (p := ⟨gb228, 1, none⟩) (Kd.R_types HO231.out BK228.out (by decide)) (fun _ hk => hk.2) (.int .i64 t232)) (fun _ hk => ⟨hk.1.1, ⟨hk.1.2.1, hk.1.2.2⟩⟩)))⟩; have n7_ : Aside0 (w58.heap[gb216]? = some (.cells #[.int .i64 t221, .int .i64 t213, .int .i64 t215, u217003] 55 (0, 0))) := ⟨(by rw [hw]; exact (by (with_reducible repeat (first | refine qaf ?_ _ | refine qai ?_ | refine qag ?_ _)); refine qa0 ?_ NB216_228.out _; (with_reducible repeat (first | refine qaf ?_ _ | refine qai ?_ | refine qag ?_ _)); exact BK216.out))⟩; have n8_ : Aside0 (w58.heap[gb228]? = some (.cells #[.bool ((qaj ((qab t200 x8_1).f3) x10_2).f0), .int .i64 t232, .int .i64 ((qaj ((qab t200 x8_1).f3) x10_2).f2)] 51 (0, 0))) := ⟨(by rw [hw]; exact (by (with_reducible repeat (first | refine qaf ?_ _ | refine qai ?_ | refine qag ?_ _)); refine qaq (cs := #[.bool ((qaj ((qab t200 x8_1).f3) x10_2).f0), .int .i64 ((qaj ((qab t200 x8_1).f3) x10_2).f1), .int .i64 ((qaj ((qab t200 x8_1).f3) x10_2).f2)]) ?_ 1 _ rfl; (with_reducible repeat (first | refine qaf ?_ _ | refine qai ?_ | refine qag ?_ _)); exact BK228.out))⟩; have n9_ : Aside0 (Below w.heap.size w w58) := ⟨(by rw [hw]; exact (by repeat (first | (with_reducible first | exact HB.out | apply qac | apply qaa | apply qad | refine qak ?_ GE216.out | refine qak ?_ GE228.out) | exact HB.out)))⟩; clear hw; clear HO_0; clear HO_3; clear HO_4; clear HO_5; clear HO_7; clear HO_217003; clear HO231; clear BK216; clear BK228; clear HB; have HO_0 := n0_; have HO_3 := n1_; have HO_4 := n2_; have HO_5 := n3_; have HO_7 := n4_; have HO_217003 := n5_; have HO231 := n6_; have BK216 := n7_; have BK228 := n8_; have HB := n9_; clear n0_ n1_ n2_ n3_ n4_ n5_ n6_ n7_ n8_ n9_; have hcz59_0 : w58.cell? ⟨gb228, 0, none⟩ = some (.bool ((qaj ((qab t200 x8_1).f3) x10_2).f0)) := (qah BK228.out 0).trans rfl; have hcz59_1 : w58.cell? ⟨gb228, 1, none⟩ = some (.int .i64 t232) := (qah BK228.out 1).trans rfl; have hcz59_2 : w58.cell? ⟨gb228, 2, none⟩ = some (.int .i64 ((qaj ((qab t200 x8_1).f3) x10_2).f2)) := (qah BK228.out 2).trans rfl; have hfz59_0 := qae BK228.out 0; have hfz59_1 := qae BK228.out 1; have hfz59_2 := qae BK228.out 2; obtain ⟨Ao60, co60, eo60⟩ := Kd.R_slice HO_7.out; subst eo60) | ((with_reducible refine qbd (f := 45) rfl ?_); refine qce (some 83) rfl rfl Try.func45 (by kernel_rfl) rfl #[.slice Ao60 x7_2.length co60, .int .i64 ((qaj ((qab t200 x8_1).f3) x10_2).f2)] rfl (by (try simp only [List.map_toArray, List.map_cons, List.map_nil]); first | done | rfl | (simp only [List.length_drop, List.length_take]; rfl)) ?_; (with_reducible refine (burgageref22_name.calls k2 (fun k_ => some k_ = (.slice Ao60 x7_2.length co60 : Value).ownBlock) (.slice Ao60 x7_2.length co60) x7_2 ((qaj ((qab t200 x8_1).f3) x10_2).f2) t236 t239 w _ ?side1 ?side2 A48.out).mono ?_); (case side1 => repeat (first | (with_reducible first | exact HB.out | apply qac | apply qaa | apply qad | refine qak ?_ GE216.out | refine qak ?_ GE228.out) | exact HB.out)); (case side2 => exact Kd.R_tight rfl HO_7.out); rintro e w61 ⟨v237, rfl, ho0, hb, hkp⟩; refine ⟨_, rfl, ?_⟩; have n0_ := Aside0.mk (Kd.V_mono (ok' := fun k_ => (P0_ k_ ∨ w.heap.size ≤ k_) ∧ some k_ ≠ (u3 : Value).ownBlock ∧ some k_ ≠ (.slice (some ad212) t200.length co17 : Value).ownBlock ∧ some k_ ≠ (v219 : Value).ownBlock ∧ some k_ ≠ (u217003 : Value).ownBlock ∧ some k_ ≠ (v230 : Value).ownBlock ∧ k_ ≠ gb216 ∧ k_ ≠ gb228 ∧ some k_ ≠ (v237 : Value).ownBlock) (Kd.V_keptB (HO_0.out) hkp (fun k_ hk_ hs_ => (hk_.2.2.2.2.1) hs_)) (fun k_ hk_ => ⟨hk_.1.1, hk_.1.2.1, hk_.1.2.2.1, hk_.1.2.2.2.1, hk_.1.2.2.2.2.2.1, hk_.1.2.2.2.2.2.2.1, hk_.1.2.2.2.2.2.2.2.1, hk_.1.2.2.2.2.2.2.2.2, fun e_ => Or.elim (ho0.1 k_ e_.symm) (fun hs_ => hk_.2.1 hs_) (fun hn_ => Nat.not_le.2 hk_.2.2 hn_)⟩)); have n1_ := Aside0.mk (Kd.N_mono (ok' := fun k_ => (P0_ k_ ∨ w.heap.size ≤ k_) ∧ some k_ ≠ (.slice (some ad212) t200.length co17 : Value).ownBlock ∧ some k_ ≠ (v219 : Value).ownBlock ∧ some k_ ≠ (u217003 : Value).ownBlock ∧ some k_ ≠ (v230 : Value).ownBlock ∧ k_ ≠ gb216 ∧ k_ ≠ gb228 ∧ some k_ ≠ (v237 : Value).ownBlock) (Kd.N_keptB (HO_3.out) hkp (fun k_ hk_ hs_ => (hk_.2.2.2.1) hs_)) (fun k_ hk_ => ⟨hk_.1.1, hk_.1.2.1, hk_.1.2.2.1, hk_.1.2.2.2.2.1, hk_.1.2.2.2.2.2.1, hk_.1.2.2.2.2.2.2.1, hk_.1.2.2.2.2.2.2.2, fun e_ => Or.elim (ho0.1 k_ e_.symm) (fun hs_ => hk_.2.1 hs_) (fun hn_ => Nat.not_le.2 hk_.2.2 hn_)⟩)); have n2_ := Aside0.mk (Kd.N_mono (ok' := fun k_ => (P0_ k_ ∨ w.heap.size ≤ k_) ∧ some k_ ≠ (u3 : Value).ownBlock ∧ some k_ ≠ (v219 : Value).ownBlock ∧ some k_ ≠ (u217003 : Value).ownBlock ∧ some k_ ≠ (v230 : Value).ownBlock ∧ k_ ≠ gb216 ∧ k_ ≠ gb228 ∧ some k_ ≠ (v237 : Value).ownBlock) (Kd.N_keptB (HO_4.out) hkp (fun k_ hk_ hs_ => (hk_.2.2.2.1) hs_)) (fun k_ hk_ => ⟨hk_.1.1, hk_.1.2.1, hk_.1.2.2.1, hk_.1.2.2.2.2.1, hk_.1.2.2.2.2.2.1, hk_.1.2.2.2.2.2.2.1, hk_.1.2.2.2.2.2.2.2, fun e_ => Or.elim (ho0.1 k_ e_.symm) (fun hs_ => hk_.2.1 hs_) (fun hn_ => Nat.not_le.2 hk_.2.2 hn_)⟩)); have n3_ := Aside0.mk (Kd.R_mono (ok' := fun k_ => (w.heap.size ≤ k_) ∧ some k_ ≠ (v230 : Value).ownBlock ∧ some k_ ≠ (v237 : Value).ownBlock) (Kd.R_keptB (HO_5.out) hkp (fun k_ hk_ hs_ => (hk_.2.1) hs_)) (fun k_ hk_ => ⟨hk_.1.1, hk_.1.2.2, fun e_ => Or.elim (ho0.1 k_ e_.symm) (fun hs_ => hk_.2.1 hs_) (fun hn_ => Nat.not_le.2 hk_.2.2 hn_)⟩)); have n4_ := Aside0.mk (Kd.R_mono (ok' := fun k_ => (w.heap.size ≤ k_) ∧ k_ ≠ gb228) (Kd.R_keptB ((Kd.R_apart' HO_217003.out (Kd.R_typed HO_7.out) (by decide))) hkp (fun k_ hk_ hs_ => (hk_.2) hs_)) (fun k_ hk_ => ⟨hk_.1.1.1, hk_.1.1.2⟩)); have n5_ := Aside0.mk (blk_kept (by (with_reducible repeat (first | refine qaf ?_ _ | refine qai ?_ | refine qag ?_ _)); exact BK216.out) hkp (fun hs_ => (fun e_ => (Kd.R_ne HO_7.out BK216.out (by decide)) e_) hs_)); have n6_ := Aside0.mk (blk_kept (by (with_reducible repeat (first | refine qaf ?_ _ | refine qai ?_ | refine qag ?_ _)); exact BK228.out) hkp (fun hs_ => (fun e_ => (Kd.R_ne HO_7.out BK228.out (by decide)) e_) hs_)); have n7_ := Aside0.mk (Kd.R_mono (ok' := fun k_ => (w.heap.size ≤ k_) ∧ some k_ ≠ (v219 : Value).ownBlock ∧ some k_ ≠ (v237 : Value).ownBlock) (Kd.R_keptB (HO231.out) hkp (fun k_ hk_ hs_ => (hk_.2.2) hs_)) (fun k_ hk_ => ⟨hk_.1.1, hk_.1.2.1, fun e_ => Or.elim (ho0.1 k_ e_.symm) (fun hs_ => hk_.2.1 hs_) (fun hn_ => Nat.not_le.2 hk_.2.2 hn_)⟩)); have n8_ := Aside0.mk (Kd.R_mono (ok' := fun k_ => (w.heap.size ≤ k_) ∧ some k_ ≠ (v219 : Value).ownBlock ∧ some k_ ≠ (v230 : Value).ownBlock) ho0 (fun k_ hk_ => ⟨Or.elim hk_ (fun hs_ => (HO_7.out.1 k_ (hs_).symm).1) (fun hn_ => (Nat.le_trans (qal (by repeat (first | (with_reducible first | exact HB.out | apply qac | apply qaa | apply qad | refine qak ?_ GE216.out | refine qak ?_ GE228.out) | exact HB.out))) hn_)), Or.elim hk_ (fun hs_ => fun e_ => (((HO_5.out).1 k_ e_.symm).2.1) hs_) (fun hn_ => (Kd.fresh' (Kd.R_lt (by (with_reducible repeat (first | apply Kd.R_alloc | apply Kd.R_drewN | apply Kd.R_drew)); exact HO_5.out)) k_ hn_)), Or.elim hk_ (fun hs_ => fun e_ => (((HO231.out).1 k_ e_.symm).2.2) hs_) (fun hn_ => (Kd.fresh' (Kd.R_lt (by (with_reducible repeat (first | apply Kd.R_alloc | apply Kd.R_drewN | apply Kd.R_drew)); exact HO231.out)) k_ hn_))⟩)); have n9_ := Aside0.mk (hb); clear HO_0; clear HO_3; clear HO_4; clear HO_5; clear HO_217003; clear BK216; clear BK228; clear HO231; clear HB; clear HO_7; have HO_0 := n0_; have HO_3 := n1_; have HO_4 := n2_; have HO_5 := n3_; have HO_217003 := n4_; have BK216 := n5_; have BK228 := n6_; have HO231 := n7_; have HO238 := n8_; have HB := n9_; clear n0_ n1_ n2_ n3_ n4_ n5_ n6_ n7_ n8_ n9_; (try clear hb); (try clear hkp); (try clear ho0); have hcz62_0 : w61.cell? ⟨gb228, 0, none⟩ = some (.bool ((qaj ((qab t200 x8_1).f3) x10_2).f0)) := (qah BK228.out 0).trans rfl; have hcz62_1 : w61.cell? ⟨gb228, 1, none⟩ = some (.int .i64 t232) := (qah BK228.out 1).trans rfl; have hcz62_2 : w61.cell? ⟨gb228, 2, none⟩ = some (.int .i64 ((qaj ((qab t200 x8_1).f3) x10_2).f2)) := (qah BK228.out 2).trans rfl; have hfz62_0 := qae BK228.out 0; have hfz62_1 := qae BK228.out 1; have hfz62_2 := qae BK228.out 2; have hcz63_0 : w61.cell? ⟨gb216, 0, none⟩ = some (.int .i64 t221) := (qah BK216.out 0).trans rfl; have hcz63_1 : w61.cell? ⟨gb216, 1, none⟩ = some (.int .i64 t213) := (qah BK216.out 1).trans rfl; have hcz63_2 : w61.cell? ⟨gb216, 2, none⟩ = some (.int .i64 t215) := (qah BK216.out 2).trans rfl; have hcz63_3 : w61.cell? ⟨gb216, 3, none⟩ = some (u217003) := (qah BK216.out 3).trans rfl; have hfz63_0 := qae BK216.out 0; have hfz63_1 := qae BK216.out 1; have hfz63_2 := qae BK216.out 2; have hfz63_3 := qae BK216.out 3) | ((with_reducible refine gate_builtin (b := .append) (xs := #[.tmp 92, .tmp 94]) rfl ?_); at_builtin; refine Kd.R_append k51 (w0 := w) w.heap.size rfl (.tmp 92) (.tmp 94) 53 51 (.agg #[(.bool false), (.int .i64 0), (.int .i64 0)]) 24 rfl Try.underlying53 info51 rfl (by decide) (by omega) u217003 x217003_2 (⟨(qaj ((qab t200 x8_1).f3) x10_2).f0, t232, wrap64 (t239 + 1)⟩ : S51) [.bool ((qaj ((qab t200 x8_1).f3) x10_2).f0), .int .i64 t232, .int .i64 (wrap64 (t239 + 1))] (fun k_ => (w.heap.size ≤ k_) ∧ k_ ≠ gb228) (fun _ => False) rfl (by first | (go_simp; done) | (go_simp; rfl)) ?aP (fun _ hk => hk.elim) ?aF ?aO ?aB ?aS ?aL ?_; (case aP => exact k51_mkM _ _ _ (⟨(qaj ((qab t200 x8_1).f3) x10_2).f0, t232, wrap64 (t239 + 1)⟩ : S51)); (case aB => exact (by repeat (first | (with_reducible first | exact HB.out | apply qac | apply qaa | apply qad | refine qak ?_ GE216.out | refine qak ?_ GE228.out) | exact HB.out))); (case aF => exact (fun k_ hk => ⟨(Nat.le_trans (qal (by repeat (first | (with_reducible first | exact HB.out | apply qac | apply qaa | apply qad | refine qak ?_ GE216.out | refine qak ?_ GE228.out) | exact HB.out))) hk), Kd.freshB (g := gb228) (o := .cells #[.bool ((qaj ((qab t200 x8_1).f3) x10_2).f0), .int .i64 t232, .int .i64 (wrap64 (t239 + 1))] 51 (0, 0)) (by (with_reducible repeat (first | refine qaf ?_ _ | refine qai ?_ | refine qag ?_ _)); refine qaq (cs := #[.bool ((qaj ((qab t200 x8_1).f3) x10_2).f0), .int .i64 t232, .int .i64 t239]) ?_ 2 _ rfl; (with_reducible repeat (first | refine qaf ?_ _ | refine qai ?_ | refine qag ?_ _)); refine qaq (cs := #[.bool ((qaj ((qab t200 x8_1).f3) x10_2).f0), .int .i64 t232, .int .i64 ((qaj ((qab t200 x8_1).f3) x10_2).f2)]) ?_ 2 _ rfl; (with_reducible repeat (first | refine qaf ?_ _ | refine qai ?_ | refine qag ?_ _)); exact BK228.out) k_ hk⟩)); (case aO => exact (by (with_reducible repeat (first | apply Kd.R_alloc | apply Kd.R_drewN | apply Kd.R_drew)); exact Kd.R_mono (Kd.R_far (p := ⟨gb228, 2, none⟩) (Kd.R_far (p := ⟨gb228, 2, none⟩) (Kd.R_mono HO_217003.out (fun k_ hk => (⟨hk, hk.2⟩ : _ ∧ k_ ≠ gb228))) (fun _ hk => hk.2) (.int .i64 t239)) (fun _ hk => hk.2) (.int .i64 (wrap64 (t239 + 1)))) (fun _ hk => ⟨hk.1.1, hk.1.2⟩))); (case aS => exact (qal (by repeat (first | (with_reducible first | exact HB.out | apply qac | apply qaa | apply qad | refine qak ?_ GE216.out | refine qak ?_ GE228.out) | exact HB.out)))); (case aL => have := LMc49.out; omega); intro v241 w64 ho hb hg hat; rw [← Ny240.out] at ho; have n0_ := Aside0.mk (Kd.V_afterv (ok := (fun k_ => (P0_ k_ ∨ w.heap.size ≤ k_) ∧ some k_ ≠ (u3 : Value).ownBlock ∧ some k_ ≠ (.slice (some ad212) t200.length co17 : Value).ownBlock ∧ some k_ ≠ (v219 : Value).ownBlock ∧ some k_ ≠ (v230 : Value).ownBlock ∧ some k_ ≠ (v237 : Value).ownBlock ∧ k_ ≠ gb216 ∧ k_ ≠ gb228)) (by (with_reducible repeat (first | apply Kd.V_alloc | apply Kd.V_drewN | apply Kd.V_drew)); exact Kd.V_mono (Kd.V_far (p := ⟨gb228, 2, none⟩) (Kd.V_far (p := ⟨gb228, 2, none⟩) (Kd.V_mono HO_0.out (fun k_ hk => (⟨hk, hk.2.2.2.2.2.2.2.1⟩ : _ ∧ k_ ≠ gb228))) (fun _ hk => hk.2) (.int .i64 t239)) (fun _ hk => hk.2) (.int .i64 (wrap64 (t239 + 1)))) (fun _ hk => ⟨⟨hk.1.1, ⟨hk.1.2.1, ⟨hk.1.2.2.1, ⟨hk.1.2.2.2.1, ⟨hk.1.2.2.2.2.2.1, ⟨hk.1.2.2.2.2.2.2.2.2, ⟨hk.1.2.2.2.2.2.2.1, hk.1.2.2.2.2.2.2.2.1⟩⟩⟩⟩⟩⟩⟩, hk.1.2.2.2.2.1⟩)) hg hat); have n1_ := Aside0.mk (Kd.N_afterv (ok := (fun k_ => (P0_ k_ ∨ w.heap.size ≤ k_) ∧ some k_ ≠ (.slice (some ad212) t200.length co17 : Value).ownBlock ∧ some k_ ≠ (v219 : Value).ownBlock ∧ some k_ ≠ (v230 : Value).ownBlock ∧ some k_ ≠ (v237 : Value).ownBlock ∧ k_ ≠ gb216 ∧ k_ ≠ gb228)) (by (with_reducible repeat (first | apply Kd.N_alloc | apply Kd.N_drewN | apply Kd.N_drew)); exact Kd.N_mono (Kd.N_far (p := ⟨gb228, 2, none⟩) (Kd.N_far (p := ⟨gb228, 2, none⟩) (Kd.N_mono HO_3.out (fun k_ hk => (⟨hk, hk.2.2.2.2.2.2.1⟩ : _ ∧ k_ ≠ gb228))) (fun _ hk => hk.2) (.int .i64 t239)) (fun _ hk => hk.2) (.int .i64 (wrap64 (t239 + 1)))) (fun _ hk => ⟨⟨hk.1.1, ⟨hk.1.2.1, ⟨hk.1.2.2.1, ⟨hk.1.2.2.2.2.1, ⟨hk.1.2.2.2.2.2.2.2, ⟨hk.1.2.2.2.2.2.1, hk.1.2.2.2.2.2.2.1⟩⟩⟩⟩⟩⟩, hk.1.2.2.2.1⟩)) hg hat); have n2_ := Aside0.mk (Kd.N_afterv (ok := (fun k_ => (P0_ k_ ∨ w.heap.size ≤ k_) ∧ some k_ ≠ (u3 : Value).ownBlock ∧ some k_ ≠ (v219 : Value).ownBlock ∧ some k_ ≠ (v230 : Value).ownBlock ∧ some k_ ≠ (v237 : Value).ownBlock ∧ k_ ≠ gb216 ∧ k_ ≠ gb228)) (by (with_reducible repeat (first | apply Kd.N_alloc | apply Kd.N_drewN | apply Kd.N_drew)); exact Kd.N_mono (Kd.N_far (p := ⟨gb228, 2, none⟩) (Kd.N_far (p := ⟨gb228, 2, none⟩) (Kd.N_mono HO_4.out (fun k_ hk => (⟨hk, hk.2.2.2.2.2.2.1⟩ : _ ∧ k_ ≠ gb228))) (fun _ hk => hk.2) (.int .i64 t239)) (fun _ hk => hk.2) (.int .i64 (wrap64 (t239 + 1)))) (fun _ hk => ⟨⟨hk.1.1, ⟨hk.1.2.1, ⟨hk.1.2.2.1, ⟨hk.1.2.2.2.2.1, ⟨hk.1.2.2.2.2.2.2.2, ⟨hk.1.2.2.2.2.2.1, hk.1.2.2.2.2.2.2.1⟩⟩⟩⟩⟩⟩, hk.1.2.2.2.1⟩)) hg hat); have n3_ := Aside0.mk (Kd.R_over' (by (with_reducible repeat (first | apply Kd.R_alloc | apply Kd.R_drewN | apply Kd.R_drew)); exact (Kd.R_mono (Kd.R_far (p := ⟨gb228, 2, none⟩) (Kd.R_far (p := ⟨gb228, 2, none⟩) (Kd.R_types HO_5.out BK228.out (by decide)) (fun _ hk => hk.2) (.int .i64 t239)) (fun _ hk => hk.2) (.int .i64 (wrap64 (t239 + 1)))) (fun _ h_ => h_.1))) (Kd.R_typed (by (with_reducible repeat (first | apply Kd.R_alloc | apply Kd.R_drewN | apply Kd.R_drew)); exact (Kd.R_mono (Kd.R_far (p := ⟨gb228, 2, none⟩) (Kd.R_far (p := ⟨gb228, 2, none⟩) (Kd.R_mono HO_217003.out (fun k_ hk => (⟨hk, hk.2⟩ : _ ∧ k_ ≠ gb228))) (fun _ hk => hk.2) (.int .i64 t239)) (fun _ hk => hk.2) (.int .i64 (wrap64 (t239 + 1)))) (fun _ h_ => h_.1)))) (by decide) hg); have n4_ := Aside0.mk (blk_grown (g := gb216) (o := .cells #[.int .i64 t221, .int .i64 t213, .int .i64 t215, u217003] 55 (0, 0)) (by (with_reducible repeat (first | refine qaf ?_ _ | refine qai ?_ | refine qag ?_ _)); refine qa0 ?_ NB216_228.out _; (with_reducible repeat (first | refine qaf ?_ _ | refine qai ?_ | refine qag ?_ _)); refine qa0 ?_ NB216_228.out _; (with_reducible repeat (first | refine qaf ?_ _ | refine qai ?_ | refine qag ?_ _)); exact BK216.out) hg (Kd.R_ne HO_217003.out BK216.out (by decide))); have n5_ := Aside0.mk (blk_grown (g := gb228) (o := .cells #[.bool ((qaj ((qab t200 x8_1).f3) x10_2).f0), .int .i64 t232, .int .i64 (wrap64 (t239 + 1))] 51 (0, 0)) (by (with_reducible repeat (first | refine qaf ?_ _ | refine qai ?_ | refine qag ?_ _)); refine qaq (cs := #[.bool ((qaj ((qab t200 x8_1).f3) x10_2).f0), .int .i64 t232, .int .i64 t239]) ?_ 2 _ rfl; (with_reducible repeat (first | refine qaf ?_ _ | refine qai ?_ | refine qag ?_ _)); refine qaq (cs := #[.bool ((qaj ((qab t200 x8_1).f3) x10_2).f0), .int .i64 t232, .int .i64 ((qaj ((qab t200 x8_1).f3) x10_2).f2)]) ?_ 2 _ rfl; (with_reducible repeat (first | refine qaf ?_ _ | refine qai ?_ | refine qag ?_ _)); exact BK228.out) hg (Kd.R_away HO_217003.out (fun _ hk => hk.2))); have n6_ := Aside0.mk (Kd.R_over' (by (with_reducible repeat (first | apply Kd.R_alloc | apply Kd.R_drewN | apply Kd.R_drew)); exact (Kd.R_mono (Kd.R_far (p := ⟨gb228, 2, none⟩) (Kd.R_far (p := ⟨gb228, 2, none⟩) (Kd.R_types HO231.out BK228.out (by decide)) (fun _ hk => hk.2) (.int .i64 t239)) (fun _ hk => hk.2) (.int .i64 (wrap64 (t239 + 1)))) (fun _ h_ => h_.1))) (Kd.R_typed (by (with_reducible repeat (first | apply Kd.R_alloc | apply Kd.R_drewN | apply Kd.R_drew)); exact (Kd.R_mono (Kd.R_far (p := ⟨gb228, 2, none⟩) (Kd.R_far (p := ⟨gb228, 2, none⟩) (Kd.R_mono HO_217003.out (fun k_ hk => (⟨hk, hk.2⟩ : _ ∧ k_ ≠ gb228))) (fun _ hk => hk.2) (.int .i64 t239)) (fun _ hk => hk.2) (.int .i64 (wrap64 (t239 + 1)))) (fun _ h_ => h_.1)))) (by decide) hg); have n7_ := Aside0.mk (Kd.R_over' (by (with_reducible repeat (first | apply Kd.R_alloc | apply Kd.R_drewN | apply Kd.R_drew)); exact (Kd.R_mono (Kd.R_far (p := ⟨gb228, 2, none⟩) (Kd.R_far (p := ⟨gb228, 2, none⟩) (Kd.R_types HO238.out BK228.out (by decide)) (fun _ hk => hk.2) (.int .i64 t239)) (fun _ hk => hk.2) (.int .i64 (wrap64 (t239 + 1)))) (fun _ h_ => h_.1))) (Kd.R_typed (by (with_reducible repeat (first | apply Kd.R_alloc | apply Kd.R_drewN | apply Kd.R_drew)); exact (Kd.R_mono (Kd.R_far (p := ⟨gb228, 2, none⟩) (Kd.R_far (p := ⟨gb228, 2, none⟩) (Kd.R_mono HO_217003.out (fun k_ hk => (⟨hk, hk.2⟩ : _ ∧ k_ ≠ gb228))) (fun _ hk => hk.2) (.int .i64 t239)) (fun _ hk => hk.2) (.int .i64 (wrap64 (t239 + 1)))) (fun _ h_ => h_.1)))) (by decide) hg); have n8_ := Aside0.mk (hb); have n9_ := Aside0.mk (ho); clear HO_0; clear HO_3; clear HO_4; clear HO_5; clear BK216; clear BK228; clear HO231; clear HO238; clear HB; clear HO_217003; have HO_0 := n0_; have HO_3 := n1_; have HO_4 := n2_; have HO_5 := n3_; have BK216 := n4_; have BK228 := n5_; have HO231 := n6_; have HO238 := n7_; have HB := n8_; have HO242 := n9_; clear n0_ n1_ n2_ n3_ n4_ n5_ n6_ n7_ n8_ n9_; clear ho hb hg hat; obtain ⟨Ao65, co65, eo65⟩ := Kd.R_slice HO242.out; subst eo65; have hcz66_0 : w64.cell? ⟨gb216, 0, none⟩ = some (.int .i64 t221) := (qah BK216.out 0).trans rfl; have hcz66_1 : w64.cell? ⟨gb216, 1, none⟩ = some (.int .i64 t213) := (qah BK216.out 1).trans rfl; have hcz66_2 : w64.cell? ⟨gb216, 2, none⟩ = some (.int .i64 t215) := (qah BK216.out 2).trans rfl; have hcz66_3 : w64.cell? ⟨gb216, 3, none⟩ = some (u217003) := (qah BK216.out 3).trans rfl; have hfz66_0 := qae BK216.out 0; have hfz66_1 := qae BK216.out 1; have hfz66_2 := qae BK216.out 2; have hfz66_3 := qae BK216.out 3))
             go_roundg k2
             case measure => have := HK1.out; have := HK2.out; omega
             case rel => exact ⟨(t229), (t236), (wrap64 (x10_2 + 1)), (y240), (.slice Ao65 y240.length co65), (by first | rfl | (simp; done) | (simp [*]; done)), H', ⟨by have := HK1.out; have := HK2.out; omega⟩, ⟨by (with_reducible repeat (first | apply Kd.V_alloc | apply Kd.V_drewN | apply Kd.V_drew)); exact Kd.V_mono (Kd.V_far (p := ⟨gb216, 3, none⟩) (Kd.V_mono HO_0.out (fun k_ hk => (⟨hk, hk.1.2.2.2.2.2.2.1⟩ : _ ∧ k_ ≠ gb216))) (fun _ hk => hk.2) (.slice Ao65 y240.length co65)) (fun _ hk => ⟨hk.1.1.1, ⟨hk.1.1.2.1, ⟨hk.1.1.2.2.1, ⟨hk.1.1.2.2.2.1, ⟨hk.1.1.2.2.2.2.1, ⟨hk.1.1.2.2.2.2.2.1, ⟨hk.1.2, hk.1.1.2.2.2.2.2.2.1⟩⟩⟩⟩⟩⟩⟩)⟩, ⟨by (with_reducible repeat (first | apply Kd.N_alloc | apply Kd.N_drewN | apply Kd.N_drew)); exact Kd.N_mono (Kd.N_far (p := ⟨gb216, 3, none⟩) (Kd.N_mono HO_3.out (fun k_ hk => (⟨hk, hk.1.2.2.2.2.2.1⟩ : _ ∧ k_ ≠ gb216))) (fun _ hk => hk.2) (.slice Ao65 y240.length co65)) (fun _ hk => ⟨hk.1.1.1, ⟨hk.1.1.2.1, ⟨hk.1.1.2.2.1, ⟨hk.1.1.2.2.2.1, ⟨hk.1.1.2.2.2.2.1, ⟨hk.1.2, hk.1.1.2.2.2.2.2.1⟩⟩⟩⟩⟩⟩)⟩, ⟨by (with_reducible repeat (first | apply Kd.N_alloc | apply Kd.N_drewN | apply Kd.N_drew)); exact Kd.N_mono (Kd.N_far (p := ⟨gb216, 3, none⟩) (Kd.N_mono HO_4.out (fun k_ hk => (⟨hk, hk.1.2.2.2.2.2.1⟩ : _ ∧ k_ ≠ gb216))) (fun _ hk => hk.2) (.slice Ao65 y240.length co65)) (fun _ hk => ⟨hk.1.1.1, ⟨hk.1.1.2.1, ⟨hk.1.1.2.2.1, ⟨hk.1.1.2.2.2.1, ⟨hk.1.1.2.2.2.2.1, ⟨hk.1.2, hk.1.1.2.2.2.2.2.1⟩⟩⟩⟩⟩⟩)⟩, ⟨by (with_reducible repeat (first | apply Kd.R_alloc | apply Kd.R_drewN | apply Kd.R_drew)); exact Kd.R_mono (Kd.R_far (p := ⟨gb216, 3, none⟩) (Kd.R_types HO_5.out BK216.out (by decide)) (fun _ hk => hk.2) (.slice Ao65 y240.length co65)) (fun _ hk => ⟨hk.1.1, ⟨hk.1.2.1, hk.1.2.2⟩⟩)⟩, ⟨by (with_reducible repeat (first | apply Kd.R_alloc | apply Kd.R_drewN | apply Kd.R_drew)); exact Kd.R_mono (Kd.R_far (p := ⟨gb216, 3, none⟩) (Kd.R_types HO231.out BK216.out (by decide)) (fun _ hk => hk.2) (.slice Ao65 y240.length co65)) (fun _ hk => ⟨hk.1.1, ⟨hk.1.2.1, hk.1.2.2⟩⟩)⟩, ⟨by (with_reducible repeat (first | apply Kd.R_alloc | apply Kd.R_drewN | apply Kd.R_drew)); exact Kd.R_mono (Kd.R_far (p := ⟨gb216, 3, none⟩) (Kd.R_types HO238.out BK216.out (by decide)) (fun _ hk => hk.2) (.slice Ao65 y240.length co65)) (fun _ hk => ⟨hk.1.1, ⟨hk.1.2.1, hk.1.2.2⟩⟩)⟩, ⟨by (with_reducible repeat (first | apply Kd.R_alloc | apply Kd.R_drewN | apply Kd.R_drew)); exact Kd.R_mono (Kd.R_far (p := ⟨gb216, 3, none⟩) (Kd.R_types HO242.out BK216.out (by decide)) (fun _ hk => hk.2) (.slice Ao65 y240.length co65)) (fun _ hk => hk.1.1)⟩, ⟨by (with_reducible repeat (first | refine qaf ?_ _ | refine qai ?_ | refine qag ?_ _)); refine qaq (cs := #[.int .i64 t221, .int .i64 t213, .int .i64 t215, u217003]) ?_ 3 _ rfl; (with_reducible repeat (first | refine qaf ?_ _ | refine qai ?_ | refine qag ?_ _)); exact BK216.out⟩, ⟨by repeat (first | (with_reducible first | exact HB.out | apply qac | apply qaa | apply qad | refine qak ?_ GE216.out | refine qak ?_ GE228.out) | exact HB.out)⟩⟩
            ·rw [if_neg c49] at H
             exact absurd H (by simp)
          ·rw [if_neg c32] at H
           exact absurd H (by simp)
         ·rw [if_neg c31] at H
          have c31b0 : decide (x10_2 < (((qab t200 x8_1).f3).length : Int)) = false := decide_eq_false c31
          clear c31
          by_cases c67 : x3_1.length < 2932031007402
          ·rw [if_pos c67] at H
           have LMc67 := Aside0.mk c67
           clear c67
           obtain ⟨y223, hy223⟩ : ∃ y_ : List (S55), y_ = (x3_1 ++ [(⟨t221, t213, t215, x217003_2⟩ : S55)]) := ⟨_, rfl⟩
           replace H : (burgageref22_Of.l0 k2 l0 y223 t200 t218 x6_2 x7_2 (wrap64 (x8_1 + 1))) = some r := by first | (rw [hy223]; with_reducible exact H) | (have H2_ := (Option.bind_some _ _).symm.trans H; rw [hy223]; with_reducible exact H2_) | (have H2_ := (Option.bind_some _ _).symm.trans H; with_reducible exact H2_) | with_reducible exact H | (rw [hy223]; exact H) | exact H
           have Ny223 := Aside0.mk hy223
           clear hy223
           have H' := Aside0.mk H
           clear H
           have p222 : 0 ≤ (x8_1 : Int) := of_decide_eq_true (by first | (with_reducible assumption) | assumption)
           have q222 : x8_1 < (t200.length : Int) := of_decide_eq_true (by first | (with_reducible assumption) | assumption)
           obtain ⟨ad222, A222_3, c222_3, e222, hx222_0, hx222_1, hx222_2, hx222_3, hl222_3, hi222_3⟩ := qa8 (Kd.N_reads' HO_4.out).2.2 x8_1 p222 q222
           obtain rfl : ad212 = ad222 := (by injection e222)
           obtain ⟨ce222, hce222, hMe222, hcc222⟩ := Kd.N_get HO_4.out z55 x8_1 p222 (by first | exact q222 | exact of_decide_eq_true (by first | (with_reducible assumption) | assumption) | (have e_ := (Kd.N_reads' HO_4.out).1; omega))
           obtain ⟨ua222_3, uc222_3, rfl, ul222_3, ge222_3⟩ := qbo hMe222
           have hv222_3 := hcc222 3 _ rfl
           rw [qax _ _ 3 (by omega)] at hv222_3
           replace hv222_3 := Option.some.inj (hv222_3.symm.trans hx222_3)
           injection hv222_3 with hva_ hvn_ hvc_
           rw [hva_] at ge222_3
           rw [hvc_] at ul222_3
           have HL222_3 := Aside0.mk (show Kd.V k51 51 _ w.heap.size _ _ ((qab t200 x8_1).f3) from Kd.V_mk ul222_3 ge222_3)
           clear hva_ hvn_ hvc_ ge222_3 ul222_3
           clear hcc222 hce222
           have HR222_3 := Aside0.mk hi222_3
           have HC222_3 := Aside0.mk hl222_3
           clear hi222_3 hl222_3
           replace p222 := eq_true p222
           replace q222 := eq_true q222
           have hcz68_0 : wr.cell? ⟨gb216, 0, none⟩ = some (.int .i64 t221) := (qah BK216.out 0).trans rfl
           have hcz68_1 : wr.cell? ⟨gb216, 1, none⟩ = some (.int .i64 t213) := (qah BK216.out 1).trans rfl
           have hcz68_2 : wr.cell? ⟨gb216, 2, none⟩ = some (.int .i64 t215) := (qah BK216.out 2).trans rfl
           have hcz68_3 : wr.cell? ⟨gb216, 3, none⟩ = some (u217003) := (qah BK216.out 3).trans rfl
           have hfz68_0 := qae BK216.out 0
           have hfz68_1 := qae BK216.out 1
           have hfz68_2 := qae BK216.out 2
           have hfz68_3 := qae BK216.out 3
           obtain ⟨Ao70, co70, eo70⟩ := Kd.R_slice HO_217003.out
           subst eo70
           go_wp2_with (first | ((with_reducible refine gate_builtin (b := .append) (xs := #[.tmp 97, .tmp 99]) rfl ?_); at_builtin; refine Kd.N_append k55 (w0 := w) w.heap.size rfl (.tmp 97) (.tmp 99) 22 55 (.agg #[(.int .i64 0), (.int .i64 0), (.int .i64 0), (.slice none 0 0)]) 48 rfl Try.underlying22 info55 rfl (by decide) (by omega) u3 x3_1 (⟨t221, t213, t215, x217003_2⟩ : S55) [.int .i64 t221, .int .i64 t213, .int .i64 t215, .slice Ao70 x217003_2.length co70] (fun k_ => (P0_ k_ ∨ w.heap.size ≤ k_) ∧ some k_ ≠ (.slice (some ad212) t200.length co17 : Value).ownBlock ∧ some k_ ≠ (v219 : Value).ownBlock ∧ some k_ ≠ (u6 : Value).ownBlock ∧ some k_ ≠ (u7 : Value).ownBlock ∧ k_ ≠ gb216) (fun k_ => ((fun k_ => (P0_ k_ ∨ w.heap.size ≤ k_) ∧ some k_ ≠ (.slice (some ad212) t200.length co17 : Value).ownBlock ∧ some k_ ≠ (v219 : Value).ownBlock ∧ some k_ ≠ (u6 : Value).ownBlock ∧ some k_ ≠ (u7 : Value).ownBlock ∧ k_ ≠ gb216)) k_ ∧ some k_ ≠ (u3 : Value).ownBlock) rfl rfl ?aP (fun _ hk => hk) ?aF ?aO ?aB ?aS ?aL ?_; (case aP => exact (k55_mkF _ _ (⟨t221, t213, t215, x217003_2⟩ : S55) (Kd.R_reads' (Kd.R_mono (ok' := (fun k_ => ((fun k_ => (P0_ k_ ∨ w.heap.size ≤ k_) ∧ some k_ ≠ (.slice (some ad212) t200.length co17 : Value).ownBlock ∧ some k_ ≠ (v219 : Value).ownBlock ∧ some k_ ≠ (u6 : Value).ownBlock ∧ some k_ ≠ (u7 : Value).ownBlock ∧ k_ ≠ gb216)) k_ ∧ some k_ ≠ (u3 : Value).ownBlock)) (Kd.R_types (Kd.R_apart' (Kd.R_apart' (Kd.R_apart' (Kd.R_apart' (Kd.R_apart' (HO_217003.out) (Kd.N_typed HO_4.out) (by decide)) (Kd.R_typed HO_5.out) (by decide)) (Kd.R_typed HO_6.out) (by decide)) (Kd.R_typed HO_7.out) (by decide)) (Kd.N_typed HO_3.out) (by decide)) BK216.out (by decide)) (fun k_ hk => ⟨⟨(.inr (hk.1.1.1.1.1.1)), ⟨hk.1.1.1.1.1.2, ⟨hk.1.1.1.1.2, ⟨hk.1.1.1.2, ⟨hk.1.1.2, hk.2⟩⟩⟩⟩⟩, hk.1.2⟩))).2.1 (Kd.R_F (Kd.R_mono (ok' := (fun k_ => ((fun k_ => (P0_ k_ ∨ w.heap.size ≤ k_) ∧ some k_ ≠ (.slice (some ad212) t200.length co17 : Value).ownBlock ∧ some k_ ≠ (v219 : Value).ownBlock ∧ some k_ ≠ (u6 : Value).ownBlock ∧ some k_ ≠ (u7 : Value).ownBlock ∧ k_ ≠ gb216)) k_ ∧ some k_ ≠ (u3 : Value).ownBlock)) (Kd.R_types (Kd.R_apart' (Kd.R_apart' (Kd.R_apart' (Kd.R_apart' (Kd.R_apart' (HO_217003.out) (Kd.N_typed HO_4.out) (by decide)) (Kd.R_typed HO_5.out) (by decide)) (Kd.R_typed HO_6.out) (by decide)) (Kd.R_typed HO_7.out) (by decide)) (Kd.N_typed HO_3.out) (by decide)) BK216.out (by decide)) (fun k_ hk => ⟨⟨(.inr (hk.1.1.1.1.1.1)), ⟨hk.1.1.1.1.1.2, ⟨hk.1.1.1.1.2, ⟨hk.1.1.1.2, ⟨hk.1.1.2, hk.2⟩⟩⟩⟩⟩, hk.1.2⟩))))); (case aB => exact (by repeat (first | (with_reducible first | exact HB.out | apply qac | apply qaa | apply qad | refine qak ?_ GE216.out) | exact HB.out))); (case aF => exact (fun k_ hk => ⟨(.inr (Nat.le_trans (qal (by repeat (first | (with_reducible first | exact HB.out | apply qac | apply qaa | apply qad | refine qak ?_ GE216.out) | exact HB.out))) hk)), Kd.fresh' (Kd.N_lt (by (with_reducible repeat (first | apply Kd.N_alloc | apply Kd.N_drewN | apply Kd.N_drew)); exact HO_4.out)) k_ hk, Kd.fresh' (Kd.R_lt (by (with_reducible repeat (first | apply Kd.R_alloc | apply Kd.R_drewN | apply Kd.R_drew)); exact HO_5.out)) k_ hk, Kd.fresh' (Kd.R_lt (by (with_reducible repeat (first | apply Kd.R_alloc | apply Kd.R_drewN | apply Kd.R_drew)); exact HO_6.out)) k_ hk, Kd.fresh' (Kd.R_lt (by (with_reducible repeat (first | apply Kd.R_alloc | apply Kd.R_drewN | apply Kd.R_drew)); exact HO_7.out)) k_ hk, Kd.freshB (g := gb216) (o := .cells #[.int .i64 t221, .int .i64 t213, .int .i64 t215, .slice Ao70 x217003_2.length co70] 55 (0, 0)) (by (with_reducible repeat (first | refine qaf ?_ _ | refine qai ?_ | refine qag ?_ _)); exact BK216.out) k_ hk⟩)); (case aO => exact (by (with_reducible repeat (first | apply Kd.N_alloc | apply Kd.N_drewN | apply Kd.N_drew)); exact Kd.N_mono HO_3.out (fun _ hk => ⟨hk.1, ⟨hk.2.1, ⟨hk.2.2.1, ⟨hk.2.2.2.1, ⟨hk.2.2.2.2.1, hk.2.2.2.2.2.2⟩⟩⟩⟩⟩))); (case aS => exact (qal (by repeat (first | (with_reducible first | exact HB.out | apply qac | apply qaa | apply qad | refine qak ?_ GE216.out) | exact HB.out)))); (case aL => have := LMc67.out; omega); intro v224 w69 ho hb hg hat; rw [← Ny223.out] at ho; have n0_ := Aside0.mk (Kd.V_afterv (ok := (fun k_ => (P0_ k_ ∨ w.heap.size ≤ k_) ∧ some k_ ≠ (.slice (some ad212) t200.length co17 : Value).ownBlock ∧ some k_ ≠ (v219 : Value).ownBlock ∧ some k_ ≠ (u6 : Value).ownBlock ∧ some k_ ≠ (u7 : Value).ownBlock ∧ some k_ ≠ (.slice Ao70 x217003_2.length co70 : Value).ownBlock ∧ k_ ≠ gb216)) (by (with_reducible repeat (first | apply Kd.V_alloc | apply Kd.V_drewN | apply Kd.V_drew)); exact Kd.V_mono HO_0.out (fun _ hk => ⟨⟨hk.1, ⟨hk.2.2.1, ⟨hk.2.2.2.1, ⟨hk.2.2.2.2.1, ⟨hk.2.2.2.2.2.1, ⟨hk.2.2.2.2.2.2.1, hk.2.2.2.2.2.2.2⟩⟩⟩⟩⟩⟩, hk.2.1⟩)) hg hat); have n1_ := Aside0.mk (Kd.N_afterv (ok := (fun k_ => (P0_ k_ ∨ w.heap.size ≤ k_) ∧ some k_ ≠ (v219 : Value).ownBlock ∧ some k_ ≠ (u6 : Value).ownBlock ∧ some k_ ≠ (u7 : Value).ownBlock ∧ some k_ ≠ (.slice Ao70 x217003_2.length co70 : Value).ownBlock ∧ k_ ≠ gb216)) (by (with_reducible repeat (first | apply Kd.N_alloc | apply Kd.N_drewN | apply Kd.N_drew)); exact Kd.N_mono HO_4.out (fun _ hk => ⟨⟨hk.1, ⟨hk.2.2.1, ⟨hk.2.2.2.1, ⟨hk.2.2.2.2.1, ⟨hk.2.2.2.2.2.1, hk.2.2.2.2.2.2⟩⟩⟩⟩⟩, hk.2.1⟩)) hg hat); have n2_ := Aside0.mk (Kd.R_over' (by (with_reducible repeat (first | apply Kd.R_alloc | apply Kd.R_drewN | apply Kd.R_drew)); exact HO_5.out) (Kd.N_typed (by (with_reducible repeat (first | apply Kd.N_alloc | apply Kd.N_drewN | apply Kd.N_drew)); exact HO_3.out)) (by decide) hg); have n3_ := Aside0.mk (Kd.R_over' (by (with_reducible repeat (first | apply Kd.R_alloc | apply Kd.R_drewN | apply Kd.R_drew)); exact HO_6.out) (Kd.N_typed (by (with_reducible repeat (first | apply Kd.N_alloc | apply Kd.N_drewN | apply Kd.N_drew)); exact HO_3.out)) (by decide) hg); have n4_ := Aside0.mk (Kd.R_over' (by (with_reducible repeat (first | apply Kd.R_alloc | apply Kd.R_drewN | apply Kd.R_drew)); exact HO_7.out) (Kd.N_typed (by (with_reducible repeat (first | apply Kd.N_alloc | apply Kd.N_drewN | apply Kd.N_drew)); exact HO_3.out)) (by decide) hg); have n5_ := Aside0.mk (blk_grown (g := gb216) (o := .cells #[.int .i64 t221, .int .i64 t213, .int .i64 t215, .slice Ao70 x217003_2.length co70] 55 (0, 0)) (by (with_reducible repeat (first | refine qaf ?_ _ | refine qai ?_ | refine qag ?_ _)); exact BK216.out) hg (Kd.N_away HO_3.out (fun _ hk => hk.2.2.2.2.2.2))); have n6_ := Aside0.mk (Kd.V_afterv (ok := (fun k_ => (P0_ k_ ∨ w.heap.size ≤ k_) ∧ some k_ ≠ (.slice (some ad212) t200.length co17 : Value).ownBlock ∧ some k_ ≠ (v219 : Value).ownBlock ∧ some k_ ≠ (u6 : Value).ownBlock ∧ some k_ ≠ (u7 : Value).ownBlock ∧ some k_ ≠ (.slice Ao70 x217003_2.length co70 : Value).ownBlock ∧ k_ ≠ gb216)) (by (with_reducible repeat (first | apply Kd.V_alloc | apply Kd.V_drewN | apply Kd.V_drew)); exact Kd.V_mono HL222_3.out (fun _ hk => ⟨⟨hk.1.1, ⟨hk.2, ⟨hk.1.2.2.1, ⟨hk.1.2.2.2.1, ⟨hk.1.2.2.2.2.1, ⟨hk.1.2.2.2.2.2.1, hk.1.2.2.2.2.2.2⟩⟩⟩⟩⟩⟩, hk.1.2.1⟩)) hg hat); have n7_ := Aside0.mk (hb); have n8_ := Aside0.mk (ho); clear HO_0; clear HO_4; clear HO_5; clear HO_6; clear HO_7; clear BK216; clear HL222_3; clear HB; clear HO_3; clear HO_217003; have HO_0 := n0_; have HO_4 := n1_; have HO_5 := n2_; have HO_6 := n3_; have HO_7 := n4_; have BK216 := n5_; have HL222_3 := n6_; have HB := n7_; have HO225 := n8_; clear n0_ n1_ n2_ n3_ n4_ n5_ n6_ n7_ n8_; clear ho hb hg hat))
           go_roundg k2
           case measure => have := HK1.out; have := HK2.out; omega
           case rel => exact ⟨(y223), (t218), (x6_2), (x7_2), (wrap64 (x8_1 + 1)), (by first | rfl | (simp; done) | (simp [*]; done)), H', ⟨by have := HK1.out; have := HK2.out; omega⟩, ⟨by (with_reducible repeat (first | apply Kd.V_alloc | apply Kd.V_drewN | apply Kd.V_drew)); exact Kd.V_mono HO_0.out (fun _ hk => ⟨hk.1.1, ⟨hk.2, ⟨hk.1.2.1, ⟨hk.1.2.2.1, ⟨hk.1.2.2.2.1, hk.1.2.2.2.2.1⟩⟩⟩⟩⟩)⟩, ⟨by (with_reducible repeat (first | apply Kd.N_alloc | apply Kd.N_drewN | apply Kd.N_drew)); exact Kd.N_mono HO225.out (fun _ hk => ⟨hk.1, ⟨hk.2.1, ⟨hk.2.2.1, ⟨hk.2.2.2.1, hk.2.2.2.2.1⟩⟩⟩⟩)⟩, ⟨by (with_reducible repeat (first | apply Kd.N_alloc | apply Kd.N_drewN | apply Kd.N_drew)); exact Kd.N_mono HO_4.out (fun _ hk => ⟨hk.1.1, ⟨hk.2, ⟨hk.1.2.1, ⟨hk.1.2.2.1, hk.1.2.2.2.1⟩⟩⟩⟩)⟩, ⟨by (with_reducible repeat (first | apply Kd.R_alloc | apply Kd.R_drewN | apply Kd.R_drew)); exact HO_5.out⟩, ⟨by (with_reducible repeat (first | apply Kd.R_alloc | apply Kd.R_drewN | apply Kd.R_drew)); exact HO_6.out⟩, ⟨by (with_reducible repeat (first | apply Kd.R_alloc | apply Kd.R_drewN | apply Kd.R_drew)); exact HO_7.out⟩, ⟨by repeat (first | (with_reducible first | exact HB.out | apply qac | apply qaa | apply qad | refine qak ?_ GE216.out) | exact HB.out)⟩⟩
          ·rw [if_neg c67] at H
           exact absurd H (by simp)
        ·rw [if_neg c30] at H
         exact absurd H (by simp)
       ·rw [if_neg c29] at H
        exact absurd H (by simp)
    ·rw [if_neg c13] at H
     exact absurd H (by simp)
   ·rw [if_neg c12] at H
    have c12b0 : decide (x8_1 < (t200.length : Int)) = false := decide_eq_false c12
    clear c12
    obtain rfl := Option.some.inj H
    obtain ⟨Ao71, co71, eo71⟩ := Kd.N_slice HO_4.out
    subst eo71
    go_wp2
    go_ret
    exact ⟨_, by first | rfl | (simp [qao, qan] <;> rfl) | (simp [*, qao, qan] <;> rfl), by (with_reducible repeat (first | apply Kd.N_alloc | apply Kd.N_drewN | apply Kd.N_drew)); exact Kd.N_mono HO_3.out (fun _ hk => hk.1), by repeat (first | (with_reducible first | exact HB.out | apply qac | apply qaa | apply qad) | exact HB.out)⟩
end Go.Proofs.Ytngkneknopenmaa.T
end
section
namespace Go.Proofs.Ytngkneknopenmaa.Hist
open Go Go.RowKit Go.Proofs.Ytngkneknopenmaa Go.Proofs.Ytngkneknopenmaa.Row3 Go.Proofs.YtngkneknopenmaaW.PrintWords
open Go.Proofs.Ytngkneknopenmaa.K (S55 S51 qab qaj)
theorem ofO_beq (x y : O3) : (!((ofO x).f0 == (ofO y).f0) || (!((ofO x).f1 == (ofO y).f1) || (!((ofO x).f2 == (ofO y).f2)))) = !decide (x = y) := by
 obtain ⟨a, b, c⟩ := x
 obtain ⟨a', b', c'⟩ := y
 show (!(a == a') || (!(b == b') || !(c == c'))) = _
 by_cases h1 : a = a' <;> by_cases h2 : b = b' <;> by_cases h3 : c = c' <;> simp [h1, h2, h3]
theorem same_l1 (a b : List T4) (n i : Int) (u v : List O3) (hl : u.length = v.length) (hb : u.length ≤ 4611686018427387904) (s0 b0 c0 : Int) (r : Bool) (hK : Ev (fun k => T.history_Same.l0 k (b.map ofT) (a.map ofT) n (wrap64 (i + 1))) r) :
  ∀ (d j : Nat), j + d = u.length → Ev (fun k => T.history_Same.l1 k (b.map ofT) (a.map ofT) n i (u.map ofO) (u.length : Int) (j : Int) s0 b0 c0 (v.map ofO)) (decide (u.drop j = v.drop j) && r) := by
 intro d
 induction d with
 | zero =>
  intro j hj
  refine Ev.step (fun k => by simp only [T.history_Same.l1]; rw [if_neg (by omega)]) ?_
  rw [List.drop_of_length_le (by omega), List.drop_of_length_le (by omega)]
  simpa using hK
 | succ d ih =>
  intro j hj
  have h1 : j < u.length := by omega
  have h2 : j < v.length := by omega
  have hd : decide (u.drop j = v.drop j) = (decide (v[j] = u[j]) && decide (u.drop (j + 1) = v.drop (j + 1))) := by
   rw [Bool.eq_iff_iff]
   simp only [decide_eq_true_eq, Bool.and_eq_true]
   rw [List.drop_eq_getElem_cons h1, List.drop_eq_getElem_cons h2, List.cons.injEq]
   exact ⟨fun ⟨a, b⟩ => ⟨a.symm, b⟩, fun ⟨a, b⟩ => ⟨a.symm, b⟩⟩
  refine Ev.step (f := fun k => if (!decide (v[j] = u[j])) = true then some false else T.history_Same.l1 k (b.map ofT) (a.map ofT) n i (u.map ofO) (u.length : Int) ((j + 1 : Nat) : Int) s0 b0 c0 (v.map ofO)) (fun k => ?_) ?_
  ·simp only [T.history_Same.l1]
   rw [if_pos (by omega), if_pos (by omega), if_pos (by rw [List.length_map]; omega), if_pos (by rw [List.length_map]; omega), rdO_at v j h2, rdO_at u j h1, ofO_beq, qa7 (by omega)]
  ·rw [hd]
   by_cases e : v[j] = u[j]
   ·have := ih (j + 1) (by omega)
    refine Ev.congr (f := fun k => T.history_Same.l1 k (b.map ofT) (a.map ofT) n i (u.map ofO) (u.length : Int) ((j + 1 : Nat) : Int) s0 b0 c0 (v.map ofO)) (fun k => by rw [decide_eq_true e]; rfl) ?_
    rw [decide_eq_true e, Bool.true_and]
    exact this
   ·refine Ev.congr (f := fun _ => some false) (fun k => by rw [decide_eq_false e]; rfl) ?_
    rw [decide_eq_false e]
    exact Ev.now false
theorem T4_eq (t u : T4) : decide (t = u) = (decide (t.s = u.s) && (decide (t.b = u.b) && (decide (t.c = u.c) && decide (t.ops = u.ops)))) := by
 obtain ⟨s, b, c, o⟩ := t
 obtain ⟨s', b', c', o'⟩ := u
 by_cases h1 : s = s' <;> by_cases h2 : b = b' <;> by_cases h3 : c = c' <;> by_cases h4 : o = o' <;> simp [h1, h2, h3, h4]
theorem same_l0 (a b : List T4) (hl : a.length = b.length) (hm : a.length ≤ 4611686018427387904) (hc : qar a ≤ 4611686018427387904) : ∀ (d i : Nat), i + d = a.length →
  Ev (fun k => T.history_Same.l0 k (b.map ofT) (a.map ofT) (a.length : Int) (i : Int)) (decide (a.drop i = b.drop i)) := by
 intro d
 induction d with
 | zero =>
  intro i hi
  refine Ev.step (fun k => by simp only [T.history_Same.l0]; rw [if_neg (by omega)]) ?_
  rw [List.drop_of_length_le (by omega), List.drop_of_length_le (by omega)]
  exact Ev.now true
 | succ d ih =>
  intro i hi
  have h1 : i < a.length := by omega
  have h2 : i < b.length := by omega
  have hoc : a[i].ops.length ≤ 4611686018427387904 := Nat.le_trans (le_countT (List.getElem_mem h1)) hc
  have hd : decide (a.drop i = b.drop i) = (decide (a[i] = b[i]) && decide (a.drop (i + 1) = b.drop (i + 1))) := by
   rw [Bool.eq_iff_iff]
   simp only [decide_eq_true_eq, Bool.and_eq_true]
   rw [List.drop_eq_getElem_cons h1, List.drop_eq_getElem_cons h2, List.cons.injEq]
  have ihw := ih (i + 1) (by omega)
  rw [← qa7 (x := i) (by omega)] at ihw
  have hj : ∀ x53 : Bool, Ev (fun k => T.history_Same.j1 k (b.map ofT) (a.map ofT) (a.length : Int) (i : Int) x53 a[i].s a[i].b a[i].c (a[i].ops.map ofO) b[i].s b[i].b b[i].c (b[i].ops.map ofO)) (if x53 then false else if a[i].ops.length = b[i].ops.length then decide (a[i].ops = b[i].ops) && decide (a.drop (i + 1) = b.drop (i + 1)) else false) ∨ (x53 = false ∧ a[i].ops.length ≠ b[i].ops.length) := by
   intro x53
   cases x53 with
   | true => exact .inl (Ev.step (f := fun _ => some false) (fun k => by simp only [T.history_Same.j1]; rfl) (Ev.now false))
   | false =>
    by_cases e : a[i].ops.length = b[i].ops.length
    ·refine .inl ?_
     rw [if_pos e]
     have := same_l1 a b (a.length : Int) (i : Int) a[i].ops b[i].ops e hoc b[i].s b[i].b b[i].c _ ihw a[i].ops.length 0 (by omega)
     refine Ev.step (fun k => by simp only [T.history_Same.j1]; rw [List.length_map]; rfl) this
    ·exact .inr ⟨rfl, e⟩
  have e0 : ∀ k, T.history_Same.l0 (k + 1) (b.map ofT) (a.map ofT) (a.length : Int) (i : Int) = T.history_Same.j1 k (b.map ofT) (a.map ofT) (a.length : Int) (i : Int) (!(decide (a[i].s = b[i].s) && (decide (a[i].b = b[i].b) && (decide (a[i].c = b[i].c) && decide (a[i].ops.length = b[i].ops.length))))) a[i].s a[i].b a[i].c (a[i].ops.map ofO) b[i].s b[i].b b[i].c (b[i].ops.map ofO) := by
   intro k
   simp only [T.history_Same.l0]
   rw [if_pos (by omega), if_pos (by omega), if_pos (by rw [List.length_map]; omega), if_pos (by rw [List.length_map]; omega), qbz a i h1, qbz b i h2]
   show (if a[i].s = b[i].s then if a[i].b = b[i].b then if a[i].c = b[i].c then T.history_Same.j1 k _ _ _ _ (((a[i].ops.map ofO).length : Int) != ((b[i].ops.map ofO).length : Int)) _ _ _ _ _ _ _ _ else _ else _ else _) = _
   rw [List.length_map, List.length_map]
   by_cases c1 : a[i].s = b[i].s
   ·rw [if_pos c1, decide_eq_true c1]
    by_cases c2 : a[i].b = b[i].b
    ·rw [if_pos c2, decide_eq_true c2]
     by_cases c3 : a[i].c = b[i].c
     ·rw [if_pos c3, decide_eq_true c3]
      by_cases c4 : a[i].ops.length = b[i].ops.length
      ·rw [decide_eq_true c4, c4]; simp; rfl
      ·have : ((a[i].ops.length : Int) != (b[i].ops.length : Int)) = true := by simp; omega
       rw [decide_eq_false c4, this]; rfl
     ·rw [if_neg c3, decide_eq_false c3]; rfl
    ·rw [if_neg c2, decide_eq_false c2]; rfl
   ·rw [if_neg c1, decide_eq_false c1]; rfl
  refine Ev.step e0 ?_
  rw [hd, T4_eq]
  rcases hj (!(decide (a[i].s = b[i].s) && (decide (a[i].b = b[i].b) && (decide (a[i].c = b[i].c) && decide (a[i].ops.length = b[i].ops.length))))) with h | ⟨h, e⟩
  ·refine Eq.mp (congrArg (Ev _) (?_ : _ = _)) h
   by_cases c1 : a[i].s = b[i].s <;> by_cases c2 : a[i].b = b[i].b <;> by_cases c3 : a[i].c = b[i].c <;> by_cases c4 : a[i].ops.length = b[i].ops.length
   all_goals first
    | (have c5 : a[i].ops ≠ b[i].ops := fun e => c4 (by rw [e]); simp [c1, c2, c3, c4, c5]; done)
    | simp [c1, c2, c3, c4]
  ·rw [decide_eq_false e] at h
   simp at h
theorem same_f (a b : List T4) (hm : a.length ≤ 4611686018427387904) (hc : qar a ≤ 4611686018427387904) : Ev (fun k => T.history_Same.f k (a.map ofT) (b.map ofT)) (decide (a = b)) := by
 unfold T.history_Same.f
 rw [List.length_map, List.length_map]
 by_cases e : (a.length : Int) = (b.length : Int)
 ·refine Ev.congr (fun k => if_pos e) ?_
  have := same_l0 a b (by omega) hm hc a.length 0 (by omega)
  exact this
 ·refine Ev.congr (f := fun _ => some false) (fun k => if_neg e) ?_
  rw [decide_eq_false (fun h => e (by rw [h]))]
  exact Ev.now false
theorem rank_l0 (h : List T4) (x : Int) (hm : h.length ≤ 1000000) : ∀ (d i n : Nat), i + d = h.length → n ≤ 2 * i →
  Ev (fun k => T.burgageref22_rank.l0 k (h.map ofT) x (n : Int) (i : Int)) ((n + qaz (qap (h.drop i)) x : Nat) : Int) := by
 intro d
 induction d with
 | zero =>
  intro i n hi hn
  refine Ev.step (f := fun _ => some (n : Int)) (fun k => by simp only [T.burgageref22_rank.l0]; rw [if_neg (by rw [List.length_map]; omega)]) ?_
  rw [List.drop_of_length_le (by omega)]
  exact Ev.now _
 | succ d ih =>
  intro i n hi hn
  have h1 : i < h.length := by omega
  have e : qap (h.drop i) = [h[i].b, h[i].c] ++ qap (h.drop (i + 1)) := by rw [List.drop_eq_getElem_cons h1]; rfl
  have ec : qaz (qap (h.drop i)) x = (if h[i].b < x then 1 else 0) + (if h[i].c < x then 1 else 0) + qaz (qap (h.drop (i + 1))) x := by
   rw [e]
   unfold qaz
   rw [List.countP_append, List.countP_cons, List.countP_cons, List.countP_nil]
   simp only [decide_eq_true_eq]
   omega
  rw [ec]
  have key : ∀ m : Nat, m ≤ 2 * (i + 1) → Ev (fun k => T.burgageref22_rank.l0 k (h.map ofT) x (m : Int) ((i + 1 : Nat) : Int)) ((m + qaz (qap (h.drop (i + 1))) x : Nat) : Int) := fun m hm2 => ih (i + 1) m (by omega) hm2
  by_cases c1 : h[i].b < x <;> by_cases c2 : h[i].c < x
  ·refine Ev.step (fun k => by
    simp only [T.burgageref22_rank.l0]
    rw [if_pos (by rw [List.length_map]; omega), if_pos (by omega), qbz h i h1, if_pos (show (ofT h[i]).f1 < x from c1), if_pos (show (ofT h[i]).f2 < x from c2), qa7 (x := i) (by omega), qa7 (x := n) (by omega), qa7 (x := n + 1) (by omega)]) ?_
   rw [if_pos c1, if_pos c2, show n + (1 + 1 + qaz (qap (h.drop (i + 1))) x) = n + 1 + 1 + qaz (qap (h.drop (i + 1))) x by omega]
   exact key _ (by omega)
  ·refine Ev.step (fun k => by
    simp only [T.burgageref22_rank.l0]
    rw [if_pos (by rw [List.length_map]; omega), if_pos (by omega), qbz h i h1, if_pos (show (ofT h[i]).f1 < x from c1), if_neg (show ¬ (ofT h[i]).f2 < x from c2), qa7 (x := i) (by omega), qa7 (x := n) (by omega)]) ?_
   rw [if_pos c1, if_neg c2, show n + (1 + 0 + qaz (qap (h.drop (i + 1))) x) = n + 1 + qaz (qap (h.drop (i + 1))) x by omega]
   exact key _ (by omega)
  ·refine Ev.step (fun k => by
    simp only [T.burgageref22_rank.l0]
    rw [if_pos (by rw [List.length_map]; omega), if_pos (by omega), qbz h i h1, if_neg (show ¬ (ofT h[i]).f1 < x from c1), if_pos (show (ofT h[i]).f2 < x from c2), qa7 (x := i) (by omega), qa7 (x := n) (by omega)]) ?_
   rw [if_neg c1, if_pos c2, show n + (0 + 1 + qaz (qap (h.drop (i + 1))) x) = n + 1 + qaz (qap (h.drop (i + 1))) x by omega]
   exact key _ (by omega)
  ·refine Ev.step (fun k => by
    simp only [T.burgageref22_rank.l0]
    rw [if_pos (by rw [List.length_map]; omega), if_pos (by omega), qbz h i h1, if_neg (show ¬ (ofT h[i]).f1 < x from c1), if_neg (show ¬ (ofT h[i]).f2 < x from c2), qa7 (x := i) (by omega)]) ?_
   rw [if_neg c1, if_neg c2, show n + (0 + 0 + qaz (qap (h.drop (i + 1))) x) = n + qaz (qap (h.drop (i + 1))) x by omega]
   exact key _ (by omega)
theorem rank_f (h : List T4) (x : Int) (hm : h.length ≤ 1000000) : Ev (fun k => T.burgageref22_rank.f k (h.map ofT) x) (cntI h x) := by
 have := rank_l0 h x hm h.length 0 0 (by omega) (by omega)
 rw [List.drop_zero, Nat.zero_add] at this
 exact this
theorem idx_none {l : List Int} {x : Int} (h : x ∉ l) : idxL l x = l.length := by
 unfold idxL
 rw [List.findIdx_eq_length]
 intro y hy
 simp
 exact fun e => h (e ▸ hy)
theorem idx_self (l : List Int) (x : Int) : idxL (qba l x) x = idxL l x := by
 unfold qba
 by_cases h : x ∈ l
 ·rw [if_pos h]
 ·rw [if_neg h, idxL_new h, idx_none h]
theorem name_l0 (l : List Int) (x : Int) (hm : l.length ≤ 1000000) : ∀ (d i : Nat), i + d = l.length → (∀ j, j < i → ∀ h : j < l.length, l[j] ≠ x) →
  Ev (fun k => T.burgageref22_name.l0 k l x (i : Int)) (qba l x, (idxL l x : Int)) := by
 intro d
 induction d with
 | zero =>
  intro i hi hn
  have hx : x ∉ l := fun hx => by
   obtain ⟨j, hj, e⟩ := List.mem_iff_getElem.1 hx
   exact hn j (by omega) hj e
  have e2 : ((qba l x, (idxL l x : Int)) : List Int × Int) = (l ++ [x], (l.length : Int)) := by
   rw [idx_none hx]
   unfold qba
   rw [if_neg hx]
  rw [e2]
  refine Ev.step (f := fun _ => some (l ++ [x], (l.length : Int))) (fun k => ?_) (Ev.now _)
  simp only [T.burgageref22_name.l0]
  rw [if_neg (by omega)]
  simp only [Option.bind_some, List.length_nil, List.nil_append]
  rw [if_pos (by omega), if_pos (by omega)]
 | succ d ih =>
  intro i hi hn
  have h1 : i < l.length := by omega
  have er : rd l (i : Int) = l[i] := by unfold rd; simp [h1]
  by_cases c : l[i] = x
  ·have e2 : ((qba l x, (idxL l x : Int)) : List Int × Int) = (l, (i : Int)) := by
    have hx : x ∈ l := c ▸ List.getElem_mem h1
    have : idxL l x = i := by
     unfold idxL
     rw [List.findIdx_eq h1]
     refine ⟨by simp [c], fun j hj => by simp; exact hn j hj (by omega)⟩
    rw [this]
    unfold qba
    rw [if_pos hx]
   rw [e2]
   refine Ev.step (f := fun _ => some (l, (i : Int))) (fun k => ?_) (Ev.now _)
   simp only [T.burgageref22_name.l0]
   rw [if_pos (by omega), if_pos (by omega), er, if_pos c]
  ·refine Ev.step (fun k => by
    simp only [T.burgageref22_name.l0]
    rw [if_pos (by omega), if_pos (by omega), er, if_neg c, qa7 (by omega)]) ?_
   refine ih (i + 1) (by omega) (fun j hj hjl => ?_)
   by_cases q : j = i
   ·subst q; exact c
   ·exact hn j (by omega) hjl
theorem name_f (l : List Int) (x : Int) (hm : l.length ≤ 1000000) : Ev (fun k => T.burgageref22_name.f k l x) (qba l x, (idxL l x : Int)) :=
 name_l0 l x hm l.length 0 (by omega) (fun j hj => by omega)
end Go.Proofs.Ytngkneknopenmaa.Hist
end
