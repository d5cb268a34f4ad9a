/- qr7 of this claim, joined by a program of this session: the zP that its theorem uses. -/
import Derived.Test.YtngkneknopenmaaZH5
import Derived.Test.YtngkneknopenmaaZH8
import Derived.Test.YtngkneknopenmaaZH14
import Derived.Lib.Hide
namespace Go.Proofs.Ytngkneknopenmaa.za6
end Go.Proofs.Ytngkneknopenmaa.za6
section
namespace Go.Proofs.Ytngkneknopenmaa.T
open Go.Proofs.Ytngkneknopenmaa Go.Proofs.Ytngkneknopenmaa.za6 Go.Proofs.Ytngkneknopenmaa.K
open Go.RowKit Go.Proofs.YtngkneknopenmaaW.PrintWords Go.Proofs.YtngkneknopenmaaW.qi5 Go.Proofs.YtngkneknopenmaaW.ql6
attribute [local go_sem] qs6 qs7 qy1 qy2 qo3 qo4 qs8 qs9   -- for this text's walks alone
set_option linter.unusedVariables false
set_option linter.unusedSimpArgs false
def jA.l0 : Nat → List (S55) → Int → Int → Int → Option (Int)
 | 0, _, _, _, _ => none
 | k + 1, x0, x1, x5, x6 => if x6 < (x0.length : Int) then (if 0 ≤ x6 then (if ((qD x0 x6).f1) < x1 then (if ((qD x0 x6).f2) < x1 then (jA.l0 k x0 x1 (wrap64 ((wrap64 (x5 + 1)) + 1)) (wrap64 (x6 + 1))) else (jA.l0 k x0 x1 (wrap64 (x5 + 1)) (wrap64 (x6 + 1)))) else (if ((qD x0 x6).f2) < x1 then (jA.l0 k x0 x1 (wrap64 (x5 + 1)) (wrap64 (x6 + 1))) else (jA.l0 k x0 x1 x5 (wrap64 (x6 + 1))))) else (none)) else (some x5)
def jA.f (k : Nat) (l0 : List (S55)) (a1 : Int) : Option (Int) := jA.l0 k l0 a1 0 0
set_option maxHeartbeats 8000000 in
set_option maxRecDepth 100000 in
theorem jA.calls (k : Nat) (A0 : Option Addr) (c0 : Nat) (l0 : List (S55)) (a1 : Int) (r : Int) (w : World) (hr0 : Kd.C k55 w A0 l0.length l0) (hc0 : l0.length ≤ c0) (h : jA.f k l0 a1 = some r) :
  Calls Try.prog 44 #[.slice A0 l0.length c0, .int .i64 a1] w fun e w' => e = .returned (.int .i64 r) ∧ zZ w w' := by
 have HR0 := q8.mk hr0
 have HC0 := q8.mk hc0
 clear hr0 hc0
 have H : (jA.l0 k l0 a1 0 0) = some r := h
 clear h
 have H' := q8.mk H
 clear H
 go_enter Try.func44, Try.ntmps44
 go_wp2
 go_loopg [5, 6] k (fun kq v5 v6 w' => ∃ (qA4 : Int) (jY : Int), v5 = .int .i64 qA4 ∧ v6 = .int .i64 jY ∧ q8 (jA.l0 kq l0 a1 qA4 jY = some r) ∧ q8 (kq ≤ k) ∧ zZ w w')
 case atStart => exact ⟨(0), (0), (by first | rfl | (simp; done) | (simp [*]; done)), (by first | rfl | (simp; done) | (simp [*]; done)), H', ⟨Nat.le_refl _⟩, by repeat (first | exact zZ.refl _ | apply zZ.step)⟩
 case round =>
  clear H'
  try clear p2
  obtain ⟨qA4, jY, rfl, rfl, HA, HK1, ⟨m1, rfl⟩⟩ := hrel
  cases gk with
  | zero => exact absurd HA.out (by simp [jA.l0])
  | succ k1 =>
   have H := HA.out
   clear HA
   simp only [jA.l0] at H
   by_cases c3 : jY < (l0.length : Int)
   ·rw [if_pos c3] at H
    have jS6 : decide (jY < (l0.length : Int)) = true := decide_eq_true c3
    clear c3
    by_cases c4 : 0 ≤ jY
    ·rw [if_pos c4] at H
     have qF0 : decide (0 ≤ jY) = true := decide_eq_true c4
     clear c4
     by_cases c5 : ((qD l0 jY).f1) < a1
     ·rw [if_pos c5] at H
      have jH8 : decide (((qD l0 jY).f1) < a1) = true := decide_eq_true c5
      clear c5
      by_cases c6 : ((qD l0 jY).f2) < a1
      ·rw [if_pos c6] at H
       have jl4 : decide (((qD l0 jY).f2) < a1) = true := decide_eq_true c6
       clear c6
       have H' := q8.mk H
       clear H
       have qW3 : 0 ≤ (jY : Int) := of_decide_eq_true (by first | (with_reducible assumption) | assumption)
       have qW4 : jY < (l0.length : Int) := of_decide_eq_true (by first | (with_reducible assumption) | assumption)
       obtain ⟨jq8, zc8, zc9, zd0, jH9, jI0, jI1, qL2, qv3, qv4⟩ := qa9 HR0.out jY qW3 qW4
       cases zd0
       have jI2 := q8.mk qv4
       have jI3 := q8.mk qv3
       clear qv4 qv3
       replace qW3 := eq_true qW3
       replace qW4 := eq_true qW4
       have zd1 : 0 ≤ (jY : Int) := of_decide_eq_true (by first | (with_reducible assumption) | assumption)
       have zd2 : jY < (l0.length : Int) := of_decide_eq_true (by first | (with_reducible assumption) | assumption)
       obtain ⟨zy5, Qb2, Qb3, e185, zJ8, zJ9, zK0, jI4, jb1, jb2⟩ := qa9 HR0.out jY zd1 zd2
       obtain rfl : jq8 = zy5 := (by injection e185)
       have zK1 := q8.mk jb2
       have zK2 := q8.mk jb1
       clear jb2 jb1
       replace zd1 := eq_true zd1
       replace zd2 := eq_true zd2
       have ea_ := Option.some.inj (qL2.symm.trans jI4)
       injection ea_ with ea_ en_ ec_
       subst ea_
       subst ec_
       clear en_
       go_wp2
       go_roundg k1
       case measure => have := HK1.out; omega
       case rel => exact ⟨(wrap64 ((wrap64 (qA4 + 1)) + 1)), (wrap64 (jY + 1)), (by first | rfl | (simp; done) | (simp [*]; done)), (by first | rfl | (simp; done) | (simp [*]; done)), H', ⟨by have := HK1.out; omega⟩, by repeat (first | exact zZ.refl _ | apply zZ.step)⟩
      ·rw [if_neg c6] at H
       have jl4 : decide (((qD l0 jY).f2) < a1) = false := decide_eq_false c6
       clear c6
       have H' := q8.mk H
       clear H
       have qW3 : 0 ≤ (jY : Int) := of_decide_eq_true (by first | (with_reducible assumption) | assumption)
       have qW4 : jY < (l0.length : Int) := of_decide_eq_true (by first | (with_reducible assumption) | assumption)
       obtain ⟨jq8, zc8, zc9, zd0, jH9, jI0, jI1, qL2, qv3, qv4⟩ := qa9 HR0.out jY qW3 qW4
       cases zd0
       have jI2 := q8.mk qv4
       have jI3 := q8.mk qv3
       clear qv4 qv3
       replace qW3 := eq_true qW3
       replace qW4 := eq_true qW4
       have zd1 : 0 ≤ (jY : Int) := of_decide_eq_true (by first | (with_reducible assumption) | assumption)
       have zd2 : jY < (l0.length : Int) := of_decide_eq_true (by first | (with_reducible assumption) | assumption)
       obtain ⟨zy5, Qb2, Qb3, e185, zJ8, zJ9, zK0, jI4, jb1, jb2⟩ := qa9 HR0.out jY zd1 zd2
       obtain rfl : jq8 = zy5 := (by injection e185)
       have zK1 := q8.mk jb2
       have zK2 := q8.mk jb1
       clear jb2 jb1
       replace zd1 := eq_true zd1
       replace zd2 := eq_true zd2
       have ea_ := Option.some.inj (qL2.symm.trans jI4)
       injection ea_ with ea_ en_ ec_
       subst ea_
       subst ec_
       clear en_
       go_wp2
       go_roundg k1
       case measure => have := HK1.out; omega
       case rel => exact ⟨(wrap64 (qA4 + 1)), (wrap64 (jY + 1)), (by first | rfl | (simp; done) | (simp [*]; done)), (by first | rfl | (simp; done) | (simp [*]; done)), H', ⟨by have := HK1.out; omega⟩, by repeat (first | exact zZ.refl _ | apply zZ.step)⟩
     ·rw [if_neg c5] at H
      have jH8 : decide (((qD l0 jY).f1) < a1) = false := decide_eq_false c5
      clear c5
      by_cases c7 : ((qD l0 jY).f2) < a1
      ·rw [if_pos c7] at H
       have zK3 : decide (((qD l0 jY).f2) < a1) = true := decide_eq_true c7
       clear c7
       have H' := q8.mk H
       clear H
       have qW3 : 0 ≤ (jY : Int) := of_decide_eq_true (by first | (with_reducible assumption) | assumption)
       have qW4 : jY < (l0.length : Int) := of_decide_eq_true (by first | (with_reducible assumption) | assumption)
       obtain ⟨jq8, zc8, zc9, zd0, jH9, jI0, jI1, qL2, qv3, qv4⟩ := qa9 HR0.out jY qW3 qW4
       cases zd0
       have jI2 := q8.mk qv4
       have jI3 := q8.mk qv3
       clear qv4 qv3
       replace qW3 := eq_true qW3
       replace qW4 := eq_true qW4
       have zd3 : 0 ≤ (jY : Int) := of_decide_eq_true (by first | (with_reducible assumption) | assumption)
       have zd4 : jY < (l0.length : Int) := of_decide_eq_true (by first | (with_reducible assumption) | assumption)
       obtain ⟨zy6, Qb4, Qb5, Qb6, zK4, zK5, zK6, jI5, jb3, jb4⟩ := qa9 HR0.out jY zd3 zd4
       obtain rfl : jq8 = zy6 := (by injection Qb6)
       have zK7 := q8.mk jb4
       have zK8 := q8.mk jb3
       clear jb4 jb3
       replace zd3 := eq_true zd3
       replace zd4 := eq_true zd4
       have ea_ := Option.some.inj (qL2.symm.trans jI5)
       injection ea_ with ea_ en_ ec_
       subst ea_
       subst ec_
       clear en_
       go_wp2
       go_roundg k1
       case measure => have := HK1.out; omega
       case rel => exact ⟨(wrap64 (qA4 + 1)), (wrap64 (jY + 1)), (by first | rfl | (simp; done) | (simp [*]; done)), (by first | rfl | (simp; done) | (simp [*]; done)), H', ⟨by have := HK1.out; omega⟩, by repeat (first | exact zZ.refl _ | apply zZ.step)⟩
      ·rw [if_neg c7] at H
       have zK3 : decide (((qD l0 jY).f2) < a1) = false := decide_eq_false c7
       clear c7
       have H' := q8.mk H
       clear H
       have qW3 : 0 ≤ (jY : Int) := of_decide_eq_true (by first | (with_reducible assumption) | assumption)
       have qW4 : jY < (l0.length : Int) := of_decide_eq_true (by first | (with_reducible assumption) | assumption)
       obtain ⟨jq8, zc8, zc9, zd0, jH9, jI0, jI1, qL2, qv3, qv4⟩ := qa9 HR0.out jY qW3 qW4
       cases zd0
       have jI2 := q8.mk qv4
       have jI3 := q8.mk qv3
       clear qv4 qv3
       replace qW3 := eq_true qW3
       replace qW4 := eq_true qW4
       have zd3 : 0 ≤ (jY : Int) := of_decide_eq_true (by first | (with_reducible assumption) | assumption)
       have zd4 : jY < (l0.length : Int) := of_decide_eq_true (by first | (with_reducible assumption) | assumption)
       obtain ⟨zy6, Qb4, Qb5, Qb6, zK4, zK5, zK6, jI5, jb3, jb4⟩ := qa9 HR0.out jY zd3 zd4
       obtain rfl : jq8 = zy6 := (by injection Qb6)
       have zK7 := q8.mk jb4
       have zK8 := q8.mk jb3
       clear jb4 jb3
       replace zd3 := eq_true zd3
       replace zd4 := eq_true zd4
       have ea_ := Option.some.inj (qL2.symm.trans jI5)
       injection ea_ with ea_ en_ ec_
       subst ea_
       subst ec_
       clear en_
       go_wp2
       go_roundg k1
       case measure => have := HK1.out; omega
       case rel => exact ⟨(qA4), (wrap64 (jY + 1)), (by first | rfl | (simp; done) | (simp [*]; done)), (by first | rfl | (simp; done) | (simp [*]; done)), H', ⟨by have := HK1.out; omega⟩, by repeat (first | exact zZ.refl _ | apply zZ.step)⟩
    ·rw [if_neg c4] at H
     exact absurd H (by simp)
   ·rw [if_neg c3] at H
    have jS6 : decide (jY < (l0.length : Int)) = false := decide_eq_false c3
    clear c3
    obtain rfl := Option.some.inj H
    go_wp2
    go_ret
    exact ⟨by first | rfl | (simp; done) | (simp [*]; done), by repeat (first | exact zZ.refl _ | apply zZ.step)⟩
def jB.l0 : Nat → List Int → Int → Int → Option (List Int × Int)
 | 0, _, _, _ => none
 | k + 1, x0, x1, x6 => if x6 < (x0.length : Int) then (if 0 ≤ x6 then (if (rd x0 x6) = x1 then (some (x0, x6)) else (jB.l0 k x0 x1 (wrap64 (x6 + 1)))) else (none)) else ((some (([] : List Int) : List Int)).bind fun y188 => (if y188.length + x0.length < 17592186044416 then ((some (y188 ++ x0 : List Int)).bind fun y191 => (if y191.length < 17592186044416 then (some ((y191 ++ [x1]), (x0.length : Int))) else (none))) else (none)))
def jB.f (k : Nat) (l0 : List Int) (a1 : Int) : Option (List Int × Int) := jB.l0 k l0 a1 0
set_option maxHeartbeats 8000000 in
set_option maxRecDepth 100000 in
theorem jB.calls (k : Nat) (P0_ : Nat → Prop) (jI6 : Value) (l0 : List Int) (a1 : Int) (r1 : List Int) (r2 : Int) (w0 w : World) (hB : Below w0.heap.size w0 w) (ho0 : Kd.R (Kd.int .i64) 3 w w0.heap.size P0_ jI6 l0) (h : jB.f k l0 a1 = some (r1, r2)) :
  Calls Try.prog 45 #[jI6, .int .i64 a1] w fun e w' => ∃ v0_ : Value, e = .returned (.tuple #[v0_, .int .i64 r2]) ∧ Kd.R (Kd.int .i64) 3 w' w0.heap.size (fun k_ => (P0_ k_ ∨ w.heap.size ≤ k_)) v0_ r1 ∧ Below w0.heap.size w0 w' ∧ Kept w w' (fun k_ => P0_ k_) := by
 have HO0 := q8.mk (show Kd.R (Kd.int .i64) 3 w w0.heap.size (fun k_ => (P0_ k_ ∨ w.heap.size ≤ k_)) jI6 l0 from Kd.jK ho0 (fun k_ hk => (.inl hk)))
 have HK := q8.mk (Kept.refl w (fun k_ => P0_ k_))
 have HW0 := q8.mk hB.size
 have HB := q8.mk hB
 clear hB
 have H : (jB.l0 k l0 a1 0) = some (r1, r2) := h
 clear h
 have H' := q8.mk H
 clear H
 go_enter Try.func45, Try.ntmps45
 go_wp2
 go_loopg [6] k (fun kq v6 w' => ∃ (jY : Int), v6 = .int .i64 jY ∧ q8 (jB.l0 kq l0 a1 jY = some (r1, r2)) ∧ q8 (kq ≤ k) ∧ q8 (Kd.R (Kd.int .i64) 3 w' w0.heap.size (fun k_ => (P0_ k_ ∨ w.heap.size ≤ k_)) jI6 l0) ∧ q8 (Kept w w' (fun k_ => P0_ k_)) ∧ q8 (Below w0.heap.size w0 w'))
 case atStart => exact ⟨(0), (by first | rfl | (simp; done) | (simp [*]; done)), H', ⟨Nat.le_refl _⟩, ⟨by (with_reducible repeat (first | apply Kd.qV | apply Kd.qW | apply Kd.jC)); exact HO0.out⟩, ⟨by repeat (first | (with_reducible first | exact HK.out | apply Kept.alloc | apply Kept.drewN | apply Kept.drew) | exact HK.out)⟩, ⟨by repeat (first | (with_reducible first | exact HB.out | apply qA | apply q9 | apply qB) | exact HB.out)⟩⟩
 case round =>
  clear H'
  try clear p2
  obtain ⟨jY, rfl, HA, HK1, qa0, HK, HB⟩ := hrel
  cases gk with
  | zero => exact absurd HA.out (by simp [jB.l0])
  | succ k1 =>
   have H := HA.out
   clear HA
   simp only [jB.l0] at H
   by_cases c3 : jY < (l0.length : Int)
   ·rw [if_pos c3] at H
    have jS6 : decide (jY < (l0.length : Int)) = true := decide_eq_true c3
    clear c3
    by_cases c4 : 0 ≤ jY
    ·rw [if_pos c4] at H
     have qF0 : decide (0 ≤ jY) = true := decide_eq_true c4
     clear c4
     by_cases c5 : (rd l0 jY) = a1
     ·rw [if_pos c5] at H
      have jH8 : ((rd l0 jY) == a1) = true := beq_iff_eq.mpr c5
      have c5b1 : ((rd l0 jY) != a1) = false := bne_eq_false_iff_eq.mpr c5
      clear c5
      simp only [Option.some.injEq, Prod.mk.injEq] at H
      obtain ⟨rfl, rfl⟩ := H
      obtain ⟨Ao6, co6, eo6⟩ := Kd.qv5 qa0.out
      subst eo6
      have zd5 : 0 ≤ (jY : Int) := of_decide_eq_true (by first | (with_reducible assumption) | assumption)
      have zd6 : jY < (l0.length : Int) := of_decide_eq_true (by first | (with_reducible assumption) | assumption)
      obtain ⟨Ql8, e187, zK9⟩ := Kd.zy7 (Kd.qz3 qa0.out).2.2 jY zd5 zd6
      cases e187
      replace zd5 := eq_true zd5
      replace zd6 := eq_true zd6
      go_wp2
      go_ret2
      exact ⟨_, by first | rfl | (simp [jI, jJ] <;> rfl) | (simp [*, jI, jJ] <;> rfl), by (with_reducible repeat (first | apply Kd.qV | apply Kd.qW | apply Kd.jC)); exact qa0.out, by repeat (first | (with_reducible first | exact HB.out | apply qA | apply q9 | apply qB) | exact HB.out), by repeat (first | (with_reducible first | exact HK.out | apply Kept.alloc | apply Kept.drewN | apply Kept.drew) | exact HK.out)⟩
     ·rw [if_neg c5] at H
      have jH8 : ((rd l0 jY) == a1) = false := beq_eq_false_iff_ne.mpr c5
      have c5b1 : ((rd l0 jY) != a1) = true := bne_iff_ne.mpr c5
      have H' := q8.mk H
      clear H
      obtain ⟨Ao7, co7, eo7⟩ := Kd.qv5 qa0.out
      subst eo7
      have zd5 : 0 ≤ (jY : Int) := of_decide_eq_true (by first | (with_reducible assumption) | assumption)
      have zd6 : jY < (l0.length : Int) := of_decide_eq_true (by first | (with_reducible assumption) | assumption)
      obtain ⟨Ql8, e187, zK9⟩ := Kd.zy7 (Kd.qz3 qa0.out).2.2 jY zd5 zd6
      cases e187
      replace zd5 := eq_true zd5
      replace zd6 := eq_true zd6
      go_wp2
      go_roundg k1
      case measure => have := HK1.out; omega
      case rel => exact ⟨(wrap64 (jY + 1)), (by first | rfl | (simp; done) | (simp [*]; done)), H', ⟨by have := HK1.out; omega⟩, ⟨by (with_reducible repeat (first | apply Kd.qV | apply Kd.qW | apply Kd.jC)); exact qa0.out⟩, ⟨by repeat (first | (with_reducible first | exact HK.out | apply Kept.alloc | apply Kept.drewN | apply Kept.drew) | exact HK.out)⟩, ⟨by repeat (first | (with_reducible first | exact HB.out | apply qA | apply q9 | apply qB) | exact HB.out)⟩⟩
    ·rw [if_neg c4] at H
     exact absurd H (by simp)
   ·rw [if_neg c3] at H
    have jS6 : decide (jY < (l0.length : Int)) = false := decide_eq_false c3
    clear c3
    obtain ⟨y188, jS7⟩ : ∃ y_ : List Int, y_ = (([] : List Int)) := ⟨_, rfl⟩
    replace H : (if y188.length + l0.length < 17592186044416 then ((some (y188 ++ l0 : List Int)).bind fun y191 => (if y191.length < 17592186044416 then (some ((y191 ++ [a1]), (l0.length : Int))) else (none))) else (none)) = some (r1, r2) := by first | (rw [jS7]; with_reducible exact H) | (have H2_ := (Option.bind_some _ _).symm.trans H; rw [jS7]; with_reducible exact H2_) | (have H2_ := (Option.bind_some _ _).symm.trans H; with_reducible exact H2_) | with_reducible exact H | (rw [jS7]; exact H) | exact H
    have zW0 := q8.mk jS7
    clear jS7
    by_cases c8 : y188.length + l0.length < 17592186044416
    ·rw [if_pos c8] at H
     have LMc8 := q8.mk c8
     clear c8
     obtain ⟨y191, jS8⟩ : ∃ y_ : List Int, y_ = (y188 ++ l0) := ⟨_, rfl⟩
     replace H : (if y191.length < 17592186044416 then (some ((y191 ++ [a1]), (l0.length : Int))) else (none)) = some (r1, r2) := by first | (rw [jS8]; with_reducible exact H) | (have H2_ := (Option.bind_some _ _).symm.trans H; rw [jS8]; with_reducible exact H2_) | (have H2_ := (Option.bind_some _ _).symm.trans H; with_reducible exact H2_) | with_reducible exact H | (rw [jS8]; exact H) | exact H
     have Ql9 := q8.mk jS8
     clear jS8
     by_cases c9 : y191.length < 17592186044416
     ·rw [if_pos c9] at H
      have LMc9 := q8.mk c9
      clear c9
      obtain ⟨y194, jS9⟩ : ∃ y_ : List Int, y_ = (y191 ++ [a1]) := ⟨_, rfl⟩
      replace H : (some (y194, (l0.length : Int))) = some (r1, r2) := by first | (rw [jS9]; with_reducible exact H) | (have H2_ := (Option.bind_some _ _).symm.trans H; rw [jS9]; with_reducible exact H2_) | (have H2_ := (Option.bind_some _ _).symm.trans H; with_reducible exact H2_) | with_reducible exact H | (rw [jS9]; exact H) | exact H
      have Qm0 := q8.mk jS9
      clear jS9
      simp only [Option.some.injEq, Prod.mk.injEq] at H
      obtain ⟨rfl, rfl⟩ := H
      obtain ⟨Ao10, co10, eo10⟩ := Kd.qv5 qa0.out
      subst eo10
      go_wp2_with (first | ((with_reducible refine qa1 (N := 21) rfl ?_); refine Kd.jT0 (Kd.int .i64) _ 3 ?hg (N := 21) ?hd (xs := ([] : List Int)) (inner := []) (ok := fun _ => True) (okp := fun _ => True) ?hr ?hp (fun _ hk => hk) trivial (Below.refl _ _) (Nat.le_refl _) (by simp) ?_; (case hd => rfl); (case hg => rfl); (case hr => first | (go_simp; done) | (go_simp; rfl)); (case hp => exact (qc7.none _ _)); intro v189 w11 zr3 hb hg_ qD9; clear hg_ qD9; (first | rw [← zW0.out] at zr3 | (simp only [Int.reduceToNat] at zr3; rw [← zW0.out] at zr3)); have n0_ := q8.mk (Kd.jb5 (by (with_reducible repeat (first | apply Kd.qV | apply Kd.qW | apply Kd.jC)); exact qa0.out) (Kd.qv6 zr3) hb); have n1_ := q8.mk (Kd.qS9 (Kd.jI7 (Kd.jI8 (M := fun k_ => (P0_ k_ ∨ w.heap.size ≤ k_)) zr3 (by first | exact HK.out.1 | exact (show Kept w _ (fun k_ => P0_ k_) from by repeat (first | (with_reducible first | exact HK.out | apply Kept.alloc | apply Kept.drewN | apply Kept.drew) | exact HK.out)).1) (fun k_ h_ => .inr h_)) (Kd.qO9 (by (with_reducible repeat (first | apply Kd.qV | apply Kd.qW | apply Kd.jC)); exact qa0.out))) (qM (by repeat (first | (with_reducible first | exact HB.out | apply qA | apply q9 | apply qB) | exact HB.out)))); have n2_ := q8.mk (Kept.below (S := (fun k_ => P0_ k_)) (by repeat (first | (with_reducible first | exact HK.out | apply Kept.alloc | apply Kept.drewN | apply Kept.drew) | exact HK.out)) hb); have n3_ := q8.mk (jM (by repeat (first | (with_reducible first | exact HB.out | apply qA | apply q9 | apply qB) | exact HB.out)) hb); clear qa0; clear HK; clear HB; have qa0 := n0_; have zy8 := n1_; have HK := n2_; have HB := n3_; clear n0_ n1_ n2_ n3_; clear hb zr3) | ((with_reducible refine qm4 (b := .append) (xs := #[.tmp 21, .tmp 22]) rfl ?_); at_builtin; refine Kd.qU2 (Kd.int .i64) (w0 := w0) w0.heap.size rfl (.tmp 21) (.tmp 22) 29 3 (.int .i64 0) 8 rfl Try.underlying29 info3 rfl (by decide) (by omega) v189 y188 l0 _ _ _ (fun k_ => (P0_ k_ ∨ w.heap.size ≤ k_) ∧ some k_ ≠ (.slice Ao10 l0.length co10 : Value).ownBlock) (fun _ => False) rfl rfl ?aO ?aR (fun _ _ h => h) (fun _ h => h.elim) ?aF ?aB ?aS ?aL ?_; (case aR => repeat (first | exact (Kd.qz3 qa0.out).2.2 | (with_reducible refine Kd.qj2 ?_ _) | (with_reducible refine Kd.qj3 ?_ _) | (with_reducible refine Kd.qo6 ?_))); (case aB => exact (by repeat (first | (with_reducible first | exact HB.out | apply qA | apply q9 | apply qB) | exact HB.out))); (case aF => exact (fun k_ hk => ⟨(.inr (Nat.le_trans (by first | exact HK.out.1 | exact (show Kept w _ (fun k_ => P0_ k_) from by repeat (first | (with_reducible first | exact HK.out | apply Kept.alloc | apply Kept.drewN | apply Kept.drew) | exact HK.out)).1) hk)), Kd.fresh' (Kd.qO9 (by (with_reducible repeat (first | apply Kd.qV | apply Kd.qW | apply Kd.jC)); exact qa0.out)) k_ hk⟩)); (case aO => exact (by (with_reducible repeat (first | apply Kd.qV | apply Kd.qW | apply Kd.jC)); exact Kd.jK zy8.out (fun _ hk => ⟨hk.1.1, hk.2⟩))); (case aS => exact (qM (by repeat (first | (with_reducible first | exact HB.out | apply qA | apply q9 | apply qB) | exact HB.out)))); (case aL => have := LMc8.out; omega); intro v192 w13 ho hb hg hat; rw [← Ql9.out] at ho; have n0_ := q8.mk (Kd.zk9 (ok := (fun k_ => (P0_ k_ ∨ w.heap.size ≤ k_))) (by (with_reducible repeat (first | apply Kd.qV | apply Kd.qW | apply Kd.jC)); exact qa0.out) hg hat); have n1_ := q8.mk (hb); have n2_ := q8.mk (Kept.qy8 (S := (fun k_ => P0_ k_)) hg (by repeat (first | (with_reducible first | exact HK.out | apply Kept.alloc | apply Kept.drewN | apply Kept.drew) | exact HK.out)) (fun k_ e_ => (zy8.out.1 k_ e_).1.1)); have n3_ := q8.mk (ho); clear qa0; clear HB; clear HK; clear zy8; have qa0 := n0_; have HB := n1_; have HK := n2_; have zy9 := n3_; clear n0_ n1_ n2_ n3_; clear ho hb hg hat) | ((with_reducible refine qm4 (b := .append) (xs := #[.tmp 23, .tmp 25]) rfl ?_); at_builtin; refine Kd.jb6 (Kd.int .i64) (w0 := w0) w0.heap.size rfl (.tmp 23) (.tmp 25) 29 3 (.int .i64 0) 8 rfl Try.underlying29 info3 rfl (by decide) (by omega) v192 y191 a1 [.int .i64 a1] (fun k_ => (P0_ k_ ∨ w.heap.size ≤ k_) ∧ some k_ ≠ (.slice Ao10 l0.length co10 : Value).ownBlock) (fun _ => False) rfl rfl ?aP (fun _ hk => hk.elim) ?aF ?aO ?aB ?aS ?aL ?_; (case aP => exact rfl); (case aB => exact (by repeat (first | (with_reducible first | exact HB.out | apply qA | apply q9 | apply qB) | exact HB.out))); (case aF => exact (fun k_ hk => ⟨(.inr (Nat.le_trans (by first | exact HK.out.1 | exact (show Kept w _ (fun k_ => P0_ k_) from by repeat (first | (with_reducible first | exact HK.out | apply Kept.alloc | apply Kept.drewN | apply Kept.drew) | exact HK.out)).1) hk)), Kd.fresh' (Kd.qO9 (by (with_reducible repeat (first | apply Kd.qV | apply Kd.qW | apply Kd.jC)); exact qa0.out)) k_ hk⟩)); (case aO => exact (by (with_reducible repeat (first | apply Kd.qV | apply Kd.qW | apply Kd.jC)); exact zy9.out)); (case aS => exact (qM (by repeat (first | (with_reducible first | exact HB.out | apply qA | apply q9 | apply qB) | exact HB.out)))); (case aL => have := LMc9.out; omega); intro v195 w14 ho hb hg hat; rw [← Qm0.out] at ho; have n0_ := q8.mk (Kd.zk9 (ok := (fun k_ => (P0_ k_ ∨ w.heap.size ≤ k_))) (by (with_reducible repeat (first | apply Kd.qV | apply Kd.qW | apply Kd.jC)); exact qa0.out) hg hat); have n1_ := q8.mk (hb); have n2_ := q8.mk (Kept.qy8 (S := (fun k_ => P0_ k_)) hg (by repeat (first | (with_reducible first | exact HK.out | apply Kept.alloc | apply Kept.drewN | apply Kept.drew) | exact HK.out)) (fun k_ e_ => (zy9.out.1 k_ e_).1)); have n3_ := q8.mk (ho); clear qa0; clear HB; clear HK; clear zy9; have qa0 := n0_; have HB := n1_; have HK := n2_; have Qm1 := n3_; clear n0_ n1_ n2_ n3_; clear ho hb hg hat))
      go_ret2
      exact ⟨_, by first | rfl | (simp [jI, jJ] <;> rfl) | (simp [*, jI, jJ] <;> rfl), by (with_reducible repeat (first | apply Kd.qV | apply Kd.qW | apply Kd.jC)); exact Kd.jK Qm1.out (fun _ hk => hk.1), by repeat (first | (with_reducible first | exact HB.out | apply qA | apply q9 | apply qB) | exact HB.out), by repeat (first | (with_reducible first | exact HK.out | apply Kept.alloc | apply Kept.drewN | apply Kept.drew) | exact HK.out)⟩
     ·rw [if_neg c9] at H
      exact absurd H (by simp)
    ·rw [if_neg c8] at H
     exact absurd H (by simp)
end Go.Proofs.Ytngkneknopenmaa.T
end
section
namespace Go.Proofs.Ytngkneknopenmaa.T
open Go.Proofs.Ytngkneknopenmaa Go.Proofs.Ytngkneknopenmaa.za6 Go.Proofs.Ytngkneknopenmaa.K
open Go.RowKit Go.Proofs.YtngkneknopenmaaW.PrintWords Go.Proofs.YtngkneknopenmaaW.qi5 Go.Proofs.YtngkneknopenmaaW.ql6
attribute [local go_sem] qs6 qs7 qy1 qy2 qo3 qo4 qs8 qs9   -- for this text's walks alone
set_option linter.unusedVariables false
set_option linter.unusedSimpArgs false
mutual
def qL.l0 : Nat → List (S55) → List (S55) → List (S55) → List Int → List Int → List Int → Int → Option ((List (S55)))
 | 0, _, _, _, _, _, _, _ => none
 | k + 1, x0, x3, x4, x5, x6, x7, x8 => if x8 < (x4.length : Int) then (if 0 ≤ x8 then ((jA.f k x0 ((qD x4 x8).f1)).bind fun t213 => ((jA.f k x0 ((qD x4 x8).f2)).bind fun t215 => ((jB.f k x5 ((qD x4 x8).f0)).bind fun jk5 => (qL.l1 k x0 x3 x4 jk5.1 x6 x7 x8 0 jk5.2 t213 t215 ([] : List (S51)))))) else (none)) else (some x3)
def qL.l1 : Nat → List (S55) → List (S55) → List (S55) → List Int → List Int → List Int → Int → Int → Int → Int → Int → List (S51) → Option ((List (S55)))
 | 0, _, _, _, _, _, _, _, _, _, _, _, _ => none
 | k + 1, x0, x3, x4, x5, x6, x7, x8, x10, x217000, x217001, x217002, x217003 => if 0 ≤ x8 then (if x8 < (x4.length : Int) then (if x10 < (((qD x4 x8).f3).length : Int) then (if 0 ≤ x10 then ((jB.f k x6 ((qG ((qD x4 x8).f3) x10).f1)).bind fun zl0 => (if ((qG ((qD x4 x8).f3) x10).f2) = 0 then (if x217003.length < 5864062014805 then (qL.l1 k x0 x3 x4 x5 zl0.1 x7 x8 (wrap64 (x10 + 1)) x217000 x217001 x217002 (x217003 ++ [(⟨(qG ((qD x4 x8).f3) x10).f0, zl0.2, (qG ((qD x4 x8).f3) x10).f2⟩ : S51)])) else (none)) else ((jB.f k x7 ((qG ((qD x4 x8).f3) x10).f2)).bind fun jT1 => (if x217003.length < 5864062014805 then (qL.l1 k x0 x3 x4 x5 zl0.1 jT1.1 x8 (wrap64 (x10 + 1)) x217000 x217001 x217002 (x217003 ++ [(⟨(qG ((qD x4 x8).f3) x10).f0, zl0.2, wrap64 (jT1.2 + 1)⟩ : S51)])) else (none))))) else (none)) else (if x3.length < 2932031007402 then (qL.l0 k x0 (x3 ++ [(⟨x217000, x217001, x217002, x217003⟩ : S55)]) x4 x5 x6 x7 (wrap64 (x8 + 1))) else (none))) else (none)) else (none)
end
def qL.f (k : Nat) (l0 : List (S55)) : Option ((List (S55))) := (qF.f k l0).bind fun t200 => (qL.l0 k l0 (([] : List (S55))) t200 (([] : List Int)) (([] : List Int)) (([] : List Int)) 0)
def qL.T9 : Bool × List (List Nat × List Nat) := (true, [([], []), ([], []), ([], []), ([1, 2], [1, 2]), ([3], [3]), ([4], [4]), ([0, 5], [0, 5]), ([], []), ([], []), ([], []), ([8, 9], [8, 9]), ([10], [10]), ([11], [11]), ([7, 12, 6], [7, 12]), ([6, 13], [6, 13]), ([], []), ([15, 14, 13, 0, 1, 2, 3, 4, 5, 6, 7, 8, 9, 10, 11, 12, 13, 14, 15], [14, 15])])
def qL.B9 : List Nat := [0, 0, 0, 6, 14, 30, 63, 0, 0, 0, 768, 1792, 3840, 8191, 16383, 0, 65535]
theorem qL.tab9 : qC2 .any (opsOf Try.f17 9) = qL.T9 := by kernel_rfl
theorem qL.Qm2 : qK5 qL.T9.2 qL.B9 = true := by kernel_rfl
set_option maxHeartbeats 8000000 in
set_option maxRecDepth 100000 in
theorem qL.calls (k : Nat) (P0_ : Nat → Prop) (A0 : Option Addr) (c0 : Nat) (l0 : List (S55)) (r : List (S55)) (w : World) (hs0 : Kd.V k55 55 w w.heap.size (fun k_ => P0_ k_) (.slice A0 l0.length c0) l0) (h : qL.f k l0 = some r) :
  Calls Try.prog 17 #[.slice A0 l0.length c0] w fun e w' => ∃ v0_ : Value, e = .returned (v0_) ∧ Kd.N k55 55 w' w.heap.size (fun k_ => (P0_ k_ ∨ w.heap.size ≤ k_)) v0_ r ∧ Below w.heap.size w w' := by
 have zI6 := Try.underlying55
 have zz0 := Try.underlying51
 have HO0 := q8.mk (show Kd.V k55 55 w w.heap.size (fun k_ => (P0_ k_ ∨ w.heap.size ≤ k_)) (.slice A0 l0.length c0) l0 from Kd.zO hs0 (fun k_ hk => .inl hk))
 have HB := q8.mk (Below.refl w.heap.size w)
 have H : ((qF.f k l0).bind fun t200 => (qL.l0 k l0 (([] : List (S55))) t200 (([] : List Int)) (([] : List Int)) (([] : List Int)) 0)) = some r := h
 clear h
 obtain ⟨y197, jT2⟩ : ∃ y_ : List (S55), y_ = (([] : List (S55))) := ⟨_, rfl⟩
 replace H : ((qF.f k l0).bind fun t200 => (qL.l0 k l0 y197 t200 (([] : List Int)) (([] : List Int)) (([] : List Int)) 0)) = some r := by first | (rw [jT2]; with_reducible exact H) | (have H2_ := (Option.bind_some _ _).symm.trans H; rw [jT2]; with_reducible exact H2_) | (have H2_ := (Option.bind_some _ _).symm.trans H; with_reducible exact H2_) | with_reducible exact H | (rw [jT2]; exact H) | exact H
 have zW1 := q8.mk jT2
 clear jT2
 replace H := Option.bind_eq_some_iff.mp H
 obtain ⟨t200, A20, H⟩ := H
 replace H : (qL.l0 k l0 y197 t200 (([] : List Int)) (([] : List Int)) (([] : List Int)) 0) = some r := H
 have A2 := q8.mk A20
 clear A20
 obtain ⟨y203, jT3⟩ : ∃ y_ : List Int, y_ = (([] : List Int)) := ⟨_, rfl⟩
 replace H : (qL.l0 k l0 y197 t200 y203 (([] : List Int)) (([] : List Int)) 0) = some r := by first | (rw [jT3]; with_reducible exact H) | (have H2_ := (Option.bind_some _ _).symm.trans H; rw [jT3]; with_reducible exact H2_) | (have H2_ := (Option.bind_some _ _).symm.trans H; with_reducible exact H2_) | with_reducible exact H | (rw [jT3]; exact H) | exact H
 have zW2 := q8.mk jT3
 clear jT3
 obtain ⟨y206, jT4⟩ : ∃ y_ : List Int, y_ = (([] : List Int)) := ⟨_, rfl⟩
 replace H : (qL.l0 k l0 y197 t200 y203 y206 (([] : List Int)) 0) = some r := by first | (rw [jT4]; with_reducible exact H) | (have H2_ := (Option.bind_some _ _).symm.trans H; rw [jT4]; with_reducible exact H2_) | (have H2_ := (Option.bind_some _ _).symm.trans H; with_reducible exact H2_) | with_reducible exact H | (rw [jT4]; exact H) | exact H
 have zW3 := q8.mk jT4
 clear jT4
 obtain ⟨y209, jT5⟩ : ∃ y_ : List Int, y_ = (([] : List Int)) := ⟨_, rfl⟩
 replace H : (qL.l0 k l0 y197 t200 y203 y206 y209 0) = some r := by first | (rw [jT5]; with_reducible exact H) | (have H2_ := (Option.bind_some _ _).symm.trans H; rw [jT5]; with_reducible exact H2_) | (have H2_ := (Option.bind_some _ _).symm.trans H; with_reducible exact H2_) | with_reducible exact H | (rw [jT5]; exact H) | exact H
 have zW4 := q8.mk jT5
 clear jT5
 have H' := q8.mk H
 clear H
 go_enter Try.func17, Try.ntmps17
 go_wp2_with (first | ((with_reducible refine qa1 (N := 12) rfl ?_); refine Kd.zx8 k55 _ 55 ?hg (N' := 12) ?hd (xs := ([] : List (S55))) (inner := []) (ok := (fun k_ => (P0_ k_ ∨ w.heap.size ≤ k_))) (okp := (fun k_ => (P0_ k_ ∨ w.heap.size ≤ k_))) ?hr ?hp (fun _ hk => hk) ((show ∀ k_, w.heap.size ≤ k_ → (fun k_ => (P0_ k_ ∨ w.heap.size ≤ k_)) k_ from fun k_ hk => (.inr (Nat.le_trans (qM (by repeat (first | (with_reducible first | exact HB.out | apply qA | apply q9 | apply qB) | exact HB.out))) hk))) _ (Nat.le_refl _)) (Below.refl _ _) (Nat.le_refl _) (by simp) ?_; (case hd => rfl); (case hg => rfl); (case hr => first | (go_simp; done) | (go_simp; rfl)); (case hp => exact (qc7.none _ _)); intro v198 w3 ho4 hb hg_ qD9; clear hg_ qD9; (first | rw [← zW1.out] at ho4 | (simp only [Int.reduceToNat] at ho4; rw [← zW1.out] at ho4)); have n0_ := q8.mk (Kd.qt0 (by (with_reducible repeat (first | apply Kd.jP | apply Kd.jQ | apply Kd.zC)); exact HO0.out) (Kd.qE0 ho4) hb); have n1_ := q8.mk (Kd.qZ8 ho4 (qM (by repeat (first | (with_reducible first | exact HB.out | apply qA | apply q9 | apply qB) | exact HB.out)))); have n2_ := q8.mk (jM (by repeat (first | (with_reducible first | exact HB.out | apply qA | apply q9 | apply qB) | exact HB.out)) hb); clear HO0; clear HB; have HO0 := n0_; have qF6 := n1_; have HB := n2_; clear n0_ n1_ n2_; clear hb ho4) | ((with_reducible refine qk3 (f := 43) rfl ?_); refine qL3 (some 14) rfl rfl Try.func43 (by kernel_rfl) rfl #[.slice A0 l0.length c0] rfl (by (try simp only [List.map_toArray, List.map_cons, List.map_nil]); first | done | rfl | (simp only [List.length_drop, List.length_take]; rfl)) ?_; (with_reducible refine (qF.calls k (fun k_ => ((P0_ k_ ∨ w.heap.size ≤ k_) ∧ some k_ ≠ (v198 : Value).ownBlock)) _ _ l0 t200 _ ?qv7 A2.out).mono ?_); (case qv7 => exact HO0.out); rintro e w5 ⟨v201, rfl, ho0, hb⟩; refine ⟨_, rfl, ?_⟩; have n0_ := q8.mk (Kd.qt0 (by (with_reducible repeat (first | apply Kd.jP | apply Kd.jQ | apply Kd.zC)); exact HO0.out) (Kd.qE0 ho0) hb); have n1_ := q8.mk (Kd.qt1 (by (with_reducible repeat (first | apply Kd.jD | apply Kd.jE | apply Kd.jH)); exact qF6.out) (Kd.qE0 ho0) hb); have n2_ := q8.mk (Kd.qZ8 (Kd.zA (ok' := fun k_ => (P0_ k_ ∨ w.heap.size ≤ k_) ∧ some k_ ≠ (v198 : Value).ownBlock) ho0 (fun k_ hk_ => ⟨Or.elim hk_ (fun hs_ => hs_.1) (fun hn_ => (.inr (Nat.le_trans (qM (by repeat (first | (with_reducible first | exact HB.out | apply qA | apply q9 | apply qB) | exact HB.out))) hn_))), Or.elim hk_ (fun hs_ => hs_.2) (fun hn_ => (Kd.fresh' (Kd.jy3 (by (with_reducible repeat (first | apply Kd.jD | apply Kd.jE | apply Kd.jH)); exact qF6.out)) k_ hn_))⟩)) (qM (by repeat (first | (with_reducible first | exact HB.out | apply qA | apply q9 | apply qB) | exact HB.out)))); have n3_ := q8.mk (jM (by repeat (first | (with_reducible first | exact HB.out | apply qA | apply q9 | apply qB) | exact HB.out)) hb); clear HO0; clear qF6; clear HB; have HO0 := n0_; have qF6 := n1_; have qU3 := n2_; have HB := n3_; clear n0_ n1_ n2_ n3_; (try clear hb); (try clear hb2); (try clear hk); (try clear hi); (try clear ho0)) | ((with_reducible refine qa1 (N := 15) rfl ?_); refine Kd.jT0 (Kd.int .i64) _ 3 ?hg (N := 15) ?hd (xs := ([] : List Int)) (inner := []) (ok := fun _ => True) (okp := fun _ => True) ?hr ?hp (fun _ hk => hk) trivial (Below.refl _ _) (Nat.le_refl _) (by simp) ?_; (case hd => rfl); (case hg => rfl); (case hr => first | (go_simp; done) | (go_simp; rfl)); (case hp => exact (qc7.none _ _)); intro v204 w6 ho7 hb hg_ qD9; clear hg_ qD9; (first | rw [← zW2.out] at ho7 | (simp only [Int.reduceToNat] at ho7; rw [← zW2.out] at ho7)); have n0_ := q8.mk (Kd.qt0 (by (with_reducible repeat (first | apply Kd.jP | apply Kd.jQ | apply Kd.zC)); exact HO0.out) (Kd.qv6 ho7) hb); have n1_ := q8.mk (Kd.qt1 (by (with_reducible repeat (first | apply Kd.jD | apply Kd.jE | apply Kd.jH)); exact qF6.out) (Kd.qv6 ho7) hb); have n2_ := q8.mk (Kd.qt1 (by (with_reducible repeat (first | apply Kd.jD | apply Kd.jE | apply Kd.jH)); exact qU3.out) (Kd.qv6 ho7) hb); have n3_ := q8.mk (Kd.qS9 (Kd.jI8 (M := fun k_ => (w.heap.size ≤ k_)) ho7 (qM (by repeat (first | (with_reducible first | exact HB.out | apply qA | apply q9 | apply qB) | exact HB.out))) (fun k_ h_ => h_)) (qM (by repeat (first | (with_reducible first | exact HB.out | apply qA | apply q9 | apply qB) | exact HB.out)))); have n4_ := q8.mk (jM (by repeat (first | (with_reducible first | exact HB.out | apply qA | apply q9 | apply qB) | exact HB.out)) hb); clear HO0; clear qF6; clear qU3; clear HB; have HO0 := n0_; have qF6 := n1_; have qU3 := n2_; have jb7 := n3_; have HB := n4_; clear n0_ n1_ n2_ n3_ n4_; clear hb ho7) | ((with_reducible refine qa1 (N := 16) rfl ?_); refine Kd.jT0 (Kd.int .i64) _ 3 ?hg (N := 16) ?hd (xs := ([] : List Int)) (inner := []) (ok := fun _ => True) (okp := fun _ => True) ?hr ?hp (fun _ hk => hk) trivial (Below.refl _ _) (Nat.le_refl _) (by simp) ?_; (case hd => rfl); (case hg => rfl); (case hr => first | (go_simp; done) | (go_simp; rfl)); (case hp => exact (qc7.none _ _)); intro v207 w8 ho9 hb hg_ qD9; clear hg_ qD9; (first | rw [← zW3.out] at ho9 | (simp only [Int.reduceToNat] at ho9; rw [← zW3.out] at ho9)); have n0_ := q8.mk (Kd.qt0 (by (with_reducible repeat (first | apply Kd.jP | apply Kd.jQ | apply Kd.zC)); exact HO0.out) (Kd.qv6 ho9) hb); have n1_ := q8.mk (Kd.qt1 (by (with_reducible repeat (first | apply Kd.jD | apply Kd.jE | apply Kd.jH)); exact qF6.out) (Kd.qv6 ho9) hb); have n2_ := q8.mk (Kd.qt1 (by (with_reducible repeat (first | apply Kd.jD | apply Kd.jE | apply Kd.jH)); exact qU3.out) (Kd.qv6 ho9) hb); have n3_ := q8.mk (Kd.jb5 (by (with_reducible repeat (first | apply Kd.qV | apply Kd.qW | apply Kd.jC)); exact jb7.out) (Kd.qv6 ho9) hb); have n4_ := q8.mk (Kd.qS9 (Kd.jI7 (Kd.jI8 (M := fun k_ => (w.heap.size ≤ k_)) ho9 (qM (by repeat (first | (with_reducible first | exact HB.out | apply qA | apply q9 | apply qB) | exact HB.out))) (fun k_ h_ => h_)) (Kd.qO9 (by (with_reducible repeat (first | apply Kd.qV | apply Kd.qW | apply Kd.jC)); exact jb7.out))) (qM (by repeat (first | (with_reducible first | exact HB.out | apply qA | apply q9 | apply qB) | exact HB.out)))); have n5_ := q8.mk (jM (by repeat (first | (with_reducible first | exact HB.out | apply qA | apply q9 | apply qB) | exact HB.out)) hb); clear HO0; clear qF6; clear qU3; clear jb7; clear HB; have HO0 := n0_; have qF6 := n1_; have qU3 := n2_; have jb7 := n3_; have jT6 := n4_; have HB := n5_; clear n0_ n1_ n2_ n3_ n4_ n5_; clear hb ho9) | ((with_reducible refine qa1 (N := 17) rfl ?_); refine Kd.jT0 (Kd.int .i64) _ 3 ?hg (N := 17) ?hd (xs := ([] : List Int)) (inner := []) (ok := fun _ => True) (okp := fun _ => True) ?hr ?hp (fun _ hk => hk) trivial (Below.refl _ _) (Nat.le_refl _) (by simp) ?_; (case hd => rfl); (case hg => rfl); (case hr => first | (go_simp; done) | (go_simp; rfl)); (case hp => exact (qc7.none _ _)); intro v210 w10 jy6 hb hg_ qD9; clear hg_ qD9; (first | rw [← zW4.out] at jy6 | (simp only [Int.reduceToNat] at jy6; rw [← zW4.out] at jy6)); have n0_ := q8.mk (Kd.qt0 (by (with_reducible repeat (first | apply Kd.jP | apply Kd.jQ | apply Kd.zC)); exact HO0.out) (Kd.qv6 jy6) hb); have n1_ := q8.mk (Kd.qt1 (by (with_reducible repeat (first | apply Kd.jD | apply Kd.jE | apply Kd.jH)); exact qF6.out) (Kd.qv6 jy6) hb); have n2_ := q8.mk (Kd.qt1 (by (with_reducible repeat (first | apply Kd.jD | apply Kd.jE | apply Kd.jH)); exact qU3.out) (Kd.qv6 jy6) hb); have n3_ := q8.mk (Kd.jb5 (by (with_reducible repeat (first | apply Kd.qV | apply Kd.qW | apply Kd.jC)); exact jb7.out) (Kd.qv6 jy6) hb); have n4_ := q8.mk (Kd.jb5 (by (with_reducible repeat (first | apply Kd.qV | apply Kd.qW | apply Kd.jC)); exact jT6.out) (Kd.qv6 jy6) hb); have n5_ := q8.mk (Kd.qS9 (Kd.jI7 (Kd.jI7 (Kd.jI8 (M := fun k_ => (w.heap.size ≤ k_)) jy6 (qM (by repeat (first | (with_reducible first | exact HB.out | apply qA | apply q9 | apply qB) | exact HB.out))) (fun k_ h_ => h_)) (Kd.qO9 (by (with_reducible repeat (first | apply Kd.qV | apply Kd.qW | apply Kd.jC)); exact jb7.out))) (Kd.qO9 (by (with_reducible repeat (first | apply Kd.qV | apply Kd.qW | apply Kd.jC)); exact jT6.out))) (qM (by repeat (first | (with_reducible first | exact HB.out | apply qA | apply q9 | apply qB) | exact HB.out)))); have n6_ := q8.mk (jM (by repeat (first | (with_reducible first | exact HB.out | apply qA | apply q9 | apply qB) | exact HB.out)) hb); clear HO0; clear qF6; clear qU3; clear jb7; clear jT6; clear HB; have HO0 := n0_; have qF6 := n1_; have qU3 := n2_; have jb7 := n3_; have jT6 := n4_; have Qm3 := n5_; have HB := n6_; clear n0_ n1_ n2_ n3_ n4_ n5_ n6_; clear hb jy6))
 go_loopg [3, 5, 6, 7, 8] k (fun kq v3 v5 v6 v7 v8 w' => ∃ (ql7 : List (S55)) (qA4 : List Int) (jY : List Int) (qb3 : List Int) (qO : Int), v8 = .int .i64 qO ∧ q8 (qL.l0 kq l0 ql7 t200 qA4 jY qb3 qO = some r) ∧ q8 (kq ≤ k) ∧ q8 (Kd.V k55 55 w' w.heap.size (fun k_ => (P0_ k_ ∨ w.heap.size ≤ k_) ∧ some k_ ≠ (v3 : Value).ownBlock ∧ some k_ ≠ (v201 : Value).ownBlock ∧ some k_ ≠ (v5 : Value).ownBlock ∧ some k_ ≠ (v6 : Value).ownBlock ∧ some k_ ≠ (v7 : Value).ownBlock) (.slice A0 l0.length c0) l0) ∧ q8 (Kd.N k55 55 w' w.heap.size (fun k_ => (P0_ k_ ∨ w.heap.size ≤ k_) ∧ some k_ ≠ (v201 : Value).ownBlock ∧ some k_ ≠ (v5 : Value).ownBlock ∧ some k_ ≠ (v6 : Value).ownBlock ∧ some k_ ≠ (v7 : Value).ownBlock) v3 ql7) ∧ q8 (Kd.N k55 55 w' w.heap.size (fun k_ => (P0_ k_ ∨ w.heap.size ≤ k_) ∧ some k_ ≠ (v3 : Value).ownBlock ∧ some k_ ≠ (v5 : Value).ownBlock ∧ some k_ ≠ (v6 : Value).ownBlock ∧ some k_ ≠ (v7 : Value).ownBlock) v201 t200) ∧ q8 (Kd.R (Kd.int .i64) 3 w' w.heap.size (fun k_ => (w.heap.size ≤ k_) ∧ some k_ ≠ (v6 : Value).ownBlock ∧ some k_ ≠ (v7 : Value).ownBlock) v5 qA4) ∧ q8 (Kd.R (Kd.int .i64) 3 w' w.heap.size (fun k_ => (w.heap.size ≤ k_) ∧ some k_ ≠ (v5 : Value).ownBlock ∧ some k_ ≠ (v7 : Value).ownBlock) v6 jY) ∧ q8 (Kd.R (Kd.int .i64) 3 w' w.heap.size (fun k_ => (w.heap.size ≤ k_) ∧ some k_ ≠ (v5 : Value).ownBlock ∧ some k_ ≠ (v6 : Value).ownBlock) v7 qb3) ∧ q8 (Below w.heap.size w w'))
 case atStart => exact ⟨(y197), (y203), (y206), (y209), (0), (by first | rfl | (simp; done) | (simp [*]; done)), H', ⟨Nat.le_refl _⟩, ⟨by (with_reducible repeat (first | apply Kd.jP | apply Kd.jQ | apply Kd.zC)); exact Kd.zO HO0.out (fun _ hk => ⟨hk.1.1.1.1.1, ⟨hk.1.1.1.1.2, ⟨hk.1.1.1.2, ⟨hk.1.1.2, ⟨hk.1.2, hk.2⟩⟩⟩⟩⟩)⟩, ⟨by (with_reducible repeat (first | apply Kd.jD | apply Kd.jE | apply Kd.jH)); exact Kd.zA qF6.out (fun _ hk => ⟨hk.1.1.1.1, ⟨hk.1.1.1.2, ⟨hk.1.1.2, ⟨hk.1.2, hk.2⟩⟩⟩⟩)⟩, ⟨by (with_reducible repeat (first | apply Kd.jD | apply Kd.jE | apply Kd.jH)); exact Kd.zA qU3.out (fun _ hk => ⟨hk.1.1.1.1, ⟨hk.1.1.1.2, ⟨hk.1.1.2, ⟨hk.1.2, hk.2⟩⟩⟩⟩)⟩, ⟨by (with_reducible repeat (first | apply Kd.qV | apply Kd.qW | apply Kd.jC)); exact Kd.jK jb7.out (fun _ hk => ⟨hk.1.1.1, ⟨hk.1.2, hk.2⟩⟩)⟩, ⟨by (with_reducible repeat (first | apply Kd.qV | apply Kd.qW | apply Kd.jC)); exact Kd.jK jT6.out (fun _ hk => ⟨hk.1.1.1, ⟨hk.1.2, hk.2⟩⟩)⟩, ⟨by (with_reducible repeat (first | apply Kd.qV | apply Kd.qW | apply Kd.jC)); exact Kd.jK Qm3.out (fun _ hk => ⟨hk.1.1.1, ⟨hk.1.2, hk.2⟩⟩)⟩, ⟨by repeat (first | (with_reducible first | exact HB.out | apply qA | apply q9 | apply qB) | exact HB.out)⟩⟩
 case round =>
  clear H'
  try clear c1
  try clear p2
  try clear c4
  obtain ⟨ql7, qA4, jY, qb3, qO, rfl, HA, HK1, qa0, qa8, qU, qd0, qf0, qd2, HB⟩ := hrel
  cases gk with
  | zero => exact absurd HA.out (by simp [qL.l0])
  | succ k1 =>
   have H := HA.out
   clear HA
   simp only [qL.l0] at H
   by_cases c12 : qO < (t200.length : Int)
   ·rw [if_pos c12] at H
    have qI5 : decide (qO < (t200.length : Int)) = true := decide_eq_true c12
    clear c12
    by_cases c13 : 0 ≤ qO
    ·rw [if_pos c13] at H
     have zV0 : decide (0 ≤ qO) = true := decide_eq_true c13
     clear c13
     replace H := Option.bind_eq_some_iff.mp H
     obtain ⟨t213, A140, H⟩ := H
     replace H : ((jA.f k1 l0 ((qD t200 qO).f2)).bind fun t215 => ((jB.f k1 qA4 ((qD t200 qO).f0)).bind fun jk5 => (qL.l1 k1 l0 ql7 t200 jk5.1 jY qb3 qO 0 jk5.2 t213 t215 ([] : List (S51))))) = some r := H
     have A14 := q8.mk A140
     clear A140
     replace H := Option.bind_eq_some_iff.mp H
     obtain ⟨t215, A150, H⟩ := H
     replace H : ((jB.f k1 qA4 ((qD t200 qO).f0)).bind fun jk5 => (qL.l1 k1 l0 ql7 t200 jk5.1 jY qb3 qO 0 jk5.2 t213 t215 ([] : List (S51)))) = some r := H
     have A15 := q8.mk A150
     clear A150
     replace H := Option.bind_eq_some_iff.mp H
     obtain ⟨⟨t218, t221⟩, A160, H⟩ := H
     replace H : (qL.l1 k1 l0 ql7 t200 t218 jY qb3 qO 0 t221 t213 t215 ([] : List (S51))) = some r := H
     have A16 := q8.mk A160
     clear A160
     have H' := q8.mk H
     clear H
     obtain ⟨Ao17, qh6, eo17⟩ := Kd.qS7 qU.out
     subst eo17
     try go_wp2
     have n0_ := q8.mk (Kd.zC qa0.out)
     have n1_ := q8.mk (Kd.jH qa8.out)
     have n2_ := q8.mk (Kd.jH qU.out)
     have n3_ := q8.mk (Kd.jC qd0.out)
     have n4_ := q8.mk (Kd.jC qf0.out)
     have n5_ := q8.mk (Kd.jC qd2.out)
     have n6_ := q8.mk (qB HB.out)
     clear qa0
     clear qa8
     clear qU
     clear qd0
     clear qf0
     clear qd2
     clear HB
     have qa0 := n0_
     have qa8 := n1_
     have qU := n2_
     have qd0 := n3_
     have qf0 := n4_
     have qd2 := n5_
     have HB := n6_
     clear n0_ n1_ n2_ n3_ n4_ n5_ n6_
     have zz1 : 0 ≤ (qO : Int) := of_decide_eq_true (by first | (with_reducible assumption) | assumption)
     have zz2 : qO < (t200.length : Int) := of_decide_eq_true (by first | (with_reducible assumption) | assumption)
     obtain ⟨jT, qA5, qA6, e212, jI9, jJ0, jJ1, jb8, zl1, zl2⟩ := qa9 (Kd.zY qU.out).2.2 qO zz1 zz2
     cases e212
     obtain ⟨ce212, Qb7, Qb8, zz3⟩ := Kd.qI6 qU.out z55 qO zz1 (by first | exact zz2 | exact of_decide_eq_true (by first | (with_reducible assumption) | assumption) | (have e_ := (Kd.zY qU.out).1; omega))
     obtain ⟨Qs6, Qs7, rfl, jJ2, jJ3⟩ := qi6 Qb8
     have jm8 := zz3 3 _ rfl
     rw [zS _ _ 3 (by omega)] at jm8
     replace jm8 := Option.some.inj (jm8.symm.trans jb8)
     injection jm8 with qo0 qA3 qo1
     rw [qo0] at jJ3
     rw [qo1] at jJ2
     have qj4 := q8.mk (show Kd.V k51 51 _ w.heap.size _ _ ((qD t200 qO).f3) from Kd.qT7 jJ2 jJ3)
     clear qo0 qA3 qo1 jJ3 jJ2
     clear zz3 Qb7
     have qq9 := q8.mk zl2
     have Qs8 := q8.mk zl1
     clear zl2 zl1
     replace zz1 := eq_true zz1
     replace zz2 := eq_true zz2
     have zz4 : 0 ≤ (qO : Int) := of_decide_eq_true (by first | (with_reducible assumption) | assumption)
     have zz5 : qO < (t200.length : Int) := of_decide_eq_true (by first | (with_reducible assumption) | assumption)
     obtain ⟨Qm4, A214_3, c214_3, e214, jJ4, jJ5, jJ6, jb9, zl3, zl4⟩ := qa9 (Kd.zY qU.out).2.2 qO zz4 zz5
     obtain rfl : jT = Qm4 := (by injection e214)
     obtain ⟨ce214, Qb9, Qc0, zz6⟩ := Kd.qI6 qU.out z55 qO zz4 (by first | exact zz5 | exact of_decide_eq_true (by first | (with_reducible assumption) | assumption) | (have e_ := (Kd.zY qU.out).1; omega))
     obtain ⟨Qs9, Qt0, rfl, jJ7, jJ8⟩ := qi6 Qc0
     have jm9 := zz6 3 _ rfl
     rw [zS _ _ 3 (by omega)] at jm9
     replace jm9 := Option.some.inj (jm9.symm.trans jb9)
     injection jm9 with qo0 qA3 qo1
     rw [qo0] at jJ8
     rw [qo1] at jJ7
     have qj5 := q8.mk (show Kd.V k51 51 _ w.heap.size _ _ ((qD t200 qO).f3) from Kd.qT7 jJ7 jJ8)
     clear qo0 qA3 qo1 jJ8 jJ7
     clear zz6 Qb9
     have qr0 := q8.mk zl4
     have Qt1 := q8.mk zl3
     clear zl4 zl3
     replace zz4 := eq_true zz4
     replace zz5 := eq_true zz5
     have ea_ := Option.some.inj (jb8.symm.trans jb9)
     injection ea_ with ea_ en_ ec_
     subst ea_
     subst ec_
     clear en_
     refine jH5 (n := 17) (S := fun w' => w'.cell? (jT.add ((qO).toNat * 4)) = some (.int .i64 ((qD t200 qO).f0)) ∧ w'.cell? ⟨(jT.add ((qO).toNat * 4)).block, (jT.add ((qO).toNat * 4)).off + 1, none⟩ = some (.int .i64 ((qD t200 qO).f1)) ∧ w'.cell? ⟨(jT.add ((qO).toNat * 4)).block, (jT.add ((qO).toNat * 4)).off + 2, none⟩ = some (.int .i64 ((qD t200 qO).f2)) ∧ w'.cell? ⟨(jT.add ((qO).toNat * 4)).block, (jT.add ((qO).toNat * 4)).off + 3, none⟩ = some (.slice qA5 ((qD t200 qO).f3).length qA6) ∧ w'.cell? (jT.add ((qO).toNat * 4)) = some (.int .i64 ((qD t200 qO).f0)) ∧ w'.cell? ⟨(jT.add ((qO).toNat * 4)).block, (jT.add ((qO).toNat * 4)).off + 1, none⟩ = some (.int .i64 ((qD t200 qO).f1)) ∧ w'.cell? ⟨(jT.add ((qO).toNat * 4)).block, (jT.add ((qO).toNat * 4)).off + 2, none⟩ = some (.int .i64 ((qD t200 qO).f2)) ∧ w'.cell? ⟨(jT.add ((qO).toNat * 4)).block, (jT.add ((qO).toNat * 4)).off + 3, none⟩ = some (.slice qA5 ((qD t200 qO).f3).length qA6)) (ds := []) #[false, false, false, false, false, false, false, false, false, false, false, false, false, false, false, false, false] (by kernel_rfl) rfl rfl ⟨jI9, jJ0, jJ1, jb8, jJ4, jJ5, jJ6, jb9⟩ (fun hHeld => ?_); refine qS8 qL.tab9 qL.Qm2 (fun HT_ HW_ => ?_)
     generalize wr.drew = w18 at qa0 qa8 qU qd0 qf0 qd2 HB qj4 qj5 qq9 qr0 jI9 jJ0 jJ1 jb8 jJ4 jJ5 jJ6 jb9 hHeld ⊢
     refine qf5 (i := 0) (N := some 24) (v := ?_) (a' := ?_) #[true, false, false, false, false, false, false, false, false, false, false, false, false, false, false, false, false] rfl rfl (qb5 HT_.out (by kernel_rfl)) (fun _ _ _ h => h) (Or.inl ⟨by rfl, ?_⟩) ?_ ?_
     rotate_left
     ·intro w'
      go_simp
      with_reducible rfl
     rotate_left
     ·simp only [Act.put, List.setIfInBounds_toArray, List.set_cons_zero, List.set_cons_succ, qa2, qa3]
      rfl
     refine qf5 (i := 1) (N := some 25) (v := ?_) (a' := ?_) #[true, true, false, false, false, false, false, false, false, false, false, false, false, false, false, false, false] rfl rfl (qb5 HT_.out (by kernel_rfl)) (fun _ _ _ h => h) (Or.inl ⟨by rfl, ?_⟩) ?_ ?_
     rotate_left
     ·intro w'
      go_simp
      with_reducible rfl
     rotate_left
     ·simp only [Act.put, List.setIfInBounds_toArray, List.set_cons_zero, List.set_cons_succ, qa2, qa3]
      rfl
     refine qf5 (i := 2) (N := some 26) (v := ?_) (a' := ?_) #[true, true, true, false, false, false, false, false, false, false, false, false, false, false, false, false, false] rfl rfl (qb5 HT_.out (by kernel_rfl)) (fun _ _ _ h => h) (Or.inl ⟨by rfl, ?_⟩) ?_ ?_
     rotate_left
     ·intro w'
      go_simp
      with_reducible rfl
     rotate_left
     ·simp only [Act.put, List.setIfInBounds_toArray, List.set_cons_zero, List.set_cons_succ, qa2, qa3]
      rfl
     refine qf5 (i := 3) (N := some 27) (v := ?_) (a' := ?_) #[true, true, true, true, false, false, false, false, false, false, false, false, false, false, false, false, false] rfl rfl (qb5 HT_.out (by kernel_rfl)) (fun _ _ _ h => h) (Or.inl ⟨by rfl, ?_⟩) ?_ ?_
     rotate_left
     ·intro w'
      go_simp
      with_reducible rfl
     rotate_left
     ·simp only [Act.put, List.setIfInBounds_toArray, List.set_cons_zero, List.set_cons_succ, qa2, qa3]
      rfl
     refine qf5 (i := 4) (N := some 28) (v := ?_) (a' := ?_) #[true, true, true, true, true, false, false, false, false, false, false, false, false, false, false, false, false] rfl rfl (qb5 HT_.out (by kernel_rfl)) (fun _ _ _ h => h) (Or.inl ⟨by rfl, ?_⟩) ?_ ?_
     rotate_left
     ·intro w'
      go_simp
      with_reducible rfl
     rotate_left
     ·simp only [Act.put, List.setIfInBounds_toArray, List.set_cons_zero, List.set_cons_succ, qa2, qa3]
      rfl
     refine qf5 (i := 7) (N := some 31) (v := ?_) (a' := ?_) #[true, true, true, true, true, false, false, true, false, false, false, false, false, false, false, false, false] rfl rfl (qb5 HT_.out (by kernel_rfl)) (fun _ _ _ h => h) (Or.inl ⟨by rfl, ?_⟩) ?_ ?_
     rotate_left
     ·intro w'
      go_simp
      with_reducible rfl
     rotate_left
     ·simp only [Act.put, List.setIfInBounds_toArray, List.set_cons_zero, List.set_cons_succ, qa2, qa3]
      rfl
     refine qf5 (i := 8) (N := some 32) (v := ?_) (a' := ?_) #[true, true, true, true, true, false, false, true, true, false, false, false, false, false, false, false, false] rfl rfl (qb5 HT_.out (by kernel_rfl)) (fun _ _ _ h => h) (Or.inl ⟨by rfl, ?_⟩) ?_ ?_
     rotate_left
     ·intro w'
      go_simp
      with_reducible rfl
     rotate_left
     ·simp only [Act.put, List.setIfInBounds_toArray, List.set_cons_zero, List.set_cons_succ, qa2, qa3]
      rfl
     refine qf5 (i := 9) (N := some 33) (v := ?_) (a' := ?_) #[true, true, true, true, true, false, false, true, true, true, false, false, false, false, false, false, false] rfl rfl (qb5 HT_.out (by kernel_rfl)) (fun _ _ _ h => h) (Or.inl ⟨by rfl, ?_⟩) ?_ ?_
     rotate_left
     ·intro w'
      go_simp
      with_reducible rfl
     rotate_left
     ·simp only [Act.put, List.setIfInBounds_toArray, List.set_cons_zero, List.set_cons_succ, qa2, qa3]
      rfl
     refine qf5 (i := 10) (N := some 34) (v := ?_) (a' := ?_) #[true, true, true, true, true, false, false, true, true, true, true, false, false, false, false, false, false] rfl rfl (qb5 HT_.out (by kernel_rfl)) (fun _ _ _ h => h) (Or.inl ⟨by rfl, ?_⟩) ?_ ?_
     rotate_left
     ·intro w'
      go_simp
      with_reducible rfl
     rotate_left
     ·simp only [Act.put, List.setIfInBounds_toArray, List.set_cons_zero, List.set_cons_succ, qa2, qa3]
      rfl
     refine qf5 (i := 11) (N := some 35) (v := ?_) (a' := ?_) #[true, true, true, true, true, false, false, true, true, true, true, true, false, false, false, false, false] rfl rfl (qb5 HT_.out (by kernel_rfl)) (fun _ _ _ h => h) (Or.inl ⟨by rfl, ?_⟩) ?_ ?_
     rotate_left
     ·intro w'
      go_simp
      with_reducible rfl
     rotate_left
     ·simp only [Act.put, List.setIfInBounds_toArray, List.set_cons_zero, List.set_cons_succ, qa2, qa3]
      rfl
     refine jC0 (i := 5) (N := some 29) (v := ?_) (a' := ?_) #[true, true, true, true, true, true, false, true, true, true, true, true, false, false, false, false, false] rfl rfl (qI7 HT_.out HW_.out (by kernel_rfl)) (fun _ _ _ h => h) (Or.inl ⟨by rfl, ?_⟩) hHeld ?_ ?_
     rotate_left
     ·rintro w' ⟨s0, s1, s2, s3, s4, s5, s6, s7⟩
      go_simp
      with_reducible rfl
     rotate_left
     ·simp only [Act.put, List.setIfInBounds_toArray, List.set_cons_zero, List.set_cons_succ, qa2, qa3]
      rfl
     refine jC0 (i := 12) (N := some 36) (v := ?_) (a' := ?_) #[true, true, true, true, true, true, false, true, true, true, true, true, true, false, false, false, false] rfl rfl (qI7 HT_.out HW_.out (by kernel_rfl)) (fun _ _ _ h => h) (Or.inl ⟨by rfl, ?_⟩) hHeld ?_ ?_
     rotate_left
     ·rintro w' ⟨s0, s1, s2, s3, s4, s5, s6, s7⟩
      go_simp
      with_reducible rfl
     rotate_left
     ·simp only [Act.put, List.setIfInBounds_toArray, List.set_cons_zero, List.set_cons_succ, qa2, qa3]
      rfl
     refine Qm5 (σ := Nat) 1 #[true, true, true, true, true, true, true, true, true, true, true, true, true, true, true, true, false] (fun s_ => [(30, .int .i64 t213), (37, .int .i64 t215), (9, .pointer (some ⟨s_, 0, none⟩)), (38, .agg #[.int .i64 0, .int .i64 t213, .int .i64 t215, .slice none 0 0])]) (fun s_ w' => (w'.cell? (jT.add ((qO).toNat * 4)) = some (.int .i64 ((qD t200 qO).f0)) ∧ w'.cell? ⟨(jT.add ((qO).toNat * 4)).block, (jT.add ((qO).toNat * 4)).off + 1, none⟩ = some (.int .i64 ((qD t200 qO).f1)) ∧ w'.cell? ⟨(jT.add ((qO).toNat * 4)).block, (jT.add ((qO).toNat * 4)).off + 2, none⟩ = some (.int .i64 ((qD t200 qO).f2)) ∧ w'.cell? ⟨(jT.add ((qO).toNat * 4)).block, (jT.add ((qO).toNat * 4)).off + 3, none⟩ = some (.slice qA5 ((qD t200 qO).f3).length qA6) ∧ w'.cell? (jT.add ((qO).toNat * 4)) = some (.int .i64 ((qD t200 qO).f0)) ∧ w'.cell? ⟨(jT.add ((qO).toNat * 4)).block, (jT.add ((qO).toNat * 4)).off + 1, none⟩ = some (.int .i64 ((qD t200 qO).f1)) ∧ w'.cell? ⟨(jT.add ((qO).toNat * 4)).block, (jT.add ((qO).toNat * 4)).off + 2, none⟩ = some (.int .i64 ((qD t200 qO).f2)) ∧ w'.cell? ⟨(jT.add ((qO).toNat * 4)).block, (jT.add ((qO).toNat * 4)).off + 3, none⟩ = some (.slice qA5 ((qD t200 qO).f3).length qA6)) ∧ (Kd.V k51 51 w' w.heap.size (fun k_ => (P0_ k_ ∨ w.heap.size ≤ k_) ∧ some k_ ≠ (u3 : Value).ownBlock ∧ some k_ ≠ (.slice (some jT) t200.length qh6 : Value).ownBlock ∧ some k_ ≠ (u5 : Value).ownBlock ∧ some k_ ≠ (u6 : Value).ownBlock ∧ some k_ ≠ (u7 : Value).ownBlock ∧ k_ ≠ s_) (.slice qA5 ((qD t200 qO).f3).length qA6) ((qD t200 qO).f3)) ∧ (Kd.V k51 51 w' w.heap.size (fun k_ => (P0_ k_ ∨ w.heap.size ≤ k_) ∧ some k_ ≠ (u3 : Value).ownBlock ∧ some k_ ≠ (.slice (some jT) t200.length qh6 : Value).ownBlock ∧ some k_ ≠ (u5 : Value).ownBlock ∧ some k_ ≠ (u6 : Value).ownBlock ∧ some k_ ≠ (u7 : Value).ownBlock ∧ k_ ≠ s_) (.slice qA5 ((qD t200 qO).f3).length qA6) ((qD t200 qO).f3)) ∧ (Kd.V k55 55 w' w.heap.size (fun k_ => (P0_ k_ ∨ w.heap.size ≤ k_) ∧ some k_ ≠ (u3 : Value).ownBlock ∧ some k_ ≠ (.slice (some jT) t200.length qh6 : Value).ownBlock ∧ some k_ ≠ (u5 : Value).ownBlock ∧ some k_ ≠ (u6 : Value).ownBlock ∧ some k_ ≠ (u7 : Value).ownBlock ∧ k_ ≠ s_) (.slice A0 l0.length c0) l0) ∧ (Kd.N k55 55 w' w.heap.size (fun k_ => (P0_ k_ ∨ w.heap.size ≤ k_) ∧ some k_ ≠ (.slice (some jT) t200.length qh6 : Value).ownBlock ∧ some k_ ≠ (u5 : Value).ownBlock ∧ some k_ ≠ (u6 : Value).ownBlock ∧ some k_ ≠ (u7 : Value).ownBlock ∧ k_ ≠ s_) u3 ql7) ∧ (Kd.N k55 55 w' w.heap.size (fun k_ => (P0_ k_ ∨ w.heap.size ≤ k_) ∧ some k_ ≠ (u3 : Value).ownBlock ∧ some k_ ≠ (u5 : Value).ownBlock ∧ some k_ ≠ (u6 : Value).ownBlock ∧ some k_ ≠ (u7 : Value).ownBlock ∧ k_ ≠ s_) (.slice (some jT) t200.length qh6) t200) ∧ (Kd.R (Kd.int .i64) 3 w' w.heap.size (fun k_ => (w.heap.size ≤ k_) ∧ some k_ ≠ (u6 : Value).ownBlock ∧ some k_ ≠ (u7 : Value).ownBlock) u5 qA4) ∧ (Kd.R (Kd.int .i64) 3 w' w.heap.size (fun k_ => (w.heap.size ≤ k_) ∧ some k_ ≠ (u5 : Value).ownBlock ∧ some k_ ≠ (u7 : Value).ownBlock) u6 jY) ∧ (Kd.R (Kd.int .i64) 3 w' w.heap.size (fun k_ => (w.heap.size ≤ k_) ∧ some k_ ≠ (u5 : Value).ownBlock ∧ some k_ ≠ (u6 : Value).ownBlock) u7 qb3) ∧ (w'.heap[s_]? = some (.cells #[.int .i64 0, .int .i64 0, .int .i64 0, .slice none 0 0] 55 (0, 0))) ∧ (w.heap.size ≤ s_) ∧ (w.heap.size ≤ s_) ∧ (Below w.heap.size w w')) ?_ ?_
     rotate_left
     ·intro zz7
      refine two_ (i := 6) (j := 15) (Ni := some 30) (Nj := some 9) #[true, true, true, true, true, true, true, true, true, true, true, true, true, false, false, false, false] #[true, true, true, true, true, true, false, true, true, true, true, true, true, false, false, true, false] rfl rfl rfl rfl (zz8 HT_.out (by kernel_rfl)) (by decide) (by decide) (fun K hK => ?_) (fun K hK => ?_)
      ·skip
       refine jT7 Try.func44 (by kernel_rfl) rfl #[.slice A0 l0.length c0, .int .i64 ((qD t200 qO).f1)] (by rfl) rfl rfl (by (try simp only [List.map_toArray, List.map_cons, List.map_nil]); first | done | rfl | (simp only [List.length_drop, List.length_take]; rfl)) ?_
       with_reducible refine (jA.calls k1 _ _ l0 ((qD t200 qO).f1) t213 _ ?qv7 ?qz4 A14.out).mono ?_
       (case qv7 => repeat (first | exact (Kd.qq5 qa0.out).2.2 | (with_reducible refine Kd.qj2 ?_ _) | (with_reducible refine Kd.qj3 ?_ _) | (with_reducible refine Kd.qo6 ?_)))
       (case qz4 => exact (Kd.qq5 qa0.out).2.1)
       rintro e w' ⟨rfl, ⟨nd, rfl⟩⟩
       refine ⟨_, rfl, ?_⟩
       refine hK.out _ _ ⟨hHeld.1, hHeld.2.1, hHeld.2.2.1, hHeld.2.2.2.1, hHeld.2.2.2.2.1, hHeld.2.2.2.2.2.1, hHeld.2.2.2.2.2.2.1, hHeld.2.2.2.2.2.2.2⟩ (fun hHeld => ?_)
       clear hK K
       refine qE1 (a' := ?_) ?_ ?_
       rotate_left
       ·show Act.put _ (some 30) _ = _
        simp only [Act.put, List.setIfInBounds_toArray, List.set_cons_zero, List.set_cons_succ, qa2, qa3]
        rfl
       refine two_ (i := 13) (j := 15) (Ni := some 37) (Nj := some 9) #[true, true, true, true, true, true, true, true, true, true, true, true, true, true, false, false, false] #[true, true, true, true, true, true, true, true, true, true, true, true, true, false, false, true, false] rfl rfl rfl rfl (zz8 HT_.out (by kernel_rfl)) (by decide) (by decide) (fun K hK => ?_) (fun K hK => ?_)
       ·skip
        refine jT7 Try.func44 (by kernel_rfl) rfl #[.slice A0 l0.length c0, .int .i64 ((qD t200 qO).f2)] (by rfl) rfl rfl (by (try simp only [List.map_toArray, List.map_cons, List.map_nil]); first | done | rfl | (simp only [List.length_drop, List.length_take]; rfl)) ?_
        with_reducible refine (jA.calls k1 _ _ l0 ((qD t200 qO).f2) t215 _ ?qv7 ?qz4 A15.out).mono ?_
        (case qv7 => repeat (first | exact (Kd.qq5 qa0.out).2.2 | (with_reducible refine Kd.qj2 ?_ _) | (with_reducible refine Kd.qj3 ?_ _) | (with_reducible refine Kd.qo6 ?_)))
        (case qz4 => exact (Kd.qq5 qa0.out).2.1)
        rintro e w' ⟨rfl, ⟨nd, rfl⟩⟩
        refine ⟨_, rfl, ?_⟩
        refine hK.out _ _ ⟨hHeld.1, hHeld.2.1, hHeld.2.2.1, hHeld.2.2.2.1, hHeld.2.2.2.2.1, hHeld.2.2.2.2.2.1, hHeld.2.2.2.2.2.2.1, hHeld.2.2.2.2.2.2.2⟩ (fun hHeld => ?_)
        clear hK K
        refine qE1 (a' := ?_) ?_ ?_
        rotate_left
        ·show Act.put _ (some 37) _ = _
         simp only [Act.put, List.setIfInBounds_toArray, List.set_cons_zero, List.set_cons_succ, qa2, qa3]
         rfl
        refine qf5 (i := 14) (N := some 38) (v := ?_) (a' := ?_) #[true, true, true, true, true, true, true, true, true, true, true, true, true, true, true, false, false] rfl rfl (qb5 HT_.out (by kernel_rfl)) (fun _ _ _ h => h) (Or.inl ⟨by rfl, ?_⟩) ?_ ?_
        rotate_left
        ·intro w'
         go_simp
         with_reducible rfl
        rotate_left
        ·simp only [Act.put, List.setIfInBounds_toArray, List.set_cons_zero, List.set_cons_succ, qa2, qa3]
         rfl
        refine jS5 (i := 15) (N := some 9) #[true, true, true, true, true, true, true, true, true, true, true, true, true, true, true, true, false] rfl rfl (qQ3 HT_.out (by kernel_rfl)) (by decide) (fun K hK => ?_)
        refine jq9 ?hg (N := 9) ?hd (cs := #[.int .i64 0, .int .i64 0, .int .i64 0, .slice none 0 0]) (t := 55) ?hr ?_; (case hd => rfl); (case hg => rfl); (case hr => first | (go_simp; done) | (go_simp; rfl))
        intro qH hg w19 qb7 hb
        have zz9 := (hb.cell (World.block_lt_of_cell? _ _ (hHeld.1))).trans (hHeld.1)
        have zA0 := (hb.cell (World.block_lt_of_cell? _ _ (hHeld.2.1))).trans (hHeld.2.1)
        have zA1 := (hb.cell (World.block_lt_of_cell? _ _ (hHeld.2.2.1))).trans (hHeld.2.2.1)
        have zA2 := (hb.cell (World.block_lt_of_cell? _ _ (hHeld.2.2.2.1))).trans (hHeld.2.2.2.1)
        have zA3 := (hb.cell (World.block_lt_of_cell? _ _ (hHeld.2.2.2.2.1))).trans (hHeld.2.2.2.2.1)
        have zA4 := (hb.cell (World.block_lt_of_cell? _ _ (hHeld.2.2.2.2.2.1))).trans (hHeld.2.2.2.2.2.1)
        have zA5 := (hb.cell (World.block_lt_of_cell? _ _ (hHeld.2.2.2.2.2.2.1))).trans (hHeld.2.2.2.2.2.2.1)
        have zA6 := (hb.cell (World.block_lt_of_cell? _ _ (hHeld.2.2.2.2.2.2.2))).trans (hHeld.2.2.2.2.2.2.2)
        have n0_ := q8.mk (Kd.qm5 (Kd.qj0 (by (with_reducible repeat (first | apply Kd.jP | apply Kd.jQ | apply Kd.zC)); exact qa0.out) qH (Nat.le_of_eq hg.symm)) hb)
        have n1_ := q8.mk (Kd.qo8 (Kd.qt2 (by (with_reducible repeat (first | apply Kd.jD | apply Kd.jE | apply Kd.jH)); exact qa8.out) qH (Nat.le_of_eq hg.symm)) hb)
        have n2_ := q8.mk (Kd.qo8 (Kd.qt2 (by (with_reducible repeat (first | apply Kd.jD | apply Kd.jE | apply Kd.jH)); exact qU.out) qH (Nat.le_of_eq hg.symm)) hb)
        have n3_ := q8.mk (Kd.qg7 (by (with_reducible repeat (first | apply Kd.qV | apply Kd.qW | apply Kd.jC)); exact qd0.out) hb)
        have n4_ := q8.mk (Kd.qg7 (by (with_reducible repeat (first | apply Kd.qV | apply Kd.qW | apply Kd.jC)); exact qf0.out) hb)
        have n5_ := q8.mk (Kd.qg7 (by (with_reducible repeat (first | apply Kd.qV | apply Kd.qW | apply Kd.jC)); exact qd2.out) hb)
        have n6_ := q8.mk (Kd.qm5 (Kd.qj0 (by (with_reducible repeat (first | apply Kd.jP | apply Kd.jQ | apply Kd.zC)); exact qj4.out) qH (Nat.le_of_eq hg.symm)) hb)
        have n7_ := q8.mk (Kd.qm5 (Kd.qj0 (by (with_reducible repeat (first | apply Kd.jP | apply Kd.jQ | apply Kd.zC)); exact qj5.out) qH (Nat.le_of_eq hg.symm)) hb)
        have n8_ := q8.mk (Kd.qm6 (by repeat (first | (with_reducible exact qq9.out) | (with_reducible refine Kd.qj2 ?_ _) | (with_reducible refine Kd.qj3 ?_ _) | (with_reducible refine Kd.qo6 ?_) | exact qq9.out)) hb)
        have n9_ := q8.mk (Kd.qm6 (by repeat (first | (with_reducible exact qr0.out) | (with_reducible refine Kd.qj2 ?_ _) | (with_reducible refine Kd.qj3 ?_ _) | (with_reducible refine Kd.qo6 ?_) | exact qr0.out)) hb)
        have qE3 := q8.mk (jM (by repeat (first | (with_reducible first | exact HB.out | apply qA | apply q9 | apply qB) | exact HB.out)) hb)
        have qE4 := q8.mk (qb7)
        have jc0 := q8.mk ((by rw [hg]; exact (qM (by repeat (first | (with_reducible first | exact HB.out | apply qA | apply q9 | apply qB) | exact HB.out))) : w.heap.size ≤ qH))
        have jc1 := q8.mk ((by rw [hg]; exact (qM (by repeat (first | (with_reducible first | exact HB.out | apply qA | apply q9 | apply qB) | exact HB.out))) : w.heap.size ≤ qH))
        clear qa0
        clear qa8
        clear qU
        clear qd0
        clear qf0
        clear qd2
        clear qj4
        clear qj5
        clear qq9
        clear qr0
        clear HB
        have qa0 := n0_
        have qa8 := n1_
        have qU := n2_
        have qd0 := n3_
        have qf0 := n4_
        have qd2 := n5_
        have qj4 := n6_
        have qj5 := n7_
        have qq9 := n8_
        have qr0 := n9_
        have HB := qE3
        have jF := qE4
        have jC1 := jc0
        have qf1 := jc1
        clear n0_ n1_ n2_ n3_ n4_ n5_ n6_ n7_ n8_ n9_ qE3 qE4 jc0 jc1
        clear hb qb7 hg
        refine hK.out _ _ ⟨zz9, zA0, zA1, zA2, zA3, zA4, zA5, zA6⟩ (fun hHeld => ?_)
        clear hK K
        refine qE1 (a' := ?_) ?_ ?_
        rotate_left
        ·show Act.put _ (some 9) _ = _
         simp only [Act.put, List.setIfInBounds_toArray, List.set_cons_zero, List.set_cons_succ, qa2, qa3]
         rfl
        exact qE1 (by simp only [qW5, Act.put, List.setIfInBounds_toArray, List.set_cons_zero, List.set_cons_succ]) (zz7 (qH) _ ⟨hHeld, (by (with_reducible repeat (first | apply Kd.jP | apply Kd.jQ | apply Kd.zC)); exact Kd.zO qj4.out (fun _ hk => ⟨hk.1.1.1, ⟨hk.1.1.2.1, ⟨hk.1.2, ⟨hk.1.1.2.2.1, ⟨hk.1.1.2.2.2.1, ⟨hk.1.1.2.2.2.2, hk.2⟩⟩⟩⟩⟩⟩)), (by (with_reducible repeat (first | apply Kd.jP | apply Kd.jQ | apply Kd.zC)); exact Kd.zO qj5.out (fun _ hk => ⟨hk.1.1.1, ⟨hk.1.1.2.1, ⟨hk.1.2, ⟨hk.1.1.2.2.1, ⟨hk.1.1.2.2.2.1, ⟨hk.1.1.2.2.2.2, hk.2⟩⟩⟩⟩⟩⟩)), (by (with_reducible repeat (first | apply Kd.jP | apply Kd.jQ | apply Kd.zC)); exact Kd.zO qa0.out (fun _ hk => ⟨hk.1.1, ⟨hk.1.2.1, ⟨hk.1.2.2.1, ⟨hk.1.2.2.2.1, ⟨hk.1.2.2.2.2.1, ⟨hk.1.2.2.2.2.2, hk.2⟩⟩⟩⟩⟩⟩)), (by (with_reducible repeat (first | apply Kd.jD | apply Kd.jE | apply Kd.jH)); exact Kd.zA qa8.out (fun _ hk => ⟨hk.1.1, ⟨hk.1.2.1, ⟨hk.1.2.2.1, ⟨hk.1.2.2.2.1, ⟨hk.1.2.2.2.2, hk.2⟩⟩⟩⟩⟩)), (by (with_reducible repeat (first | apply Kd.jD | apply Kd.jE | apply Kd.jH)); exact Kd.zA qU.out (fun _ hk => ⟨hk.1.1, ⟨hk.1.2.1, ⟨hk.1.2.2.1, ⟨hk.1.2.2.2.1, ⟨hk.1.2.2.2.2, hk.2⟩⟩⟩⟩⟩)), (by (with_reducible repeat (first | apply Kd.qV | apply Kd.qW | apply Kd.jC)); exact qd0.out), (by (with_reducible repeat (first | apply Kd.qV | apply Kd.qW | apply Kd.jC)); exact qf0.out), (by (with_reducible repeat (first | apply Kd.qV | apply Kd.qW | apply Kd.jC)); exact qd2.out), (by (with_reducible repeat (first | refine qI ?_ _ | refine qR ?_ | refine qJ ?_ _)); exact jF.out), jC1.out, qf1.out, (by repeat (first | (with_reducible first | exact HB.out | apply qA | apply q9 | apply qB | refine qK ?_ qf1.out) | exact HB.out))⟩)
       ·skip
        refine jq9 ?hg (N := 9) ?hd (cs := #[.int .i64 0, .int .i64 0, .int .i64 0, .slice none 0 0]) (t := 55) ?hr ?_; (case hd => rfl); (case hg => rfl); (case hr => first | (go_simp; done) | (go_simp; rfl))
        intro qH hg w19 qb7 hb
        have zz9 := (hb.cell (World.block_lt_of_cell? _ _ (hHeld.1))).trans (hHeld.1)
        have zA0 := (hb.cell (World.block_lt_of_cell? _ _ (hHeld.2.1))).trans (hHeld.2.1)
        have zA1 := (hb.cell (World.block_lt_of_cell? _ _ (hHeld.2.2.1))).trans (hHeld.2.2.1)
        have zA2 := (hb.cell (World.block_lt_of_cell? _ _ (hHeld.2.2.2.1))).trans (hHeld.2.2.2.1)
        have zA3 := (hb.cell (World.block_lt_of_cell? _ _ (hHeld.2.2.2.2.1))).trans (hHeld.2.2.2.2.1)
        have zA4 := (hb.cell (World.block_lt_of_cell? _ _ (hHeld.2.2.2.2.2.1))).trans (hHeld.2.2.2.2.2.1)
        have zA5 := (hb.cell (World.block_lt_of_cell? _ _ (hHeld.2.2.2.2.2.2.1))).trans (hHeld.2.2.2.2.2.2.1)
        have zA6 := (hb.cell (World.block_lt_of_cell? _ _ (hHeld.2.2.2.2.2.2.2))).trans (hHeld.2.2.2.2.2.2.2)
        have n0_ := q8.mk (Kd.qm5 (Kd.qj0 (by (with_reducible repeat (first | apply Kd.jP | apply Kd.jQ | apply Kd.zC)); exact qa0.out) qH (Nat.le_of_eq hg.symm)) hb)
        have n1_ := q8.mk (Kd.qo8 (Kd.qt2 (by (with_reducible repeat (first | apply Kd.jD | apply Kd.jE | apply Kd.jH)); exact qa8.out) qH (Nat.le_of_eq hg.symm)) hb)
        have n2_ := q8.mk (Kd.qo8 (Kd.qt2 (by (with_reducible repeat (first | apply Kd.jD | apply Kd.jE | apply Kd.jH)); exact qU.out) qH (Nat.le_of_eq hg.symm)) hb)
        have n3_ := q8.mk (Kd.qg7 (by (with_reducible repeat (first | apply Kd.qV | apply Kd.qW | apply Kd.jC)); exact qd0.out) hb)
        have n4_ := q8.mk (Kd.qg7 (by (with_reducible repeat (first | apply Kd.qV | apply Kd.qW | apply Kd.jC)); exact qf0.out) hb)
        have n5_ := q8.mk (Kd.qg7 (by (with_reducible repeat (first | apply Kd.qV | apply Kd.qW | apply Kd.jC)); exact qd2.out) hb)
        have n6_ := q8.mk (Kd.qm5 (Kd.qj0 (by (with_reducible repeat (first | apply Kd.jP | apply Kd.jQ | apply Kd.zC)); exact qj4.out) qH (Nat.le_of_eq hg.symm)) hb)
        have n7_ := q8.mk (Kd.qm5 (Kd.qj0 (by (with_reducible repeat (first | apply Kd.jP | apply Kd.jQ | apply Kd.zC)); exact qj5.out) qH (Nat.le_of_eq hg.symm)) hb)
        have n8_ := q8.mk (Kd.qm6 (by repeat (first | (with_reducible exact qq9.out) | (with_reducible refine Kd.qj2 ?_ _) | (with_reducible refine Kd.qj3 ?_ _) | (with_reducible refine Kd.qo6 ?_) | exact qq9.out)) hb)
        have n9_ := q8.mk (Kd.qm6 (by repeat (first | (with_reducible exact qr0.out) | (with_reducible refine Kd.qj2 ?_ _) | (with_reducible refine Kd.qj3 ?_ _) | (with_reducible refine Kd.qo6 ?_) | exact qr0.out)) hb)
        have qE3 := q8.mk (jM (by repeat (first | (with_reducible first | exact HB.out | apply qA | apply q9 | apply qB) | exact HB.out)) hb)
        have qE4 := q8.mk (qb7)
        have jc0 := q8.mk ((by rw [hg]; exact (qM (by repeat (first | (with_reducible first | exact HB.out | apply qA | apply q9 | apply qB) | exact HB.out))) : w.heap.size ≤ qH))
        have jc1 := q8.mk ((by rw [hg]; exact (qM (by repeat (first | (with_reducible first | exact HB.out | apply qA | apply q9 | apply qB) | exact HB.out))) : w.heap.size ≤ qH))
        clear qa0
        clear qa8
        clear qU
        clear qd0
        clear qf0
        clear qd2
        clear qj4
        clear qj5
        clear qq9
        clear qr0
        clear HB
        have qa0 := n0_
        have qa8 := n1_
        have qU := n2_
        have qd0 := n3_
        have qf0 := n4_
        have qd2 := n5_
        have qj4 := n6_
        have qj5 := n7_
        have qq9 := n8_
        have qr0 := n9_
        have HB := qE3
        have jF := qE4
        have jC1 := jc0
        have qf1 := jc1
        clear n0_ n1_ n2_ n3_ n4_ n5_ n6_ n7_ n8_ n9_ qE3 qE4 jc0 jc1
        clear hb qb7 hg
        refine hK.out _ _ ⟨zz9, zA0, zA1, zA2, zA3, zA4, zA5, zA6⟩ (fun hHeld => ?_)
        clear hK K
        refine qE1 (a' := ?_) ?_ ?_
        rotate_left
        ·show Act.put _ (some 9) _ = _
         simp only [Act.put, List.setIfInBounds_toArray, List.set_cons_zero, List.set_cons_succ, qa2, qa3]
         rfl
        refine jS5 (i := 13) (N := some 37) #[true, true, true, true, true, true, true, true, true, true, true, true, true, true, false, true, false] rfl rfl (qQ3 HT_.out (by kernel_rfl)) (by decide) (fun K hK => ?_)
        refine jT7 Try.func44 (by kernel_rfl) rfl #[.slice A0 l0.length c0, .int .i64 ((qD t200 qO).f2)] (by rfl) rfl rfl (by (try simp only [List.map_toArray, List.map_cons, List.map_nil]); first | done | rfl | (simp only [List.length_drop, List.length_take]; rfl)) ?_
        with_reducible refine (jA.calls k1 _ _ l0 ((qD t200 qO).f2) t215 _ ?qv7 ?qz4 A15.out).mono ?_
        (case qv7 => repeat (first | exact (Kd.qq5 qa0.out).2.2 | (with_reducible refine Kd.qj2 ?_ _) | (with_reducible refine Kd.qj3 ?_ _) | (with_reducible refine Kd.qo6 ?_)))
        (case qz4 => exact (Kd.qq5 qa0.out).2.1)
        rintro e w' ⟨rfl, ⟨nd, rfl⟩⟩
        refine ⟨_, rfl, ?_⟩
        refine hK.out _ _ ⟨hHeld.1, hHeld.2.1, hHeld.2.2.1, hHeld.2.2.2.1, hHeld.2.2.2.2.1, hHeld.2.2.2.2.2.1, hHeld.2.2.2.2.2.2.1, hHeld.2.2.2.2.2.2.2⟩ (fun hHeld => ?_)
        clear hK K
        refine qE1 (a' := ?_) ?_ ?_
        rotate_left
        ·show Act.put _ (some 37) _ = _
         simp only [Act.put, List.setIfInBounds_toArray, List.set_cons_zero, List.set_cons_succ, qa2, qa3]
         rfl
        refine qf5 (i := 14) (N := some 38) (v := ?_) (a' := ?_) #[true, true, true, true, true, true, true, true, true, true, true, true, true, true, true, true, false] rfl rfl (qb5 HT_.out (by kernel_rfl)) (fun _ _ _ h => h) (Or.inl ⟨by rfl, ?_⟩) ?_ ?_
        rotate_left
        ·intro w'
         go_simp
         with_reducible rfl
        rotate_left
        ·simp only [Act.put, List.setIfInBounds_toArray, List.set_cons_zero, List.set_cons_succ, qa2, qa3]
         rfl
        exact qE1 (by simp only [qW5, Act.put, List.setIfInBounds_toArray, List.set_cons_zero, List.set_cons_succ]) (zz7 (qH) _ ⟨hHeld, (by (with_reducible repeat (first | apply Kd.jP | apply Kd.jQ | apply Kd.zC)); exact Kd.zO qj4.out (fun _ hk => ⟨hk.1.1.1, ⟨hk.1.1.2.1, ⟨hk.1.2, ⟨hk.1.1.2.2.1, ⟨hk.1.1.2.2.2.1, ⟨hk.1.1.2.2.2.2, hk.2⟩⟩⟩⟩⟩⟩)), (by (with_reducible repeat (first | apply Kd.jP | apply Kd.jQ | apply Kd.zC)); exact Kd.zO qj5.out (fun _ hk => ⟨hk.1.1.1, ⟨hk.1.1.2.1, ⟨hk.1.2, ⟨hk.1.1.2.2.1, ⟨hk.1.1.2.2.2.1, ⟨hk.1.1.2.2.2.2, hk.2⟩⟩⟩⟩⟩⟩)), (by (with_reducible repeat (first | apply Kd.jP | apply Kd.jQ | apply Kd.zC)); exact Kd.zO qa0.out (fun _ hk => ⟨hk.1.1, ⟨hk.1.2.1, ⟨hk.1.2.2.1, ⟨hk.1.2.2.2.1, ⟨hk.1.2.2.2.2.1, ⟨hk.1.2.2.2.2.2, hk.2⟩⟩⟩⟩⟩⟩)), (by (with_reducible repeat (first | apply Kd.jD | apply Kd.jE | apply Kd.jH)); exact Kd.zA qa8.out (fun _ hk => ⟨hk.1.1, ⟨hk.1.2.1, ⟨hk.1.2.2.1, ⟨hk.1.2.2.2.1, ⟨hk.1.2.2.2.2, hk.2⟩⟩⟩⟩⟩)), (by (with_reducible repeat (first | apply Kd.jD | apply Kd.jE | apply Kd.jH)); exact Kd.zA qU.out (fun _ hk => ⟨hk.1.1, ⟨hk.1.2.1, ⟨hk.1.2.2.1, ⟨hk.1.2.2.2.1, ⟨hk.1.2.2.2.2, hk.2⟩⟩⟩⟩⟩)), (by (with_reducible repeat (first | apply Kd.qV | apply Kd.qW | apply Kd.jC)); exact qd0.out), (by (with_reducible repeat (first | apply Kd.qV | apply Kd.qW | apply Kd.jC)); exact qf0.out), (by (with_reducible repeat (first | apply Kd.qV | apply Kd.qW | apply Kd.jC)); exact qd2.out), (by (with_reducible repeat (first | refine qI ?_ _ | refine qR ?_ | refine qJ ?_ _)); exact jF.out), jC1.out, qf1.out, (by repeat (first | (with_reducible first | exact HB.out | apply qA | apply q9 | apply qB | refine qK ?_ qf1.out) | exact HB.out))⟩)
      ·skip
       refine jq9 ?hg (N := 9) ?hd (cs := #[.int .i64 0, .int .i64 0, .int .i64 0, .slice none 0 0]) (t := 55) ?hr ?_; (case hd => rfl); (case hg => rfl); (case hr => first | (go_simp; done) | (go_simp; rfl))
       intro qH hg w19 qb7 hb
       have zz9 := (hb.cell (World.block_lt_of_cell? _ _ (hHeld.1))).trans (hHeld.1)
       have zA0 := (hb.cell (World.block_lt_of_cell? _ _ (hHeld.2.1))).trans (hHeld.2.1)
       have zA1 := (hb.cell (World.block_lt_of_cell? _ _ (hHeld.2.2.1))).trans (hHeld.2.2.1)
       have zA2 := (hb.cell (World.block_lt_of_cell? _ _ (hHeld.2.2.2.1))).trans (hHeld.2.2.2.1)
       have zA3 := (hb.cell (World.block_lt_of_cell? _ _ (hHeld.2.2.2.2.1))).trans (hHeld.2.2.2.2.1)
       have zA4 := (hb.cell (World.block_lt_of_cell? _ _ (hHeld.2.2.2.2.2.1))).trans (hHeld.2.2.2.2.2.1)
       have zA5 := (hb.cell (World.block_lt_of_cell? _ _ (hHeld.2.2.2.2.2.2.1))).trans (hHeld.2.2.2.2.2.2.1)
       have zA6 := (hb.cell (World.block_lt_of_cell? _ _ (hHeld.2.2.2.2.2.2.2))).trans (hHeld.2.2.2.2.2.2.2)
       have n0_ := q8.mk (Kd.qm5 (Kd.qj0 (by (with_reducible repeat (first | apply Kd.jP | apply Kd.jQ | apply Kd.zC)); exact qa0.out) qH (Nat.le_of_eq hg.symm)) hb)
       have n1_ := q8.mk (Kd.qo8 (Kd.qt2 (by (with_reducible repeat (first | apply Kd.jD | apply Kd.jE | apply Kd.jH)); exact qa8.out) qH (Nat.le_of_eq hg.symm)) hb)
       have n2_ := q8.mk (Kd.qo8 (Kd.qt2 (by (with_reducible repeat (first | apply Kd.jD | apply Kd.jE | apply Kd.jH)); exact qU.out) qH (Nat.le_of_eq hg.symm)) hb)
       have n3_ := q8.mk (Kd.qg7 (by (with_reducible repeat (first | apply Kd.qV | apply Kd.qW | apply Kd.jC)); exact qd0.out) hb)
       have n4_ := q8.mk (Kd.qg7 (by (with_reducible repeat (first | apply Kd.qV | apply Kd.qW | apply Kd.jC)); exact qf0.out) hb)
       have n5_ := q8.mk (Kd.qg7 (by (with_reducible repeat (first | apply Kd.qV | apply Kd.qW | apply Kd.jC)); exact qd2.out) hb)
       have n6_ := q8.mk (Kd.qm5 (Kd.qj0 (by (with_reducible repeat (first | apply Kd.jP | apply Kd.jQ | apply Kd.zC)); exact qj4.out) qH (Nat.le_of_eq hg.symm)) hb)
       have n7_ := q8.mk (Kd.qm5 (Kd.qj0 (by (with_reducible repeat (first | apply Kd.jP | apply Kd.jQ | apply Kd.zC)); exact qj5.out) qH (Nat.le_of_eq hg.symm)) hb)
       have n8_ := q8.mk (Kd.qm6 (by repeat (first | (with_reducible exact qq9.out) | (with_reducible refine Kd.qj2 ?_ _) | (with_reducible refine Kd.qj3 ?_ _) | (with_reducible refine Kd.qo6 ?_) | exact qq9.out)) hb)
       have n9_ := q8.mk (Kd.qm6 (by repeat (first | (with_reducible exact qr0.out) | (with_reducible refine Kd.qj2 ?_ _) | (with_reducible refine Kd.qj3 ?_ _) | (with_reducible refine Kd.qo6 ?_) | exact qr0.out)) hb)
       have qE3 := q8.mk (jM (by repeat (first | (with_reducible first | exact HB.out | apply qA | apply q9 | apply qB) | exact HB.out)) hb)
       have qE4 := q8.mk (qb7)
       have jc0 := q8.mk ((by rw [hg]; exact (qM (by repeat (first | (with_reducible first | exact HB.out | apply qA | apply q9 | apply qB) | exact HB.out))) : w.heap.size ≤ qH))
       have jc1 := q8.mk ((by rw [hg]; exact (qM (by repeat (first | (with_reducible first | exact HB.out | apply qA | apply q9 | apply qB) | exact HB.out))) : w.heap.size ≤ qH))
       clear qa0
       clear qa8
       clear qU
       clear qd0
       clear qf0
       clear qd2
       clear qj4
       clear qj5
       clear qq9
       clear qr0
       clear HB
       have qa0 := n0_
       have qa8 := n1_
       have qU := n2_
       have qd0 := n3_
       have qf0 := n4_
       have qd2 := n5_
       have qj4 := n6_
       have qj5 := n7_
       have qq9 := n8_
       have qr0 := n9_
       have HB := qE3
       have jF := qE4
       have jC1 := jc0
       have qf1 := jc1
       clear n0_ n1_ n2_ n3_ n4_ n5_ n6_ n7_ n8_ n9_ qE3 qE4 jc0 jc1
       clear hb qb7 hg
       refine hK.out _ _ ⟨zz9, zA0, zA1, zA2, zA3, zA4, zA5, zA6⟩ (fun hHeld => ?_)
       clear hK K
       refine qE1 (a' := ?_) ?_ ?_
       rotate_left
       ·show Act.put _ (some 9) _ = _
        simp only [Act.put, List.setIfInBounds_toArray, List.set_cons_zero, List.set_cons_succ, qa2, qa3]
        rfl
       refine jS5 (i := 6) (N := some 30) #[true, true, true, true, true, true, true, true, true, true, true, true, true, false, false, true, false] rfl rfl (qQ3 HT_.out (by kernel_rfl)) (by decide) (fun K hK => ?_)
       refine jT7 Try.func44 (by kernel_rfl) rfl #[.slice A0 l0.length c0, .int .i64 ((qD t200 qO).f1)] (by rfl) rfl rfl (by (try simp only [List.map_toArray, List.map_cons, List.map_nil]); first | done | rfl | (simp only [List.length_drop, List.length_take]; rfl)) ?_
       with_reducible refine (jA.calls k1 _ _ l0 ((qD t200 qO).f1) t213 _ ?qv7 ?qz4 A14.out).mono ?_
       (case qv7 => repeat (first | exact (Kd.qq5 qa0.out).2.2 | (with_reducible refine Kd.qj2 ?_ _) | (with_reducible refine Kd.qj3 ?_ _) | (with_reducible refine Kd.qo6 ?_)))
       (case qz4 => exact (Kd.qq5 qa0.out).2.1)
       rintro e w' ⟨rfl, ⟨nd, rfl⟩⟩
       refine ⟨_, rfl, ?_⟩
       refine hK.out _ _ ⟨hHeld.1, hHeld.2.1, hHeld.2.2.1, hHeld.2.2.2.1, hHeld.2.2.2.2.1, hHeld.2.2.2.2.2.1, hHeld.2.2.2.2.2.2.1, hHeld.2.2.2.2.2.2.2⟩ (fun hHeld => ?_)
       clear hK K
       refine qE1 (a' := ?_) ?_ ?_
       rotate_left
       ·show Act.put _ (some 30) _ = _
        simp only [Act.put, List.setIfInBounds_toArray, List.set_cons_zero, List.set_cons_succ, qa2, qa3]
        rfl
       refine jS5 (i := 13) (N := some 37) #[true, true, true, true, true, true, true, true, true, true, true, true, true, true, false, true, false] rfl rfl (qQ3 HT_.out (by kernel_rfl)) (by decide) (fun K hK => ?_)
       refine jT7 Try.func44 (by kernel_rfl) rfl #[.slice A0 l0.length c0, .int .i64 ((qD t200 qO).f2)] (by rfl) rfl rfl (by (try simp only [List.map_toArray, List.map_cons, List.map_nil]); first | done | rfl | (simp only [List.length_drop, List.length_take]; rfl)) ?_
       with_reducible refine (jA.calls k1 _ _ l0 ((qD t200 qO).f2) t215 _ ?qv7 ?qz4 A15.out).mono ?_
       (case qv7 => repeat (first | exact (Kd.qq5 qa0.out).2.2 | (with_reducible refine Kd.qj2 ?_ _) | (with_reducible refine Kd.qj3 ?_ _) | (with_reducible refine Kd.qo6 ?_)))
       (case qz4 => exact (Kd.qq5 qa0.out).2.1)
       rintro e w' ⟨rfl, ⟨nd, rfl⟩⟩
       refine ⟨_, rfl, ?_⟩
       refine hK.out _ _ ⟨hHeld.1, hHeld.2.1, hHeld.2.2.1, hHeld.2.2.2.1, hHeld.2.2.2.2.1, hHeld.2.2.2.2.2.1, hHeld.2.2.2.2.2.2.1, hHeld.2.2.2.2.2.2.2⟩ (fun hHeld => ?_)
       clear hK K
       refine qE1 (a' := ?_) ?_ ?_
       rotate_left
       ·show Act.put _ (some 37) _ = _
        simp only [Act.put, List.setIfInBounds_toArray, List.set_cons_zero, List.set_cons_succ, qa2, qa3]
        rfl
       refine qf5 (i := 14) (N := some 38) (v := ?_) (a' := ?_) #[true, true, true, true, true, true, true, true, true, true, true, true, true, true, true, true, false] rfl rfl (qb5 HT_.out (by kernel_rfl)) (fun _ _ _ h => h) (Or.inl ⟨by rfl, ?_⟩) ?_ ?_
       rotate_left
       ·intro w'
        go_simp
        with_reducible rfl
       rotate_left
       ·simp only [Act.put, List.setIfInBounds_toArray, List.set_cons_zero, List.set_cons_succ, qa2, qa3]
        rfl
       exact qE1 (by simp only [qW5, Act.put, List.setIfInBounds_toArray, List.set_cons_zero, List.set_cons_succ]) (zz7 (qH) _ ⟨hHeld, (by (with_reducible repeat (first | apply Kd.jP | apply Kd.jQ | apply Kd.zC)); exact Kd.zO qj4.out (fun _ hk => ⟨hk.1.1.1, ⟨hk.1.1.2.1, ⟨hk.1.2, ⟨hk.1.1.2.2.1, ⟨hk.1.1.2.2.2.1, ⟨hk.1.1.2.2.2.2, hk.2⟩⟩⟩⟩⟩⟩)), (by (with_reducible repeat (first | apply Kd.jP | apply Kd.jQ | apply Kd.zC)); exact Kd.zO qj5.out (fun _ hk => ⟨hk.1.1.1, ⟨hk.1.1.2.1, ⟨hk.1.2, ⟨hk.1.1.2.2.1, ⟨hk.1.1.2.2.2.1, ⟨hk.1.1.2.2.2.2, hk.2⟩⟩⟩⟩⟩⟩)), (by (with_reducible repeat (first | apply Kd.jP | apply Kd.jQ | apply Kd.zC)); exact Kd.zO qa0.out (fun _ hk => ⟨hk.1.1, ⟨hk.1.2.1, ⟨hk.1.2.2.1, ⟨hk.1.2.2.2.1, ⟨hk.1.2.2.2.2.1, ⟨hk.1.2.2.2.2.2, hk.2⟩⟩⟩⟩⟩⟩)), (by (with_reducible repeat (first | apply Kd.jD | apply Kd.jE | apply Kd.jH)); exact Kd.zA qa8.out (fun _ hk => ⟨hk.1.1, ⟨hk.1.2.1, ⟨hk.1.2.2.1, ⟨hk.1.2.2.2.1, ⟨hk.1.2.2.2.2, hk.2⟩⟩⟩⟩⟩)), (by (with_reducible repeat (first | apply Kd.jD | apply Kd.jE | apply Kd.jH)); exact Kd.zA qU.out (fun _ hk => ⟨hk.1.1, ⟨hk.1.2.1, ⟨hk.1.2.2.1, ⟨hk.1.2.2.2.1, ⟨hk.1.2.2.2.2, hk.2⟩⟩⟩⟩⟩)), (by (with_reducible repeat (first | apply Kd.qV | apply Kd.qW | apply Kd.jC)); exact qd0.out), (by (with_reducible repeat (first | apply Kd.qV | apply Kd.qW | apply Kd.jC)); exact qf0.out), (by (with_reducible repeat (first | apply Kd.qV | apply Kd.qW | apply Kd.jC)); exact qd2.out), (by (with_reducible repeat (first | refine qI ?_ _ | refine qR ?_ | refine qJ ?_ _)); exact jF.out), jC1.out, qf1.out, (by repeat (first | (with_reducible first | exact HB.out | apply qA | apply q9 | apply qB | refine qK ?_ qf1.out) | exact HB.out))⟩)
     rintro qH w20 ⟨hS_, h0_, h1_, h2_, h3_, h4_, h5_, h6_, h7_, h8_, h9_, h10_, h11_⟩
     have n0_ : q8 (Kd.V k51 51 w20 w.heap.size (fun k_ => (P0_ k_ ∨ w.heap.size ≤ k_) ∧ some k_ ≠ (u3 : Value).ownBlock ∧ some k_ ≠ (.slice (some jT) t200.length qh6 : Value).ownBlock ∧ some k_ ≠ (u5 : Value).ownBlock ∧ some k_ ≠ (u6 : Value).ownBlock ∧ some k_ ≠ (u7 : Value).ownBlock ∧ k_ ≠ qH) (.slice qA5 ((qD t200 qO).f3).length qA6) ((qD t200 qO).f3)) := ⟨h0_⟩
     have n1_ : q8 (Kd.V k51 51 w20 w.heap.size (fun k_ => (P0_ k_ ∨ w.heap.size ≤ k_) ∧ some k_ ≠ (u3 : Value).ownBlock ∧ some k_ ≠ (.slice (some jT) t200.length qh6 : Value).ownBlock ∧ some k_ ≠ (u5 : Value).ownBlock ∧ some k_ ≠ (u6 : Value).ownBlock ∧ some k_ ≠ (u7 : Value).ownBlock ∧ k_ ≠ qH) (.slice qA5 ((qD t200 qO).f3).length qA6) ((qD t200 qO).f3)) := ⟨h1_⟩
     have n2_ : q8 (Kd.V k55 55 w20 w.heap.size (fun k_ => (P0_ k_ ∨ w.heap.size ≤ k_) ∧ some k_ ≠ (u3 : Value).ownBlock ∧ some k_ ≠ (.slice (some jT) t200.length qh6 : Value).ownBlock ∧ some k_ ≠ (u5 : Value).ownBlock ∧ some k_ ≠ (u6 : Value).ownBlock ∧ some k_ ≠ (u7 : Value).ownBlock ∧ k_ ≠ qH) (.slice A0 l0.length c0) l0) := ⟨h2_⟩
     have n3_ : q8 (Kd.N k55 55 w20 w.heap.size (fun k_ => (P0_ k_ ∨ w.heap.size ≤ k_) ∧ some k_ ≠ (.slice (some jT) t200.length qh6 : Value).ownBlock ∧ some k_ ≠ (u5 : Value).ownBlock ∧ some k_ ≠ (u6 : Value).ownBlock ∧ some k_ ≠ (u7 : Value).ownBlock ∧ k_ ≠ qH) u3 ql7) := ⟨h3_⟩
     have n4_ : q8 (Kd.N k55 55 w20 w.heap.size (fun k_ => (P0_ k_ ∨ w.heap.size ≤ k_) ∧ some k_ ≠ (u3 : Value).ownBlock ∧ some k_ ≠ (u5 : Value).ownBlock ∧ some k_ ≠ (u6 : Value).ownBlock ∧ some k_ ≠ (u7 : Value).ownBlock ∧ k_ ≠ qH) (.slice (some jT) t200.length qh6) t200) := ⟨h4_⟩
     have n5_ : q8 (Kd.R (Kd.int .i64) 3 w20 w.heap.size (fun k_ => (w.heap.size ≤ k_) ∧ some k_ ≠ (u6 : Value).ownBlock ∧ some k_ ≠ (u7 : Value).ownBlock) u5 qA4) := ⟨h5_⟩
     have n6_ : q8 (Kd.R (Kd.int .i64) 3 w20 w.heap.size (fun k_ => (w.heap.size ≤ k_) ∧ some k_ ≠ (u5 : Value).ownBlock ∧ some k_ ≠ (u7 : Value).ownBlock) u6 jY) := ⟨h6_⟩
     have n7_ : q8 (Kd.R (Kd.int .i64) 3 w20 w.heap.size (fun k_ => (w.heap.size ≤ k_) ∧ some k_ ≠ (u5 : Value).ownBlock ∧ some k_ ≠ (u6 : Value).ownBlock) u7 qb3) := ⟨h7_⟩
     have n8_ : q8 (w20.heap[qH]? = some (.cells #[.int .i64 0, .int .i64 0, .int .i64 0, .slice none 0 0] 55 (0, 0))) := ⟨h8_⟩
     have n9_ : q8 (w.heap.size ≤ qH) := ⟨h9_⟩
     have qE3 : q8 (w.heap.size ≤ qH) := ⟨h10_⟩
     have qE4 : q8 (Below w.heap.size w w20) := ⟨h11_⟩
     clear qa0
     clear qa8
     clear qU
     clear qd0
     clear qf0
     clear qd2
     clear HB
     clear h0_ h1_ h2_ h3_ h4_ h5_ h6_ h7_ h8_ h9_ h10_ h11_
     have qj4 := n0_
     have qj5 := n1_
     have qa0 := n2_
     have qa8 := n3_
     have qU := n4_
     have qd0 := n5_
     have qf0 := n6_
     have qd2 := n7_
     have jF := n8_
     have jC1 := n9_
     have qf1 := qE3
     have HB := qE4
     clear n0_ n1_ n2_ n3_ n4_ n5_ n6_ n7_ n8_ n9_ qE3 qE4
     have hHeld : w20.cell? (jT.add ((qO).toNat * 4)) = some (.int .i64 ((qD t200 qO).f0)) ∧ w20.cell? ⟨(jT.add ((qO).toNat * 4)).block, (jT.add ((qO).toNat * 4)).off + 1, none⟩ = some (.int .i64 ((qD t200 qO).f1)) ∧ w20.cell? ⟨(jT.add ((qO).toNat * 4)).block, (jT.add ((qO).toNat * 4)).off + 2, none⟩ = some (.int .i64 ((qD t200 qO).f2)) ∧ w20.cell? ⟨(jT.add ((qO).toNat * 4)).block, (jT.add ((qO).toNat * 4)).off + 3, none⟩ = some (.slice qA5 ((qD t200 qO).f3).length qA6) ∧ w20.cell? (jT.add ((qO).toNat * 4)) = some (.int .i64 ((qD t200 qO).f0)) ∧ w20.cell? ⟨(jT.add ((qO).toNat * 4)).block, (jT.add ((qO).toNat * 4)).off + 1, none⟩ = some (.int .i64 ((qD t200 qO).f1)) ∧ w20.cell? ⟨(jT.add ((qO).toNat * 4)).block, (jT.add ((qO).toNat * 4)).off + 2, none⟩ = some (.int .i64 ((qD t200 qO).f2)) ∧ w20.cell? ⟨(jT.add ((qO).toNat * 4)).block, (jT.add ((qO).toNat * 4)).off + 3, none⟩ = some (.slice qA5 ((qD t200 qO).f3).length qA6) := hS_
     refine qE1 (a' := ?_) ?_ ?_
     rotate_left
     ·simp only [qW5, Act.put, List.setIfInBounds_toArray, List.set_cons_zero, List.set_cons_succ]
      rfl
     refine jS5 (i := 16) (N := none) #[true, true, true, true, true, true, true, true, true, true, true, true, true, true, true, true, true] rfl rfl (qQ3 HT_.out (by kernel_rfl)) (by decide) (fun K hK => ?_)
     have hs21 : w20.cell? ⟨qH, 0, none⟩ = some (.int .i64 0) := (qE jF.out 0).trans rfl
     have hfs21 := qC jF.out 0
     have hs22 : w20.cell? ⟨qH, 1, none⟩ = some (.int .i64 0) := (qE jF.out 1).trans rfl
     have hfs22 := qC jF.out 1
     have hs23 : w20.cell? ⟨qH, 2, none⟩ = some (.int .i64 0) := (qE jF.out 2).trans rfl
     have hfs23 := qC jF.out 2
     have hs24 : w20.cell? ⟨qH, 3, none⟩ = some (.slice none 0 0) := (qE jF.out 3).trans rfl
     have hfs24 := qC jF.out 3
     refine Qm6 (w1 := ?_) (by rfl) rfl ?_ ?_
     rotate_left
     ·go_simp
      rfl
     refine hK.out _ _ ⟨((cell_far (p := ⟨qH, _, none⟩) (by first | exact Kd.qQ (Kd.qX qU.out (fun _ hk => hk.2.2.2.2.2)) | (rw [add_block]; exact Kd.qQ (Kd.qX qU.out (fun _ hk => hk.2.2.2.2.2))) | (show (Addr.add _ _).block ≠ _; rw [add_block]; exact Kd.qQ (Kd.qX qU.out (fun _ hk => hk.2.2.2.2.2))) | (dsimp only; exact Kd.qQ (Kd.qX qU.out (fun _ hk => hk.2.2.2.2.2)))) _).trans (((cell_far (p := ⟨qH, _, none⟩) (by first | exact Kd.qQ (Kd.qX qU.out (fun _ hk => hk.2.2.2.2.2)) | (rw [add_block]; exact Kd.qQ (Kd.qX qU.out (fun _ hk => hk.2.2.2.2.2))) | (show (Addr.add _ _).block ≠ _; rw [add_block]; exact Kd.qQ (Kd.qX qU.out (fun _ hk => hk.2.2.2.2.2))) | (dsimp only; exact Kd.qQ (Kd.qX qU.out (fun _ hk => hk.2.2.2.2.2)))) _).trans (((cell_far (p := ⟨qH, _, none⟩) (by first | exact Kd.qQ (Kd.qX qU.out (fun _ hk => hk.2.2.2.2.2)) | (rw [add_block]; exact Kd.qQ (Kd.qX qU.out (fun _ hk => hk.2.2.2.2.2))) | (show (Addr.add _ _).block ≠ _; rw [add_block]; exact Kd.qQ (Kd.qX qU.out (fun _ hk => hk.2.2.2.2.2))) | (dsimp only; exact Kd.qQ (Kd.qX qU.out (fun _ hk => hk.2.2.2.2.2)))) _).trans (((cell_far (p := ⟨qH, _, none⟩) (by first | exact Kd.qQ (Kd.qX qU.out (fun _ hk => hk.2.2.2.2.2)) | (rw [add_block]; exact Kd.qQ (Kd.qX qU.out (fun _ hk => hk.2.2.2.2.2))) | (show (Addr.add _ _).block ≠ _; rw [add_block]; exact Kd.qQ (Kd.qX qU.out (fun _ hk => hk.2.2.2.2.2))) | (dsimp only; exact Kd.qQ (Kd.qX qU.out (fun _ hk => hk.2.2.2.2.2)))) _).trans (hHeld.1)))))))), ((cell_far (p := ⟨qH, _, none⟩) (by first | exact Kd.qQ (Kd.qX qU.out (fun _ hk => hk.2.2.2.2.2)) | (rw [add_block]; exact Kd.qQ (Kd.qX qU.out (fun _ hk => hk.2.2.2.2.2))) | (show (Addr.add _ _).block ≠ _; rw [add_block]; exact Kd.qQ (Kd.qX qU.out (fun _ hk => hk.2.2.2.2.2))) | (dsimp only; exact Kd.qQ (Kd.qX qU.out (fun _ hk => hk.2.2.2.2.2)))) _).trans (((cell_far (p := ⟨qH, _, none⟩) (by first | exact Kd.qQ (Kd.qX qU.out (fun _ hk => hk.2.2.2.2.2)) | (rw [add_block]; exact Kd.qQ (Kd.qX qU.out (fun _ hk => hk.2.2.2.2.2))) | (show (Addr.add _ _).block ≠ _; rw [add_block]; exact Kd.qQ (Kd.qX qU.out (fun _ hk => hk.2.2.2.2.2))) | (dsimp only; exact Kd.qQ (Kd.qX qU.out (fun _ hk => hk.2.2.2.2.2)))) _).trans (((cell_far (p := ⟨qH, _, none⟩) (by first | exact Kd.qQ (Kd.qX qU.out (fun _ hk => hk.2.2.2.2.2)) | (rw [add_block]; exact Kd.qQ (Kd.qX qU.out (fun _ hk => hk.2.2.2.2.2))) | (show (Addr.add _ _).block ≠ _; rw [add_block]; exact Kd.qQ (Kd.qX qU.out (fun _ hk => hk.2.2.2.2.2))) | (dsimp only; exact Kd.qQ (Kd.qX qU.out (fun _ hk => hk.2.2.2.2.2)))) _).trans (((cell_far (p := ⟨qH, _, none⟩) (by first | exact Kd.qQ (Kd.qX qU.out (fun _ hk => hk.2.2.2.2.2)) | (rw [add_block]; exact Kd.qQ (Kd.qX qU.out (fun _ hk => hk.2.2.2.2.2))) | (show (Addr.add _ _).block ≠ _; rw [add_block]; exact Kd.qQ (Kd.qX qU.out (fun _ hk => hk.2.2.2.2.2))) | (dsimp only; exact Kd.qQ (Kd.qX qU.out (fun _ hk => hk.2.2.2.2.2)))) _).trans (hHeld.2.1)))))))), ((cell_far (p := ⟨qH, _, none⟩) (by first | exact Kd.qQ (Kd.qX qU.out (fun _ hk => hk.2.2.2.2.2)) | (rw [add_block]; exact Kd.qQ (Kd.qX qU.out (fun _ hk => hk.2.2.2.2.2))) | (show (Addr.add _ _).block ≠ _; rw [add_block]; exact Kd.qQ (Kd.qX qU.out (fun _ hk => hk.2.2.2.2.2))) | (dsimp only; exact Kd.qQ (Kd.qX qU.out (fun _ hk => hk.2.2.2.2.2)))) _).trans (((cell_far (p := ⟨qH, _, none⟩) (by first | exact Kd.qQ (Kd.qX qU.out (fun _ hk => hk.2.2.2.2.2)) | (rw [add_block]; exact Kd.qQ (Kd.qX qU.out (fun _ hk => hk.2.2.2.2.2))) | (show (Addr.add _ _).block ≠ _; rw [add_block]; exact Kd.qQ (Kd.qX qU.out (fun _ hk => hk.2.2.2.2.2))) | (dsimp only; exact Kd.qQ (Kd.qX qU.out (fun _ hk => hk.2.2.2.2.2)))) _).trans (((cell_far (p := ⟨qH, _, none⟩) (by first | exact Kd.qQ (Kd.qX qU.out (fun _ hk => hk.2.2.2.2.2)) | (rw [add_block]; exact Kd.qQ (Kd.qX qU.out (fun _ hk => hk.2.2.2.2.2))) | (show (Addr.add _ _).block ≠ _; rw [add_block]; exact Kd.qQ (Kd.qX qU.out (fun _ hk => hk.2.2.2.2.2))) | (dsimp only; exact Kd.qQ (Kd.qX qU.out (fun _ hk => hk.2.2.2.2.2)))) _).trans (((cell_far (p := ⟨qH, _, none⟩) (by first | exact Kd.qQ (Kd.qX qU.out (fun _ hk => hk.2.2.2.2.2)) | (rw [add_block]; exact Kd.qQ (Kd.qX qU.out (fun _ hk => hk.2.2.2.2.2))) | (show (Addr.add _ _).block ≠ _; rw [add_block]; exact Kd.qQ (Kd.qX qU.out (fun _ hk => hk.2.2.2.2.2))) | (dsimp only; exact Kd.qQ (Kd.qX qU.out (fun _ hk => hk.2.2.2.2.2)))) _).trans (hHeld.2.2.1)))))))), ((cell_far (p := ⟨qH, _, none⟩) (by first | exact Kd.qQ (Kd.qX qU.out (fun _ hk => hk.2.2.2.2.2)) | (rw [add_block]; exact Kd.qQ (Kd.qX qU.out (fun _ hk => hk.2.2.2.2.2))) | (show (Addr.add _ _).block ≠ _; rw [add_block]; exact Kd.qQ (Kd.qX qU.out (fun _ hk => hk.2.2.2.2.2))) | (dsimp only; exact Kd.qQ (Kd.qX qU.out (fun _ hk => hk.2.2.2.2.2)))) _).trans (((cell_far (p := ⟨qH, _, none⟩) (by first | exact Kd.qQ (Kd.qX qU.out (fun _ hk => hk.2.2.2.2.2)) | (rw [add_block]; exact Kd.qQ (Kd.qX qU.out (fun _ hk => hk.2.2.2.2.2))) | (show (Addr.add _ _).block ≠ _; rw [add_block]; exact Kd.qQ (Kd.qX qU.out (fun _ hk => hk.2.2.2.2.2))) | (dsimp only; exact Kd.qQ (Kd.qX qU.out (fun _ hk => hk.2.2.2.2.2)))) _).trans (((cell_far (p := ⟨qH, _, none⟩) (by first | exact Kd.qQ (Kd.qX qU.out (fun _ hk => hk.2.2.2.2.2)) | (rw [add_block]; exact Kd.qQ (Kd.qX qU.out (fun _ hk => hk.2.2.2.2.2))) | (show (Addr.add _ _).block ≠ _; rw [add_block]; exact Kd.qQ (Kd.qX qU.out (fun _ hk => hk.2.2.2.2.2))) | (dsimp only; exact Kd.qQ (Kd.qX qU.out (fun _ hk => hk.2.2.2.2.2)))) _).trans (((cell_far (p := ⟨qH, _, none⟩) (by first | exact Kd.qQ (Kd.qX qU.out (fun _ hk => hk.2.2.2.2.2)) | (rw [add_block]; exact Kd.qQ (Kd.qX qU.out (fun _ hk => hk.2.2.2.2.2))) | (show (Addr.add _ _).block ≠ _; rw [add_block]; exact Kd.qQ (Kd.qX qU.out (fun _ hk => hk.2.2.2.2.2))) | (dsimp only; exact Kd.qQ (Kd.qX qU.out (fun _ hk => hk.2.2.2.2.2)))) _).trans (hHeld.2.2.2.1)))))))), ((cell_far (p := ⟨qH, _, none⟩) (by first | exact Kd.qQ (Kd.qX qU.out (fun _ hk => hk.2.2.2.2.2)) | (rw [add_block]; exact Kd.qQ (Kd.qX qU.out (fun _ hk => hk.2.2.2.2.2))) | (show (Addr.add _ _).block ≠ _; rw [add_block]; exact Kd.qQ (Kd.qX qU.out (fun _ hk => hk.2.2.2.2.2))) | (dsimp only; exact Kd.qQ (Kd.qX qU.out (fun _ hk => hk.2.2.2.2.2)))) _).trans (((cell_far (p := ⟨qH, _, none⟩) (by first | exact Kd.qQ (Kd.qX qU.out (fun _ hk => hk.2.2.2.2.2)) | (rw [add_block]; exact Kd.qQ (Kd.qX qU.out (fun _ hk => hk.2.2.2.2.2))) | (show (Addr.add _ _).block ≠ _; rw [add_block]; exact Kd.qQ (Kd.qX qU.out (fun _ hk => hk.2.2.2.2.2))) | (dsimp only; exact Kd.qQ (Kd.qX qU.out (fun _ hk => hk.2.2.2.2.2)))) _).trans (((cell_far (p := ⟨qH, _, none⟩) (by first | exact Kd.qQ (Kd.qX qU.out (fun _ hk => hk.2.2.2.2.2)) | (rw [add_block]; exact Kd.qQ (Kd.qX qU.out (fun _ hk => hk.2.2.2.2.2))) | (show (Addr.add _ _).block ≠ _; rw [add_block]; exact Kd.qQ (Kd.qX qU.out (fun _ hk => hk.2.2.2.2.2))) | (dsimp only; exact Kd.qQ (Kd.qX qU.out (fun _ hk => hk.2.2.2.2.2)))) _).trans (((cell_far (p := ⟨qH, _, none⟩) (by first | exact Kd.qQ (Kd.qX qU.out (fun _ hk => hk.2.2.2.2.2)) | (rw [add_block]; exact Kd.qQ (Kd.qX qU.out (fun _ hk => hk.2.2.2.2.2))) | (show (Addr.add _ _).block ≠ _; rw [add_block]; exact Kd.qQ (Kd.qX qU.out (fun _ hk => hk.2.2.2.2.2))) | (dsimp only; exact Kd.qQ (Kd.qX qU.out (fun _ hk => hk.2.2.2.2.2)))) _).trans (hHeld.2.2.2.2.1)))))))), ((cell_far (p := ⟨qH, _, none⟩) (by first | exact Kd.qQ (Kd.qX qU.out (fun _ hk => hk.2.2.2.2.2)) | (rw [add_block]; exact Kd.qQ (Kd.qX qU.out (fun _ hk => hk.2.2.2.2.2))) | (show (Addr.add _ _).block ≠ _; rw [add_block]; exact Kd.qQ (Kd.qX qU.out (fun _ hk => hk.2.2.2.2.2))) | (dsimp only; exact Kd.qQ (Kd.qX qU.out (fun _ hk => hk.2.2.2.2.2)))) _).trans (((cell_far (p := ⟨qH, _, none⟩) (by first | exact Kd.qQ (Kd.qX qU.out (fun _ hk => hk.2.2.2.2.2)) | (rw [add_block]; exact Kd.qQ (Kd.qX qU.out (fun _ hk => hk.2.2.2.2.2))) | (show (Addr.add _ _).block ≠ _; rw [add_block]; exact Kd.qQ (Kd.qX qU.out (fun _ hk => hk.2.2.2.2.2))) | (dsimp only; exact Kd.qQ (Kd.qX qU.out (fun _ hk => hk.2.2.2.2.2)))) _).trans (((cell_far (p := ⟨qH, _, none⟩) (by first | exact Kd.qQ (Kd.qX qU.out (fun _ hk => hk.2.2.2.2.2)) | (rw [add_block]; exact Kd.qQ (Kd.qX qU.out (fun _ hk => hk.2.2.2.2.2))) | (show (Addr.add _ _).block ≠ _; rw [add_block]; exact Kd.qQ (Kd.qX qU.out (fun _ hk => hk.2.2.2.2.2))) | (dsimp only; exact Kd.qQ (Kd.qX qU.out (fun _ hk => hk.2.2.2.2.2)))) _).trans (((cell_far (p := ⟨qH, _, none⟩) (by first | exact Kd.qQ (Kd.qX qU.out (fun _ hk => hk.2.2.2.2.2)) | (rw [add_block]; exact Kd.qQ (Kd.qX qU.out (fun _ hk => hk.2.2.2.2.2))) | (show (Addr.add _ _).block ≠ _; rw [add_block]; exact Kd.qQ (Kd.qX qU.out (fun _ hk => hk.2.2.2.2.2))) | (dsimp only; exact Kd.qQ (Kd.qX qU.out (fun _ hk => hk.2.2.2.2.2)))) _).trans (hHeld.2.2.2.2.2.1)))))))), ((cell_far (p := ⟨qH, _, none⟩) (by first | exact Kd.qQ (Kd.qX qU.out (fun _ hk => hk.2.2.2.2.2)) | (rw [add_block]; exact Kd.qQ (Kd.qX qU.out (fun _ hk => hk.2.2.2.2.2))) | (show (Addr.add _ _).block ≠ _; rw [add_block]; exact Kd.qQ (Kd.qX qU.out (fun _ hk => hk.2.2.2.2.2))) | (dsimp only; exact Kd.qQ (Kd.qX qU.out (fun _ hk => hk.2.2.2.2.2)))) _).trans (((cell_far (p := ⟨qH, _, none⟩) (by first | exact Kd.qQ (Kd.qX qU.out (fun _ hk => hk.2.2.2.2.2)) | (rw [add_block]; exact Kd.qQ (Kd.qX qU.out (fun _ hk => hk.2.2.2.2.2))) | (show (Addr.add _ _).block ≠ _; rw [add_block]; exact Kd.qQ (Kd.qX qU.out (fun _ hk => hk.2.2.2.2.2))) | (dsimp only; exact Kd.qQ (Kd.qX qU.out (fun _ hk => hk.2.2.2.2.2)))) _).trans (((cell_far (p := ⟨qH, _, none⟩) (by first | exact Kd.qQ (Kd.qX qU.out (fun _ hk => hk.2.2.2.2.2)) | (rw [add_block]; exact Kd.qQ (Kd.qX qU.out (fun _ hk => hk.2.2.2.2.2))) | (show (Addr.add _ _).block ≠ _; rw [add_block]; exact Kd.qQ (Kd.qX qU.out (fun _ hk => hk.2.2.2.2.2))) | (dsimp only; exact Kd.qQ (Kd.qX qU.out (fun _ hk => hk.2.2.2.2.2)))) _).trans (((cell_far (p := ⟨qH, _, none⟩) (by first | exact Kd.qQ (Kd.qX qU.out (fun _ hk => hk.2.2.2.2.2)) | (rw [add_block]; exact Kd.qQ (Kd.qX qU.out (fun _ hk => hk.2.2.2.2.2))) | (show (Addr.add _ _).block ≠ _; rw [add_block]; exact Kd.qQ (Kd.qX qU.out (fun _ hk => hk.2.2.2.2.2))) | (dsimp only; exact Kd.qQ (Kd.qX qU.out (fun _ hk => hk.2.2.2.2.2)))) _).trans (hHeld.2.2.2.2.2.2.1)))))))), ((cell_far (p := ⟨qH, _, none⟩) (by first | exact Kd.qQ (Kd.qX qU.out (fun _ hk => hk.2.2.2.2.2)) | (rw [add_block]; exact Kd.qQ (Kd.qX qU.out (fun _ hk => hk.2.2.2.2.2))) | (show (Addr.add _ _).block ≠ _; rw [add_block]; exact Kd.qQ (Kd.qX qU.out (fun _ hk => hk.2.2.2.2.2))) | (dsimp only; exact Kd.qQ (Kd.qX qU.out (fun _ hk => hk.2.2.2.2.2)))) _).trans (((cell_far (p := ⟨qH, _, none⟩) (by first | exact Kd.qQ (Kd.qX qU.out (fun _ hk => hk.2.2.2.2.2)) | (rw [add_block]; exact Kd.qQ (Kd.qX qU.out (fun _ hk => hk.2.2.2.2.2))) | (show (Addr.add _ _).block ≠ _; rw [add_block]; exact Kd.qQ (Kd.qX qU.out (fun _ hk => hk.2.2.2.2.2))) | (dsimp only; exact Kd.qQ (Kd.qX qU.out (fun _ hk => hk.2.2.2.2.2)))) _).trans (((cell_far (p := ⟨qH, _, none⟩) (by first | exact Kd.qQ (Kd.qX qU.out (fun _ hk => hk.2.2.2.2.2)) | (rw [add_block]; exact Kd.qQ (Kd.qX qU.out (fun _ hk => hk.2.2.2.2.2))) | (show (Addr.add _ _).block ≠ _; rw [add_block]; exact Kd.qQ (Kd.qX qU.out (fun _ hk => hk.2.2.2.2.2))) | (dsimp only; exact Kd.qQ (Kd.qX qU.out (fun _ hk => hk.2.2.2.2.2)))) _).trans (((cell_far (p := ⟨qH, _, none⟩) (by first | exact Kd.qQ (Kd.qX qU.out (fun _ hk => hk.2.2.2.2.2)) | (rw [add_block]; exact Kd.qQ (Kd.qX qU.out (fun _ hk => hk.2.2.2.2.2))) | (show (Addr.add _ _).block ≠ _; rw [add_block]; exact Kd.qQ (Kd.qX qU.out (fun _ hk => hk.2.2.2.2.2))) | (dsimp only; exact Kd.qQ (Kd.qX qU.out (fun _ hk => hk.2.2.2.2.2)))) _).trans (hHeld.2.2.2.2.2.2.2))))))))⟩ (fun hHeld => ?_)
     clear hK K
     refine zk4 (jm5 HT_.out (by kernel_rfl)) ?_
     have n0_ : q8 (Kd.V k55 55 ((((w20.setCell ⟨qH, 0, none⟩ (.int .i64 0)).setCell ⟨qH, 1, none⟩ (.int .i64 t213)).setCell ⟨qH, 2, none⟩ (.int .i64 t215)).setCell ⟨qH, 3, none⟩ (.slice none 0 0)) w.heap.size (fun k_ => (P0_ k_ ∨ w.heap.size ≤ k_) ∧ some k_ ≠ (u3 : Value).ownBlock ∧ some k_ ≠ (.slice (some jT) t200.length qh6 : Value).ownBlock ∧ some k_ ≠ (u5 : Value).ownBlock ∧ some k_ ≠ (u6 : Value).ownBlock ∧ some k_ ≠ (u7 : Value).ownBlock ∧ k_ ≠ qH) (.slice A0 l0.length c0) l0) := ⟨by (with_reducible repeat (first | apply Kd.jP | apply Kd.jQ | apply Kd.zC)); exact Kd.zO (Kd.qg0 (p := ⟨qH, 3, none⟩) (Kd.qg0 (p := ⟨qH, 2, none⟩) (Kd.qg0 (p := ⟨qH, 1, none⟩) (Kd.qg0 (p := ⟨qH, 0, none⟩) (Kd.zO qa0.out (fun k_ hk => (⟨hk, hk.2.2.2.2.2.2⟩ : _ ∧ k_ ≠ qH))) (fun _ hk => hk.2) (.int .i64 0)) (fun _ hk => hk.2) (.int .i64 t213)) (fun _ hk => hk.2) (.int .i64 t215)) (fun _ hk => hk.2) (.slice none 0 0)) (fun _ hk => ⟨hk.1.1, ⟨hk.1.2.1, ⟨hk.1.2.2.1, ⟨hk.1.2.2.2.1, ⟨hk.1.2.2.2.2.1, ⟨hk.1.2.2.2.2.2.1, hk.1.2.2.2.2.2.2⟩⟩⟩⟩⟩⟩)⟩
     have n1_ : q8 (Kd.N k55 55 ((((w20.setCell ⟨qH, 0, none⟩ (.int .i64 0)).setCell ⟨qH, 1, none⟩ (.int .i64 t213)).setCell ⟨qH, 2, none⟩ (.int .i64 t215)).setCell ⟨qH, 3, none⟩ (.slice none 0 0)) w.heap.size (fun k_ => (P0_ k_ ∨ w.heap.size ≤ k_) ∧ some k_ ≠ (.slice (some jT) t200.length qh6 : Value).ownBlock ∧ some k_ ≠ (u5 : Value).ownBlock ∧ some k_ ≠ (u6 : Value).ownBlock ∧ some k_ ≠ (u7 : Value).ownBlock ∧ k_ ≠ qH) u3 ql7) := ⟨by (with_reducible repeat (first | apply Kd.jD | apply Kd.jE | apply Kd.jH)); exact Kd.zA (Kd.qg8 (p := ⟨qH, 3, none⟩) (Kd.qg8 (p := ⟨qH, 2, none⟩) (Kd.qg8 (p := ⟨qH, 1, none⟩) (Kd.qg8 (p := ⟨qH, 0, none⟩) (Kd.zA qa8.out (fun k_ hk => (⟨hk, hk.2.2.2.2.2⟩ : _ ∧ k_ ≠ qH))) (fun _ hk => hk.2) (.int .i64 0)) (fun _ hk => hk.2) (.int .i64 t213)) (fun _ hk => hk.2) (.int .i64 t215)) (fun _ hk => hk.2) (.slice none 0 0)) (fun _ hk => ⟨hk.1.1, ⟨hk.1.2.1, ⟨hk.1.2.2.1, ⟨hk.1.2.2.2.1, ⟨hk.1.2.2.2.2.1, hk.1.2.2.2.2.2⟩⟩⟩⟩⟩)⟩
     have n2_ : q8 (Kd.N k55 55 ((((w20.setCell ⟨qH, 0, none⟩ (.int .i64 0)).setCell ⟨qH, 1, none⟩ (.int .i64 t213)).setCell ⟨qH, 2, none⟩ (.int .i64 t215)).setCell ⟨qH, 3, none⟩ (.slice none 0 0)) w.heap.size (fun k_ => (P0_ k_ ∨ w.heap.size ≤ k_) ∧ some k_ ≠ (u3 : Value).ownBlock ∧ some k_ ≠ (u5 : Value).ownBlock ∧ some k_ ≠ (u6 : Value).ownBlock ∧ some k_ ≠ (u7 : Value).ownBlock ∧ k_ ≠ qH) (.slice (some jT) t200.length qh6) t200) := ⟨by (with_reducible repeat (first | apply Kd.jD | apply Kd.jE | apply Kd.jH)); exact Kd.zA (Kd.qg8 (p := ⟨qH, 3, none⟩) (Kd.qg8 (p := ⟨qH, 2, none⟩) (Kd.qg8 (p := ⟨qH, 1, none⟩) (Kd.qg8 (p := ⟨qH, 0, none⟩) (Kd.zA qU.out (fun k_ hk => (⟨hk, hk.2.2.2.2.2⟩ : _ ∧ k_ ≠ qH))) (fun _ hk => hk.2) (.int .i64 0)) (fun _ hk => hk.2) (.int .i64 t213)) (fun _ hk => hk.2) (.int .i64 t215)) (fun _ hk => hk.2) (.slice none 0 0)) (fun _ hk => ⟨hk.1.1, ⟨hk.1.2.1, ⟨hk.1.2.2.1, ⟨hk.1.2.2.2.1, ⟨hk.1.2.2.2.2.1, hk.1.2.2.2.2.2⟩⟩⟩⟩⟩)⟩
     have n3_ : q8 (Kd.R (Kd.int .i64) 3 ((((w20.setCell ⟨qH, 0, none⟩ (.int .i64 0)).setCell ⟨qH, 1, none⟩ (.int .i64 t213)).setCell ⟨qH, 2, none⟩ (.int .i64 t215)).setCell ⟨qH, 3, none⟩ (.slice none 0 0)) w.heap.size (fun k_ => (w.heap.size ≤ k_) ∧ some k_ ≠ (u6 : Value).ownBlock ∧ some k_ ≠ (u7 : Value).ownBlock) u5 qA4) := ⟨by (with_reducible repeat (first | apply Kd.qV | apply Kd.qW | apply Kd.jC)); exact Kd.jK (Kd.zQ (p := ⟨qH, 3, none⟩) (Kd.zQ (p := ⟨qH, 2, none⟩) (Kd.zQ (p := ⟨qH, 1, none⟩) (Kd.zQ (p := ⟨qH, 0, none⟩) (Kd.qb6 qd0.out jF.out (by decide)) (fun _ hk => hk.2) (.int .i64 0)) (fun _ hk => hk.2) (.int .i64 t213)) (fun _ hk => hk.2) (.int .i64 t215)) (fun _ hk => hk.2) (.slice none 0 0)) (fun _ hk => ⟨hk.1.1, ⟨hk.1.2.1, hk.1.2.2⟩⟩)⟩
     have n4_ : q8 (Kd.R (Kd.int .i64) 3 ((((w20.setCell ⟨qH, 0, none⟩ (.int .i64 0)).setCell ⟨qH, 1, none⟩ (.int .i64 t213)).setCell ⟨qH, 2, none⟩ (.int .i64 t215)).setCell ⟨qH, 3, none⟩ (.slice none 0 0)) w.heap.size (fun k_ => (w.heap.size ≤ k_) ∧ some k_ ≠ (u5 : Value).ownBlock ∧ some k_ ≠ (u7 : Value).ownBlock) u6 jY) := ⟨by (with_reducible repeat (first | apply Kd.qV | apply Kd.qW | apply Kd.jC)); exact Kd.jK (Kd.zQ (p := ⟨qH, 3, none⟩) (Kd.zQ (p := ⟨qH, 2, none⟩) (Kd.zQ (p := ⟨qH, 1, none⟩) (Kd.zQ (p := ⟨qH, 0, none⟩) (Kd.qb6 qf0.out jF.out (by decide)) (fun _ hk => hk.2) (.int .i64 0)) (fun _ hk => hk.2) (.int .i64 t213)) (fun _ hk => hk.2) (.int .i64 t215)) (fun _ hk => hk.2) (.slice none 0 0)) (fun _ hk => ⟨hk.1.1, ⟨hk.1.2.1, hk.1.2.2⟩⟩)⟩
     have n5_ : q8 (Kd.R (Kd.int .i64) 3 ((((w20.setCell ⟨qH, 0, none⟩ (.int .i64 0)).setCell ⟨qH, 1, none⟩ (.int .i64 t213)).setCell ⟨qH, 2, none⟩ (.int .i64 t215)).setCell ⟨qH, 3, none⟩ (.slice none 0 0)) w.heap.size (fun k_ => (w.heap.size ≤ k_) ∧ some k_ ≠ (u5 : Value).ownBlock ∧ some k_ ≠ (u6 : Value).ownBlock) u7 qb3) := ⟨by (with_reducible repeat (first | apply Kd.qV | apply Kd.qW | apply Kd.jC)); exact Kd.jK (Kd.zQ (p := ⟨qH, 3, none⟩) (Kd.zQ (p := ⟨qH, 2, none⟩) (Kd.zQ (p := ⟨qH, 1, none⟩) (Kd.zQ (p := ⟨qH, 0, none⟩) (Kd.qb6 qd2.out jF.out (by decide)) (fun _ hk => hk.2) (.int .i64 0)) (fun _ hk => hk.2) (.int .i64 t213)) (fun _ hk => hk.2) (.int .i64 t215)) (fun _ hk => hk.2) (.slice none 0 0)) (fun _ hk => ⟨hk.1.1, ⟨hk.1.2.1, hk.1.2.2⟩⟩)⟩
     have n6_ : q8 (Kd.V k51 51 ((((w20.setCell ⟨qH, 0, none⟩ (.int .i64 0)).setCell ⟨qH, 1, none⟩ (.int .i64 t213)).setCell ⟨qH, 2, none⟩ (.int .i64 t215)).setCell ⟨qH, 3, none⟩ (.slice none 0 0)) w.heap.size (fun k_ => (P0_ k_ ∨ w.heap.size ≤ k_) ∧ some k_ ≠ (u3 : Value).ownBlock ∧ some k_ ≠ (.slice (some jT) t200.length qh6 : Value).ownBlock ∧ some k_ ≠ (u5 : Value).ownBlock ∧ some k_ ≠ (u6 : Value).ownBlock ∧ some k_ ≠ (u7 : Value).ownBlock ∧ k_ ≠ qH) (.slice qA5 ((qD t200 qO).f3).length qA6) ((qD t200 qO).f3)) := ⟨by (with_reducible repeat (first | apply Kd.jP | apply Kd.jQ | apply Kd.zC)); exact Kd.zO (Kd.qg0 (p := ⟨qH, 3, none⟩) (Kd.qg0 (p := ⟨qH, 2, none⟩) (Kd.qg0 (p := ⟨qH, 1, none⟩) (Kd.qg0 (p := ⟨qH, 0, none⟩) (Kd.zO qj4.out (fun k_ hk => (⟨hk, hk.2.2.2.2.2.2⟩ : _ ∧ k_ ≠ qH))) (fun _ hk => hk.2) (.int .i64 0)) (fun _ hk => hk.2) (.int .i64 t213)) (fun _ hk => hk.2) (.int .i64 t215)) (fun _ hk => hk.2) (.slice none 0 0)) (fun _ hk => ⟨hk.1.1, ⟨hk.1.2.1, ⟨hk.1.2.2.1, ⟨hk.1.2.2.2.1, ⟨hk.1.2.2.2.2.1, ⟨hk.1.2.2.2.2.2.1, hk.1.2.2.2.2.2.2⟩⟩⟩⟩⟩⟩)⟩
     have n7_ : q8 (Kd.V k51 51 ((((w20.setCell ⟨qH, 0, none⟩ (.int .i64 0)).setCell ⟨qH, 1, none⟩ (.int .i64 t213)).setCell ⟨qH, 2, none⟩ (.int .i64 t215)).setCell ⟨qH, 3, none⟩ (.slice none 0 0)) w.heap.size (fun k_ => (P0_ k_ ∨ w.heap.size ≤ k_) ∧ some k_ ≠ (u3 : Value).ownBlock ∧ some k_ ≠ (.slice (some jT) t200.length qh6 : Value).ownBlock ∧ some k_ ≠ (u5 : Value).ownBlock ∧ some k_ ≠ (u6 : Value).ownBlock ∧ some k_ ≠ (u7 : Value).ownBlock ∧ k_ ≠ qH) (.slice qA5 ((qD t200 qO).f3).length qA6) ((qD t200 qO).f3)) := ⟨by (with_reducible repeat (first | apply Kd.jP | apply Kd.jQ | apply Kd.zC)); exact Kd.zO (Kd.qg0 (p := ⟨qH, 3, none⟩) (Kd.qg0 (p := ⟨qH, 2, none⟩) (Kd.qg0 (p := ⟨qH, 1, none⟩) (Kd.qg0 (p := ⟨qH, 0, none⟩) (Kd.zO qj5.out (fun k_ hk => (⟨hk, hk.2.2.2.2.2.2⟩ : _ ∧ k_ ≠ qH))) (fun _ hk => hk.2) (.int .i64 0)) (fun _ hk => hk.2) (.int .i64 t213)) (fun _ hk => hk.2) (.int .i64 t215)) (fun _ hk => hk.2) (.slice none 0 0)) (fun _ hk => ⟨hk.1.1, ⟨hk.1.2.1, ⟨hk.1.2.2.1, ⟨hk.1.2.2.2.1, ⟨hk.1.2.2.2.2.1, ⟨hk.1.2.2.2.2.2.1, hk.1.2.2.2.2.2.2⟩⟩⟩⟩⟩⟩)⟩
     have n8_ : q8 (((((w20.setCell ⟨qH, 0, none⟩ (.int .i64 0)).setCell ⟨qH, 1, none⟩ (.int .i64 t213)).setCell ⟨qH, 2, none⟩ (.int .i64 t215)).setCell ⟨qH, 3, none⟩ (.slice none 0 0)).heap[qH]? = some (.cells #[.int .i64 0, .int .i64 t213, .int .i64 t215, .slice none 0 0] 55 (0, 0))) := ⟨by (with_reducible repeat (first | refine qI ?_ _ | refine qR ?_ | refine qJ ?_ _)); refine qd9 (cs := #[.int .i64 0, .int .i64 t213, .int .i64 t215, .slice none 0 0]) ?_ 3 _ rfl; (with_reducible repeat (first | refine qI ?_ _ | refine qR ?_ | refine qJ ?_ _)); refine qd9 (cs := #[.int .i64 0, .int .i64 t213, .int .i64 0, .slice none 0 0]) ?_ 2 _ rfl; (with_reducible repeat (first | refine qI ?_ _ | refine qR ?_ | refine qJ ?_ _)); refine qd9 (cs := #[.int .i64 0, .int .i64 0, .int .i64 0, .slice none 0 0]) ?_ 1 _ rfl; (with_reducible repeat (first | refine qI ?_ _ | refine qR ?_ | refine qJ ?_ _)); refine qd9 (cs := #[.int .i64 0, .int .i64 0, .int .i64 0, .slice none 0 0]) ?_ 0 _ rfl; (with_reducible repeat (first | refine qI ?_ _ | refine qR ?_ | refine qJ ?_ _)); exact jF.out⟩
     have n9_ : q8 (Below w.heap.size w ((((w20.setCell ⟨qH, 0, none⟩ (.int .i64 0)).setCell ⟨qH, 1, none⟩ (.int .i64 t213)).setCell ⟨qH, 2, none⟩ (.int .i64 t215)).setCell ⟨qH, 3, none⟩ (.slice none 0 0))) := ⟨by repeat (first | (with_reducible first | exact HB.out | apply qA | apply q9 | apply qB | refine qK ?_ qf1.out) | exact HB.out)⟩
     (try clear qa0)
     (try clear qa8)
     (try clear qU)
     (try clear qd0)
     (try clear qf0)
     (try clear qd2)
     (try clear qj4)
     (try clear qj5)
     (try clear jF)
     (try clear HB)
     generalize ((((w20.setCell ⟨qH, 0, none⟩ (.int .i64 0)).setCell ⟨qH, 1, none⟩ (.int .i64 t213)).setCell ⟨qH, 2, none⟩ (.int .i64 t215)).setCell ⟨qH, 3, none⟩ (.slice none 0 0)) = w25 at n0_ n1_ n2_ n3_ n4_ n5_ n6_ n7_ n8_ n9_ ⊢
     have qa0 := n0_
     have qa8 := n1_
     have qU := n2_
     have qd0 := n3_
     have qf0 := n4_
     have qd2 := n5_
     have qj4 := n6_
     have qj5 := n7_
     have jF := n8_
     have HB := n9_
     clear n0_ n1_ n2_ n3_ n4_ n5_ n6_ n7_ n8_ n9_
     have zA7 : 0 ≤ (qO : Int) := of_decide_eq_true (by first | (with_reducible assumption) | assumption)
     have zA8 : qO < (t200.length : Int) := of_decide_eq_true (by first | (with_reducible assumption) | assumption)
     obtain ⟨Qm7, A217_3, c217_3, e217, zL0, zL1, zL2, zl5, zl6, zl7⟩ := qa9 (Kd.zY qU.out).2.2 qO zA7 zA8
     obtain rfl : jT = Qm7 := (by injection e217)
     obtain ⟨ce217, Qc1, Qc2, zA9⟩ := Kd.qI6 qU.out z55 qO zA7 (by first | exact zA8 | exact of_decide_eq_true (by first | (with_reducible assumption) | assumption) | (have e_ := (Kd.zY qU.out).1; omega))
     obtain ⟨Qt2, Qt3, rfl, jJ9, jK0⟩ := qi6 Qc2
     have jn0 := zA9 3 _ rfl
     rw [zS _ _ 3 (by omega)] at jn0
     replace jn0 := Option.some.inj (jn0.symm.trans zl5)
     injection jn0 with qo0 qA3 qo1
     rw [qo0] at jK0
     rw [qo1] at jJ9
     have zL3 := q8.mk (show Kd.V k51 51 _ w.heap.size _ _ ((qD t200 qO).f3) from Kd.qT7 jJ9 jK0)
     clear qo0 qA3 qo1 jK0 jJ9
     clear zA9 Qc1
     have Qt4 := q8.mk zl7
     have Qt5 := q8.mk zl6
     clear zl7 zl6
     replace zA7 := eq_true zA7
     replace zA8 := eq_true zA8
     obtain ⟨Qc3, Qc4, eo26⟩ := Kd.qv5 qd0.out
     subst eo26
     try go_wp2_with (first | ((with_reducible refine qk3 (f := 45) rfl ?_); refine qL3 (some 46) rfl rfl Try.func45 (by kernel_rfl) rfl #[.slice Qc3 qA4.length Qc4, .int .i64 ((qD t200 qO).f0)] rfl (by (try simp only [List.map_toArray, List.map_cons, List.map_nil]); first | done | rfl | (simp only [List.length_drop, List.length_take]; rfl)) ?_; (with_reducible refine (jB.calls k1 (fun k_ => some k_ = (.slice Qc3 qA4.length Qc4 : Value).ownBlock) (.slice Qc3 qA4.length Qc4) qA4 ((qD t200 qO).f0) t218 t221 w _ ?qv7 ?qz4 A16.out).mono ?_); (case qv7 => repeat (first | (with_reducible first | exact HB.out | apply qA | apply q9 | apply qB | refine qK ?_ qf1.out) | exact HB.out)); (case qz4 => exact Kd.jc2 rfl qd0.out); rintro e w27 ⟨v219, rfl, ho0, hb, hkp⟩; refine ⟨_, rfl, ?_⟩; have n0_ := q8.mk (Kd.zO (ok' := fun k_ => (P0_ k_ ∨ w.heap.size ≤ k_) ∧ some k_ ≠ (u3 : Value).ownBlock ∧ some k_ ≠ (.slice (some jT) t200.length qh6 : Value).ownBlock ∧ some k_ ≠ (u6 : Value).ownBlock ∧ some k_ ≠ (u7 : Value).ownBlock ∧ k_ ≠ qH ∧ some k_ ≠ (v219 : Value).ownBlock) (Kd.jn1 (qa0.out) hkp (fun k_ hk_ hs_ => (hk_.2.2.2.1) hs_)) (fun k_ hk_ => ⟨hk_.1.1, hk_.1.2.1, hk_.1.2.2.1, hk_.1.2.2.2.2.1, hk_.1.2.2.2.2.2.1, hk_.1.2.2.2.2.2.2, fun e_ => Or.elim (ho0.1 k_ e_.symm) (fun hs_ => hk_.2.1 hs_) (fun hn_ => Nat.not_le.2 hk_.2.2 hn_)⟩)); have n1_ := q8.mk (Kd.zA (ok' := fun k_ => (P0_ k_ ∨ w.heap.size ≤ k_) ∧ some k_ ≠ (.slice (some jT) t200.length qh6 : Value).ownBlock ∧ some k_ ≠ (u6 : Value).ownBlock ∧ some k_ ≠ (u7 : Value).ownBlock ∧ k_ ≠ qH ∧ some k_ ≠ (v219 : Value).ownBlock) (Kd.qF7 (qa8.out) hkp (fun k_ hk_ hs_ => (hk_.2.2.1) hs_)) (fun k_ hk_ => ⟨hk_.1.1, hk_.1.2.1, hk_.1.2.2.2.1, hk_.1.2.2.2.2.1, hk_.1.2.2.2.2.2, fun e_ => Or.elim (ho0.1 k_ e_.symm) (fun hs_ => hk_.2.1 hs_) (fun hn_ => Nat.not_le.2 hk_.2.2 hn_)⟩)); have n2_ := q8.mk (Kd.zA (ok' := fun k_ => (P0_ k_ ∨ w.heap.size ≤ k_) ∧ some k_ ≠ (u3 : Value).ownBlock ∧ some k_ ≠ (u6 : Value).ownBlock ∧ some k_ ≠ (u7 : Value).ownBlock ∧ k_ ≠ qH ∧ some k_ ≠ (v219 : Value).ownBlock) (Kd.qF7 (qU.out) hkp (fun k_ hk_ hs_ => (hk_.2.2.1) hs_)) (fun k_ hk_ => ⟨hk_.1.1, hk_.1.2.1, hk_.1.2.2.2.1, hk_.1.2.2.2.2.1, hk_.1.2.2.2.2.2, fun e_ => Or.elim (ho0.1 k_ e_.symm) (fun hs_ => hk_.2.1 hs_) (fun hn_ => Nat.not_le.2 hk_.2.2 hn_)⟩)); have n3_ := q8.mk (Kd.jK (ok' := fun k_ => (w.heap.size ≤ k_) ∧ some k_ ≠ (u7 : Value).ownBlock ∧ some k_ ≠ (v219 : Value).ownBlock) (Kd.qv8 (qf0.out) hkp (fun k_ hk_ hs_ => (hk_.2.1) hs_)) (fun k_ hk_ => ⟨hk_.1.1, hk_.1.2.2, fun e_ => Or.elim (ho0.1 k_ e_.symm) (fun hs_ => hk_.2.1 hs_) (fun hn_ => Nat.not_le.2 hk_.2.2 hn_)⟩)); have n4_ := q8.mk (Kd.jK (ok' := fun k_ => (w.heap.size ≤ k_) ∧ some k_ ≠ (u6 : Value).ownBlock ∧ some k_ ≠ (v219 : Value).ownBlock) (Kd.qv8 (qd2.out) hkp (fun k_ hk_ hs_ => (hk_.2.1) hs_)) (fun k_ hk_ => ⟨hk_.1.1, hk_.1.2.2, fun e_ => Or.elim (ho0.1 k_ e_.symm) (fun hs_ => hk_.2.1 hs_) (fun hn_ => Nat.not_le.2 hk_.2.2 hn_)⟩)); have n5_ := q8.mk (qE5 (by (with_reducible repeat (first | refine qI ?_ _ | refine qR ?_ | refine qJ ?_ _)); exact jF.out) hkp (fun hs_ => (fun e_ => (Kd.jK1 qd0.out jF.out (by decide)) e_) hs_)); have n6_ := q8.mk (Kd.jK (ok' := fun k_ => (w.heap.size ≤ k_) ∧ some k_ ≠ (u6 : Value).ownBlock ∧ some k_ ≠ (u7 : Value).ownBlock) ho0 (fun k_ hk_ => ⟨Or.elim hk_ (fun hs_ => (qd0.out.1 k_ (hs_).symm).1) (fun hn_ => (Nat.le_trans (qM (by repeat (first | (with_reducible first | exact HB.out | apply qA | apply q9 | apply qB | refine qK ?_ qf1.out) | exact HB.out))) hn_)), Or.elim hk_ (fun hs_ => fun e_ => (((qf0.out).1 k_ e_.symm).2.1) hs_) (fun hn_ => (Kd.fresh' (Kd.qO9 (by (with_reducible repeat (first | apply Kd.qV | apply Kd.qW | apply Kd.jC)); exact qf0.out)) k_ hn_)), Or.elim hk_ (fun hs_ => fun e_ => (((qd2.out).1 k_ e_.symm).2.1) hs_) (fun hn_ => (Kd.fresh' (Kd.qO9 (by (with_reducible repeat (first | apply Kd.qV | apply Kd.qW | apply Kd.jC)); exact qd2.out)) k_ hn_))⟩)); have n7_ := q8.mk (hb); clear qa0; clear qa8; clear qU; clear qf0; clear qd2; clear jF; clear HB; clear qd0; clear qj4; clear qj5; clear zL3; have qa0 := n0_; have qa8 := n1_; have qU := n2_; have qf0 := n3_; have qd2 := n4_; have jF := n5_; have Qm8 := n6_; have HB := n7_; clear n0_ n1_ n2_ n3_ n4_ n5_ n6_ n7_; (try clear hb); (try clear hkp); (try clear ho0); have zL4 : w27.cell? ⟨qH, 0, none⟩ = some (.int .i64 0) := (qE jF.out 0).trans rfl; have zL5 : w27.cell? ⟨qH, 1, none⟩ = some (.int .i64 t213) := (qE jF.out 1).trans rfl; have zL6 : w27.cell? ⟨qH, 2, none⟩ = some (.int .i64 t215) := (qE jF.out 2).trans rfl; have zL7 : w27.cell? ⟨qH, 3, none⟩ = some (.slice none 0 0) := (qE jF.out 3).trans rfl; have zL8 := qC jF.out 0; have zL9 := qC jF.out 1; have zM0 := qC jF.out 2; have zM1 := qC jF.out 3))
     go_loopg [6, 7, 10] k1 (fun kq v6 v7 v10 w' => ∃ (qe6 : List Int) (qf9 : List Int) (j4 : Int) (zX : List (S51)) (u217003 : Value), v10 = .int .i64 j4 ∧ q8 (qL.l1 kq l0 ql7 t200 t218 qe6 qf9 qO j4 t221 t213 t215 zX = some r) ∧ q8 (kq ≤ k1) ∧ q8 (Kd.V k55 55 w' w.heap.size (fun k_ => (P0_ k_ ∨ w.heap.size ≤ k_) ∧ some k_ ≠ (u3 : Value).ownBlock ∧ some k_ ≠ ((.slice (some jT) t200.length qh6) : Value).ownBlock ∧ some k_ ≠ (v219 : Value).ownBlock ∧ some k_ ≠ (v6 : Value).ownBlock ∧ some k_ ≠ (v7 : Value).ownBlock ∧ some k_ ≠ (u217003 : Value).ownBlock ∧ k_ ≠ qH) (.slice A0 l0.length c0) l0) ∧ q8 (Kd.N k55 55 w' w.heap.size (fun k_ => (P0_ k_ ∨ w.heap.size ≤ k_) ∧ some k_ ≠ ((.slice (some jT) t200.length qh6) : Value).ownBlock ∧ some k_ ≠ (v219 : Value).ownBlock ∧ some k_ ≠ (v6 : Value).ownBlock ∧ some k_ ≠ (v7 : Value).ownBlock ∧ some k_ ≠ (u217003 : Value).ownBlock ∧ k_ ≠ qH) u3 ql7) ∧ q8 (Kd.N k55 55 w' w.heap.size (fun k_ => (P0_ k_ ∨ w.heap.size ≤ k_) ∧ some k_ ≠ (u3 : Value).ownBlock ∧ some k_ ≠ (v219 : Value).ownBlock ∧ some k_ ≠ (v6 : Value).ownBlock ∧ some k_ ≠ (v7 : Value).ownBlock ∧ some k_ ≠ (u217003 : Value).ownBlock ∧ k_ ≠ qH) (.slice (some jT) t200.length qh6) t200) ∧ q8 (Kd.R (Kd.int .i64) 3 w' w.heap.size (fun k_ => (w.heap.size ≤ k_) ∧ some k_ ≠ (v6 : Value).ownBlock ∧ some k_ ≠ (v7 : Value).ownBlock) v219 t218) ∧ q8 (Kd.R (Kd.int .i64) 3 w' w.heap.size (fun k_ => (w.heap.size ≤ k_) ∧ some k_ ≠ (v219 : Value).ownBlock ∧ some k_ ≠ (v7 : Value).ownBlock) v6 qe6) ∧ q8 (Kd.R (Kd.int .i64) 3 w' w.heap.size (fun k_ => (w.heap.size ≤ k_) ∧ some k_ ≠ (v219 : Value).ownBlock ∧ some k_ ≠ (v6 : Value).ownBlock) v7 qf9) ∧ q8 (Kd.R k51 51 w' w.heap.size (fun k_ => (w.heap.size ≤ k_)) u217003 zX) ∧ q8 (w'.heap[qH]? = some (.cells #[.int .i64 t221, .int .i64 t213, .int .i64 t215, u217003] 55 (0, 0))) ∧ q8 (Below w.heap.size w w'))
     case atStart => exact ⟨(jY), (qb3), (0), (([] : List (S51))), (.slice none 0 0), (by first | rfl | (simp; done) | (simp [*]; done)), H', ⟨Nat.le_refl _⟩, ⟨by (with_reducible repeat (first | apply Kd.jP | apply Kd.jQ | apply Kd.zC)); exact Kd.zO (Kd.qg0 (p := ⟨qH, 0, none⟩) (Kd.zO qa0.out (fun k_ hk => (⟨hk, hk.2.2.2.2.2.1⟩ : _ ∧ k_ ≠ qH))) (fun _ hk => hk.2) (.int .i64 t221)) (fun _ hk => ⟨hk.1.1, ⟨hk.1.2.1, ⟨hk.1.2.2.1, ⟨hk.1.2.2.2.2.2.2, ⟨hk.1.2.2.2.1, ⟨hk.1.2.2.2.2.1, ⟨(by simp [Value.ownBlock]), hk.1.2.2.2.2.2.1⟩⟩⟩⟩⟩⟩⟩)⟩, ⟨by (with_reducible repeat (first | apply Kd.jD | apply Kd.jE | apply Kd.jH)); exact Kd.zA (Kd.qg8 (p := ⟨qH, 0, none⟩) (Kd.zA qa8.out (fun k_ hk => (⟨hk, hk.2.2.2.2.1⟩ : _ ∧ k_ ≠ qH))) (fun _ hk => hk.2) (.int .i64 t221)) (fun _ hk => ⟨hk.1.1, ⟨hk.1.2.1, ⟨hk.1.2.2.2.2.2, ⟨hk.1.2.2.1, ⟨hk.1.2.2.2.1, ⟨(by simp [Value.ownBlock]), hk.1.2.2.2.2.1⟩⟩⟩⟩⟩⟩)⟩, ⟨by (with_reducible repeat (first | apply Kd.jD | apply Kd.jE | apply Kd.jH)); exact Kd.zA (Kd.qg8 (p := ⟨qH, 0, none⟩) (Kd.zA qU.out (fun k_ hk => (⟨hk, hk.2.2.2.2.1⟩ : _ ∧ k_ ≠ qH))) (fun _ hk => hk.2) (.int .i64 t221)) (fun _ hk => ⟨hk.1.1, ⟨hk.1.2.1, ⟨hk.1.2.2.2.2.2, ⟨hk.1.2.2.1, ⟨hk.1.2.2.2.1, ⟨(by simp [Value.ownBlock]), hk.1.2.2.2.2.1⟩⟩⟩⟩⟩⟩)⟩, ⟨by (with_reducible repeat (first | apply Kd.qV | apply Kd.qW | apply Kd.jC)); exact Kd.jK (Kd.zQ (p := ⟨qH, 0, none⟩) (Kd.qb6 Qm8.out jF.out (by decide)) (fun _ hk => hk.2) (.int .i64 t221)) (fun _ hk => ⟨hk.1.1, ⟨hk.1.2.1, hk.1.2.2⟩⟩)⟩, ⟨by (with_reducible repeat (first | apply Kd.qV | apply Kd.qW | apply Kd.jC)); exact Kd.jK (Kd.zQ (p := ⟨qH, 0, none⟩) (Kd.qb6 qf0.out jF.out (by decide)) (fun _ hk => hk.2) (.int .i64 t221)) (fun _ hk => ⟨hk.1.1, ⟨hk.1.2.2, hk.1.2.1⟩⟩)⟩, ⟨by (with_reducible repeat (first | apply Kd.qV | apply Kd.qW | apply Kd.jC)); exact Kd.jK (Kd.zQ (p := ⟨qH, 0, none⟩) (Kd.qb6 qd2.out jF.out (by decide)) (fun _ hk => hk.2) (.int .i64 t221)) (fun _ hk => ⟨hk.1.1, ⟨hk.1.2.2, hk.1.2.1⟩⟩)⟩, ⟨by first | exact Kd.zl8 _ _ _ _ _ | exact Kd.Qm9 _ _ _ _ _ | exact Kd.Qn0 _ _ _ _ _ | exact Kd.Qn1 _ _ _ _ _ | exact Kd.Qn2 _ _ _ _ _⟩, ⟨by (with_reducible repeat (first | refine qI ?_ _ | refine qR ?_ | refine qJ ?_ _)); refine qd9 (cs := #[.int .i64 0, .int .i64 t213, .int .i64 t215, .slice none 0 0]) ?_ 0 _ rfl; (with_reducible repeat (first | refine qI ?_ _ | refine qR ?_ | refine qJ ?_ _)); exact jF.out⟩, ⟨by repeat (first | (with_reducible first | exact HB.out | apply qA | apply q9 | apply qB | refine qK ?_ qf1.out) | exact HB.out)⟩⟩
     case round =>
      clear H'
      try clear c1
      try clear c2
      try clear p2
      try clear q2
      try clear hx2
      try clear c4
      try clear c12
      try clear qI5
      try clear c13
      try clear zV0
      try clear c21
      try clear p21
      try clear q21
      try clear hx21
      try clear zL4
      try clear zL5
      try clear zL6
      try clear zL7
      try clear zL8
      try clear zL9
      try clear zM0
      try clear zM1
      try clear jI9
      try clear jJ0
      try clear jJ1
      try clear jb8
      try clear jJ4
      try clear jJ5
      try clear jJ6
      try clear jb9
      try clear zL0
      try clear zL1
      try clear zL2
      try clear zl5
      try clear p2
      try clear zz1
      try clear zz4
      try clear zA7
      try clear zz2
      try clear zz5
      try clear zA8
      obtain ⟨qe6, qf9, j4, zX, u217003, rfl, HA, HK2, qa0, qa8, qU, qd0, qf0, qd2, jS, jF, HB⟩ := hrel
      cases gk with
      | zero => exact absurd HA.out (by simp [qL.l1])
      | succ k2 =>
       have H := HA.out
       clear HA
       simp only [qL.l1] at H
       by_cases c29 : 0 ≤ qO
       ·rw [if_pos c29] at H
        have c29b0 : decide (0 ≤ qO) = true := decide_eq_true c29
        clear c29
        by_cases c30 : qO < (t200.length : Int)
        ·rw [if_pos c30] at H
         have c30b0 : decide (qO < (t200.length : Int)) = true := decide_eq_true c30
         clear c30
         by_cases c31 : j4 < (((qD t200 qO).f3).length : Int)
         ·rw [if_pos c31] at H
          have Qn3 : decide (j4 < (((qD t200 qO).f3).length : Int)) = true := decide_eq_true c31
          clear c31
          by_cases c32 : 0 ≤ j4
          ·rw [if_pos c32] at H
           have c32b0 : decide (0 ≤ j4) = true := decide_eq_true c32
           clear c32
           replace H := Option.bind_eq_some_iff.mp H
           obtain ⟨⟨t229, t232⟩, A330, H⟩ := H
           replace H : (if ((qG ((qD t200 qO).f3) j4).f2) = 0 then (if zX.length < 5864062014805 then (qL.l1 k2 l0 ql7 t200 t218 t229 qf9 qO (wrap64 (j4 + 1)) t221 t213 t215 (zX ++ [(⟨(qG ((qD t200 qO).f3) j4).f0, t232, (qG ((qD t200 qO).f3) j4).f2⟩ : S51)])) else (none)) else ((jB.f k2 qf9 ((qG ((qD t200 qO).f3) j4).f2)).bind fun jT1 => (if zX.length < 5864062014805 then (qL.l1 k2 l0 ql7 t200 t218 t229 jT1.1 qO (wrap64 (j4 + 1)) t221 t213 t215 (zX ++ [(⟨(qG ((qD t200 qO).f3) j4).f0, t232, wrap64 (jT1.2 + 1)⟩ : S51)])) else (none)))) = some r := H
           have A33 := q8.mk A330
           clear A330
           by_cases c34 : ((qG ((qD t200 qO).f3) j4).f2) = 0
           ·rw [if_pos c34] at H
            have Qn4 : (((qG ((qD t200 qO).f3) j4).f2) == 0) = true := beq_iff_eq.mpr c34
            have Qn5 : (((qG ((qD t200 qO).f3) j4).f2) != 0) = false := bne_eq_false_iff_eq.mpr c34
            clear c34
            by_cases c35 : zX.length < 5864062014805
            ·rw [if_pos c35] at H
             have Qn6 := q8.mk c35
             clear c35
             obtain ⟨y233, jT8⟩ : ∃ y_ : List (S51), y_ = (zX ++ [(⟨(qG ((qD t200 qO).f3) j4).f0, t232, (qG ((qD t200 qO).f3) j4).f2⟩ : S51)]) := ⟨_, rfl⟩
             replace H : (qL.l1 k2 l0 ql7 t200 t218 t229 qf9 qO (wrap64 (j4 + 1)) t221 t213 t215 y233) = some r := by first | (rw [jT8]; with_reducible exact H) | (have H2_ := (Option.bind_some _ _).symm.trans H; rw [jT8]; with_reducible exact H2_) | (have H2_ := (Option.bind_some _ _).symm.trans H; with_reducible exact H2_) | with_reducible exact H | (rw [jT8]; exact H) | exact H
             have Qn7 := q8.mk jT8
             clear jT8
             have H' := q8.mk H
             clear H
             have jc3 : 0 ≤ (qO : Int) := of_decide_eq_true (by first | (with_reducible assumption) | assumption)
             have jc4 : qO < (t200.length : Int) := of_decide_eq_true (by first | (with_reducible assumption) | assumption)
             obtain ⟨jT9, zB0, ji2, e222, zl9, zm0, zm1, qL4, qF8, qF9⟩ := qa9 (Kd.zY qU.out).2.2 qO jc3 jc4
             obtain rfl : jT = jT9 := (by injection e222)
             obtain ⟨zW5, jr0, jr1, qQ4⟩ := Kd.qI6 qU.out z55 qO jc3 (by first | exact jc4 | exact of_decide_eq_true (by first | (with_reducible assumption) | assumption) | (have e_ := (Kd.zY qU.out).1; omega))
             obtain ⟨zm2, zm3, rfl, qv9, qw0⟩ := qi6 jr1
             have qo9 := qQ4 3 _ rfl
             rw [zS _ _ 3 (by omega)] at qo9
             replace qo9 := Option.some.inj (qo9.symm.trans qL4)
             injection qo9 with qo0 qA3 qo1
             rw [qo0] at qw0
             rw [qo1] at qv9
             have qh7 := q8.mk (show Kd.V k51 51 _ w.heap.size _ _ ((qD t200 qO).f3) from Kd.qT7 qv9 qw0)
             clear qo0 qA3 qo1 qw0 qv9
             clear qQ4 jr0
             have qy3 := q8.mk qF9
             have zm4 := q8.mk qF8
             clear qF9 qF8
             replace jc3 := eq_true jc3
             replace jc4 := eq_true jc4
             have jK2 : 0 ≤ (qO : Int) := of_decide_eq_true (by first | (with_reducible assumption) | assumption)
             have jK3 : qO < (t200.length : Int) := of_decide_eq_true (by first | (with_reducible assumption) | assumption)
             obtain ⟨zB1, Qc5, Qc6, e226, zM2, zM3, zM4, jc5, jc6, jc7⟩ := qa9 (Kd.zY qU.out).2.2 qO jK2 jK3
             obtain rfl : jT = zB1 := (by injection e226)
             obtain ⟨Qn8, zd7, zd8, jr2⟩ := Kd.qI6 qU.out z55 qO jK2 (by first | exact jK3 | exact of_decide_eq_true (by first | (with_reducible assumption) | assumption) | (have e_ := (Kd.zY qU.out).1; omega))
             obtain ⟨zM5, zM6, rfl, qL5, qL6⟩ := qi6 zd8
             have qC5 := jr2 3 _ rfl
             rw [zS _ _ 3 (by omega)] at qC5
             replace qC5 := Option.some.inj (qC5.symm.trans jc5)
             injection qC5 with qo0 qA3 qo1
             rw [qo0] at qL6
             rw [qo1] at qL5
             have qm7 := q8.mk (show Kd.V k51 51 _ w.heap.size _ _ ((qD t200 qO).f3) from Kd.qT7 qL5 qL6)
             clear qo0 qA3 qo1 qL6 qL5
             clear jr2 zd7
             have qr1 := q8.mk jc7
             have zM7 := q8.mk jc6
             clear jc7 jc6
             replace jK2 := eq_true jK2
             replace jK3 := eq_true jK3
             have ea_ := Option.some.inj (qL4.symm.trans jc5)
             injection ea_ with ea_ en_ ec_
             subst ea_
             subst ec_
             clear en_
             have zd9 : 0 ≤ (j4 : Int) := of_decide_eq_true (by first | (with_reducible assumption) | assumption)
             have ze0 : j4 < (((qD t200 qO).f3).length : Int) := of_decide_eq_true (by first | (with_reducible assumption) | assumption)
             obtain ⟨jU0, e227, zM8, zM9, zN0⟩ := qt7 (by repeat (first | (with_reducible exact qr1.out) | (with_reducible refine Kd.qj2 ?_ _) | (with_reducible refine Kd.qj3 ?_ _) | (with_reducible refine Kd.qo6 ?_) | exact qr1.out)) j4 zd9 ze0
             cases e227
             replace zd9 := eq_true zd9
             replace ze0 := eq_true ze0
             go_wp2_with (first | ((with_reducible refine qa1 (N := 11) rfl ?_); refine qb0 ?hg (N := 11) ?hd (cs := #[.bool false, .int .i64 0, .int .i64 0]) (t := 51) ?hr ?_; (case hd => rfl); (case hg => rfl); (case hr => first | (go_simp; done) | (go_simp; rfl)); intro qP hg w36 qb7 hb; have n0_ := q8.mk (Kd.qm5 (Kd.qj0 (by (with_reducible repeat (first | apply Kd.jP | apply Kd.jQ | apply Kd.zC)); exact qa0.out) qP (Nat.le_of_eq hg.symm)) hb); have n1_ := q8.mk (Kd.qo8 (Kd.qt2 (by (with_reducible repeat (first | apply Kd.jD | apply Kd.jE | apply Kd.jH)); exact qa8.out) qP (Nat.le_of_eq hg.symm)) hb); have n2_ := q8.mk (Kd.qo8 (Kd.qt2 (by (with_reducible repeat (first | apply Kd.jD | apply Kd.jE | apply Kd.jH)); exact qU.out) qP (Nat.le_of_eq hg.symm)) hb); have n3_ := q8.mk (Kd.qg7 (by (with_reducible repeat (first | apply Kd.qV | apply Kd.qW | apply Kd.jC)); exact qd0.out) hb); have n4_ := q8.mk (Kd.qg7 (by (with_reducible repeat (first | apply Kd.qV | apply Kd.qW | apply Kd.jC)); exact qf0.out) hb); have n5_ := q8.mk (Kd.qg7 (by (with_reducible repeat (first | apply Kd.qV | apply Kd.qW | apply Kd.jC)); exact qd2.out) hb); have n6_ := q8.mk (Kd.qg7 (Kd.jU1 (by (with_reducible repeat (first | apply Kd.qV | apply Kd.qW | apply Kd.jC)); exact jS.out) qP (Nat.le_of_eq hg.symm)) hb); have n7_ := q8.mk (Kd.qm5 (Kd.qj0 (by (with_reducible repeat (first | apply Kd.jP | apply Kd.jQ | apply Kd.zC)); exact qh7.out) qP (Nat.le_of_eq hg.symm)) hb); have n8_ := q8.mk (Kd.qm5 (Kd.qj0 (by (with_reducible repeat (first | apply Kd.jP | apply Kd.jQ | apply Kd.zC)); exact qm7.out) qP (Nat.le_of_eq hg.symm)) hb); have n9_ := q8.mk (qo5 (g := qH) (o := .cells #[.int .i64 t221, .int .i64 t213, .int .i64 t215, u217003] 55 (0, 0)) (by (with_reducible repeat (first | refine qI ?_ _ | refine qR ?_ | refine qJ ?_ _)); exact jF.out) hb); have qE3 := q8.mk (Kd.qm6 (by repeat (first | (with_reducible exact qy3.out) | (with_reducible refine Kd.qj2 ?_ _) | (with_reducible refine Kd.qj3 ?_ _) | (with_reducible refine Kd.qo6 ?_) | exact qy3.out)) hb); have qE4 := q8.mk (Kd.qm6 (by repeat (first | (with_reducible exact qr1.out) | (with_reducible refine Kd.qj2 ?_ _) | (with_reducible refine Kd.qj3 ?_ _) | (with_reducible refine Kd.qo6 ?_) | exact qr1.out)) hb); have jc0 := q8.mk (jM (by repeat (first | (with_reducible first | exact HB.out | apply qA | apply q9 | apply qB | refine qK ?_ qf1.out) | exact HB.out)) hb); have jc1 := q8.mk (qb7); have zB2 := q8.mk ((by rw [hg]; exact (qM (by repeat (first | (with_reducible first | exact HB.out | apply qA | apply q9 | apply qB | refine qK ?_ qf1.out) | exact HB.out))) : w.heap.size ≤ qP)); have zB3 := q8.mk ((by rw [hg]; exact (qM (by repeat (first | (with_reducible first | exact HB.out | apply qA | apply q9 | apply qB | refine qK ?_ qf1.out) | exact HB.out))) : w.heap.size ≤ qP)); have zB4 := q8.mk ((by rw [hg]; exact Nat.ne_of_lt (qw1 (g := qH) (o := .cells #[.int .i64 t221, .int .i64 t213, .int .i64 t215, u217003] 55 (0, 0)) (by (with_reducible repeat (first | refine qI ?_ _ | refine qR ?_ | refine qJ ?_ _)); exact jF.out)) : qH ≠ qP)); have zB5 := q8.mk ((by rw [hg]; exact Nat.ne_of_gt (qw1 (g := qH) (o := .cells #[.int .i64 t221, .int .i64 t213, .int .i64 t215, u217003] 55 (0, 0)) (by (with_reducible repeat (first | refine qI ?_ _ | refine qR ?_ | refine qJ ?_ _)); exact jF.out)) : qP ≠ qH)); clear qa0; clear qa8; clear qU; clear qd0; clear qf0; clear qd2; clear jS; clear qh7; clear qm7; clear jF; clear qy3; clear qr1; clear HB; have qa0 := n0_; have qa8 := n1_; have qU := n2_; have qd0 := n3_; have qf0 := n4_; have qd2 := n5_; have jS := n6_; have qh7 := n7_; have qm7 := n8_; have jF := n9_; have qy3 := qE3; have qr1 := qE4; have HB := jc0; have jX := jc1; have Qn9 := zB2; have qx3 := zB3; have qi7 := zB4; have ji3 := zB5; clear n0_ n1_ n2_ n3_ n4_ n5_ n6_ n7_ n8_ n9_ qE3 qE4 jc0 jc1 zB2 zB3 zB4 zB5; clear hb qb7 hg; have hnb37 := ji3.out; have hnc37 := qi7.out; have Qt6 : w36.cell? ⟨qP, 0, none⟩ = some (.bool false) := (qE jX.out 0).trans rfl; have Qt7 : w36.cell? ⟨qP, 1, none⟩ = some (.int .i64 0) := (qE jX.out 1).trans rfl; have Qt8 : w36.cell? ⟨qP, 2, none⟩ = some (.int .i64 0) := (qE jX.out 2).trans rfl; have Qt9 := qC jX.out 0; have Qu0 := qC jX.out 1; have Qu1 := qC jX.out 2) | ((with_reducible refine qW6 (t := 51) (p := 11) rfl ?_); refine qQ5 (t := 51) (p := 11) (v := ?vo_w39) (w1 := (((w36.setCell ⟨qP, 0, none⟩ (.bool ((qG ((qD t200 qO).f3) j4).f0))).setCell ⟨qP, 1, none⟩ (.int .i64 ((qG ((qD t200 qO).f3) j4).f1))).setCell ⟨qP, 2, none⟩ (.int .i64 ((qG ((qD t200 qO).f3) j4).f2)))) ?hg ?ho ?hn ?hr ?_; (case ho => rfl); (case hg => rfl); (case hn => rfl); (case hr => first | (go_simp; done) | (go_simp; rfl)); intro w39 hw; have n0_ : q8 (Kd.V k55 55 w39 w.heap.size (fun k_ => (P0_ k_ ∨ w.heap.size ≤ k_) ∧ some k_ ≠ (u3 : Value).ownBlock ∧ some k_ ≠ (.slice (some jT) t200.length qh6 : Value).ownBlock ∧ some k_ ≠ (v219 : Value).ownBlock ∧ some k_ ≠ (u6 : Value).ownBlock ∧ some k_ ≠ (u7 : Value).ownBlock ∧ some k_ ≠ (u217003 : Value).ownBlock ∧ k_ ≠ qH ∧ k_ ≠ qP) (.slice A0 l0.length c0) l0) := ⟨(by rw [hw]; exact (by (with_reducible repeat (first | apply Kd.jP | apply Kd.jQ | apply Kd.zC)); exact Kd.zO (Kd.qg0 (p := ⟨qP, 2, none⟩) (Kd.qg0 (p := ⟨qP, 1, none⟩) (Kd.qg0 (p := ⟨qP, 0, none⟩) (Kd.zO qa0.out (fun k_ hk => (⟨hk, hk.2⟩ : _ ∧ k_ ≠ qP))) (fun _ hk => hk.2) (.bool ((qG ((qD t200 qO).f3) j4).f0))) (fun _ hk => hk.2) (.int .i64 ((qG ((qD t200 qO).f3) j4).f1))) (fun _ hk => hk.2) (.int .i64 ((qG ((qD t200 qO).f3) j4).f2))) (fun _ hk => ⟨hk.1.1.1, ⟨hk.1.1.2.1, ⟨hk.1.1.2.2.1, ⟨hk.1.1.2.2.2.1, ⟨hk.1.1.2.2.2.2.1, ⟨hk.1.1.2.2.2.2.2.1, ⟨hk.1.1.2.2.2.2.2.2.1, ⟨hk.1.1.2.2.2.2.2.2.2, hk.1.2⟩⟩⟩⟩⟩⟩⟩⟩)))⟩; have n1_ : q8 (Kd.N k55 55 w39 w.heap.size (fun k_ => (P0_ k_ ∨ w.heap.size ≤ k_) ∧ some k_ ≠ (.slice (some jT) t200.length qh6 : Value).ownBlock ∧ some k_ ≠ (v219 : Value).ownBlock ∧ some k_ ≠ (u6 : Value).ownBlock ∧ some k_ ≠ (u7 : Value).ownBlock ∧ some k_ ≠ (u217003 : Value).ownBlock ∧ k_ ≠ qH ∧ k_ ≠ qP) u3 ql7) := ⟨(by rw [hw]; exact (by (with_reducible repeat (first | apply Kd.jD | apply Kd.jE | apply Kd.jH)); exact Kd.zA (Kd.qg8 (p := ⟨qP, 2, none⟩) (Kd.qg8 (p := ⟨qP, 1, none⟩) (Kd.qg8 (p := ⟨qP, 0, none⟩) (Kd.zA qa8.out (fun k_ hk => (⟨hk, hk.2⟩ : _ ∧ k_ ≠ qP))) (fun _ hk => hk.2) (.bool ((qG ((qD t200 qO).f3) j4).f0))) (fun _ hk => hk.2) (.int .i64 ((qG ((qD t200 qO).f3) j4).f1))) (fun _ hk => hk.2) (.int .i64 ((qG ((qD t200 qO).f3) j4).f2))) (fun _ hk => ⟨hk.1.1.1, ⟨hk.1.1.2.1, ⟨hk.1.1.2.2.1, ⟨hk.1.1.2.2.2.1, ⟨hk.1.1.2.2.2.2.1, ⟨hk.1.1.2.2.2.2.2.1, ⟨hk.1.1.2.2.2.2.2.2, hk.1.2⟩⟩⟩⟩⟩⟩⟩)))⟩; have n2_ : q8 (Kd.N k55 55 w39 w.heap.size (fun k_ => (P0_ k_ ∨ w.heap.size ≤ k_) ∧ some k_ ≠ (u3 : Value).ownBlock ∧ some k_ ≠ (v219 : Value).ownBlock ∧ some k_ ≠ (u6 : Value).ownBlock ∧ some k_ ≠ (u7 : Value).ownBlock ∧ some k_ ≠ (u217003 : Value).ownBlock ∧ k_ ≠ qH ∧ k_ ≠ qP) (.slice (some jT) t200.length qh6) t200) := ⟨(by rw [hw]; exact (by (with_reducible repeat (first | apply Kd.jD | apply Kd.jE | apply Kd.jH)); exact Kd.zA (Kd.qg8 (p := ⟨qP, 2, none⟩) (Kd.qg8 (p := ⟨qP, 1, none⟩) (Kd.qg8 (p := ⟨qP, 0, none⟩) (Kd.zA qU.out (fun k_ hk => (⟨hk, hk.2⟩ : _ ∧ k_ ≠ qP))) (fun _ hk => hk.2) (.bool ((qG ((qD t200 qO).f3) j4).f0))) (fun _ hk => hk.2) (.int .i64 ((qG ((qD t200 qO).f3) j4).f1))) (fun _ hk => hk.2) (.int .i64 ((qG ((qD t200 qO).f3) j4).f2))) (fun _ hk => ⟨hk.1.1.1, ⟨hk.1.1.2.1, ⟨hk.1.1.2.2.1, ⟨hk.1.1.2.2.2.1, ⟨hk.1.1.2.2.2.2.1, ⟨hk.1.1.2.2.2.2.2.1, ⟨hk.1.1.2.2.2.2.2.2, hk.1.2⟩⟩⟩⟩⟩⟩⟩)))⟩; have n3_ : q8 (Kd.R (Kd.int .i64) 3 w39 w.heap.size (fun k_ => (w.heap.size ≤ k_) ∧ some k_ ≠ (u6 : Value).ownBlock ∧ some k_ ≠ (u7 : Value).ownBlock) v219 t218) := ⟨(by rw [hw]; exact (by (with_reducible repeat (first | apply Kd.qV | apply Kd.qW | apply Kd.jC)); exact Kd.jK (Kd.zQ (p := ⟨qP, 2, none⟩) (Kd.zQ (p := ⟨qP, 1, none⟩) (Kd.zQ (p := ⟨qP, 0, none⟩) (Kd.qb6 qd0.out jX.out (by decide)) (fun _ hk => hk.2) (.bool ((qG ((qD t200 qO).f3) j4).f0))) (fun _ hk => hk.2) (.int .i64 ((qG ((qD t200 qO).f3) j4).f1))) (fun _ hk => hk.2) (.int .i64 ((qG ((qD t200 qO).f3) j4).f2))) (fun _ hk => ⟨hk.1.1, ⟨hk.1.2.1, hk.1.2.2⟩⟩)))⟩; have n4_ : q8 (Kd.R (Kd.int .i64) 3 w39 w.heap.size (fun k_ => (w.heap.size ≤ k_) ∧ some k_ ≠ (v219 : Value).ownBlock ∧ some k_ ≠ (u7 : Value).ownBlock) u6 qe6) := ⟨(by rw [hw]; exact (by (with_reducible repeat (first | apply Kd.qV | apply Kd.qW | apply Kd.jC)); exact Kd.jK (Kd.zQ (p := ⟨qP, 2, none⟩) (Kd.zQ (p := ⟨qP, 1, none⟩) (Kd.zQ (p := ⟨qP, 0, none⟩) (Kd.qb6 qf0.out jX.out (by decide)) (fun _ hk => hk.2) (.bool ((qG ((qD t200 qO).f3) j4).f0))) (fun _ hk => hk.2) (.int .i64 ((qG ((qD t200 qO).f3) j4).f1))) (fun _ hk => hk.2) (.int .i64 ((qG ((qD t200 qO).f3) j4).f2))) (fun _ hk => ⟨hk.1.1, ⟨hk.1.2.1, hk.1.2.2⟩⟩)))⟩; have n5_ : q8 (Kd.R (Kd.int .i64) 3 w39 w.heap.size (fun k_ => (w.heap.size ≤ k_) ∧ some k_ ≠ (v219 : Value).ownBlock ∧ some k_ ≠ (u6 : Value).ownBlock) u7 qf9) := ⟨(by rw [hw]; exact (by (with_reducible repeat (first | apply Kd.qV | apply Kd.qW | apply Kd.jC)); exact Kd.jK (Kd.zQ (p := ⟨qP, 2, none⟩) (Kd.zQ (p := ⟨qP, 1, none⟩) (Kd.zQ (p := ⟨qP, 0, none⟩) (Kd.qb6 qd2.out jX.out (by decide)) (fun _ hk => hk.2) (.bool ((qG ((qD t200 qO).f3) j4).f0))) (fun _ hk => hk.2) (.int .i64 ((qG ((qD t200 qO).f3) j4).f1))) (fun _ hk => hk.2) (.int .i64 ((qG ((qD t200 qO).f3) j4).f2))) (fun _ hk => ⟨hk.1.1, ⟨hk.1.2.1, hk.1.2.2⟩⟩)))⟩; have n6_ : q8 (Kd.R k51 51 w39 w.heap.size (fun k_ => (w.heap.size ≤ k_) ∧ k_ ≠ qP) u217003 zX) := ⟨(by rw [hw]; exact (by (with_reducible repeat (first | apply Kd.qV | apply Kd.qW | apply Kd.jC)); exact Kd.jK (Kd.zQ (p := ⟨qP, 2, none⟩) (Kd.zQ (p := ⟨qP, 1, none⟩) (Kd.zQ (p := ⟨qP, 0, none⟩) (Kd.jK jS.out (fun k_ hk => (⟨hk, hk.2⟩ : _ ∧ k_ ≠ qP))) (fun _ hk => hk.2) (.bool ((qG ((qD t200 qO).f3) j4).f0))) (fun _ hk => hk.2) (.int .i64 ((qG ((qD t200 qO).f3) j4).f1))) (fun _ hk => hk.2) (.int .i64 ((qG ((qD t200 qO).f3) j4).f2))) (fun _ hk => ⟨hk.1.1, hk.1.2⟩)))⟩; have n7_ : q8 (Kd.V k51 51 w39 w.heap.size (fun k_ => (P0_ k_ ∨ w.heap.size ≤ k_) ∧ some k_ ≠ (u3 : Value).ownBlock ∧ some k_ ≠ (.slice (some jT) t200.length qh6 : Value).ownBlock ∧ some k_ ≠ (v219 : Value).ownBlock ∧ some k_ ≠ (u6 : Value).ownBlock ∧ some k_ ≠ (u7 : Value).ownBlock ∧ some k_ ≠ (u217003 : Value).ownBlock ∧ k_ ≠ qH ∧ k_ ≠ qP) (.slice (some jU0) ((qD t200 qO).f3).length ji2) ((qD t200 qO).f3)) := ⟨(by rw [hw]; exact (by (with_reducible repeat (first | apply Kd.jP | apply Kd.jQ | apply Kd.zC)); exact Kd.zO (Kd.qg0 (p := ⟨qP, 2, none⟩) (Kd.qg0 (p := ⟨qP, 1, none⟩) (Kd.qg0 (p := ⟨qP, 0, none⟩) (Kd.zO qh7.out (fun k_ hk => (⟨hk, hk.2⟩ : _ ∧ k_ ≠ qP))) (fun _ hk => hk.2) (.bool ((qG ((qD t200 qO).f3) j4).f0))) (fun _ hk => hk.2) (.int .i64 ((qG ((qD t200 qO).f3) j4).f1))) (fun _ hk => hk.2) (.int .i64 ((qG ((qD t200 qO).f3) j4).f2))) (fun _ hk => ⟨hk.1.1.1.1, ⟨hk.1.1.1.2.1, ⟨hk.1.1.2, ⟨hk.1.1.1.2.2.1, ⟨hk.1.1.1.2.2.2.1, ⟨hk.1.1.1.2.2.2.2.1, ⟨hk.1.1.1.2.2.2.2.2.1, ⟨hk.1.1.1.2.2.2.2.2.2, hk.1.2⟩⟩⟩⟩⟩⟩⟩⟩)))⟩; have n8_ : q8 (Kd.V k51 51 w39 w.heap.size (fun k_ => (P0_ k_ ∨ w.heap.size ≤ k_) ∧ some k_ ≠ (u3 : Value).ownBlock ∧ some k_ ≠ (.slice (some jT) t200.length qh6 : Value).ownBlock ∧ some k_ ≠ (v219 : Value).ownBlock ∧ some k_ ≠ (u6 : Value).ownBlock ∧ some k_ ≠ (u7 : Value).ownBlock ∧ some k_ ≠ (u217003 : Value).ownBlock ∧ k_ ≠ qH ∧ k_ ≠ qP) (.slice (some jU0) ((qD t200 qO).f3).length ji2) ((qD t200 qO).f3)) := ⟨(by rw [hw]; exact (by (with_reducible repeat (first | apply Kd.jP | apply Kd.jQ | apply Kd.zC)); exact Kd.zO (Kd.qg0 (p := ⟨qP, 2, none⟩) (Kd.qg0 (p := ⟨qP, 1, none⟩) (Kd.qg0 (p := ⟨qP, 0, none⟩) (Kd.zO qm7.out (fun k_ hk => (⟨hk, hk.2⟩ : _ ∧ k_ ≠ qP))) (fun _ hk => hk.2) (.bool ((qG ((qD t200 qO).f3) j4).f0))) (fun _ hk => hk.2) (.int .i64 ((qG ((qD t200 qO).f3) j4).f1))) (fun _ hk => hk.2) (.int .i64 ((qG ((qD t200 qO).f3) j4).f2))) (fun _ hk => ⟨hk.1.1.1.1, ⟨hk.1.1.1.2.1, ⟨hk.1.1.2, ⟨hk.1.1.1.2.2.1, ⟨hk.1.1.1.2.2.2.1, ⟨hk.1.1.1.2.2.2.2.1, ⟨hk.1.1.1.2.2.2.2.2.1, ⟨hk.1.1.1.2.2.2.2.2.2, hk.1.2⟩⟩⟩⟩⟩⟩⟩⟩)))⟩; have n9_ : q8 (w39.heap[qH]? = some (.cells #[.int .i64 t221, .int .i64 t213, .int .i64 t215, u217003] 55 (0, 0))) := ⟨(by rw [hw]; exact (by (with_reducible repeat (first | refine qI ?_ _ | refine qR ?_ | refine qJ ?_ _)); refine ql0 ?_ qi7.out _; (with_reducible repeat (first | refine qI ?_ _ | refine qR ?_ | refine qJ ?_ _)); refine ql0 ?_ qi7.out _; (with_reducible repeat (first | refine qI ?_ _ | refine qR ?_ | refine qJ ?_ _)); refine ql0 ?_ qi7.out _; (with_reducible repeat (first | refine qI ?_ _ | refine qR ?_ | refine qJ ?_ _)); exact jF.out))⟩; have qE3 : q8 (w39.heap[qP]? = some (.cells #[.bool ((qG ((qD t200 qO).f3) j4).f0), .int .i64 ((qG ((qD t200 qO).f3) j4).f1), .int .i64 ((qG ((qD t200 qO).f3) j4).f2)] 51 (0, 0))) := ⟨(by rw [hw]; exact (by (with_reducible repeat (first | refine qI ?_ _ | refine qR ?_ | refine qJ ?_ _)); refine qd9 (cs := #[.bool ((qG ((qD t200 qO).f3) j4).f0), .int .i64 ((qG ((qD t200 qO).f3) j4).f1), .int .i64 0]) ?_ 2 _ rfl; (with_reducible repeat (first | refine qI ?_ _ | refine qR ?_ | refine qJ ?_ _)); refine qd9 (cs := #[.bool ((qG ((qD t200 qO).f3) j4).f0), .int .i64 0, .int .i64 0]) ?_ 1 _ rfl; (with_reducible repeat (first | refine qI ?_ _ | refine qR ?_ | refine qJ ?_ _)); refine qd9 (cs := #[.bool false, .int .i64 0, .int .i64 0]) ?_ 0 _ rfl; (with_reducible repeat (first | refine qI ?_ _ | refine qR ?_ | refine qJ ?_ _)); exact jX.out))⟩; have qE4 : q8 (Below w.heap.size w w39) := ⟨(by rw [hw]; exact (by repeat (first | (with_reducible first | exact HB.out | apply qA | apply q9 | apply qB | refine qK ?_ qf1.out | refine qK ?_ qx3.out) | exact HB.out)))⟩; clear hw; clear qa0; clear qa8; clear qU; clear qd0; clear qf0; clear qd2; clear jS; clear qh7; clear qm7; clear jF; clear jX; clear HB; have qa0 := n0_; have qa8 := n1_; have qU := n2_; have qd0 := n3_; have qf0 := n4_; have qd2 := n5_; have jS := n6_; have qh7 := n7_; have qm7 := n8_; have jF := n9_; have jX := qE3; have HB := qE4; clear n0_ n1_ n2_ n3_ n4_ n5_ n6_ n7_ n8_ n9_ qE3 qE4; have Qu2 : w39.cell? ⟨qP, 0, none⟩ = some (.bool ((qG ((qD t200 qO).f3) j4).f0)) := (qE jX.out 0).trans rfl; have Qu3 : w39.cell? ⟨qP, 1, none⟩ = some (.int .i64 ((qG ((qD t200 qO).f3) j4).f1)) := (qE jX.out 1).trans rfl; have Qu4 : w39.cell? ⟨qP, 2, none⟩ = some (.int .i64 ((qG ((qD t200 qO).f3) j4).f2)) := (qE jX.out 2).trans rfl; have Qu5 := qC jX.out 0; have Qu6 := qC jX.out 1; have Qu7 := qC jX.out 2; obtain ⟨Qc7, Qc8, eo41⟩ := Kd.qv5 qf0.out; subst eo41) | ((with_reducible refine qk3 (f := 45) rfl ?_); refine qL3 (some 72) rfl rfl Try.func45 (by kernel_rfl) rfl #[.slice Qc7 qe6.length Qc8, .int .i64 ((qG ((qD t200 qO).f3) j4).f1)] rfl (by (try simp only [List.map_toArray, List.map_cons, List.map_nil]); first | done | rfl | (simp only [List.length_drop, List.length_take]; rfl)) ?_; (with_reducible refine (jB.calls k2 (fun k_ => some k_ = (.slice Qc7 qe6.length Qc8 : Value).ownBlock) (.slice Qc7 qe6.length Qc8) qe6 ((qG ((qD t200 qO).f3) j4).f1) t229 t232 w _ ?qv7 ?qz4 A33.out).mono ?_); (case qv7 => repeat (first | (with_reducible first | exact HB.out | apply qA | apply q9 | apply qB | refine qK ?_ qf1.out | refine qK ?_ qx3.out) | exact HB.out)); (case qz4 => exact Kd.jc2 rfl qf0.out); rintro e w42 ⟨v230, rfl, ho0, hb, hkp⟩; refine ⟨_, rfl, ?_⟩; have n0_ := q8.mk (Kd.zO (ok' := fun k_ => (P0_ k_ ∨ w.heap.size ≤ k_) ∧ some k_ ≠ (u3 : Value).ownBlock ∧ some k_ ≠ (.slice (some jT) t200.length qh6 : Value).ownBlock ∧ some k_ ≠ (v219 : Value).ownBlock ∧ some k_ ≠ (u7 : Value).ownBlock ∧ some k_ ≠ (u217003 : Value).ownBlock ∧ k_ ≠ qH ∧ k_ ≠ qP ∧ some k_ ≠ (v230 : Value).ownBlock) (Kd.jn1 (qa0.out) hkp (fun k_ hk_ hs_ => (hk_.2.2.2.2.1) hs_)) (fun k_ hk_ => ⟨hk_.1.1, hk_.1.2.1, hk_.1.2.2.1, hk_.1.2.2.2.1, hk_.1.2.2.2.2.2.1, hk_.1.2.2.2.2.2.2.1, hk_.1.2.2.2.2.2.2.2.1, hk_.1.2.2.2.2.2.2.2.2, fun e_ => Or.elim (ho0.1 k_ e_.symm) (fun hs_ => hk_.2.1 hs_) (fun hn_ => Nat.not_le.2 hk_.2.2 hn_)⟩)); have n1_ := q8.mk (Kd.zA (ok' := fun k_ => (P0_ k_ ∨ w.heap.size ≤ k_) ∧ some k_ ≠ (.slice (some jT) t200.length qh6 : Value).ownBlock ∧ some k_ ≠ (v219 : Value).ownBlock ∧ some k_ ≠ (u7 : Value).ownBlock ∧ some k_ ≠ (u217003 : Value).ownBlock ∧ k_ ≠ qH ∧ k_ ≠ qP ∧ some k_ ≠ (v230 : Value).ownBlock) (Kd.qF7 (qa8.out) hkp (fun k_ hk_ hs_ => (hk_.2.2.2.1) hs_)) (fun k_ hk_ => ⟨hk_.1.1, hk_.1.2.1, hk_.1.2.2.1, hk_.1.2.2.2.2.1, hk_.1.2.2.2.2.2.1, hk_.1.2.2.2.2.2.2.1, hk_.1.2.2.2.2.2.2.2, fun e_ => Or.elim (ho0.1 k_ e_.symm) (fun hs_ => hk_.2.1 hs_) (fun hn_ => Nat.not_le.2 hk_.2.2 hn_)⟩)); have n2_ := q8.mk (Kd.zA (ok' := fun k_ => (P0_ k_ ∨ w.heap.size ≤ k_) ∧ some k_ ≠ (u3 : Value).ownBlock ∧ some k_ ≠ (v219 : Value).ownBlock ∧ some k_ ≠ (u7 : Value).ownBlock ∧ some k_ ≠ (u217003 : Value).ownBlock ∧ k_ ≠ qH ∧ k_ ≠ qP ∧ some k_ ≠ (v230 : Value).ownBlock) (Kd.qF7 (qU.out) hkp (fun k_ hk_ hs_ => (hk_.2.2.2.1) hs_)) (fun k_ hk_ => ⟨hk_.1.1, hk_.1.2.1, hk_.1.2.2.1, hk_.1.2.2.2.2.1, hk_.1.2.2.2.2.2.1, hk_.1.2.2.2.2.2.2.1, hk_.1.2.2.2.2.2.2.2, fun e_ => Or.elim (ho0.1 k_ e_.symm) (fun hs_ => hk_.2.1 hs_) (fun hn_ => Nat.not_le.2 hk_.2.2 hn_)⟩)); have n3_ := q8.mk (Kd.jK (ok' := fun k_ => (w.heap.size ≤ k_) ∧ some k_ ≠ (u7 : Value).ownBlock ∧ some k_ ≠ (v230 : Value).ownBlock) (Kd.qv8 (qd0.out) hkp (fun k_ hk_ hs_ => (hk_.2.1) hs_)) (fun k_ hk_ => ⟨hk_.1.1, hk_.1.2.2, fun e_ => Or.elim (ho0.1 k_ e_.symm) (fun hs_ => hk_.2.1 hs_) (fun hn_ => Nat.not_le.2 hk_.2.2 hn_)⟩)); have n4_ := q8.mk (Kd.jK (ok' := fun k_ => (w.heap.size ≤ k_) ∧ some k_ ≠ (v219 : Value).ownBlock ∧ some k_ ≠ (v230 : Value).ownBlock) (Kd.qv8 (qd2.out) hkp (fun k_ hk_ hs_ => (hk_.2.2) hs_)) (fun k_ hk_ => ⟨hk_.1.1, hk_.1.2.1, fun e_ => Or.elim (ho0.1 k_ e_.symm) (fun hs_ => hk_.2.1 hs_) (fun hn_ => Nat.not_le.2 hk_.2.2 hn_)⟩)); have n5_ := q8.mk (Kd.jK (ok' := fun k_ => (w.heap.size ≤ k_) ∧ k_ ≠ qP) (Kd.qv8 ((Kd.ql8 jS.out (Kd.ql1 qf0.out) (by decide))) hkp (fun k_ hk_ hs_ => (hk_.2) hs_)) (fun k_ hk_ => ⟨hk_.1.1.1, hk_.1.1.2⟩)); have n6_ := q8.mk (qE5 (by (with_reducible repeat (first | refine qI ?_ _ | refine qR ?_ | refine qJ ?_ _)); exact jF.out) hkp (fun hs_ => (fun e_ => (Kd.jK1 qf0.out jF.out (by decide)) e_) hs_)); have n7_ := q8.mk (qE5 (by (with_reducible repeat (first | refine qI ?_ _ | refine qR ?_ | refine qJ ?_ _)); exact jX.out) hkp (fun hs_ => (fun e_ => (Kd.jK1 qf0.out jX.out (by decide)) e_) hs_)); have n8_ := q8.mk (Kd.jK (ok' := fun k_ => (w.heap.size ≤ k_) ∧ some k_ ≠ (v219 : Value).ownBlock ∧ some k_ ≠ (u7 : Value).ownBlock) ho0 (fun k_ hk_ => ⟨Or.elim hk_ (fun hs_ => (qf0.out.1 k_ (hs_).symm).1) (fun hn_ => (Nat.le_trans (qM (by repeat (first | (with_reducible first | exact HB.out | apply qA | apply q9 | apply qB | refine qK ?_ qf1.out | refine qK ?_ qx3.out) | exact HB.out))) hn_)), Or.elim hk_ (fun hs_ => fun e_ => (((qd0.out).1 k_ e_.symm).2.1) hs_) (fun hn_ => (Kd.fresh' (Kd.qO9 (by (with_reducible repeat (first | apply Kd.qV | apply Kd.qW | apply Kd.jC)); exact qd0.out)) k_ hn_)), Or.elim hk_ (fun hs_ => fun e_ => (((qd2.out).1 k_ e_.symm).2.2) hs_) (fun hn_ => (Kd.fresh' (Kd.qO9 (by (with_reducible repeat (first | apply Kd.qV | apply Kd.qW | apply Kd.jC)); exact qd2.out)) k_ hn_))⟩)); have n9_ := q8.mk (hb); clear qa0; clear qa8; clear qU; clear qd0; clear qd2; clear jS; clear jF; clear jX; clear HB; clear qf0; clear qh7; clear qm7; have qa0 := n0_; have qa8 := n1_; have qU := n2_; have qd0 := n3_; have qd2 := n4_; have jS := n5_; have jF := n6_; have jX := n7_; have qz5 := n8_; have HB := n9_; clear n0_ n1_ n2_ n3_ n4_ n5_ n6_ n7_ n8_ n9_; (try clear hb); (try clear hkp); (try clear ho0); have Qu8 : w42.cell? ⟨qP, 0, none⟩ = some (.bool ((qG ((qD t200 qO).f3) j4).f0)) := (qE jX.out 0).trans rfl; have Qu9 : w42.cell? ⟨qP, 1, none⟩ = some (.int .i64 ((qG ((qD t200 qO).f3) j4).f1)) := (qE jX.out 1).trans rfl; have Qv0 : w42.cell? ⟨qP, 2, none⟩ = some (.int .i64 ((qG ((qD t200 qO).f3) j4).f2)) := (qE jX.out 2).trans rfl; have Qv1 := qC jX.out 0; have Qv2 := qC jX.out 1; have Qv3 := qC jX.out 2; have Qv4 : w42.cell? ⟨qH, 0, none⟩ = some (.int .i64 t221) := (qE jF.out 0).trans rfl; have Qv5 : w42.cell? ⟨qH, 1, none⟩ = some (.int .i64 t213) := (qE jF.out 1).trans rfl; have Qv6 : w42.cell? ⟨qH, 2, none⟩ = some (.int .i64 t215) := (qE jF.out 2).trans rfl; have Qv7 : w42.cell? ⟨qH, 3, none⟩ = some (u217003) := (qE jF.out 3).trans rfl; have Qv8 := qC jF.out 0; have Qv9 := qC jF.out 1; have Qw0 := qC jF.out 2; have Qw1 := qC jF.out 3) | ((with_reducible refine qm4 (b := .append) (xs := #[.tmp 92, .tmp 94]) rfl ?_); at_builtin; refine Kd.jb6 k51 (w0 := w) w.heap.size rfl (.tmp 92) (.tmp 94) 53 51 (.agg #[(.bool false), (.int .i64 0), (.int .i64 0)]) 24 rfl Try.underlying53 zx7 rfl (by decide) (by omega) u217003 zX (⟨(qG ((qD t200 qO).f3) j4).f0, t232, (qG ((qD t200 qO).f3) j4).f2⟩ : S51) [.bool ((qG ((qD t200 qO).f3) j4).f0), .int .i64 t232, .int .i64 ((qG ((qD t200 qO).f3) j4).f2)] (fun k_ => (w.heap.size ≤ k_) ∧ k_ ≠ qP) (fun _ => False) rfl (by first | (go_simp; done) | (go_simp; rfl)) ?aP (fun _ hk => hk.elim) ?aF ?aO ?aB ?aS ?aL ?_; (case aP => exact zm5 _ _ _ (⟨(qG ((qD t200 qO).f3) j4).f0, t232, (qG ((qD t200 qO).f3) j4).f2⟩ : S51)); (case aB => exact (by repeat (first | (with_reducible first | exact HB.out | apply qA | apply q9 | apply qB | refine qK ?_ qf1.out | refine qK ?_ qx3.out) | exact HB.out))); (case aF => exact (fun k_ hk => ⟨(Nat.le_trans (qM (by repeat (first | (with_reducible first | exact HB.out | apply qA | apply q9 | apply qB | refine qK ?_ qf1.out | refine qK ?_ qx3.out) | exact HB.out))) hk), Kd.ze1 (g := qP) (o := .cells #[.bool ((qG ((qD t200 qO).f3) j4).f0), .int .i64 t232, .int .i64 ((qG ((qD t200 qO).f3) j4).f2)] 51 (0, 0)) (by (with_reducible repeat (first | refine qI ?_ _ | refine qR ?_ | refine qJ ?_ _)); refine qd9 (cs := #[.bool ((qG ((qD t200 qO).f3) j4).f0), .int .i64 ((qG ((qD t200 qO).f3) j4).f1), .int .i64 ((qG ((qD t200 qO).f3) j4).f2)]) ?_ 1 _ rfl; (with_reducible repeat (first | refine qI ?_ _ | refine qR ?_ | refine qJ ?_ _)); exact jX.out) k_ hk⟩)); (case aO => exact (by (with_reducible repeat (first | apply Kd.qV | apply Kd.qW | apply Kd.jC)); exact Kd.jK (Kd.zQ (p := ⟨qP, 1, none⟩) (Kd.jK jS.out (fun k_ hk => (⟨hk, hk.2⟩ : _ ∧ k_ ≠ qP))) (fun _ hk => hk.2) (.int .i64 t232)) (fun _ hk => ⟨hk.1.1, hk.1.2⟩))); (case aS => exact (qM (by repeat (first | (with_reducible first | exact HB.out | apply qA | apply q9 | apply qB | refine qK ?_ qf1.out | refine qK ?_ qx3.out) | exact HB.out)))); (case aL => have := Qn6.out; omega); intro v234 w45 ho hb hg hat; rw [← Qn7.out] at ho; have n0_ := q8.mk (Kd.qn9 (ok := (fun k_ => (P0_ k_ ∨ w.heap.size ≤ k_) ∧ some k_ ≠ (u3 : Value).ownBlock ∧ some k_ ≠ (.slice (some jT) t200.length qh6 : Value).ownBlock ∧ some k_ ≠ (v219 : Value).ownBlock ∧ some k_ ≠ (u7 : Value).ownBlock ∧ some k_ ≠ (v230 : Value).ownBlock ∧ k_ ≠ qH ∧ k_ ≠ qP)) (by (with_reducible repeat (first | apply Kd.jP | apply Kd.jQ | apply Kd.zC)); exact Kd.zO (Kd.qg0 (p := ⟨qP, 1, none⟩) (Kd.zO qa0.out (fun k_ hk => (⟨hk, hk.2.2.2.2.2.2.2.1⟩ : _ ∧ k_ ≠ qP))) (fun _ hk => hk.2) (.int .i64 t232)) (fun _ hk => ⟨⟨hk.1.1, ⟨hk.1.2.1, ⟨hk.1.2.2.1, ⟨hk.1.2.2.2.1, ⟨hk.1.2.2.2.2.1, ⟨hk.1.2.2.2.2.2.2.2.2, ⟨hk.1.2.2.2.2.2.2.1, hk.1.2.2.2.2.2.2.2.1⟩⟩⟩⟩⟩⟩⟩, hk.1.2.2.2.2.2.1⟩)) hg hat); have n1_ := q8.mk (Kd.qq4 (ok := (fun k_ => (P0_ k_ ∨ w.heap.size ≤ k_) ∧ some k_ ≠ (.slice (some jT) t200.length qh6 : Value).ownBlock ∧ some k_ ≠ (v219 : Value).ownBlock ∧ some k_ ≠ (u7 : Value).ownBlock ∧ some k_ ≠ (v230 : Value).ownBlock ∧ k_ ≠ qH ∧ k_ ≠ qP)) (by (with_reducible repeat (first | apply Kd.jD | apply Kd.jE | apply Kd.jH)); exact Kd.zA (Kd.qg8 (p := ⟨qP, 1, none⟩) (Kd.zA qa8.out (fun k_ hk => (⟨hk, hk.2.2.2.2.2.2.1⟩ : _ ∧ k_ ≠ qP))) (fun _ hk => hk.2) (.int .i64 t232)) (fun _ hk => ⟨⟨hk.1.1, ⟨hk.1.2.1, ⟨hk.1.2.2.1, ⟨hk.1.2.2.2.1, ⟨hk.1.2.2.2.2.2.2.2, ⟨hk.1.2.2.2.2.2.1, hk.1.2.2.2.2.2.2.1⟩⟩⟩⟩⟩⟩, hk.1.2.2.2.2.1⟩)) hg hat); have n2_ := q8.mk (Kd.qq4 (ok := (fun k_ => (P0_ k_ ∨ w.heap.size ≤ k_) ∧ some k_ ≠ (u3 : Value).ownBlock ∧ some k_ ≠ (v219 : Value).ownBlock ∧ some k_ ≠ (u7 : Value).ownBlock ∧ some k_ ≠ (v230 : Value).ownBlock ∧ k_ ≠ qH ∧ k_ ≠ qP)) (by (with_reducible repeat (first | apply Kd.jD | apply Kd.jE | apply Kd.jH)); exact Kd.zA (Kd.qg8 (p := ⟨qP, 1, none⟩) (Kd.zA qU.out (fun k_ hk => (⟨hk, hk.2.2.2.2.2.2.1⟩ : _ ∧ k_ ≠ qP))) (fun _ hk => hk.2) (.int .i64 t232)) (fun _ hk => ⟨⟨hk.1.1, ⟨hk.1.2.1, ⟨hk.1.2.2.1, ⟨hk.1.2.2.2.1, ⟨hk.1.2.2.2.2.2.2.2, ⟨hk.1.2.2.2.2.2.1, hk.1.2.2.2.2.2.2.1⟩⟩⟩⟩⟩⟩, hk.1.2.2.2.2.1⟩)) hg hat); have n3_ := q8.mk (Kd.qC6 (by (with_reducible repeat (first | apply Kd.qV | apply Kd.qW | apply Kd.jC)); exact (Kd.jK (Kd.zQ (p := ⟨qP, 1, none⟩) (Kd.qb6 qd0.out jX.out (by decide)) (fun _ hk => hk.2) (.int .i64 t232)) (fun _ h_ => h_.1))) (Kd.ql1 (by (with_reducible repeat (first | apply Kd.qV | apply Kd.qW | apply Kd.jC)); exact (Kd.jK (Kd.zQ (p := ⟨qP, 1, none⟩) (Kd.jK jS.out (fun k_ hk => (⟨hk, hk.2⟩ : _ ∧ k_ ≠ qP))) (fun _ hk => hk.2) (.int .i64 t232)) (fun _ h_ => h_.1)))) (by decide) hg); have n4_ := q8.mk (Kd.qC6 (by (with_reducible repeat (first | apply Kd.qV | apply Kd.qW | apply Kd.jC)); exact (Kd.jK (Kd.zQ (p := ⟨qP, 1, none⟩) (Kd.qb6 qd2.out jX.out (by decide)) (fun _ hk => hk.2) (.int .i64 t232)) (fun _ h_ => h_.1))) (Kd.ql1 (by (with_reducible repeat (first | apply Kd.qV | apply Kd.qW | apply Kd.jC)); exact (Kd.jK (Kd.zQ (p := ⟨qP, 1, none⟩) (Kd.jK jS.out (fun k_ hk => (⟨hk, hk.2⟩ : _ ∧ k_ ≠ qP))) (fun _ hk => hk.2) (.int .i64 t232)) (fun _ h_ => h_.1)))) (by decide) hg); have n5_ := q8.mk (qI8 (g := qH) (o := .cells #[.int .i64 t221, .int .i64 t213, .int .i64 t215, u217003] 55 (0, 0)) (by (with_reducible repeat (first | refine qI ?_ _ | refine qR ?_ | refine qJ ?_ _)); refine ql0 ?_ qi7.out _; (with_reducible repeat (first | refine qI ?_ _ | refine qR ?_ | refine qJ ?_ _)); exact jF.out) hg (Kd.jK1 jS.out jF.out (by decide))); have n6_ := q8.mk (qI8 (g := qP) (o := .cells #[.bool ((qG ((qD t200 qO).f3) j4).f0), .int .i64 t232, .int .i64 ((qG ((qD t200 qO).f3) j4).f2)] 51 (0, 0)) (by (with_reducible repeat (first | refine qI ?_ _ | refine qR ?_ | refine qJ ?_ _)); refine qd9 (cs := #[.bool ((qG ((qD t200 qO).f3) j4).f0), .int .i64 ((qG ((qD t200 qO).f3) j4).f1), .int .i64 ((qG ((qD t200 qO).f3) j4).f2)]) ?_ 1 _ rfl; (with_reducible repeat (first | refine qI ?_ _ | refine qR ?_ | refine qJ ?_ _)); exact jX.out) hg (Kd.zB6 jS.out (fun _ hk => hk.2))); have n7_ := q8.mk (Kd.qC6 (by (with_reducible repeat (first | apply Kd.qV | apply Kd.qW | apply Kd.jC)); exact (Kd.jK (Kd.zQ (p := ⟨qP, 1, none⟩) (Kd.qb6 qz5.out jX.out (by decide)) (fun _ hk => hk.2) (.int .i64 t232)) (fun _ h_ => h_.1))) (Kd.ql1 (by (with_reducible repeat (first | apply Kd.qV | apply Kd.qW | apply Kd.jC)); exact (Kd.jK (Kd.zQ (p := ⟨qP, 1, none⟩) (Kd.jK jS.out (fun k_ hk => (⟨hk, hk.2⟩ : _ ∧ k_ ≠ qP))) (fun _ hk => hk.2) (.int .i64 t232)) (fun _ h_ => h_.1)))) (by decide) hg); have n8_ := q8.mk (hb); have n9_ := q8.mk (ho); clear qa0; clear qa8; clear qU; clear qd0; clear qd2; clear jF; clear jX; clear qz5; clear HB; clear jS; have qa0 := n0_; have qa8 := n1_; have qU := n2_; have qd0 := n3_; have qd2 := n4_; have jF := n5_; have jX := n6_; have qz5 := n7_; have HB := n8_; have zW6 := n9_; clear n0_ n1_ n2_ n3_ n4_ n5_ n6_ n7_ n8_ n9_; clear ho hb hg hat; obtain ⟨jU2, jU3, eo46⟩ := Kd.qv5 zW6.out; subst eo46; have Qw2 : w45.cell? ⟨qH, 0, none⟩ = some (.int .i64 t221) := (qE jF.out 0).trans rfl; have Qw3 : w45.cell? ⟨qH, 1, none⟩ = some (.int .i64 t213) := (qE jF.out 1).trans rfl; have Qw4 : w45.cell? ⟨qH, 2, none⟩ = some (.int .i64 t215) := (qE jF.out 2).trans rfl; have Qw5 : w45.cell? ⟨qH, 3, none⟩ = some (u217003) := (qE jF.out 3).trans rfl; have Qw6 := qC jF.out 0; have Qw7 := qC jF.out 1; have Qw8 := qC jF.out 2; have Qw9 := qC jF.out 3))
             go_roundg k2
             case measure => have := HK1.out; have := HK2.out; omega
             case rel => exact ⟨(t229), (qf9), (wrap64 (j4 + 1)), (y233), (.slice jU2 y233.length jU3), (by first | rfl | (simp; done) | (simp [*]; done)), H', ⟨by have := HK1.out; have := HK2.out; omega⟩, ⟨by (with_reducible repeat (first | apply Kd.jP | apply Kd.jQ | apply Kd.zC)); exact Kd.zO (Kd.qg0 (p := ⟨qH, 3, none⟩) (Kd.zO qa0.out (fun k_ hk => (⟨hk, hk.1.2.2.2.2.2.2.1⟩ : _ ∧ k_ ≠ qH))) (fun _ hk => hk.2) (.slice jU2 y233.length jU3)) (fun _ hk => ⟨hk.1.1.1, ⟨hk.1.1.2.1, ⟨hk.1.1.2.2.1, ⟨hk.1.1.2.2.2.1, ⟨hk.1.1.2.2.2.2.2.1, ⟨hk.1.1.2.2.2.2.1, ⟨hk.1.2, hk.1.1.2.2.2.2.2.2.1⟩⟩⟩⟩⟩⟩⟩)⟩, ⟨by (with_reducible repeat (first | apply Kd.jD | apply Kd.jE | apply Kd.jH)); exact Kd.zA (Kd.qg8 (p := ⟨qH, 3, none⟩) (Kd.zA qa8.out (fun k_ hk => (⟨hk, hk.1.2.2.2.2.2.1⟩ : _ ∧ k_ ≠ qH))) (fun _ hk => hk.2) (.slice jU2 y233.length jU3)) (fun _ hk => ⟨hk.1.1.1, ⟨hk.1.1.2.1, ⟨hk.1.1.2.2.1, ⟨hk.1.1.2.2.2.2.1, ⟨hk.1.1.2.2.2.1, ⟨hk.1.2, hk.1.1.2.2.2.2.2.1⟩⟩⟩⟩⟩⟩)⟩, ⟨by (with_reducible repeat (first | apply Kd.jD | apply Kd.jE | apply Kd.jH)); exact Kd.zA (Kd.qg8 (p := ⟨qH, 3, none⟩) (Kd.zA qU.out (fun k_ hk => (⟨hk, hk.1.2.2.2.2.2.1⟩ : _ ∧ k_ ≠ qH))) (fun _ hk => hk.2) (.slice jU2 y233.length jU3)) (fun _ hk => ⟨hk.1.1.1, ⟨hk.1.1.2.1, ⟨hk.1.1.2.2.1, ⟨hk.1.1.2.2.2.2.1, ⟨hk.1.1.2.2.2.1, ⟨hk.1.2, hk.1.1.2.2.2.2.2.1⟩⟩⟩⟩⟩⟩)⟩, ⟨by (with_reducible repeat (first | apply Kd.qV | apply Kd.qW | apply Kd.jC)); exact Kd.jK (Kd.zQ (p := ⟨qH, 3, none⟩) (Kd.qb6 qd0.out jF.out (by decide)) (fun _ hk => hk.2) (.slice jU2 y233.length jU3)) (fun _ hk => ⟨hk.1.1, ⟨hk.1.2.2, hk.1.2.1⟩⟩)⟩, ⟨by (with_reducible repeat (first | apply Kd.qV | apply Kd.qW | apply Kd.jC)); exact Kd.jK (Kd.zQ (p := ⟨qH, 3, none⟩) (Kd.qb6 qz5.out jF.out (by decide)) (fun _ hk => hk.2) (.slice jU2 y233.length jU3)) (fun _ hk => ⟨hk.1.1, ⟨hk.1.2.1, hk.1.2.2⟩⟩)⟩, ⟨by (with_reducible repeat (first | apply Kd.qV | apply Kd.qW | apply Kd.jC)); exact Kd.jK (Kd.zQ (p := ⟨qH, 3, none⟩) (Kd.qb6 qd2.out jF.out (by decide)) (fun _ hk => hk.2) (.slice jU2 y233.length jU3)) (fun _ hk => ⟨hk.1.1, ⟨hk.1.2.1, hk.1.2.2⟩⟩)⟩, ⟨by (with_reducible repeat (first | apply Kd.qV | apply Kd.qW | apply Kd.jC)); exact Kd.jK (Kd.zQ (p := ⟨qH, 3, none⟩) (Kd.qb6 zW6.out jF.out (by decide)) (fun _ hk => hk.2) (.slice jU2 y233.length jU3)) (fun _ hk => hk.1.1)⟩, ⟨by (with_reducible repeat (first | refine qI ?_ _ | refine qR ?_ | refine qJ ?_ _)); refine qd9 (cs := #[.int .i64 t221, .int .i64 t213, .int .i64 t215, u217003]) ?_ 3 _ rfl; (with_reducible repeat (first | refine qI ?_ _ | refine qR ?_ | refine qJ ?_ _)); exact jF.out⟩, ⟨by repeat (first | (with_reducible first | exact HB.out | apply qA | apply q9 | apply qB | refine qK ?_ qf1.out | refine qK ?_ qx3.out) | exact HB.out)⟩⟩
            ·rw [if_neg c35] at H
             exact absurd H (by simp)
           ·rw [if_neg c34] at H
            have Qn4 : (((qG ((qD t200 qO).f3) j4).f2) == 0) = false := beq_eq_false_iff_ne.mpr c34
            have Qn5 : (((qG ((qD t200 qO).f3) j4).f2) != 0) = true := bne_iff_ne.mpr c34
            replace H := Option.bind_eq_some_iff.mp H
            obtain ⟨⟨t236, t239⟩, A480, H⟩ := H
            replace H : (if zX.length < 5864062014805 then (qL.l1 k2 l0 ql7 t200 t218 t229 t236 qO (wrap64 (j4 + 1)) t221 t213 t215 (zX ++ [(⟨(qG ((qD t200 qO).f3) j4).f0, t232, wrap64 (t239 + 1)⟩ : S51)])) else (none)) = some r := H
            have A48 := q8.mk A480
            clear A480
            by_cases c49 : zX.length < 5864062014805
            ·rw [if_pos c49] at H
             have Qo0 := q8.mk c49
             clear c49
             obtain ⟨y240, jU4⟩ : ∃ y_ : List (S51), y_ = (zX ++ [(⟨(qG ((qD t200 qO).f3) j4).f0, t232, wrap64 (t239 + 1)⟩ : S51)]) := ⟨_, rfl⟩
             replace H : (qL.l1 k2 l0 ql7 t200 t218 t229 t236 qO (wrap64 (j4 + 1)) t221 t213 t215 y240) = some r := by first | (rw [jU4]; with_reducible exact H) | (have H2_ := (Option.bind_some _ _).symm.trans H; rw [jU4]; with_reducible exact H2_) | (have H2_ := (Option.bind_some _ _).symm.trans H; with_reducible exact H2_) | with_reducible exact H | (rw [jU4]; exact H) | exact H
             have Qo1 := q8.mk jU4
             clear jU4
             have H' := q8.mk H
             clear H
             have jc3 : 0 ≤ (qO : Int) := of_decide_eq_true (by first | (with_reducible assumption) | assumption)
             have jc4 : qO < (t200.length : Int) := of_decide_eq_true (by first | (with_reducible assumption) | assumption)
             obtain ⟨jT9, zB0, ji2, e222, zl9, zm0, zm1, qL4, qF8, qF9⟩ := qa9 (Kd.zY qU.out).2.2 qO jc3 jc4
             obtain rfl : jT = jT9 := (by injection e222)
             obtain ⟨zW5, jr0, jr1, qQ4⟩ := Kd.qI6 qU.out z55 qO jc3 (by first | exact jc4 | exact of_decide_eq_true (by first | (with_reducible assumption) | assumption) | (have e_ := (Kd.zY qU.out).1; omega))
             obtain ⟨zm2, zm3, rfl, qv9, qw0⟩ := qi6 jr1
             have qo9 := qQ4 3 _ rfl
             rw [zS _ _ 3 (by omega)] at qo9
             replace qo9 := Option.some.inj (qo9.symm.trans qL4)
             injection qo9 with qo0 qA3 qo1
             rw [qo0] at qw0
             rw [qo1] at qv9
             have qh7 := q8.mk (show Kd.V k51 51 _ w.heap.size _ _ ((qD t200 qO).f3) from Kd.qT7 qv9 qw0)
             clear qo0 qA3 qo1 qw0 qv9
             clear qQ4 jr0
             have qy3 := q8.mk qF9
             have zm4 := q8.mk qF8
             clear qF9 qF8
             replace jc3 := eq_true jc3
             replace jc4 := eq_true jc4
             have jK2 : 0 ≤ (qO : Int) := of_decide_eq_true (by first | (with_reducible assumption) | assumption)
             have jK3 : qO < (t200.length : Int) := of_decide_eq_true (by first | (with_reducible assumption) | assumption)
             obtain ⟨zB1, Qc5, Qc6, e226, zM2, zM3, zM4, jc5, jc6, jc7⟩ := qa9 (Kd.zY qU.out).2.2 qO jK2 jK3
             obtain rfl : jT = zB1 := (by injection e226)
             obtain ⟨Qn8, zd7, zd8, jr2⟩ := Kd.qI6 qU.out z55 qO jK2 (by first | exact jK3 | exact of_decide_eq_true (by first | (with_reducible assumption) | assumption) | (have e_ := (Kd.zY qU.out).1; omega))
             obtain ⟨zM5, zM6, rfl, qL5, qL6⟩ := qi6 zd8
             have qC5 := jr2 3 _ rfl
             rw [zS _ _ 3 (by omega)] at qC5
             replace qC5 := Option.some.inj (qC5.symm.trans jc5)
             injection qC5 with qo0 qA3 qo1
             rw [qo0] at qL6
             rw [qo1] at qL5
             have qm7 := q8.mk (show Kd.V k51 51 _ w.heap.size _ _ ((qD t200 qO).f3) from Kd.qT7 qL5 qL6)
             clear qo0 qA3 qo1 qL6 qL5
             clear jr2 zd7
             have qr1 := q8.mk jc7
             have zM7 := q8.mk jc6
             clear jc7 jc6
             replace jK2 := eq_true jK2
             replace jK3 := eq_true jK3
             have ea_ := Option.some.inj (qL4.symm.trans jc5)
             injection ea_ with ea_ en_ ec_
             subst ea_
             subst ec_
             clear en_
             have zd9 : 0 ≤ (j4 : Int) := of_decide_eq_true (by first | (with_reducible assumption) | assumption)
             have ze0 : j4 < (((qD t200 qO).f3).length : Int) := of_decide_eq_true (by first | (with_reducible assumption) | assumption)
             obtain ⟨jU0, e227, zM8, zM9, zN0⟩ := qt7 (by repeat (first | (with_reducible exact qr1.out) | (with_reducible refine Kd.qj2 ?_ _) | (with_reducible refine Kd.qj3 ?_ _) | (with_reducible refine Kd.qo6 ?_) | exact qr1.out)) j4 zd9 ze0
             cases e227
             replace zd9 := eq_true zd9
             replace ze0 := eq_true ze0
             go_wp2_with (first | ((with_reducible refine qa1 (N := 11) rfl ?_); refine qb0 ?hg (N := 11) ?hd (cs := #[.bool false, .int .i64 0, .int .i64 0]) (t := 51) ?hr ?_; (case hd => rfl); (case hg => rfl); (case hr => first | (go_simp; done) | (go_simp; rfl)); intro qP hg w50 qb7 hb; have n0_ := q8.mk (Kd.qm5 (Kd.qj0 (by (with_reducible repeat (first | apply Kd.jP | apply Kd.jQ | apply Kd.zC)); exact qa0.out) qP (Nat.le_of_eq hg.symm)) hb); have n1_ := q8.mk (Kd.qo8 (Kd.qt2 (by (with_reducible repeat (first | apply Kd.jD | apply Kd.jE | apply Kd.jH)); exact qa8.out) qP (Nat.le_of_eq hg.symm)) hb); have n2_ := q8.mk (Kd.qo8 (Kd.qt2 (by (with_reducible repeat (first | apply Kd.jD | apply Kd.jE | apply Kd.jH)); exact qU.out) qP (Nat.le_of_eq hg.symm)) hb); have n3_ := q8.mk (Kd.qg7 (by (with_reducible repeat (first | apply Kd.qV | apply Kd.qW | apply Kd.jC)); exact qd0.out) hb); have n4_ := q8.mk (Kd.qg7 (by (with_reducible repeat (first | apply Kd.qV | apply Kd.qW | apply Kd.jC)); exact qf0.out) hb); have n5_ := q8.mk (Kd.qg7 (by (with_reducible repeat (first | apply Kd.qV | apply Kd.qW | apply Kd.jC)); exact qd2.out) hb); have n6_ := q8.mk (Kd.qg7 (Kd.jU1 (by (with_reducible repeat (first | apply Kd.qV | apply Kd.qW | apply Kd.jC)); exact jS.out) qP (Nat.le_of_eq hg.symm)) hb); have n7_ := q8.mk (Kd.qm5 (Kd.qj0 (by (with_reducible repeat (first | apply Kd.jP | apply Kd.jQ | apply Kd.zC)); exact qh7.out) qP (Nat.le_of_eq hg.symm)) hb); have n8_ := q8.mk (Kd.qm5 (Kd.qj0 (by (with_reducible repeat (first | apply Kd.jP | apply Kd.jQ | apply Kd.zC)); exact qm7.out) qP (Nat.le_of_eq hg.symm)) hb); have n9_ := q8.mk (qo5 (g := qH) (o := .cells #[.int .i64 t221, .int .i64 t213, .int .i64 t215, u217003] 55 (0, 0)) (by (with_reducible repeat (first | refine qI ?_ _ | refine qR ?_ | refine qJ ?_ _)); exact jF.out) hb); have qE3 := q8.mk (Kd.qm6 (by repeat (first | (with_reducible exact qy3.out) | (with_reducible refine Kd.qj2 ?_ _) | (with_reducible refine Kd.qj3 ?_ _) | (with_reducible refine Kd.qo6 ?_) | exact qy3.out)) hb); have qE4 := q8.mk (Kd.qm6 (by repeat (first | (with_reducible exact qr1.out) | (with_reducible refine Kd.qj2 ?_ _) | (with_reducible refine Kd.qj3 ?_ _) | (with_reducible refine Kd.qo6 ?_) | exact qr1.out)) hb); have jc0 := q8.mk (jM (by repeat (first | (with_reducible first | exact HB.out | apply qA | apply q9 | apply qB | refine qK ?_ qf1.out) | exact HB.out)) hb); have jc1 := q8.mk (qb7); have zB2 := q8.mk ((by rw [hg]; exact (qM (by repeat (first | (with_reducible first | exact HB.out | apply qA | apply q9 | apply qB | refine qK ?_ qf1.out) | exact HB.out))) : w.heap.size ≤ qP)); have zB3 := q8.mk ((by rw [hg]; exact (qM (by repeat (first | (with_reducible first | exact HB.out | apply qA | apply q9 | apply qB | refine qK ?_ qf1.out) | exact HB.out))) : w.heap.size ≤ qP)); have zB4 := q8.mk ((by rw [hg]; exact Nat.ne_of_lt (qw1 (g := qH) (o := .cells #[.int .i64 t221, .int .i64 t213, .int .i64 t215, u217003] 55 (0, 0)) (by (with_reducible repeat (first | refine qI ?_ _ | refine qR ?_ | refine qJ ?_ _)); exact jF.out)) : qH ≠ qP)); have zB5 := q8.mk ((by rw [hg]; exact Nat.ne_of_gt (qw1 (g := qH) (o := .cells #[.int .i64 t221, .int .i64 t213, .int .i64 t215, u217003] 55 (0, 0)) (by (with_reducible repeat (first | refine qI ?_ _ | refine qR ?_ | refine qJ ?_ _)); exact jF.out)) : qP ≠ qH)); clear qa0; clear qa8; clear qU; clear qd0; clear qf0; clear qd2; clear jS; clear qh7; clear qm7; clear jF; clear qy3; clear qr1; clear HB; have qa0 := n0_; have qa8 := n1_; have qU := n2_; have qd0 := n3_; have qf0 := n4_; have qd2 := n5_; have jS := n6_; have qh7 := n7_; have qm7 := n8_; have jF := n9_; have qy3 := qE3; have qr1 := qE4; have HB := jc0; have jX := jc1; have Qn9 := zB2; have qx3 := zB3; have qi7 := zB4; have ji3 := zB5; clear n0_ n1_ n2_ n3_ n4_ n5_ n6_ n7_ n8_ n9_ qE3 qE4 jc0 jc1 zB2 zB3 zB4 zB5; clear hb qb7 hg; have hnb51 := ji3.out; have hnc51 := qi7.out; have Qx0 : w50.cell? ⟨qP, 0, none⟩ = some (.bool false) := (qE jX.out 0).trans rfl; have Qx1 : w50.cell? ⟨qP, 1, none⟩ = some (.int .i64 0) := (qE jX.out 1).trans rfl; have Qx2 : w50.cell? ⟨qP, 2, none⟩ = some (.int .i64 0) := (qE jX.out 2).trans rfl; have Qx3 := qC jX.out 0; have Qx4 := qC jX.out 1; have Qx5 := qC jX.out 2) | ((with_reducible refine qW6 (t := 51) (p := 11) rfl ?_); refine qQ5 (t := 51) (p := 11) (v := ?vo_w53) (w1 := (((w50.setCell ⟨qP, 0, none⟩ (.bool ((qG ((qD t200 qO).f3) j4).f0))).setCell ⟨qP, 1, none⟩ (.int .i64 ((qG ((qD t200 qO).f3) j4).f1))).setCell ⟨qP, 2, none⟩ (.int .i64 ((qG ((qD t200 qO).f3) j4).f2)))) ?hg ?ho ?hn ?hr ?_; (case ho => rfl); (case hg => rfl); (case hn => rfl); (case hr => first | (go_simp; done) | (go_simp; rfl)); intro w53 hw; have n0_ : q8 (Kd.V k55 55 w53 w.heap.size (fun k_ => (P0_ k_ ∨ w.heap.size ≤ k_) ∧ some k_ ≠ (u3 : Value).ownBlock ∧ some k_ ≠ (.slice (some jT) t200.length qh6 : Value).ownBlock ∧ some k_ ≠ (v219 : Value).ownBlock ∧ some k_ ≠ (u6 : Value).ownBlock ∧ some k_ ≠ (u7 : Value).ownBlock ∧ some k_ ≠ (u217003 : Value).ownBlock ∧ k_ ≠ qH ∧ k_ ≠ qP) (.slice A0 l0.length c0) l0) := ⟨(by rw [hw]; exact (by (with_reducible repeat (first | apply Kd.jP | apply Kd.jQ | apply Kd.zC)); exact Kd.zO (Kd.qg0 (p := ⟨qP, 2, none⟩) (Kd.qg0 (p := ⟨qP, 1, none⟩) (Kd.qg0 (p := ⟨qP, 0, none⟩) (Kd.zO qa0.out (fun k_ hk => (⟨hk, hk.2⟩ : _ ∧ k_ ≠ qP))) (fun _ hk => hk.2) (.bool ((qG ((qD t200 qO).f3) j4).f0))) (fun _ hk => hk.2) (.int .i64 ((qG ((qD t200 qO).f3) j4).f1))) (fun _ hk => hk.2) (.int .i64 ((qG ((qD t200 qO).f3) j4).f2))) (fun _ hk => ⟨hk.1.1.1, ⟨hk.1.1.2.1, ⟨hk.1.1.2.2.1, ⟨hk.1.1.2.2.2.1, ⟨hk.1.1.2.2.2.2.1, ⟨hk.1.1.2.2.2.2.2.1, ⟨hk.1.1.2.2.2.2.2.2.1, ⟨hk.1.1.2.2.2.2.2.2.2, hk.1.2⟩⟩⟩⟩⟩⟩⟩⟩)))⟩; have n1_ : q8 (Kd.N k55 55 w53 w.heap.size (fun k_ => (P0_ k_ ∨ w.heap.size ≤ k_) ∧ some k_ ≠ (.slice (some jT) t200.length qh6 : Value).ownBlock ∧ some k_ ≠ (v219 : Value).ownBlock ∧ some k_ ≠ (u6 : Value).ownBlock ∧ some k_ ≠ (u7 : Value).ownBlock ∧ some k_ ≠ (u217003 : Value).ownBlock ∧ k_ ≠ qH ∧ k_ ≠ qP) u3 ql7) := ⟨(by rw [hw]; exact (by (with_reducible repeat (first | apply Kd.jD | apply Kd.jE | apply Kd.jH)); exact Kd.zA (Kd.qg8 (p := ⟨qP, 2, none⟩) (Kd.qg8 (p := ⟨qP, 1, none⟩) (Kd.qg8 (p := ⟨qP, 0, none⟩) (Kd.zA qa8.out (fun k_ hk => (⟨hk, hk.2⟩ : _ ∧ k_ ≠ qP))) (fun _ hk => hk.2) (.bool ((qG ((qD t200 qO).f3) j4).f0))) (fun _ hk => hk.2) (.int .i64 ((qG ((qD t200 qO).f3) j4).f1))) (fun _ hk => hk.2) (.int .i64 ((qG ((qD t200 qO).f3) j4).f2))) (fun _ hk => ⟨hk.1.1.1, ⟨hk.1.1.2.1, ⟨hk.1.1.2.2.1, ⟨hk.1.1.2.2.2.1, ⟨hk.1.1.2.2.2.2.1, ⟨hk.1.1.2.2.2.2.2.1, ⟨hk.1.1.2.2.2.2.2.2, hk.1.2⟩⟩⟩⟩⟩⟩⟩)))⟩; have n2_ : q8 (Kd.N k55 55 w53 w.heap.size (fun k_ => (P0_ k_ ∨ w.heap.size ≤ k_) ∧ some k_ ≠ (u3 : Value).ownBlock ∧ some k_ ≠ (v219 : Value).ownBlock ∧ some k_ ≠ (u6 : Value).ownBlock ∧ some k_ ≠ (u7 : Value).ownBlock ∧ some k_ ≠ (u217003 : Value).ownBlock ∧ k_ ≠ qH ∧ k_ ≠ qP) (.slice (some jT) t200.length qh6) t200) := ⟨(by rw [hw]; exact (by (with_reducible repeat (first | apply Kd.jD | apply Kd.jE | apply Kd.jH)); exact Kd.zA (Kd.qg8 (p := ⟨qP, 2, none⟩) (Kd.qg8 (p := ⟨qP, 1, none⟩) (Kd.qg8 (p := ⟨qP, 0, none⟩) (Kd.zA qU.out (fun k_ hk => (⟨hk, hk.2⟩ : _ ∧ k_ ≠ qP))) (fun _ hk => hk.2) (.bool ((qG ((qD t200 qO).f3) j4).f0))) (fun _ hk => hk.2) (.int .i64 ((qG ((qD t200 qO).f3) j4).f1))) (fun _ hk => hk.2) (.int .i64 ((qG ((qD t200 qO).f3) j4).f2))) (fun _ hk => ⟨hk.1.1.1, ⟨hk.1.1.2.1, ⟨hk.1.1.2.2.1, ⟨hk.1.1.2.2.2.1, ⟨hk.1.1.2.2.2.2.1, ⟨hk.1.1.2.2.2.2.2.1, ⟨hk.1.1.2.2.2.2.2.2, hk.1.2⟩⟩⟩⟩⟩⟩⟩)))⟩; have n3_ : q8 (Kd.R (Kd.int .i64) 3 w53 w.heap.size (fun k_ => (w.heap.size ≤ k_) ∧ some k_ ≠ (u6 : Value).ownBlock ∧ some k_ ≠ (u7 : Value).ownBlock) v219 t218) := ⟨(by rw [hw]; exact (by (with_reducible repeat (first | apply Kd.qV | apply Kd.qW | apply Kd.jC)); exact Kd.jK (Kd.zQ (p := ⟨qP, 2, none⟩) (Kd.zQ (p := ⟨qP, 1, none⟩) (Kd.zQ (p := ⟨qP, 0, none⟩) (Kd.qb6 qd0.out jX.out (by decide)) (fun _ hk => hk.2) (.bool ((qG ((qD t200 qO).f3) j4).f0))) (fun _ hk => hk.2) (.int .i64 ((qG ((qD t200 qO).f3) j4).f1))) (fun _ hk => hk.2) (.int .i64 ((qG ((qD t200 qO).f3) j4).f2))) (fun _ hk => ⟨hk.1.1, ⟨hk.1.2.1, hk.1.2.2⟩⟩)))⟩; have n4_ : q8 (Kd.R (Kd.int .i64) 3 w53 w.heap.size (fun k_ => (w.heap.size ≤ k_) ∧ some k_ ≠ (v219 : Value).ownBlock ∧ some k_ ≠ (u7 : Value).ownBlock) u6 qe6) := ⟨(by rw [hw]; exact (by (with_reducible repeat (first | apply Kd.qV | apply Kd.qW | apply Kd.jC)); exact Kd.jK (Kd.zQ (p := ⟨qP, 2, none⟩) (Kd.zQ (p := ⟨qP, 1, none⟩) (Kd.zQ (p := ⟨qP, 0, none⟩) (Kd.qb6 qf0.out jX.out (by decide)) (fun _ hk => hk.2) (.bool ((qG ((qD t200 qO).f3) j4).f0))) (fun _ hk => hk.2) (.int .i64 ((qG ((qD t200 qO).f3) j4).f1))) (fun _ hk => hk.2) (.int .i64 ((qG ((qD t200 qO).f3) j4).f2))) (fun _ hk => ⟨hk.1.1, ⟨hk.1.2.1, hk.1.2.2⟩⟩)))⟩; have n5_ : q8 (Kd.R (Kd.int .i64) 3 w53 w.heap.size (fun k_ => (w.heap.size ≤ k_) ∧ some k_ ≠ (v219 : Value).ownBlock ∧ some k_ ≠ (u6 : Value).ownBlock) u7 qf9) := ⟨(by rw [hw]; exact (by (with_reducible repeat (first | apply Kd.qV | apply Kd.qW | apply Kd.jC)); exact Kd.jK (Kd.zQ (p := ⟨qP, 2, none⟩) (Kd.zQ (p := ⟨qP, 1, none⟩) (Kd.zQ (p := ⟨qP, 0, none⟩) (Kd.qb6 qd2.out jX.out (by decide)) (fun _ hk => hk.2) (.bool ((qG ((qD t200 qO).f3) j4).f0))) (fun _ hk => hk.2) (.int .i64 ((qG ((qD t200 qO).f3) j4).f1))) (fun _ hk => hk.2) (.int .i64 ((qG ((qD t200 qO).f3) j4).f2))) (fun _ hk => ⟨hk.1.1, ⟨hk.1.2.1, hk.1.2.2⟩⟩)))⟩; have n6_ : q8 (Kd.R k51 51 w53 w.heap.size (fun k_ => (w.heap.size ≤ k_) ∧ k_ ≠ qP) u217003 zX) := ⟨(by rw [hw]; exact (by (with_reducible repeat (first | apply Kd.qV | apply Kd.qW | apply Kd.jC)); exact Kd.jK (Kd.zQ (p := ⟨qP, 2, none⟩) (Kd.zQ (p := ⟨qP, 1, none⟩) (Kd.zQ (p := ⟨qP, 0, none⟩) (Kd.jK jS.out (fun k_ hk => (⟨hk, hk.2⟩ : _ ∧ k_ ≠ qP))) (fun _ hk => hk.2) (.bool ((qG ((qD t200 qO).f3) j4).f0))) (fun _ hk => hk.2) (.int .i64 ((qG ((qD t200 qO).f3) j4).f1))) (fun _ hk => hk.2) (.int .i64 ((qG ((qD t200 qO).f3) j4).f2))) (fun _ hk => ⟨hk.1.1, hk.1.2⟩)))⟩; have n7_ : q8 (Kd.V k51 51 w53 w.heap.size (fun k_ => (P0_ k_ ∨ w.heap.size ≤ k_) ∧ some k_ ≠ (u3 : Value).ownBlock ∧ some k_ ≠ (.slice (some jT) t200.length qh6 : Value).ownBlock ∧ some k_ ≠ (v219 : Value).ownBlock ∧ some k_ ≠ (u6 : Value).ownBlock ∧ some k_ ≠ (u7 : Value).ownBlock ∧ some k_ ≠ (u217003 : Value).ownBlock ∧ k_ ≠ qH ∧ k_ ≠ qP) (.slice (some jU0) ((qD t200 qO).f3).length ji2) ((qD t200 qO).f3)) := ⟨(by rw [hw]; exact (by (with_reducible repeat (first | apply Kd.jP | apply Kd.jQ | apply Kd.zC)); exact Kd.zO (Kd.qg0 (p := ⟨qP, 2, none⟩) (Kd.qg0 (p := ⟨qP, 1, none⟩) (Kd.qg0 (p := ⟨qP, 0, none⟩) (Kd.zO qh7.out (fun k_ hk => (⟨hk, hk.2⟩ : _ ∧ k_ ≠ qP))) (fun _ hk => hk.2) (.bool ((qG ((qD t200 qO).f3) j4).f0))) (fun _ hk => hk.2) (.int .i64 ((qG ((qD t200 qO).f3) j4).f1))) (fun _ hk => hk.2) (.int .i64 ((qG ((qD t200 qO).f3) j4).f2))) (fun _ hk => ⟨hk.1.1.1.1, ⟨hk.1.1.1.2.1, ⟨hk.1.1.2, ⟨hk.1.1.1.2.2.1, ⟨hk.1.1.1.2.2.2.1, ⟨hk.1.1.1.2.2.2.2.1, ⟨hk.1.1.1.2.2.2.2.2.1, ⟨hk.1.1.1.2.2.2.2.2.2, hk.1.2⟩⟩⟩⟩⟩⟩⟩⟩)))⟩; have n8_ : q8 (Kd.V k51 51 w53 w.heap.size (fun k_ => (P0_ k_ ∨ w.heap.size ≤ k_) ∧ some k_ ≠ (u3 : Value).ownBlock ∧ some k_ ≠ (.slice (some jT) t200.length qh6 : Value).ownBlock ∧ some k_ ≠ (v219 : Value).ownBlock ∧ some k_ ≠ (u6 : Value).ownBlock ∧ some k_ ≠ (u7 : Value).ownBlock ∧ some k_ ≠ (u217003 : Value).ownBlock ∧ k_ ≠ qH ∧ k_ ≠ qP) (.slice (some jU0) ((qD t200 qO).f3).length ji2) ((qD t200 qO).f3)) := ⟨(by rw [hw]; exact (by (with_reducible repeat (first | apply Kd.jP | apply Kd.jQ | apply Kd.zC)); exact Kd.zO (Kd.qg0 (p := ⟨qP, 2, none⟩) (Kd.qg0 (p := ⟨qP, 1, none⟩) (Kd.qg0 (p := ⟨qP, 0, none⟩) (Kd.zO qm7.out (fun k_ hk => (⟨hk, hk.2⟩ : _ ∧ k_ ≠ qP))) (fun _ hk => hk.2) (.bool ((qG ((qD t200 qO).f3) j4).f0))) (fun _ hk => hk.2) (.int .i64 ((qG ((qD t200 qO).f3) j4).f1))) (fun _ hk => hk.2) (.int .i64 ((qG ((qD t200 qO).f3) j4).f2))) (fun _ hk => ⟨hk.1.1.1.1, ⟨hk.1.1.1.2.1, ⟨hk.1.1.2, ⟨hk.1.1.1.2.2.1, ⟨hk.1.1.1.2.2.2.1, ⟨hk.1.1.1.2.2.2.2.1, ⟨hk.1.1.1.2.2.2.2.2.1, ⟨hk.1.1.1.2.2.2.2.2.2, hk.1.2⟩⟩⟩⟩⟩⟩⟩⟩)))⟩; have n9_ : q8 (w53.heap[qH]? = some (.cells #[.int .i64 t221, .int .i64 t213, .int .i64 t215, u217003] 55 (0, 0))) := ⟨(by rw [hw]; exact (by (with_reducible repeat (first | refine qI ?_ _ | refine qR ?_ | refine qJ ?_ _)); refine ql0 ?_ qi7.out _; (with_reducible repeat (first | refine qI ?_ _ | refine qR ?_ | refine qJ ?_ _)); refine ql0 ?_ qi7.out _; (with_reducible repeat (first | refine qI ?_ _ | refine qR ?_ | refine qJ ?_ _)); refine ql0 ?_ qi7.out _; (with_reducible repeat (first | refine qI ?_ _ | refine qR ?_ | refine qJ ?_ _)); exact jF.out))⟩; have qE3 : q8 (w53.heap[qP]? = some (.cells #[.bool ((qG ((qD t200 qO).f3) j4).f0), .int .i64 ((qG ((qD t200 qO).f3) j4).f1), .int .i64 ((qG ((qD t200 qO).f3) j4).f2)] 51 (0, 0))) := ⟨(by rw [hw]; exact (by (with_reducible repeat (first | refine qI ?_ _ | refine qR ?_ | refine qJ ?_ _)); refine qd9 (cs := #[.bool ((qG ((qD t200 qO).f3) j4).f0), .int .i64 ((qG ((qD t200 qO).f3) j4).f1), .int .i64 0]) ?_ 2 _ rfl; (with_reducible repeat (first | refine qI ?_ _ | refine qR ?_ | refine qJ ?_ _)); refine qd9 (cs := #[.bool ((qG ((qD t200 qO).f3) j4).f0), .int .i64 0, .int .i64 0]) ?_ 1 _ rfl; (with_reducible repeat (first | refine qI ?_ _ | refine qR ?_ | refine qJ ?_ _)); refine qd9 (cs := #[.bool false, .int .i64 0, .int .i64 0]) ?_ 0 _ rfl; (with_reducible repeat (first | refine qI ?_ _ | refine qR ?_ | refine qJ ?_ _)); exact jX.out))⟩; have qE4 : q8 (Below w.heap.size w w53) := ⟨(by rw [hw]; exact (by repeat (first | (with_reducible first | exact HB.out | apply qA | apply q9 | apply qB | refine qK ?_ qf1.out | refine qK ?_ qx3.out) | exact HB.out)))⟩; clear hw; clear qa0; clear qa8; clear qU; clear qd0; clear qf0; clear qd2; clear jS; clear qh7; clear qm7; clear jF; clear jX; clear HB; have qa0 := n0_; have qa8 := n1_; have qU := n2_; have qd0 := n3_; have qf0 := n4_; have qd2 := n5_; have jS := n6_; have qh7 := n7_; have qm7 := n8_; have jF := n9_; have jX := qE3; have HB := qE4; clear n0_ n1_ n2_ n3_ n4_ n5_ n6_ n7_ n8_ n9_ qE3 qE4; have Qx6 : w53.cell? ⟨qP, 0, none⟩ = some (.bool ((qG ((qD t200 qO).f3) j4).f0)) := (qE jX.out 0).trans rfl; have Qx7 : w53.cell? ⟨qP, 1, none⟩ = some (.int .i64 ((qG ((qD t200 qO).f3) j4).f1)) := (qE jX.out 1).trans rfl; have Qx8 : w53.cell? ⟨qP, 2, none⟩ = some (.int .i64 ((qG ((qD t200 qO).f3) j4).f2)) := (qE jX.out 2).trans rfl; have Qx9 := qC jX.out 0; have Qy0 := qC jX.out 1; have Qy1 := qC jX.out 2; obtain ⟨Qc9, Qd0, eo55⟩ := Kd.qv5 qf0.out; subst eo55) | ((with_reducible refine qk3 (f := 45) rfl ?_); refine qL3 (some 72) rfl rfl Try.func45 (by kernel_rfl) rfl #[.slice Qc9 qe6.length Qd0, .int .i64 ((qG ((qD t200 qO).f3) j4).f1)] rfl (by (try simp only [List.map_toArray, List.map_cons, List.map_nil]); first | done | rfl | (simp only [List.length_drop, List.length_take]; rfl)) ?_; (with_reducible refine (jB.calls k2 (fun k_ => some k_ = (.slice Qc9 qe6.length Qd0 : Value).ownBlock) (.slice Qc9 qe6.length Qd0) qe6 ((qG ((qD t200 qO).f3) j4).f1) t229 t232 w _ ?qv7 ?qz4 A33.out).mono ?_); (case qv7 => repeat (first | (with_reducible first | exact HB.out | apply qA | apply q9 | apply qB | refine qK ?_ qf1.out | refine qK ?_ qx3.out) | exact HB.out)); (case qz4 => exact Kd.jc2 rfl qf0.out); rintro e w56 ⟨v230, rfl, ho0, hb, hkp⟩; refine ⟨_, rfl, ?_⟩; have n0_ := q8.mk (Kd.zO (ok' := fun k_ => (P0_ k_ ∨ w.heap.size ≤ k_) ∧ some k_ ≠ (u3 : Value).ownBlock ∧ some k_ ≠ (.slice (some jT) t200.length qh6 : Value).ownBlock ∧ some k_ ≠ (v219 : Value).ownBlock ∧ some k_ ≠ (u7 : Value).ownBlock ∧ some k_ ≠ (u217003 : Value).ownBlock ∧ k_ ≠ qH ∧ k_ ≠ qP ∧ some k_ ≠ (v230 : Value).ownBlock) (Kd.jn1 (qa0.out) hkp (fun k_ hk_ hs_ => (hk_.2.2.2.2.1) hs_)) (fun k_ hk_ => ⟨hk_.1.1, hk_.1.2.1, hk_.1.2.2.1, hk_.1.2.2.2.1, hk_.1.2.2.2.2.2.1, hk_.1.2.2.2.2.2.2.1, hk_.1.2.2.2.2.2.2.2.1, hk_.1.2.2.2.2.2.2.2.2, fun e_ => Or.elim (ho0.1 k_ e_.symm) (fun hs_ => hk_.2.1 hs_) (fun hn_ => Nat.not_le.2 hk_.2.2 hn_)⟩)); have n1_ := q8.mk (Kd.zA (ok' := fun k_ => (P0_ k_ ∨ w.heap.size ≤ k_) ∧ some k_ ≠ (.slice (some jT) t200.length qh6 : Value).ownBlock ∧ some k_ ≠ (v219 : Value).ownBlock ∧ some k_ ≠ (u7 : Value).ownBlock ∧ some k_ ≠ (u217003 : Value).ownBlock ∧ k_ ≠ qH ∧ k_ ≠ qP ∧ some k_ ≠ (v230 : Value).ownBlock) (Kd.qF7 (qa8.out) hkp (fun k_ hk_ hs_ => (hk_.2.2.2.1) hs_)) (fun k_ hk_ => ⟨hk_.1.1, hk_.1.2.1, hk_.1.2.2.1, hk_.1.2.2.2.2.1, hk_.1.2.2.2.2.2.1, hk_.1.2.2.2.2.2.2.1, hk_.1.2.2.2.2.2.2.2, fun e_ => Or.elim (ho0.1 k_ e_.symm) (fun hs_ => hk_.2.1 hs_) (fun hn_ => Nat.not_le.2 hk_.2.2 hn_)⟩)); have n2_ := q8.mk (Kd.zA (ok' := fun k_ => (P0_ k_ ∨ w.heap.size ≤ k_) ∧ some k_ ≠ (u3 : Value).ownBlock ∧ some k_ ≠ (v219 : Value).ownBlock ∧ some k_ ≠ (u7 : Value).ownBlock ∧ some k_ ≠ (u217003 : Value).ownBlock ∧ k_ ≠ qH ∧ k_ ≠ qP ∧ some k_ ≠ (v230 : Value).ownBlock) (Kd.qF7 (qU.out) hkp (fun k_ hk_ hs_ => (hk_.2.2.2.1) hs_)) (fun k_ hk_ => ⟨hk_.1.1, hk_.1.2.1, hk_.1.2.2.1, hk_.1.2.2.2.2.1, hk_.1.2.2.2.2.2.1, hk_.1.2.2.2.2.2.2.1, hk_.1.2.2.2.2.2.2.2, fun e_ => Or.elim (ho0.1 k_ e_.symm) (fun hs_ => hk_.2.1 hs_) (fun hn_ => Nat.not_le.2 hk_.2.2 hn_)⟩)); have n3_ := q8.mk (Kd.jK (ok' := fun k_ => (w.heap.size ≤ k_) ∧ some k_ ≠ (u7 : Value).ownBlock ∧ some k_ ≠ (v230 : Value).ownBlock) (Kd.qv8 (qd0.out) hkp (fun k_ hk_ hs_ => (hk_.2.1) hs_)) (fun k_ hk_ => ⟨hk_.1.1, hk_.1.2.2, fun e_ => Or.elim (ho0.1 k_ e_.symm) (fun hs_ => hk_.2.1 hs_) (fun hn_ => Nat.not_le.2 hk_.2.2 hn_)⟩)); have n4_ := q8.mk (Kd.jK (ok' := fun k_ => (w.heap.size ≤ k_) ∧ some k_ ≠ (v219 : Value).ownBlock ∧ some k_ ≠ (v230 : Value).ownBlock) (Kd.qv8 (qd2.out) hkp (fun k_ hk_ hs_ => (hk_.2.2) hs_)) (fun k_ hk_ => ⟨hk_.1.1, hk_.1.2.1, fun e_ => Or.elim (ho0.1 k_ e_.symm) (fun hs_ => hk_.2.1 hs_) (fun hn_ => Nat.not_le.2 hk_.2.2 hn_)⟩)); have n5_ := q8.mk (Kd.jK (ok' := fun k_ => (w.heap.size ≤ k_) ∧ k_ ≠ qP) (Kd.qv8 ((Kd.ql8 jS.out (Kd.ql1 qf0.out) (by decide))) hkp (fun k_ hk_ hs_ => (hk_.2) hs_)) (fun k_ hk_ => ⟨hk_.1.1.1, hk_.1.1.2⟩)); have n6_ := q8.mk (qE5 (by (with_reducible repeat (first | refine qI ?_ _ | refine qR ?_ | refine qJ ?_ _)); exact jF.out) hkp (fun hs_ => (fun e_ => (Kd.jK1 qf0.out jF.out (by decide)) e_) hs_)); have n7_ := q8.mk (qE5 (by (with_reducible repeat (first | refine qI ?_ _ | refine qR ?_ | refine qJ ?_ _)); exact jX.out) hkp (fun hs_ => (fun e_ => (Kd.jK1 qf0.out jX.out (by decide)) e_) hs_)); have n8_ := q8.mk (Kd.jK (ok' := fun k_ => (w.heap.size ≤ k_) ∧ some k_ ≠ (v219 : Value).ownBlock ∧ some k_ ≠ (u7 : Value).ownBlock) ho0 (fun k_ hk_ => ⟨Or.elim hk_ (fun hs_ => (qf0.out.1 k_ (hs_).symm).1) (fun hn_ => (Nat.le_trans (qM (by repeat (first | (with_reducible first | exact HB.out | apply qA | apply q9 | apply qB | refine qK ?_ qf1.out | refine qK ?_ qx3.out) | exact HB.out))) hn_)), Or.elim hk_ (fun hs_ => fun e_ => (((qd0.out).1 k_ e_.symm).2.1) hs_) (fun hn_ => (Kd.fresh' (Kd.qO9 (by (with_reducible repeat (first | apply Kd.qV | apply Kd.qW | apply Kd.jC)); exact qd0.out)) k_ hn_)), Or.elim hk_ (fun hs_ => fun e_ => (((qd2.out).1 k_ e_.symm).2.2) hs_) (fun hn_ => (Kd.fresh' (Kd.qO9 (by (with_reducible repeat (first | apply Kd.qV | apply Kd.qW | apply Kd.jC)); exact qd2.out)) k_ hn_))⟩)); have n9_ := q8.mk (hb); clear qa0; clear qa8; clear qU; clear qd0; clear qd2; clear jS; clear jF; clear jX; clear HB; clear qf0; clear qh7; clear qm7; have qa0 := n0_; have qa8 := n1_; have qU := n2_; have qd0 := n3_; have qd2 := n4_; have jS := n5_; have jF := n6_; have jX := n7_; have qz5 := n8_; have HB := n9_; clear n0_ n1_ n2_ n3_ n4_ n5_ n6_ n7_ n8_ n9_; (try clear hb); (try clear hkp); (try clear ho0); have Qy2 : w56.cell? ⟨qP, 0, none⟩ = some (.bool ((qG ((qD t200 qO).f3) j4).f0)) := (qE jX.out 0).trans rfl; have Qy3 : w56.cell? ⟨qP, 1, none⟩ = some (.int .i64 ((qG ((qD t200 qO).f3) j4).f1)) := (qE jX.out 1).trans rfl; have Qy4 : w56.cell? ⟨qP, 2, none⟩ = some (.int .i64 ((qG ((qD t200 qO).f3) j4).f2)) := (qE jX.out 2).trans rfl; have Qy5 := qC jX.out 0; have Qy6 := qC jX.out 1; have Qy7 := qC jX.out 2) | ((with_reducible refine qW6 (t := 3) (p := 75) rfl ?_); refine qQ5 (t := 3) (p := 75) (v := ?vo_w58) (w1 := (w56.setCell ⟨qP, 1, none⟩ (.int .i64 t232))) ?hg ?ho ?hn ?hr ?_; (case ho => rfl); (case hg => rfl); (case hn => rfl); (case hr => first | (go_simp; done) | (go_simp; rfl)); intro w58 hw; have n0_ : q8 (Kd.V k55 55 w58 w.heap.size (fun k_ => (P0_ k_ ∨ w.heap.size ≤ k_) ∧ some k_ ≠ (u3 : Value).ownBlock ∧ some k_ ≠ (.slice (some jT) t200.length qh6 : Value).ownBlock ∧ some k_ ≠ (v219 : Value).ownBlock ∧ some k_ ≠ (u7 : Value).ownBlock ∧ some k_ ≠ (u217003 : Value).ownBlock ∧ some k_ ≠ (v230 : Value).ownBlock ∧ k_ ≠ qH ∧ k_ ≠ qP) (.slice A0 l0.length c0) l0) := ⟨(by rw [hw]; exact (by (with_reducible repeat (first | apply Kd.jP | apply Kd.jQ | apply Kd.zC)); exact Kd.zO (Kd.qg0 (p := ⟨qP, 1, none⟩) (Kd.zO qa0.out (fun k_ hk => (⟨hk, hk.2.2.2.2.2.2.2.1⟩ : _ ∧ k_ ≠ qP))) (fun _ hk => hk.2) (.int .i64 t232)) (fun _ hk => ⟨hk.1.1, ⟨hk.1.2.1, ⟨hk.1.2.2.1, ⟨hk.1.2.2.2.1, ⟨hk.1.2.2.2.2.1, ⟨hk.1.2.2.2.2.2.1, ⟨hk.1.2.2.2.2.2.2.2.2, ⟨hk.1.2.2.2.2.2.2.1, hk.1.2.2.2.2.2.2.2.1⟩⟩⟩⟩⟩⟩⟩⟩)))⟩; have n1_ : q8 (Kd.N k55 55 w58 w.heap.size (fun k_ => (P0_ k_ ∨ w.heap.size ≤ k_) ∧ some k_ ≠ (.slice (some jT) t200.length qh6 : Value).ownBlock ∧ some k_ ≠ (v219 : Value).ownBlock ∧ some k_ ≠ (u7 : Value).ownBlock ∧ some k_ ≠ (u217003 : Value).ownBlock ∧ some k_ ≠ (v230 : Value).ownBlock ∧ k_ ≠ qH ∧ k_ ≠ qP) u3 ql7) := ⟨(by rw [hw]; exact (by (with_reducible repeat (first | apply Kd.jD | apply Kd.jE | apply Kd.jH)); exact Kd.zA (Kd.qg8 (p := ⟨qP, 1, none⟩) (Kd.zA qa8.out (fun k_ hk => (⟨hk, hk.2.2.2.2.2.2.1⟩ : _ ∧ k_ ≠ qP))) (fun _ hk => hk.2) (.int .i64 t232)) (fun _ hk => ⟨hk.1.1, ⟨hk.1.2.1, ⟨hk.1.2.2.1, ⟨hk.1.2.2.2.1, ⟨hk.1.2.2.2.2.1, ⟨hk.1.2.2.2.2.2.2.2, ⟨hk.1.2.2.2.2.2.1, hk.1.2.2.2.2.2.2.1⟩⟩⟩⟩⟩⟩⟩)))⟩; have n2_ : q8 (Kd.N k55 55 w58 w.heap.size (fun k_ => (P0_ k_ ∨ w.heap.size ≤ k_) ∧ some k_ ≠ (u3 : Value).ownBlock ∧ some k_ ≠ (v219 : Value).ownBlock ∧ some k_ ≠ (u7 : Value).ownBlock ∧ some k_ ≠ (u217003 : Value).ownBlock ∧ some k_ ≠ (v230 : Value).ownBlock ∧ k_ ≠ qH ∧ k_ ≠ qP) (.slice (some jT) t200.length qh6) t200) := ⟨(by rw [hw]; exact (by (with_reducible repeat (first | apply Kd.jD | apply Kd.jE | apply Kd.jH)); exact Kd.zA (Kd.qg8 (p := ⟨qP, 1, none⟩) (Kd.zA qU.out (fun k_ hk => (⟨hk, hk.2.2.2.2.2.2.1⟩ : _ ∧ k_ ≠ qP))) (fun _ hk => hk.2) (.int .i64 t232)) (fun _ hk => ⟨hk.1.1, ⟨hk.1.2.1, ⟨hk.1.2.2.1, ⟨hk.1.2.2.2.1, ⟨hk.1.2.2.2.2.1, ⟨hk.1.2.2.2.2.2.2.2, ⟨hk.1.2.2.2.2.2.1, hk.1.2.2.2.2.2.2.1⟩⟩⟩⟩⟩⟩⟩)))⟩; have n3_ : q8 (Kd.R (Kd.int .i64) 3 w58 w.heap.size (fun k_ => (w.heap.size ≤ k_) ∧ some k_ ≠ (u7 : Value).ownBlock ∧ some k_ ≠ (v230 : Value).ownBlock) v219 t218) := ⟨(by rw [hw]; exact (by (with_reducible repeat (first | apply Kd.qV | apply Kd.qW | apply Kd.jC)); exact Kd.jK (Kd.zQ (p := ⟨qP, 1, none⟩) (Kd.qb6 qd0.out jX.out (by decide)) (fun _ hk => hk.2) (.int .i64 t232)) (fun _ hk => ⟨hk.1.1, ⟨hk.1.2.1, hk.1.2.2⟩⟩)))⟩; have n4_ : q8 (Kd.R (Kd.int .i64) 3 w58 w.heap.size (fun k_ => (w.heap.size ≤ k_) ∧ some k_ ≠ (v219 : Value).ownBlock ∧ some k_ ≠ (v230 : Value).ownBlock) u7 qf9) := ⟨(by rw [hw]; exact (by (with_reducible repeat (first | apply Kd.qV | apply Kd.qW | apply Kd.jC)); exact Kd.jK (Kd.zQ (p := ⟨qP, 1, none⟩) (Kd.qb6 qd2.out jX.out (by decide)) (fun _ hk => hk.2) (.int .i64 t232)) (fun _ hk => ⟨hk.1.1, ⟨hk.1.2.1, hk.1.2.2⟩⟩)))⟩; have n5_ : q8 (Kd.R k51 51 w58 w.heap.size (fun k_ => (w.heap.size ≤ k_) ∧ k_ ≠ qP) u217003 zX) := ⟨(by rw [hw]; exact (by (with_reducible repeat (first | apply Kd.qV | apply Kd.qW | apply Kd.jC)); exact Kd.jK (Kd.zQ (p := ⟨qP, 1, none⟩) (Kd.jK jS.out (fun k_ hk => (⟨hk, hk.2⟩ : _ ∧ k_ ≠ qP))) (fun _ hk => hk.2) (.int .i64 t232)) (fun _ hk => ⟨hk.1.1, hk.1.2⟩)))⟩; have n6_ : q8 (Kd.R (Kd.int .i64) 3 w58 w.heap.size (fun k_ => (w.heap.size ≤ k_) ∧ some k_ ≠ (v219 : Value).ownBlock ∧ some k_ ≠ (u7 : Value).ownBlock) v230 t229) := ⟨(by rw [hw]; exact (by (with_reducible repeat (first | apply Kd.qV | apply Kd.qW | apply Kd.jC)); exact Kd.jK (Kd.zQ (p := ⟨qP, 1, none⟩) (Kd.qb6 qz5.out jX.out (by decide)) (fun _ hk => hk.2) (.int .i64 t232)) (fun _ hk => ⟨hk.1.1, ⟨hk.1.2.1, hk.1.2.2⟩⟩)))⟩; have n7_ : q8 (w58.heap[qH]? = some (.cells #[.int .i64 t221, .int .i64 t213, .int .i64 t215, u217003] 55 (0, 0))) := ⟨(by rw [hw]; exact (by (with_reducible repeat (first | refine qI ?_ _ | refine qR ?_ | refine qJ ?_ _)); refine ql0 ?_ qi7.out _; (with_reducible repeat (first | refine qI ?_ _ | refine qR ?_ | refine qJ ?_ _)); exact jF.out))⟩; have n8_ : q8 (w58.heap[qP]? = some (.cells #[.bool ((qG ((qD t200 qO).f3) j4).f0), .int .i64 t232, .int .i64 ((qG ((qD t200 qO).f3) j4).f2)] 51 (0, 0))) := ⟨(by rw [hw]; exact (by (with_reducible repeat (first | refine qI ?_ _ | refine qR ?_ | refine qJ ?_ _)); refine qd9 (cs := #[.bool ((qG ((qD t200 qO).f3) j4).f0), .int .i64 ((qG ((qD t200 qO).f3) j4).f1), .int .i64 ((qG ((qD t200 qO).f3) j4).f2)]) ?_ 1 _ rfl; (with_reducible repeat (first | refine qI ?_ _ | refine qR ?_ | refine qJ ?_ _)); exact jX.out))⟩; have n9_ : q8 (Below w.heap.size w w58) := ⟨(by rw [hw]; exact (by repeat (first | (with_reducible first | exact HB.out | apply qA | apply q9 | apply qB | refine qK ?_ qf1.out | refine qK ?_ qx3.out) | exact HB.out)))⟩; clear hw; clear qa0; clear qa8; clear qU; clear qd0; clear qd2; clear jS; clear qz5; clear jF; clear jX; clear HB; have qa0 := n0_; have qa8 := n1_; have qU := n2_; have qd0 := n3_; have qd2 := n4_; have jS := n5_; have qz5 := n6_; have jF := n7_; have jX := n8_; have HB := n9_; clear n0_ n1_ n2_ n3_ n4_ n5_ n6_ n7_ n8_ n9_; have Qy8 : w58.cell? ⟨qP, 0, none⟩ = some (.bool ((qG ((qD t200 qO).f3) j4).f0)) := (qE jX.out 0).trans rfl; have Qy9 : w58.cell? ⟨qP, 1, none⟩ = some (.int .i64 t232) := (qE jX.out 1).trans rfl; have Qz0 : w58.cell? ⟨qP, 2, none⟩ = some (.int .i64 ((qG ((qD t200 qO).f3) j4).f2)) := (qE jX.out 2).trans rfl; have Qz1 := qC jX.out 0; have Qz2 := qC jX.out 1; have Qz3 := qC jX.out 2; obtain ⟨Qd1, Qd2, eo60⟩ := Kd.qv5 qd2.out; subst eo60) | ((with_reducible refine qk3 (f := 45) rfl ?_); refine qL3 (some 83) rfl rfl Try.func45 (by kernel_rfl) rfl #[.slice Qd1 qf9.length Qd2, .int .i64 ((qG ((qD t200 qO).f3) j4).f2)] rfl (by (try simp only [List.map_toArray, List.map_cons, List.map_nil]); first | done | rfl | (simp only [List.length_drop, List.length_take]; rfl)) ?_; (with_reducible refine (jB.calls k2 (fun k_ => some k_ = (.slice Qd1 qf9.length Qd2 : Value).ownBlock) (.slice Qd1 qf9.length Qd2) qf9 ((qG ((qD t200 qO).f3) j4).f2) t236 t239 w _ ?qv7 ?qz4 A48.out).mono ?_); (case qv7 => repeat (first | (with_reducible first | exact HB.out | apply qA | apply q9 | apply qB | refine qK ?_ qf1.out | refine qK ?_ qx3.out) | exact HB.out)); (case qz4 => exact Kd.jc2 rfl qd2.out); rintro e w61 ⟨v237, rfl, ho0, hb, hkp⟩; refine ⟨_, rfl, ?_⟩; have n0_ := q8.mk (Kd.zO (ok' := fun k_ => (P0_ k_ ∨ w.heap.size ≤ k_) ∧ some k_ ≠ (u3 : Value).ownBlock ∧ some k_ ≠ (.slice (some jT) t200.length qh6 : Value).ownBlock ∧ some k_ ≠ (v219 : Value).ownBlock ∧ some k_ ≠ (u217003 : Value).ownBlock ∧ some k_ ≠ (v230 : Value).ownBlock ∧ k_ ≠ qH ∧ k_ ≠ qP ∧ some k_ ≠ (v237 : Value).ownBlock) (Kd.jn1 (qa0.out) hkp (fun k_ hk_ hs_ => (hk_.2.2.2.2.1) hs_)) (fun k_ hk_ => ⟨hk_.1.1, hk_.1.2.1, hk_.1.2.2.1, hk_.1.2.2.2.1, hk_.1.2.2.2.2.2.1, hk_.1.2.2.2.2.2.2.1, hk_.1.2.2.2.2.2.2.2.1, hk_.1.2.2.2.2.2.2.2.2, fun e_ => Or.elim (ho0.1 k_ e_.symm) (fun hs_ => hk_.2.1 hs_) (fun hn_ => Nat.not_le.2 hk_.2.2 hn_)⟩)); have n1_ := q8.mk (Kd.zA (ok' := fun k_ => (P0_ k_ ∨ w.heap.size ≤ k_) ∧ some k_ ≠ (.slice (some jT) t200.length qh6 : Value).ownBlock ∧ some k_ ≠ (v219 : Value).ownBlock ∧ some k_ ≠ (u217003 : Value).ownBlock ∧ some k_ ≠ (v230 : Value).ownBlock ∧ k_ ≠ qH ∧ k_ ≠ qP ∧ some k_ ≠ (v237 : Value).ownBlock) (Kd.qF7 (qa8.out) hkp (fun k_ hk_ hs_ => (hk_.2.2.2.1) hs_)) (fun k_ hk_ => ⟨hk_.1.1, hk_.1.2.1, hk_.1.2.2.1, hk_.1.2.2.2.2.1, hk_.1.2.2.2.2.2.1, hk_.1.2.2.2.2.2.2.1, hk_.1.2.2.2.2.2.2.2, fun e_ => Or.elim (ho0.1 k_ e_.symm) (fun hs_ => hk_.2.1 hs_) (fun hn_ => Nat.not_le.2 hk_.2.2 hn_)⟩)); have n2_ := q8.mk (Kd.zA (ok' := fun k_ => (P0_ k_ ∨ w.heap.size ≤ k_) ∧ some k_ ≠ (u3 : Value).ownBlock ∧ some k_ ≠ (v219 : Value).ownBlock ∧ some k_ ≠ (u217003 : Value).ownBlock ∧ some k_ ≠ (v230 : Value).ownBlock ∧ k_ ≠ qH ∧ k_ ≠ qP ∧ some k_ ≠ (v237 : Value).ownBlock) (Kd.qF7 (qU.out) hkp (fun k_ hk_ hs_ => (hk_.2.2.2.1) hs_)) (fun k_ hk_ => ⟨hk_.1.1, hk_.1.2.1, hk_.1.2.2.1, hk_.1.2.2.2.2.1, hk_.1.2.2.2.2.2.1, hk_.1.2.2.2.2.2.2.1, hk_.1.2.2.2.2.2.2.2, fun e_ => Or.elim (ho0.1 k_ e_.symm) (fun hs_ => hk_.2.1 hs_) (fun hn_ => Nat.not_le.2 hk_.2.2 hn_)⟩)); have n3_ := q8.mk (Kd.jK (ok' := fun k_ => (w.heap.size ≤ k_) ∧ some k_ ≠ (v230 : Value).ownBlock ∧ some k_ ≠ (v237 : Value).ownBlock) (Kd.qv8 (qd0.out) hkp (fun k_ hk_ hs_ => (hk_.2.1) hs_)) (fun k_ hk_ => ⟨hk_.1.1, hk_.1.2.2, fun e_ => Or.elim (ho0.1 k_ e_.symm) (fun hs_ => hk_.2.1 hs_) (fun hn_ => Nat.not_le.2 hk_.2.2 hn_)⟩)); have n4_ := q8.mk (Kd.jK (ok' := fun k_ => (w.heap.size ≤ k_) ∧ k_ ≠ qP) (Kd.qv8 ((Kd.ql8 jS.out (Kd.ql1 qd2.out) (by decide))) hkp (fun k_ hk_ hs_ => (hk_.2) hs_)) (fun k_ hk_ => ⟨hk_.1.1.1, hk_.1.1.2⟩)); have n5_ := q8.mk (qE5 (by (with_reducible repeat (first | refine qI ?_ _ | refine qR ?_ | refine qJ ?_ _)); exact jF.out) hkp (fun hs_ => (fun e_ => (Kd.jK1 qd2.out jF.out (by decide)) e_) hs_)); have n6_ := q8.mk (qE5 (by (with_reducible repeat (first | refine qI ?_ _ | refine qR ?_ | refine qJ ?_ _)); exact jX.out) hkp (fun hs_ => (fun e_ => (Kd.jK1 qd2.out jX.out (by decide)) e_) hs_)); have n7_ := q8.mk (Kd.jK (ok' := fun k_ => (w.heap.size ≤ k_) ∧ some k_ ≠ (v219 : Value).ownBlock ∧ some k_ ≠ (v237 : Value).ownBlock) (Kd.qv8 (qz5.out) hkp (fun k_ hk_ hs_ => (hk_.2.2) hs_)) (fun k_ hk_ => ⟨hk_.1.1, hk_.1.2.1, fun e_ => Or.elim (ho0.1 k_ e_.symm) (fun hs_ => hk_.2.1 hs_) (fun hn_ => Nat.not_le.2 hk_.2.2 hn_)⟩)); have n8_ := q8.mk (Kd.jK (ok' := fun k_ => (w.heap.size ≤ k_) ∧ some k_ ≠ (v219 : Value).ownBlock ∧ some k_ ≠ (v230 : Value).ownBlock) ho0 (fun k_ hk_ => ⟨Or.elim hk_ (fun hs_ => (qd2.out.1 k_ (hs_).symm).1) (fun hn_ => (Nat.le_trans (qM (by repeat (first | (with_reducible first | exact HB.out | apply qA | apply q9 | apply qB | refine qK ?_ qf1.out | refine qK ?_ qx3.out) | exact HB.out))) hn_)), Or.elim hk_ (fun hs_ => fun e_ => (((qd0.out).1 k_ e_.symm).2.1) hs_) (fun hn_ => (Kd.fresh' (Kd.qO9 (by (with_reducible repeat (first | apply Kd.qV | apply Kd.qW | apply Kd.jC)); exact qd0.out)) k_ hn_)), Or.elim hk_ (fun hs_ => fun e_ => (((qz5.out).1 k_ e_.symm).2.2) hs_) (fun hn_ => (Kd.fresh' (Kd.qO9 (by (with_reducible repeat (first | apply Kd.qV | apply Kd.qW | apply Kd.jC)); exact qz5.out)) k_ hn_))⟩)); have n9_ := q8.mk (hb); clear qa0; clear qa8; clear qU; clear qd0; clear jS; clear jF; clear jX; clear qz5; clear HB; clear qd2; have qa0 := n0_; have qa8 := n1_; have qU := n2_; have qd0 := n3_; have jS := n4_; have jF := n5_; have jX := n6_; have qz5 := n7_; have zm6 := n8_; have HB := n9_; clear n0_ n1_ n2_ n3_ n4_ n5_ n6_ n7_ n8_ n9_; (try clear hb); (try clear hkp); (try clear ho0); have Qz4 : w61.cell? ⟨qP, 0, none⟩ = some (.bool ((qG ((qD t200 qO).f3) j4).f0)) := (qE jX.out 0).trans rfl; have Qz5 : w61.cell? ⟨qP, 1, none⟩ = some (.int .i64 t232) := (qE jX.out 1).trans rfl; have Qz6 : w61.cell? ⟨qP, 2, none⟩ = some (.int .i64 ((qG ((qD t200 qO).f3) j4).f2)) := (qE jX.out 2).trans rfl; have Qz7 := qC jX.out 0; have Qz8 := qC jX.out 1; have Qz9 := qC jX.out 2; have QA0 : w61.cell? ⟨qH, 0, none⟩ = some (.int .i64 t221) := (qE jF.out 0).trans rfl; have QA1 : w61.cell? ⟨qH, 1, none⟩ = some (.int .i64 t213) := (qE jF.out 1).trans rfl; have QA2 : w61.cell? ⟨qH, 2, none⟩ = some (.int .i64 t215) := (qE jF.out 2).trans rfl; have QA3 : w61.cell? ⟨qH, 3, none⟩ = some (u217003) := (qE jF.out 3).trans rfl; have QA4 := qC jF.out 0; have QA5 := qC jF.out 1; have QA6 := qC jF.out 2; have QA7 := qC jF.out 3) | ((with_reducible refine qm4 (b := .append) (xs := #[.tmp 92, .tmp 94]) rfl ?_); at_builtin; refine Kd.jb6 k51 (w0 := w) w.heap.size rfl (.tmp 92) (.tmp 94) 53 51 (.agg #[(.bool false), (.int .i64 0), (.int .i64 0)]) 24 rfl Try.underlying53 zx7 rfl (by decide) (by omega) u217003 zX (⟨(qG ((qD t200 qO).f3) j4).f0, t232, wrap64 (t239 + 1)⟩ : S51) [.bool ((qG ((qD t200 qO).f3) j4).f0), .int .i64 t232, .int .i64 (wrap64 (t239 + 1))] (fun k_ => (w.heap.size ≤ k_) ∧ k_ ≠ qP) (fun _ => False) rfl (by first | (go_simp; done) | (go_simp; rfl)) ?aP (fun _ hk => hk.elim) ?aF ?aO ?aB ?aS ?aL ?_; (case aP => exact zm5 _ _ _ (⟨(qG ((qD t200 qO).f3) j4).f0, t232, wrap64 (t239 + 1)⟩ : S51)); (case aB => exact (by repeat (first | (with_reducible first | exact HB.out | apply qA | apply q9 | apply qB | refine qK ?_ qf1.out | refine qK ?_ qx3.out) | exact HB.out))); (case aF => exact (fun k_ hk => ⟨(Nat.le_trans (qM (by repeat (first | (with_reducible first | exact HB.out | apply qA | apply q9 | apply qB | refine qK ?_ qf1.out | refine qK ?_ qx3.out) | exact HB.out))) hk), Kd.ze1 (g := qP) (o := .cells #[.bool ((qG ((qD t200 qO).f3) j4).f0), .int .i64 t232, .int .i64 (wrap64 (t239 + 1))] 51 (0, 0)) (by (with_reducible repeat (first | refine qI ?_ _ | refine qR ?_ | refine qJ ?_ _)); refine qd9 (cs := #[.bool ((qG ((qD t200 qO).f3) j4).f0), .int .i64 t232, .int .i64 t239]) ?_ 2 _ rfl; (with_reducible repeat (first | refine qI ?_ _ | refine qR ?_ | refine qJ ?_ _)); refine qd9 (cs := #[.bool ((qG ((qD t200 qO).f3) j4).f0), .int .i64 t232, .int .i64 ((qG ((qD t200 qO).f3) j4).f2)]) ?_ 2 _ rfl; (with_reducible repeat (first | refine qI ?_ _ | refine qR ?_ | refine qJ ?_ _)); exact jX.out) k_ hk⟩)); (case aO => exact (by (with_reducible repeat (first | apply Kd.qV | apply Kd.qW | apply Kd.jC)); exact Kd.jK (Kd.zQ (p := ⟨qP, 2, none⟩) (Kd.zQ (p := ⟨qP, 2, none⟩) (Kd.jK jS.out (fun k_ hk => (⟨hk, hk.2⟩ : _ ∧ k_ ≠ qP))) (fun _ hk => hk.2) (.int .i64 t239)) (fun _ hk => hk.2) (.int .i64 (wrap64 (t239 + 1)))) (fun _ hk => ⟨hk.1.1, hk.1.2⟩))); (case aS => exact (qM (by repeat (first | (with_reducible first | exact HB.out | apply qA | apply q9 | apply qB | refine qK ?_ qf1.out | refine qK ?_ qx3.out) | exact HB.out)))); (case aL => have := Qo0.out; omega); intro v241 w64 ho hb hg hat; rw [← Qo1.out] at ho; have n0_ := q8.mk (Kd.qn9 (ok := (fun k_ => (P0_ k_ ∨ w.heap.size ≤ k_) ∧ some k_ ≠ (u3 : Value).ownBlock ∧ some k_ ≠ (.slice (some jT) t200.length qh6 : Value).ownBlock ∧ some k_ ≠ (v219 : Value).ownBlock ∧ some k_ ≠ (v230 : Value).ownBlock ∧ some k_ ≠ (v237 : Value).ownBlock ∧ k_ ≠ qH ∧ k_ ≠ qP)) (by (with_reducible repeat (first | apply Kd.jP | apply Kd.jQ | apply Kd.zC)); exact Kd.zO (Kd.qg0 (p := ⟨qP, 2, none⟩) (Kd.qg0 (p := ⟨qP, 2, none⟩) (Kd.zO qa0.out (fun k_ hk => (⟨hk, hk.2.2.2.2.2.2.2.1⟩ : _ ∧ k_ ≠ qP))) (fun _ hk => hk.2) (.int .i64 t239)) (fun _ hk => hk.2) (.int .i64 (wrap64 (t239 + 1)))) (fun _ hk => ⟨⟨hk.1.1, ⟨hk.1.2.1, ⟨hk.1.2.2.1, ⟨hk.1.2.2.2.1, ⟨hk.1.2.2.2.2.2.1, ⟨hk.1.2.2.2.2.2.2.2.2, ⟨hk.1.2.2.2.2.2.2.1, hk.1.2.2.2.2.2.2.2.1⟩⟩⟩⟩⟩⟩⟩, hk.1.2.2.2.2.1⟩)) hg hat); have n1_ := q8.mk (Kd.qq4 (ok := (fun k_ => (P0_ k_ ∨ w.heap.size ≤ k_) ∧ some k_ ≠ (.slice (some jT) t200.length qh6 : Value).ownBlock ∧ some k_ ≠ (v219 : Value).ownBlock ∧ some k_ ≠ (v230 : Value).ownBlock ∧ some k_ ≠ (v237 : Value).ownBlock ∧ k_ ≠ qH ∧ k_ ≠ qP)) (by (with_reducible repeat (first | apply Kd.jD | apply Kd.jE | apply Kd.jH)); exact Kd.zA (Kd.qg8 (p := ⟨qP, 2, none⟩) (Kd.qg8 (p := ⟨qP, 2, none⟩) (Kd.zA qa8.out (fun k_ hk => (⟨hk, hk.2.2.2.2.2.2.1⟩ : _ ∧ k_ ≠ qP))) (fun _ hk => hk.2) (.int .i64 t239)) (fun _ hk => hk.2) (.int .i64 (wrap64 (t239 + 1)))) (fun _ hk => ⟨⟨hk.1.1, ⟨hk.1.2.1, ⟨hk.1.2.2.1, ⟨hk.1.2.2.2.2.1, ⟨hk.1.2.2.2.2.2.2.2, ⟨hk.1.2.2.2.2.2.1, hk.1.2.2.2.2.2.2.1⟩⟩⟩⟩⟩⟩, hk.1.2.2.2.1⟩)) hg hat); have n2_ := q8.mk (Kd.qq4 (ok := (fun k_ => (P0_ k_ ∨ w.heap.size ≤ k_) ∧ some k_ ≠ (u3 : Value).ownBlock ∧ some k_ ≠ (v219 : Value).ownBlock ∧ some k_ ≠ (v230 : Value).ownBlock ∧ some k_ ≠ (v237 : Value).ownBlock ∧ k_ ≠ qH ∧ k_ ≠ qP)) (by (with_reducible repeat (first | apply Kd.jD | apply Kd.jE | apply Kd.jH)); exact Kd.zA (Kd.qg8 (p := ⟨qP, 2, none⟩) (Kd.qg8 (p := ⟨qP, 2, none⟩) (Kd.zA qU.out (fun k_ hk => (⟨hk, hk.2.2.2.2.2.2.1⟩ : _ ∧ k_ ≠ qP))) (fun _ hk => hk.2) (.int .i64 t239)) (fun _ hk => hk.2) (.int .i64 (wrap64 (t239 + 1)))) (fun _ hk => ⟨⟨hk.1.1, ⟨hk.1.2.1, ⟨hk.1.2.2.1, ⟨hk.1.2.2.2.2.1, ⟨hk.1.2.2.2.2.2.2.2, ⟨hk.1.2.2.2.2.2.1, hk.1.2.2.2.2.2.2.1⟩⟩⟩⟩⟩⟩, hk.1.2.2.2.1⟩)) hg hat); have n3_ := q8.mk (Kd.qC6 (by (with_reducible repeat (first | apply Kd.qV | apply Kd.qW | apply Kd.jC)); exact (Kd.jK (Kd.zQ (p := ⟨qP, 2, none⟩) (Kd.zQ (p := ⟨qP, 2, none⟩) (Kd.qb6 qd0.out jX.out (by decide)) (fun _ hk => hk.2) (.int .i64 t239)) (fun _ hk => hk.2) (.int .i64 (wrap64 (t239 + 1)))) (fun _ h_ => h_.1))) (Kd.ql1 (by (with_reducible repeat (first | apply Kd.qV | apply Kd.qW | apply Kd.jC)); exact (Kd.jK (Kd.zQ (p := ⟨qP, 2, none⟩) (Kd.zQ (p := ⟨qP, 2, none⟩) (Kd.jK jS.out (fun k_ hk => (⟨hk, hk.2⟩ : _ ∧ k_ ≠ qP))) (fun _ hk => hk.2) (.int .i64 t239)) (fun _ hk => hk.2) (.int .i64 (wrap64 (t239 + 1)))) (fun _ h_ => h_.1)))) (by decide) hg); have n4_ := q8.mk (qI8 (g := qH) (o := .cells #[.int .i64 t221, .int .i64 t213, .int .i64 t215, u217003] 55 (0, 0)) (by (with_reducible repeat (first | refine qI ?_ _ | refine qR ?_ | refine qJ ?_ _)); refine ql0 ?_ qi7.out _; (with_reducible repeat (first | refine qI ?_ _ | refine qR ?_ | refine qJ ?_ _)); refine ql0 ?_ qi7.out _; (with_reducible repeat (first | refine qI ?_ _ | refine qR ?_ | refine qJ ?_ _)); exact jF.out) hg (Kd.jK1 jS.out jF.out (by decide))); have n5_ := q8.mk (qI8 (g := qP) (o := .cells #[.bool ((qG ((qD t200 qO).f3) j4).f0), .int .i64 t232, .int .i64 (wrap64 (t239 + 1))] 51 (0, 0)) (by (with_reducible repeat (first | refine qI ?_ _ | refine qR ?_ | refine qJ ?_ _)); refine qd9 (cs := #[.bool ((qG ((qD t200 qO).f3) j4).f0), .int .i64 t232, .int .i64 t239]) ?_ 2 _ rfl; (with_reducible repeat (first | refine qI ?_ _ | refine qR ?_ | refine qJ ?_ _)); refine qd9 (cs := #[.bool ((qG ((qD t200 qO).f3) j4).f0), .int .i64 t232, .int .i64 ((qG ((qD t200 qO).f3) j4).f2)]) ?_ 2 _ rfl; (with_reducible repeat (first | refine qI ?_ _ | refine qR ?_ | refine qJ ?_ _)); exact jX.out) hg (Kd.zB6 jS.out (fun _ hk => hk.2))); have n6_ := q8.mk (Kd.qC6 (by (with_reducible repeat (first | apply Kd.qV | apply Kd.qW | apply Kd.jC)); exact (Kd.jK (Kd.zQ (p := ⟨qP, 2, none⟩) (Kd.zQ (p := ⟨qP, 2, none⟩) (Kd.qb6 qz5.out jX.out (by decide)) (fun _ hk => hk.2) (.int .i64 t239)) (fun _ hk => hk.2) (.int .i64 (wrap64 (t239 + 1)))) (fun _ h_ => h_.1))) (Kd.ql1 (by (with_reducible repeat (first | apply Kd.qV | apply Kd.qW | apply Kd.jC)); exact (Kd.jK (Kd.zQ (p := ⟨qP, 2, none⟩) (Kd.zQ (p := ⟨qP, 2, none⟩) (Kd.jK jS.out (fun k_ hk => (⟨hk, hk.2⟩ : _ ∧ k_ ≠ qP))) (fun _ hk => hk.2) (.int .i64 t239)) (fun _ hk => hk.2) (.int .i64 (wrap64 (t239 + 1)))) (fun _ h_ => h_.1)))) (by decide) hg); have n7_ := q8.mk (Kd.qC6 (by (with_reducible repeat (first | apply Kd.qV | apply Kd.qW | apply Kd.jC)); exact (Kd.jK (Kd.zQ (p := ⟨qP, 2, none⟩) (Kd.zQ (p := ⟨qP, 2, none⟩) (Kd.qb6 zm6.out jX.out (by decide)) (fun _ hk => hk.2) (.int .i64 t239)) (fun _ hk => hk.2) (.int .i64 (wrap64 (t239 + 1)))) (fun _ h_ => h_.1))) (Kd.ql1 (by (with_reducible repeat (first | apply Kd.qV | apply Kd.qW | apply Kd.jC)); exact (Kd.jK (Kd.zQ (p := ⟨qP, 2, none⟩) (Kd.zQ (p := ⟨qP, 2, none⟩) (Kd.jK jS.out (fun k_ hk => (⟨hk, hk.2⟩ : _ ∧ k_ ≠ qP))) (fun _ hk => hk.2) (.int .i64 t239)) (fun _ hk => hk.2) (.int .i64 (wrap64 (t239 + 1)))) (fun _ h_ => h_.1)))) (by decide) hg); have n8_ := q8.mk (hb); have n9_ := q8.mk (ho); clear qa0; clear qa8; clear qU; clear qd0; clear jF; clear jX; clear qz5; clear zm6; clear HB; clear jS; have qa0 := n0_; have qa8 := n1_; have qU := n2_; have qd0 := n3_; have jF := n4_; have jX := n5_; have qz5 := n6_; have zm6 := n7_; have HB := n8_; have zW7 := n9_; clear n0_ n1_ n2_ n3_ n4_ n5_ n6_ n7_ n8_ n9_; clear ho hb hg hat; obtain ⟨jU5, jU6, eo65⟩ := Kd.qv5 zW7.out; subst eo65; have QA8 : w64.cell? ⟨qH, 0, none⟩ = some (.int .i64 t221) := (qE jF.out 0).trans rfl; have QA9 : w64.cell? ⟨qH, 1, none⟩ = some (.int .i64 t213) := (qE jF.out 1).trans rfl; have QB0 : w64.cell? ⟨qH, 2, none⟩ = some (.int .i64 t215) := (qE jF.out 2).trans rfl; have QB1 : w64.cell? ⟨qH, 3, none⟩ = some (u217003) := (qE jF.out 3).trans rfl; have QB2 := qC jF.out 0; have QB3 := qC jF.out 1; have QB4 := qC jF.out 2; have QB5 := qC jF.out 3))
             go_roundg k2
             case measure => have := HK1.out; have := HK2.out; omega
             case rel => exact ⟨(t229), (t236), (wrap64 (j4 + 1)), (y240), (.slice jU5 y240.length jU6), (by first | rfl | (simp; done) | (simp [*]; done)), H', ⟨by have := HK1.out; have := HK2.out; omega⟩, ⟨by (with_reducible repeat (first | apply Kd.jP | apply Kd.jQ | apply Kd.zC)); exact Kd.zO (Kd.qg0 (p := ⟨qH, 3, none⟩) (Kd.zO qa0.out (fun k_ hk => (⟨hk, hk.1.2.2.2.2.2.2.1⟩ : _ ∧ k_ ≠ qH))) (fun _ hk => hk.2) (.slice jU5 y240.length jU6)) (fun _ hk => ⟨hk.1.1.1, ⟨hk.1.1.2.1, ⟨hk.1.1.2.2.1, ⟨hk.1.1.2.2.2.1, ⟨hk.1.1.2.2.2.2.1, ⟨hk.1.1.2.2.2.2.2.1, ⟨hk.1.2, hk.1.1.2.2.2.2.2.2.1⟩⟩⟩⟩⟩⟩⟩)⟩, ⟨by (with_reducible repeat (first | apply Kd.jD | apply Kd.jE | apply Kd.jH)); exact Kd.zA (Kd.qg8 (p := ⟨qH, 3, none⟩) (Kd.zA qa8.out (fun k_ hk => (⟨hk, hk.1.2.2.2.2.2.1⟩ : _ ∧ k_ ≠ qH))) (fun _ hk => hk.2) (.slice jU5 y240.length jU6)) (fun _ hk => ⟨hk.1.1.1, ⟨hk.1.1.2.1, ⟨hk.1.1.2.2.1, ⟨hk.1.1.2.2.2.1, ⟨hk.1.1.2.2.2.2.1, ⟨hk.1.2, hk.1.1.2.2.2.2.2.1⟩⟩⟩⟩⟩⟩)⟩, ⟨by (with_reducible repeat (first | apply Kd.jD | apply Kd.jE | apply Kd.jH)); exact Kd.zA (Kd.qg8 (p := ⟨qH, 3, none⟩) (Kd.zA qU.out (fun k_ hk => (⟨hk, hk.1.2.2.2.2.2.1⟩ : _ ∧ k_ ≠ qH))) (fun _ hk => hk.2) (.slice jU5 y240.length jU6)) (fun _ hk => ⟨hk.1.1.1, ⟨hk.1.1.2.1, ⟨hk.1.1.2.2.1, ⟨hk.1.1.2.2.2.1, ⟨hk.1.1.2.2.2.2.1, ⟨hk.1.2, hk.1.1.2.2.2.2.2.1⟩⟩⟩⟩⟩⟩)⟩, ⟨by (with_reducible repeat (first | apply Kd.qV | apply Kd.qW | apply Kd.jC)); exact Kd.jK (Kd.zQ (p := ⟨qH, 3, none⟩) (Kd.qb6 qd0.out jF.out (by decide)) (fun _ hk => hk.2) (.slice jU5 y240.length jU6)) (fun _ hk => ⟨hk.1.1, ⟨hk.1.2.1, hk.1.2.2⟩⟩)⟩, ⟨by (with_reducible repeat (first | apply Kd.qV | apply Kd.qW | apply Kd.jC)); exact Kd.jK (Kd.zQ (p := ⟨qH, 3, none⟩) (Kd.qb6 qz5.out jF.out (by decide)) (fun _ hk => hk.2) (.slice jU5 y240.length jU6)) (fun _ hk => ⟨hk.1.1, ⟨hk.1.2.1, hk.1.2.2⟩⟩)⟩, ⟨by (with_reducible repeat (first | apply Kd.qV | apply Kd.qW | apply Kd.jC)); exact Kd.jK (Kd.zQ (p := ⟨qH, 3, none⟩) (Kd.qb6 zm6.out jF.out (by decide)) (fun _ hk => hk.2) (.slice jU5 y240.length jU6)) (fun _ hk => ⟨hk.1.1, ⟨hk.1.2.1, hk.1.2.2⟩⟩)⟩, ⟨by (with_reducible repeat (first | apply Kd.qV | apply Kd.qW | apply Kd.jC)); exact Kd.jK (Kd.zQ (p := ⟨qH, 3, none⟩) (Kd.qb6 zW7.out jF.out (by decide)) (fun _ hk => hk.2) (.slice jU5 y240.length jU6)) (fun _ hk => hk.1.1)⟩, ⟨by (with_reducible repeat (first | refine qI ?_ _ | refine qR ?_ | refine qJ ?_ _)); refine qd9 (cs := #[.int .i64 t221, .int .i64 t213, .int .i64 t215, u217003]) ?_ 3 _ rfl; (with_reducible repeat (first | refine qI ?_ _ | refine qR ?_ | refine qJ ?_ _)); exact jF.out⟩, ⟨by repeat (first | (with_reducible first | exact HB.out | apply qA | apply q9 | apply qB | refine qK ?_ qf1.out | refine qK ?_ qx3.out) | exact HB.out)⟩⟩
            ·rw [if_neg c49] at H
             exact absurd H (by simp)
          ·rw [if_neg c32] at H
           exact absurd H (by simp)
         ·rw [if_neg c31] at H
          have Qn3 : decide (j4 < (((qD t200 qO).f3).length : Int)) = false := decide_eq_false c31
          clear c31
          by_cases c67 : ql7.length < 2932031007402
          ·rw [if_pos c67] at H
           have Qo2 := q8.mk c67
           clear c67
           obtain ⟨y223, jU7⟩ : ∃ y_ : List (S55), y_ = (ql7 ++ [(⟨t221, t213, t215, zX⟩ : S55)]) := ⟨_, rfl⟩
           replace H : (qL.l0 k2 l0 y223 t200 t218 qe6 qf9 (wrap64 (qO + 1))) = some r := by first | (rw [jU7]; with_reducible exact H) | (have H2_ := (Option.bind_some _ _).symm.trans H; rw [jU7]; with_reducible exact H2_) | (have H2_ := (Option.bind_some _ _).symm.trans H; with_reducible exact H2_) | with_reducible exact H | (rw [jU7]; exact H) | exact H
           have Qo3 := q8.mk jU7
           clear jU7
           have H' := q8.mk H
           clear H
           have jc3 : 0 ≤ (qO : Int) := of_decide_eq_true (by first | (with_reducible assumption) | assumption)
           have jc4 : qO < (t200.length : Int) := of_decide_eq_true (by first | (with_reducible assumption) | assumption)
           obtain ⟨jT9, zB0, ji2, e222, zl9, zm0, zm1, qL4, qF8, qF9⟩ := qa9 (Kd.zY qU.out).2.2 qO jc3 jc4
           obtain rfl : jT = jT9 := (by injection e222)
           obtain ⟨zW5, jr0, jr1, qQ4⟩ := Kd.qI6 qU.out z55 qO jc3 (by first | exact jc4 | exact of_decide_eq_true (by first | (with_reducible assumption) | assumption) | (have e_ := (Kd.zY qU.out).1; omega))
           obtain ⟨zm2, zm3, rfl, qv9, qw0⟩ := qi6 jr1
           have qo9 := qQ4 3 _ rfl
           rw [zS _ _ 3 (by omega)] at qo9
           replace qo9 := Option.some.inj (qo9.symm.trans qL4)
           injection qo9 with qo0 qA3 qo1
           rw [qo0] at qw0
           rw [qo1] at qv9
           have qh7 := q8.mk (show Kd.V k51 51 _ w.heap.size _ _ ((qD t200 qO).f3) from Kd.qT7 qv9 qw0)
           clear qo0 qA3 qo1 qw0 qv9
           clear qQ4 jr0
           have qy3 := q8.mk qF9
           have zm4 := q8.mk qF8
           clear qF9 qF8
           replace jc3 := eq_true jc3
           replace jc4 := eq_true jc4
           have QB6 : wr.cell? ⟨qH, 0, none⟩ = some (.int .i64 t221) := (qE jF.out 0).trans rfl
           have QB7 : wr.cell? ⟨qH, 1, none⟩ = some (.int .i64 t213) := (qE jF.out 1).trans rfl
           have QB8 : wr.cell? ⟨qH, 2, none⟩ = some (.int .i64 t215) := (qE jF.out 2).trans rfl
           have QB9 : wr.cell? ⟨qH, 3, none⟩ = some (u217003) := (qE jF.out 3).trans rfl
           have QC0 := qC jF.out 0
           have QC1 := qC jF.out 1
           have QC2 := qC jF.out 2
           have QC3 := qC jF.out 3
           obtain ⟨zr4, zr5, eo70⟩ := Kd.qv5 jS.out
           subst eo70
           go_wp2_with (first | ((with_reducible refine qm4 (b := .append) (xs := #[.tmp 97, .tmp 99]) rfl ?_); at_builtin; refine Kd.jS4 k55 (w0 := w) w.heap.size rfl (.tmp 97) (.tmp 99) 22 55 (.agg #[(.int .i64 0), (.int .i64 0), (.int .i64 0), (.slice none 0 0)]) 48 rfl Try.underlying22 qW1 rfl (by decide) (by omega) u3 ql7 (⟨t221, t213, t215, zX⟩ : S55) [.int .i64 t221, .int .i64 t213, .int .i64 t215, .slice zr4 zX.length zr5] (fun k_ => (P0_ k_ ∨ w.heap.size ≤ k_) ∧ some k_ ≠ (.slice (some jT) t200.length qh6 : Value).ownBlock ∧ some k_ ≠ (v219 : Value).ownBlock ∧ some k_ ≠ (u6 : Value).ownBlock ∧ some k_ ≠ (u7 : Value).ownBlock ∧ k_ ≠ qH) (fun k_ => ((fun k_ => (P0_ k_ ∨ w.heap.size ≤ k_) ∧ some k_ ≠ (.slice (some jT) t200.length qh6 : Value).ownBlock ∧ some k_ ≠ (v219 : Value).ownBlock ∧ some k_ ≠ (u6 : Value).ownBlock ∧ some k_ ≠ (u7 : Value).ownBlock ∧ k_ ≠ qH)) k_ ∧ some k_ ≠ (u3 : Value).ownBlock) rfl rfl ?aP (fun _ hk => hk) ?aF ?aO ?aB ?aS ?aL ?_; (case aP => exact (zk7 _ _ (⟨t221, t213, t215, zX⟩ : S55) (Kd.qz3 (Kd.jK (ok' := (fun k_ => ((fun k_ => (P0_ k_ ∨ w.heap.size ≤ k_) ∧ some k_ ≠ (.slice (some jT) t200.length qh6 : Value).ownBlock ∧ some k_ ≠ (v219 : Value).ownBlock ∧ some k_ ≠ (u6 : Value).ownBlock ∧ some k_ ≠ (u7 : Value).ownBlock ∧ k_ ≠ qH)) k_ ∧ some k_ ≠ (u3 : Value).ownBlock)) (Kd.qb6 (Kd.ql8 (Kd.ql8 (Kd.ql8 (Kd.ql8 (Kd.ql8 (jS.out) (Kd.qL7 qU.out) (by decide)) (Kd.ql1 qd0.out) (by decide)) (Kd.ql1 qf0.out) (by decide)) (Kd.ql1 qd2.out) (by decide)) (Kd.qL7 qa8.out) (by decide)) jF.out (by decide)) (fun k_ hk => ⟨⟨(.inr (hk.1.1.1.1.1.1)), ⟨hk.1.1.1.1.1.2, ⟨hk.1.1.1.1.2, ⟨hk.1.1.1.2, ⟨hk.1.1.2, hk.2⟩⟩⟩⟩⟩, hk.1.2⟩))).2.1 (Kd.R_F (Kd.jK (ok' := (fun k_ => ((fun k_ => (P0_ k_ ∨ w.heap.size ≤ k_) ∧ some k_ ≠ (.slice (some jT) t200.length qh6 : Value).ownBlock ∧ some k_ ≠ (v219 : Value).ownBlock ∧ some k_ ≠ (u6 : Value).ownBlock ∧ some k_ ≠ (u7 : Value).ownBlock ∧ k_ ≠ qH)) k_ ∧ some k_ ≠ (u3 : Value).ownBlock)) (Kd.qb6 (Kd.ql8 (Kd.ql8 (Kd.ql8 (Kd.ql8 (Kd.ql8 (jS.out) (Kd.qL7 qU.out) (by decide)) (Kd.ql1 qd0.out) (by decide)) (Kd.ql1 qf0.out) (by decide)) (Kd.ql1 qd2.out) (by decide)) (Kd.qL7 qa8.out) (by decide)) jF.out (by decide)) (fun k_ hk => ⟨⟨(.inr (hk.1.1.1.1.1.1)), ⟨hk.1.1.1.1.1.2, ⟨hk.1.1.1.1.2, ⟨hk.1.1.1.2, ⟨hk.1.1.2, hk.2⟩⟩⟩⟩⟩, hk.1.2⟩))))); (case aB => exact (by repeat (first | (with_reducible first | exact HB.out | apply qA | apply q9 | apply qB | refine qK ?_ qf1.out) | exact HB.out))); (case aF => exact (fun k_ hk => ⟨(.inr (Nat.le_trans (qM (by repeat (first | (with_reducible first | exact HB.out | apply qA | apply q9 | apply qB | refine qK ?_ qf1.out) | exact HB.out))) hk)), Kd.fresh' (Kd.jy3 (by (with_reducible repeat (first | apply Kd.jD | apply Kd.jE | apply Kd.jH)); exact qU.out)) k_ hk, Kd.fresh' (Kd.qO9 (by (with_reducible repeat (first | apply Kd.qV | apply Kd.qW | apply Kd.jC)); exact qd0.out)) k_ hk, Kd.fresh' (Kd.qO9 (by (with_reducible repeat (first | apply Kd.qV | apply Kd.qW | apply Kd.jC)); exact qf0.out)) k_ hk, Kd.fresh' (Kd.qO9 (by (with_reducible repeat (first | apply Kd.qV | apply Kd.qW | apply Kd.jC)); exact qd2.out)) k_ hk, Kd.ze1 (g := qH) (o := .cells #[.int .i64 t221, .int .i64 t213, .int .i64 t215, .slice zr4 zX.length zr5] 55 (0, 0)) (by (with_reducible repeat (first | refine qI ?_ _ | refine qR ?_ | refine qJ ?_ _)); exact jF.out) k_ hk⟩)); (case aO => exact (by (with_reducible repeat (first | apply Kd.jD | apply Kd.jE | apply Kd.jH)); exact Kd.zA qa8.out (fun _ hk => ⟨hk.1, ⟨hk.2.1, ⟨hk.2.2.1, ⟨hk.2.2.2.1, ⟨hk.2.2.2.2.1, hk.2.2.2.2.2.2⟩⟩⟩⟩⟩))); (case aS => exact (qM (by repeat (first | (with_reducible first | exact HB.out | apply qA | apply q9 | apply qB | refine qK ?_ qf1.out) | exact HB.out)))); (case aL => have := Qo2.out; omega); intro v224 w69 ho hb hg hat; rw [← Qo3.out] at ho; have n0_ := q8.mk (Kd.qn9 (ok := (fun k_ => (P0_ k_ ∨ w.heap.size ≤ k_) ∧ some k_ ≠ (.slice (some jT) t200.length qh6 : Value).ownBlock ∧ some k_ ≠ (v219 : Value).ownBlock ∧ some k_ ≠ (u6 : Value).ownBlock ∧ some k_ ≠ (u7 : Value).ownBlock ∧ some k_ ≠ (.slice zr4 zX.length zr5 : Value).ownBlock ∧ k_ ≠ qH)) (by (with_reducible repeat (first | apply Kd.jP | apply Kd.jQ | apply Kd.zC)); exact Kd.zO qa0.out (fun _ hk => ⟨⟨hk.1, ⟨hk.2.2.1, ⟨hk.2.2.2.1, ⟨hk.2.2.2.2.1, ⟨hk.2.2.2.2.2.1, ⟨hk.2.2.2.2.2.2.1, hk.2.2.2.2.2.2.2⟩⟩⟩⟩⟩⟩, hk.2.1⟩)) hg hat); have n1_ := q8.mk (Kd.qq4 (ok := (fun k_ => (P0_ k_ ∨ w.heap.size ≤ k_) ∧ some k_ ≠ (v219 : Value).ownBlock ∧ some k_ ≠ (u6 : Value).ownBlock ∧ some k_ ≠ (u7 : Value).ownBlock ∧ some k_ ≠ (.slice zr4 zX.length zr5 : Value).ownBlock ∧ k_ ≠ qH)) (by (with_reducible repeat (first | apply Kd.jD | apply Kd.jE | apply Kd.jH)); exact Kd.zA qU.out (fun _ hk => ⟨⟨hk.1, ⟨hk.2.2.1, ⟨hk.2.2.2.1, ⟨hk.2.2.2.2.1, ⟨hk.2.2.2.2.2.1, hk.2.2.2.2.2.2⟩⟩⟩⟩⟩, hk.2.1⟩)) hg hat); have n2_ := q8.mk (Kd.qC6 (by (with_reducible repeat (first | apply Kd.qV | apply Kd.qW | apply Kd.jC)); exact qd0.out) (Kd.qL7 (by (with_reducible repeat (first | apply Kd.jD | apply Kd.jE | apply Kd.jH)); exact qa8.out)) (by decide) hg); have n3_ := q8.mk (Kd.qC6 (by (with_reducible repeat (first | apply Kd.qV | apply Kd.qW | apply Kd.jC)); exact qf0.out) (Kd.qL7 (by (with_reducible repeat (first | apply Kd.jD | apply Kd.jE | apply Kd.jH)); exact qa8.out)) (by decide) hg); have n4_ := q8.mk (Kd.qC6 (by (with_reducible repeat (first | apply Kd.qV | apply Kd.qW | apply Kd.jC)); exact qd2.out) (Kd.qL7 (by (with_reducible repeat (first | apply Kd.jD | apply Kd.jE | apply Kd.jH)); exact qa8.out)) (by decide) hg); have n5_ := q8.mk (qI8 (g := qH) (o := .cells #[.int .i64 t221, .int .i64 t213, .int .i64 t215, .slice zr4 zX.length zr5] 55 (0, 0)) (by (with_reducible repeat (first | refine qI ?_ _ | refine qR ?_ | refine qJ ?_ _)); exact jF.out) hg (Kd.qX qa8.out (fun _ hk => hk.2.2.2.2.2.2))); have n6_ := q8.mk (Kd.qn9 (ok := (fun k_ => (P0_ k_ ∨ w.heap.size ≤ k_) ∧ some k_ ≠ (.slice (some jT) t200.length qh6 : Value).ownBlock ∧ some k_ ≠ (v219 : Value).ownBlock ∧ some k_ ≠ (u6 : Value).ownBlock ∧ some k_ ≠ (u7 : Value).ownBlock ∧ some k_ ≠ (.slice zr4 zX.length zr5 : Value).ownBlock ∧ k_ ≠ qH)) (by (with_reducible repeat (first | apply Kd.jP | apply Kd.jQ | apply Kd.zC)); exact Kd.zO qh7.out (fun _ hk => ⟨⟨hk.1.1, ⟨hk.2, ⟨hk.1.2.2.1, ⟨hk.1.2.2.2.1, ⟨hk.1.2.2.2.2.1, ⟨hk.1.2.2.2.2.2.1, hk.1.2.2.2.2.2.2⟩⟩⟩⟩⟩⟩, hk.1.2.1⟩)) hg hat); have n7_ := q8.mk (hb); have n8_ := q8.mk (ho); clear qa0; clear qU; clear qd0; clear qf0; clear qd2; clear jF; clear qh7; clear HB; clear qa8; clear jS; have qa0 := n0_; have qU := n1_; have qd0 := n2_; have qf0 := n3_; have qd2 := n4_; have jF := n5_; have qh7 := n6_; have HB := n7_; have Qo4 := n8_; clear n0_ n1_ n2_ n3_ n4_ n5_ n6_ n7_ n8_; clear ho hb hg hat))
           go_roundg k2
           case measure => have := HK1.out; have := HK2.out; omega
           case rel => exact ⟨(y223), (t218), (qe6), (qf9), (wrap64 (qO + 1)), (by first | rfl | (simp; done) | (simp [*]; done)), H', ⟨by have := HK1.out; have := HK2.out; omega⟩, ⟨by (with_reducible repeat (first | apply Kd.jP | apply Kd.jQ | apply Kd.zC)); exact Kd.zO qa0.out (fun _ hk => ⟨hk.1.1, ⟨hk.2, ⟨hk.1.2.1, ⟨hk.1.2.2.1, ⟨hk.1.2.2.2.1, hk.1.2.2.2.2.1⟩⟩⟩⟩⟩)⟩, ⟨by (with_reducible repeat (first | apply Kd.jD | apply Kd.jE | apply Kd.jH)); exact Kd.zA Qo4.out (fun _ hk => ⟨hk.1, ⟨hk.2.1, ⟨hk.2.2.1, ⟨hk.2.2.2.1, hk.2.2.2.2.1⟩⟩⟩⟩)⟩, ⟨by (with_reducible repeat (first | apply Kd.jD | apply Kd.jE | apply Kd.jH)); exact Kd.zA qU.out (fun _ hk => ⟨hk.1.1, ⟨hk.2, ⟨hk.1.2.1, ⟨hk.1.2.2.1, hk.1.2.2.2.1⟩⟩⟩⟩)⟩, ⟨by (with_reducible repeat (first | apply Kd.qV | apply Kd.qW | apply Kd.jC)); exact qd0.out⟩, ⟨by (with_reducible repeat (first | apply Kd.qV | apply Kd.qW | apply Kd.jC)); exact qf0.out⟩, ⟨by (with_reducible repeat (first | apply Kd.qV | apply Kd.qW | apply Kd.jC)); exact qd2.out⟩, ⟨by repeat (first | (with_reducible first | exact HB.out | apply qA | apply q9 | apply qB | refine qK ?_ qf1.out) | exact HB.out)⟩⟩
          ·rw [if_neg c67] at H
           exact absurd H (by simp)
        ·rw [if_neg c30] at H
         exact absurd H (by simp)
       ·rw [if_neg c29] at H
        exact absurd H (by simp)
    ·rw [if_neg c13] at H
     exact absurd H (by simp)
   ·rw [if_neg c12] at H
    have qI5 : decide (qO < (t200.length : Int)) = false := decide_eq_false c12
    clear c12
    obtain rfl := Option.some.inj H
    obtain ⟨Ao71, co71, eo71⟩ := Kd.qS7 qU.out
    subst eo71
    go_wp2
    go_ret
    exact ⟨_, by first | rfl | (simp [jI, jJ] <;> rfl) | (simp [*, jI, jJ] <;> rfl), by (with_reducible repeat (first | apply Kd.jD | apply Kd.jE | apply Kd.jH)); exact Kd.zA qa8.out (fun _ hk => hk.1), by repeat (first | (with_reducible first | exact HB.out | apply qA | apply q9 | apply qB) | exact HB.out)⟩
end Go.Proofs.Ytngkneknopenmaa.T
end
section
namespace Go.Proofs.Ytngkneknopenmaa.Hist
open Go Go.RowKit Go.Proofs.Ytngkneknopenmaa Go.Proofs.Ytngkneknopenmaa.qb9 Go.Proofs.YtngkneknopenmaaW.PrintWords
open Go.Proofs.Ytngkneknopenmaa.K (S55 S51 qD qG)
theorem zN1 (h : List T4) (x : Int) (hm : h.length ≤ 1000000) : ∀ (d i n : Nat), i + d = h.length → n ≤ 2 * i →
  Ev (fun k => T.jA.l0 k (h.map ofT) x (n : Int) (i : Int)) ((n + jO (j5 (h.drop i)) x : Nat) : Int) := by
 intro d
 induction d with
 | zero =>
  intro i n hi hn
  refine Ev.step (f := fun _ => some (n : Int)) (fun k => by simp only [T.jA.l0]; rw [if_neg (by rw [List.length_map]; omega)]) ?_
  rw [List.drop_of_length_le (by omega)]
  exact Ev.now _
 | succ d ih =>
  intro i n hi hn
  have h1 : i < h.length := by omega
  have e : j5 (h.drop i) = [h[i].b, h[i].c] ++ j5 (h.drop (i + 1)) := by rw [List.drop_eq_getElem_cons h1]; rfl
  have ec : jO (j5 (h.drop i)) x = (if h[i].b < x then 1 else 0) + (if h[i].c < x then 1 else 0) + jO (j5 (h.drop (i + 1))) x := by
   rw [e]
   unfold jO
   rw [List.countP_append, List.countP_cons, List.countP_cons, List.countP_nil]
   simp only [decide_eq_true_eq]
   omega
  rw [ec]
  have key : ∀ m : Nat, m ≤ 2 * (i + 1) → Ev (fun k => T.jA.l0 k (h.map ofT) x (m : Int) ((i + 1 : Nat) : Int)) ((m + jO (j5 (h.drop (i + 1))) x : Nat) : Int) := fun m hm2 => ih (i + 1) m (by omega) hm2
  by_cases c1 : h[i].b < x <;> by_cases c2 : h[i].c < x
  ·refine Ev.step (fun k => by
    simp only [T.jA.l0]
    rw [if_pos (by rw [List.length_map]; omega), if_pos (by omega), qm8 h i h1, if_pos (show (ofT h[i]).f1 < x from c1), if_pos (show (ofT h[i]).f2 < x from c2), qb8 (x := i) (by omega), qb8 (x := n) (by omega), qb8 (x := n + 1) (by omega)]) ?_
   rw [if_pos c1, if_pos c2, show n + (1 + 1 + jO (j5 (h.drop (i + 1))) x) = n + 1 + 1 + jO (j5 (h.drop (i + 1))) x by omega]
   exact key _ (by omega)
  ·refine Ev.step (fun k => by
    simp only [T.jA.l0]
    rw [if_pos (by rw [List.length_map]; omega), if_pos (by omega), qm8 h i h1, if_pos (show (ofT h[i]).f1 < x from c1), if_neg (show ¬ (ofT h[i]).f2 < x from c2), qb8 (x := i) (by omega), qb8 (x := n) (by omega)]) ?_
   rw [if_pos c1, if_neg c2, show n + (1 + 0 + jO (j5 (h.drop (i + 1))) x) = n + 1 + jO (j5 (h.drop (i + 1))) x by omega]
   exact key _ (by omega)
  ·refine Ev.step (fun k => by
    simp only [T.jA.l0]
    rw [if_pos (by rw [List.length_map]; omega), if_pos (by omega), qm8 h i h1, if_neg (show ¬ (ofT h[i]).f1 < x from c1), if_pos (show (ofT h[i]).f2 < x from c2), qb8 (x := i) (by omega), qb8 (x := n) (by omega)]) ?_
   rw [if_neg c1, if_pos c2, show n + (0 + 1 + jO (j5 (h.drop (i + 1))) x) = n + 1 + jO (j5 (h.drop (i + 1))) x by omega]
   exact key _ (by omega)
  ·refine Ev.step (fun k => by
    simp only [T.jA.l0]
    rw [if_pos (by rw [List.length_map]; omega), if_pos (by omega), qm8 h i h1, if_neg (show ¬ (ofT h[i]).f1 < x from c1), if_neg (show ¬ (ofT h[i]).f2 < x from c2), qb8 (x := i) (by omega)]) ?_
   rw [if_neg c1, if_neg c2, show n + (0 + 0 + jO (j5 (h.drop (i + 1))) x) = n + jO (j5 (h.drop (i + 1))) x by omega]
   exact key _ (by omega)
theorem zB7 (h : List T4) (x : Int) (hm : h.length ≤ 1000000) : Ev (fun k => T.jA.f k (h.map ofT) x) (qu4 h x) := by
 have := zN1 h x hm h.length 0 0 (by omega) (by omega)
 rw [List.drop_zero, Nat.zero_add] at this
 exact this
theorem jU8 {l : List Int} {x : Int} (h : x ∉ l) : zU l x = l.length := by
 unfold zU
 rw [List.findIdx_eq_length]
 intro y hy
 simp
 exact fun e => h (e ▸ hy)
theorem jr3 (l : List Int) (x : Int) : zU (zH l x) x = zU l x := by
 unfold zH
 by_cases h : x ∈ l
 ·rw [if_pos h]
 ·rw [if_neg h, qP5 h, jU8 h]
theorem zN2 (l : List Int) (x : Int) (hm : l.length ≤ 1000000) : ∀ (d i : Nat), i + d = l.length → (∀ j, j < i → ∀ h : j < l.length, l[j] ≠ x) →
  Ev (fun k => T.jB.l0 k l x (i : Int)) (zH l x, (zU l x : Int)) := by
 intro d
 induction d with
 | zero =>
  intro i hi hn
  have hx : x ∉ l := fun hx => by
   obtain ⟨j, hj, e⟩ := List.mem_iff_getElem.1 hx
   exact hn j (by omega) hj e
  have e2 : ((zH l x, (zU l x : Int)) : List Int × Int) = (l ++ [x], (l.length : Int)) := by
   rw [jU8 hx]
   unfold zH
   rw [if_neg hx]
  rw [e2]
  refine Ev.step (f := fun _ => some (l ++ [x], (l.length : Int))) (fun k => ?_) (Ev.now _)
  simp only [T.jB.l0]
  rw [if_neg (by omega)]
  simp only [Option.bind_some, List.length_nil, List.nil_append]
  rw [if_pos (by omega), if_pos (by omega)]
 | succ d ih =>
  intro i hi hn
  have h1 : i < l.length := by omega
  have er : rd l (i : Int) = l[i] := by unfold rd; simp [h1]
  by_cases c : l[i] = x
  ·have e2 : ((zH l x, (zU l x : Int)) : List Int × Int) = (l, (i : Int)) := by
    have hx : x ∈ l := c ▸ List.getElem_mem h1
    have : zU l x = i := by
     unfold zU
     rw [List.findIdx_eq h1]
     refine ⟨by simp [c], fun j hj => by simp; exact hn j hj (by omega)⟩
    rw [this]
    unfold zH
    rw [if_pos hx]
   rw [e2]
   refine Ev.step (f := fun _ => some (l, (i : Int))) (fun k => ?_) (Ev.now _)
   simp only [T.jB.l0]
   rw [if_pos (by omega), if_pos (by omega), er, if_pos c]
  ·refine Ev.step (fun k => by
    simp only [T.jB.l0]
    rw [if_pos (by omega), if_pos (by omega), er, if_neg c, qb8 (by omega)]) ?_
   refine ih (i + 1) (by omega) (fun j hj hjl => ?_)
   by_cases q : j = i
   ·subst q; exact c
   ·exact hn j (by omega) hjl
theorem ze2 (l : List Int) (x : Int) (hm : l.length ≤ 1000000) : Ev (fun k => T.jB.f k l x) (zH l x, (zU l x : Int)) :=
 zN2 l x hm l.length 0 (by omega) (fun j hj => by omega)
end Go.Proofs.Ytngkneknopenmaa.Hist
end
section
namespace Go.Proofs.Ytngkneknopenmaa.Hist
open Go Go.RowKit Go.Proofs.Ytngkneknopenmaa Go.Proofs.Ytngkneknopenmaa.qb9 Go.Proofs.YtngkneknopenmaaW.PrintWords
open Go.Proofs.Ytngkneknopenmaa.K (S55 S51 qD qG)
theorem jr4 {α : Type} (l : List α) (k : Nat) (h : k < l.length) : (l[k] :: (l.take k ++ l.drop (k + 1))).Perm l := by
 have e : l = l.take k ++ l[k] :: l.drop (k + 1) := by rw [← List.drop_eq_getElem_cons h, List.take_append_drop]
 have p : (l.take k ++ l[k] :: l.drop (k + 1)).Perm (l[k] :: (l.take k ++ l.drop (k + 1))) := List.perm_middle
 exact p.symm.trans (List.Perm.of_eq e.symm)
theorem ze3 (out left : List T4) (k kk i : Nat) (hi : i = left.length) (hk : kk < left.length) (hm : left.length ≤ 1000000) (hm2 : out.length ≤ 1000000) : T.qF.l1 (k + 1) (out.map ofT) (left.map ofT) (kk : Int) (i : Int) = T.qF.l0 k ((out ++ [left[kk]]).map ofT) ((left.take kk ++ left.drop (kk + 1)).map ofT) := by
 have h1 : ¬ ((i : Int) < ((left.map ofT).length : Int)) := by rw [List.length_map]; omega
 have h2 : (0 : Int) ≤ (kk : Int) := by omega
 have h3 : (kk : Int) < ((left.map ofT).length : Int) := by rw [List.length_map]; omega
 have h4 : (out.map ofT).length < 2932031007402 := by rw [List.length_map]; omega
 have h5 : (kk : Int) ≤ ((left.map ofT).length : Int) := by rw [List.length_map]; omega
 have h6 : ([] : List S55).length + ((left.map ofT).take ((kk : Nat) : Int).toNat).length < 2932031007402 := by simp only [List.length_nil, List.length_take, List.length_map]; omega
 have h7 : wrap64 ((kk : Int) + 1) = ((kk + 1 : Nat) : Int) := qb8 (by omega)
 have h8 : (0 : Int) ≤ wrap64 ((kk : Int) + 1) := by rw [h7]; exact Int.natCast_nonneg _
 have h9 : wrap64 ((kk : Int) + 1) ≤ ((left.map ofT).length : Int) := by rw [h7, List.length_map]; exact Int.ofNat_le.2 hk
 have h10 : (([] : List S55) ++ (left.map ofT).take ((kk : Nat) : Int).toNat).length + ((left.map ofT).drop (wrap64 ((kk : Int) + 1)).toNat).length < 2932031007402 := by
  rw [h7]
  simp only [List.nil_append, List.length_take, List.length_drop, List.length_map]
  clear h7 h8 h9
  omega
 rw [T.qF.l1]
 rw [if_neg h1, if_pos h2, if_pos h3, if_pos h4]
 rw [Option.bind_some]
 rw [if_pos h5]
 rw [Option.bind_some]
 rw [if_pos h6]
 rw [Option.bind_some]
 rw [if_pos h8, if_pos h9]
 rw [Option.bind_some]
 rw [if_pos h10, h7, qm8 left kk hk]
 simp only [List.nil_append, List.map_append, List.map_take, List.map_drop, List.map_cons, List.map_nil, Int.toNat_natCast]
theorem zr6 (out left : List T4) (hm : left.length ≤ 1000000) (hm2 : out.length + left.length ≤ 1000000) : ∀ (d kk i : Nat), i + d = left.length → (hk : kk < left.length) → (∀ j, j < i → ∀ h : j < left.length, left[kk].b ≤ left[j].b) → ∃ k2, ∃ h2 : k2 < left.length, (∀ u ∈ left, left[k2].b ≤ u.b) ∧ ∀ r, Ev (fun k => T.qF.l0 k ((out ++ [left[k2]]).map ofT) ((left.take k2 ++ left.drop (k2 + 1)).map ofT)) r → Ev (fun k => T.qF.l1 k (out.map ofT) (left.map ofT) (kk : Int) (i : Int)) r := by
 intro d
 induction d with
 | zero =>
  intro kk i hi hk hmin
  have Qo5 : ∀ u ∈ left, left[kk].b ≤ u.b := fun u hu => by
   obtain ⟨j, hj, rfl⟩ := List.mem_iff_getElem.1 hu
   exact hmin j (by omega) hj
  refine ⟨kk, hk, Qo5, fun r hr => ?_⟩
  refine Ev.step (fun k => ze3 out left k kk i (by omega) hk (by omega) (by omega)) hr
 | succ d ihd =>
  intro kk i hi hk hmin
  have h1 : i < left.length := by omega
  by_cases c : left[i].b < left[kk].b
  ·obtain ⟨k2, h2, hm3, hr⟩ := ihd i (i + 1) (by omega) h1 (fun j hj hjl => by
    by_cases q : j = i
    ·subst q; exact Int.le_refl _
    ·have := hmin j (by omega) hjl; omega)
   refine ⟨k2, h2, hm3, fun r hr2 => Ev.step (fun k => ?_) (hr r hr2)⟩
   simp only [T.qF.l1]
   rw [if_pos (by rw [List.length_map]; omega), if_pos (by omega), if_pos (by omega), if_pos (by rw [List.length_map]; omega), qm8 left i h1, qm8 left kk hk, if_pos (show (ofT left[i]).f1 < (ofT left[kk]).f1 from c), qb8 (x := i) (by omega)]
  ·obtain ⟨k2, h2, hm3, hr⟩ := ihd kk (i + 1) (by omega) hk (fun j hj hjl => by
    by_cases q : j = i
    ·subst q; omega
    ·exact hmin j (by omega) hjl)
   refine ⟨k2, h2, hm3, fun r hr2 => Ev.step (fun k => ?_) (hr r hr2)⟩
   simp only [T.qF.l1]
   rw [if_pos (by rw [List.length_map]; omega), if_pos (by omega), if_pos (by omega), if_pos (by rw [List.length_map]; omega), qm8 left i h1, qm8 left kk hk, if_neg (show ¬ (ofT left[i]).f1 < (ofT left[kk]).f1 from c), qb8 (x := i) (by omega)]
theorem zr7 : ∀ (n : Nat) (out left : List T4), left.length = n → left.length ≤ 1000000 → out.length + left.length ≤ 1000000 → ∃ r : List T4, r.Perm left ∧ r.Pairwise (fun x y => x.b ≤ y.b) ∧ Ev (fun k => T.qF.l0 k (out.map ofT) (left.map ofT)) ((out ++ r).map ofT) := by
 intro n
 induction n with
 | zero =>
  intro out left hl _ _
  obtain rfl := List.eq_nil_of_length_eq_zero hl
  refine ⟨[], List.Perm.refl _, List.Pairwise.nil, ?_⟩
  rw [List.append_nil]
  refine Ev.step (f := fun _ => some (out.map ofT)) (fun k => ?_) (Ev.now _)
  simp only [T.qF.l0]
  rfl
 | succ n ih =>
  intro out left hl hm hm2
  have run := zr6 out left hm hm2 left.length 0 0 (by omega) (by omega) (fun j hj => by omega)
  obtain ⟨k2, h2, hmin, hrun⟩ := run
  have hlen : (left.take k2 ++ left.drop (k2 + 1)).length = n := by simp; omega
  obtain ⟨r, hp, hs, hev⟩ := ih (out ++ [left[k2]]) (left.take k2 ++ left.drop (k2 + 1)) hlen (by omega) (by simp; omega)
  refine ⟨left[k2] :: r, (hp.cons _).trans (jr4 left k2 h2), ?_, ?_⟩
  ·rw [List.pairwise_cons]
   refine ⟨fun u hu => hmin u ?_, hs⟩
   have := hp.mem_iff.1 hu
   rcases List.mem_append.1 this with q | q
   ·exact List.mem_of_mem_take q
   ·exact List.mem_of_mem_drop q
  ·have e : (out ++ [left[k2]]) ++ r = out ++ left[k2] :: r := by simp
   rw [e] at hev
   refine Ev.step (fun k => ?_) (hrun _ hev)
   simp only [T.qF.l0]
   rw [if_pos (by rw [List.length_map]; omega)]
   rfl
theorem zB8 {h : List T4} (hm : qy7 h) (hl : h.length ≤ 1000000) : Ev (fun k => T.qF.f k (h.map ofT)) ((qc0 h).map ofT) := by
 obtain ⟨r, hp, hs, hev⟩ := zr7 h.length [] h rfl hl (by simp; omega)
 have e : r = qc0 h := qs5 (hp.trans (zM h).symm) hs (qh5 h) (fun x hx y hy e => qJ6 hm x (hp.mem_iff.1 hx) y (hp.mem_iff.1 hy) e)
 subst e
 unfold T.qF.f
 refine Ev.congr (fun k => ?_) hev
 simp only [Option.bind_some, List.length_nil, List.nil_append, List.length_map]
 rw [if_pos (by omega)]
 rfl
theorem Qo6 (h l : List T4) (hm : l.length ≤ 1000) (hc : jG l ≤ 100000) (i : Nat) (hi : i < l.length) (out : List S55) (ho : out.length ≤ 1000) (s' b' c' : Int) (r : List S55)
  (hK : Ev (fun k => T.qL.l0 k (h.map ofT) (out ++ [(⟨s', b', c', (l[i].ops.map (qC0 (names (jL l)) (names (zB l)))).map ofO⟩ : S55)]) (l.map ofT) (qb2 l i l[i] l[i].ops.length 0) (qb2 l i l[i] l[i].ops.length 1) (qb2 l i l[i] l[i].ops.length 2) ((i + 1 : Nat) : Int)) r) :
  ∀ (d j : Nat), j + d = l[i].ops.length →
   Ev (fun k => T.qL.l1 k (h.map ofT) out (l.map ofT) (qb2 l i l[i] j 0) (qb2 l i l[i] j 1) (qb2 l i l[i] j 2) (i : Int) (j : Int) s' b' c' (((l[i].ops.take j).map (qC0 (names (jL l)) (names (zB l)))).map ofO)) r := by
 have hg : l[i]? = some l[i] := List.getElem?_eq_getElem hi
 have hlen : l[i].ops.length ≤ 100000 := Nat.le_trans (qu0 (List.getElem_mem hi)) hc
 intro d
 induction d with
 | zero =>
  intro j hj
  have ej : j = l[i].ops.length := by omega
  subst ej
  refine Ev.step (fun k => ?_) hK
  simp only [T.qL.l1]
  rw [if_pos (by omega), if_pos (by rw [List.length_map]; omega), qm8 l i hi]
  rw [show (ofT l[i]).f3 = l[i].ops.map ofO from rfl, if_neg (by rw [List.length_map]; omega), if_pos (by omega), qb8 (x := i) (by omega), List.take_length]
 | succ d ih =>
  intro j hj
  have h1 : j < l[i].ops.length := by omega
  have hgo : l[i].ops[j]? = some l[i].ops[j] := List.getElem?_eq_getElem h1
  have e1 := ze2 (qb2 l i l[i] j 1) (l[i].ops[j].k) (by have := qZ7 hg j; omega)
  have ek : ((zU (qb2 l i l[i] j 1) l[i].ops[j].k : Nat) : Int) = (zU (names (jL l)) l[i].ops[j].k : Nat) := by rw [← zx2 hg hgo, jr3]
  have es : ((l[i].ops.take (j + 1)).map (qC0 (names (jL l)) (names (zB l)))).map ofO = ((l[i].ops.take j).map (qC0 (names (jL l)) (names (zB l)))).map ofO ++ [ofO (qC0 (names (jL l)) (names (zB l)) l[i].ops[j])] := by
   rw [qi4 hgo, List.map_append, List.map_append]; rfl
  have hih := ih (j + 1) (by omega)
  rw [es] at hih
  have hlt : (((l[i].ops.take j).map (qC0 (names (jL l)) (names (zB l)))).map ofO).length < 5864062014805 := by
   simp only [List.length_map, List.length_take]; omega
  by_cases hv : l[i].ops[j].v = 0
  ·have hL := zw9 (l := l) (i := i) hgo hv
   have L0 : qb2 l i l[i] j 0 = qb2 l i l[i] (j + 1) 0 := by have := congrFun hL 0; simpa using this
   have L1 : zH (qb2 l i l[i] j 1) l[i].ops[j].k = qb2 l i l[i] (j + 1) 1 := by have := congrFun hL 1; simpa using this
   have L2 : qb2 l i l[i] j 2 = qb2 l i l[i] (j + 1) 2 := by have := congrFun hL 2; simpa using this
   refine Ev.step (f := fun k => (T.jB.f k (qb2 l i l[i] j 1) l[i].ops[j].k).bind fun bt => T.qL.l1 k (h.map ofT) out (l.map ofT) (qb2 l i l[i] j 0) bt.1 (qb2 l i l[i] j 2) (i : Int) ((j + 1 : Nat) : Int) s' b' c' (((l[i].ops.take j).map (qC0 (names (jL l)) (names (zB l)))).map ofO ++ [(⟨l[i].ops[j].w, bt.2, l[i].ops[j].v⟩ : S51)])) (fun k => ?_) ?_
   ·simp only [T.qL.l1]
    rw [if_pos (by omega), if_pos (by rw [List.length_map]; omega), qm8 l i hi]
    rw [show (ofT l[i]).f3 = l[i].ops.map ofO from rfl, if_pos (by rw [List.length_map]; omega), if_pos (by omega), ji4 _ j h1, qb8 (x := j) (by omega)]
    congr 1
    funext bt
    rw [if_pos (show (ofO l[i].ops[j]).f2 = 0 from hv), if_pos hlt]
    rfl
   ·refine Ev.bind e1 ?_
    have eo : (⟨l[i].ops[j].w, ((zU (qb2 l i l[i] j 1) l[i].ops[j].k : Nat) : Int), l[i].ops[j].v⟩ : S51) = ofO (qC0 (names (jL l)) (names (zB l)) l[i].ops[j]) := by
     rw [ek]; unfold qC0 ofO; simp [hv]
    show Ev (fun k => T.qL.l1 k _ _ _ (qb2 l i l[i] j 0) (zH (qb2 l i l[i] j 1) l[i].ops[j].k) (qb2 l i l[i] j 2) _ _ _ _ _ (_ ++ [(⟨l[i].ops[j].w, ((zU (qb2 l i l[i] j 1) l[i].ops[j].k : Nat) : Int), l[i].ops[j].v⟩ : S51)])) r
    rw [eo, L0, L1, L2]
    exact hih
  ·have hL := zx0 (l := l) (i := i) hgo hv
   have L0 : qb2 l i l[i] j 0 = qb2 l i l[i] (j + 1) 0 := by have := congrFun hL 0; simpa using this
   have L1 : zH (qb2 l i l[i] j 1) l[i].ops[j].k = qb2 l i l[i] (j + 1) 1 := by have := congrFun hL 1; simpa using this
   have L2 : zH (qb2 l i l[i] j 2) l[i].ops[j].v = qb2 l i l[i] (j + 1) 2 := by have := congrFun hL 2; simpa using this
   have e2 := ze2 (qb2 l i l[i] j 2) (l[i].ops[j].v) (by have := qK3 hg j; omega)
   have ev : ((zU (qb2 l i l[i] j 2) l[i].ops[j].v : Nat) : Int) = (zU (names (zB l)) l[i].ops[j].v : Nat) := by rw [← zU5 hg hgo hv, jr3]
   have hidx : zU (qb2 l i l[i] j 2) l[i].ops[j].v ≤ 1000000 := by
    have h1 := qK3 hg j
    have h2 : zU (qb2 l i l[i] j 2) l[i].ops[j].v ≤ (qb2 l i l[i] j 2).length := List.findIdx_le_length
    omega
   refine Ev.step (f := fun k => (T.jB.f k (qb2 l i l[i] j 1) l[i].ops[j].k).bind fun bt => (T.jB.f k (qb2 l i l[i] j 2) l[i].ops[j].v).bind fun bu => T.qL.l1 k (h.map ofT) out (l.map ofT) (qb2 l i l[i] j 0) bt.1 bu.1 (i : Int) ((j + 1 : Nat) : Int) s' b' c' (((l[i].ops.take j).map (qC0 (names (jL l)) (names (zB l)))).map ofO ++ [(⟨l[i].ops[j].w, bt.2, wrap64 (bu.2 + 1)⟩ : S51)])) (fun k => ?_) ?_
   ·simp only [T.qL.l1]
    rw [if_pos (by omega), if_pos (by rw [List.length_map]; omega), qm8 l i hi]
    rw [show (ofT l[i]).f3 = l[i].ops.map ofO from rfl, if_pos (by rw [List.length_map]; omega), if_pos (by omega), ji4 _ j h1, qb8 (x := j) (by omega)]
    congr 1
    funext bt
    rw [if_neg (show ¬ (ofO l[i].ops[j]).f2 = 0 from hv)]
    congr 1
    funext bu
    rw [if_pos hlt]
    rfl
   ·refine Ev.bind e1 (Ev.bind e2 ?_)
    have eo : (⟨l[i].ops[j].w, ((zU (qb2 l i l[i] j 1) l[i].ops[j].k : Nat) : Int), wrap64 (((zU (qb2 l i l[i] j 2) l[i].ops[j].v : Nat) : Int) + 1)⟩ : S51) = ofO (qC0 (names (jL l)) (names (zB l)) l[i].ops[j]) := by
     rw [qb8 (by omega), Int.natCast_add, ek, ev]; unfold qC0 ofO; simp [hv]; omega
    show Ev (fun k => T.qL.l1 k _ _ _ (qb2 l i l[i] j 0) (zH (qb2 l i l[i] j 1) l[i].ops[j].k) (zH (qb2 l i l[i] j 2) l[i].ops[j].v) _ _ _ _ _ (_ ++ [(⟨l[i].ops[j].w, ((zU (qb2 l i l[i] j 1) l[i].ops[j].k : Nat) : Int), wrap64 (((zU (qb2 l i l[i] j 2) l[i].ops[j].v : Nat) : Int) + 1)⟩ : S51)])) r
    rw [eo, L0, L1, L2]
    exact hih
theorem Qo7 (h l : List T4) (hp : l.length = h.length) (hm : l.length ≤ 1000) (hc : jG l ≤ 100000) : ∀ (d i : Nat), i + d = l.length →
  Ev (fun k => T.qL.l0 k (h.map ofT) (((l.take i).map (qV4 (names (zI l)) (names (jL l)) (names (zB l)) (qu4 h))).map ofT) (l.map ofT) (Lst l i 0) (Lst l i 1) (Lst l i 2) (i : Int)) ((qD5 (qu4 h) l).map ofT) := by
 intro d
 induction d with
 | zero =>
  intro i hi
  refine Ev.step (f := fun _ => some ((qD5 (qu4 h) l).map ofT)) (fun k => ?_) (Ev.now _)
  simp only [T.qL.l0]
  rw [if_neg (by rw [List.length_map]; omega), List.take_of_length_le (by omega)]
  rfl
 | succ d ih =>
  intro i hi
  have h1 : i < l.length := by omega
  have hg : l[i]? = some l[i] := List.getElem?_eq_getElem h1
  have hL := zU4 hg
  have L0 : zH (Lst l i 0) l[i].s = qb2 l i l[i] 0 0 := by have := congrFun hL 0; simpa using this
  have L1 : Lst l i 1 = qb2 l i l[i] 0 1 := by have := congrFun hL 1; simpa using this
  have L2 : Lst l i 2 = qb2 l i l[i] 0 2 := by have := congrFun hL 2; simpa using this
  have es : ((zU (Lst l i 0) l[i].s : Nat) : Int) = (zU (names (zI l)) l[i].s : Nat) := by rw [← zx1 hg, jr3]
  have hsl : (Lst l i 0).length ≤ 1000000 := by
   have : (Lst l i 0) = names (zI (l.take i)) := rfl
   rw [this]
   have h1 := qg2 (zI (l.take i))
   have h2 : (zI (l.take i)).length ≤ l.length := by unfold zI; rw [List.length_map, List.length_take]; omega
   omega
  have R1 := zB7 h l[i].b (by omega)
  have R2 := zB7 h l[i].c (by omega)
  have N1 := ze2 (Lst l i 0) l[i].s hsl
  have ih2 := ih (i + 1) (by omega)
  rw [← zk2 hg] at ih2
  have et : ((l.take (i + 1)).map (qV4 (names (zI l)) (names (jL l)) (names (zB l)) (qu4 h))).map ofT = ((l.take i).map (qV4 (names (zI l)) (names (jL l)) (names (zB l)) (qu4 h))).map ofT ++ [ofT (qV4 (names (zI l)) (names (jL l)) (names (zB l)) (qu4 h) l[i])] := by
   rw [qi4 hg, List.map_append, List.map_append]; rfl
  rw [et] at ih2
  have B := Qo6 h l hm hc i h1 (((l.take i).map (qV4 (names (zI l)) (names (jL l)) (names (zB l)) (qu4 h))).map ofT) (by simp only [List.length_map, List.length_take]; omega) (zU (names (zI l)) l[i].s : Nat) (qu4 h l[i].b) (qu4 h l[i].c) _ ih2 l[i].ops.length 0 (by omega)
  refine Ev.step (f := fun k => (T.jA.f k (h.map ofT) l[i].b).bind fun t1 => (T.jA.f k (h.map ofT) l[i].c).bind fun t2 => (T.jB.f k (Lst l i 0) l[i].s).bind fun bt => T.qL.l1 k (h.map ofT) (((l.take i).map (qV4 (names (zI l)) (names (jL l)) (names (zB l)) (qu4 h))).map ofT) (l.map ofT) bt.1 (Lst l i 1) (Lst l i 2) (i : Int) 0 bt.2 t1 t2 ([] : List S51)) (fun k => ?_) ?_
  ·simp only [T.qL.l0]
   rw [if_pos (by rw [List.length_map]; omega), if_pos (by omega), qm8 l i h1]
   rfl
  ·refine Ev.bind R1 (Ev.bind R2 (Ev.bind N1 ?_))
   show Ev (fun k => T.qL.l1 k _ _ _ (zH (Lst l i 0) l[i].s) (Lst l i 1) (Lst l i 2) _ _ ((zU (Lst l i 0) l[i].s : Nat) : Int) _ _ _) _
   rw [es, L0, L1, L2]
   exact B
theorem zN3 {h : List T4} (hm : qy7 h) (hl : h.length ≤ 1000) (hc : jG h ≤ 100000) : Ev (fun k => T.qL.f k (h.map ofT)) ((jW h).map ofT) := by
 unfold T.qL.f
 refine Ev.bind (zB8 hm (by omega)) ?_
 have e1 : (qc0 h).length = h.length := (zM h).length_eq
 have := Qo7 h (qc0 h) e1 (by omega) (by rw [qV6 (zM h)]; exact hc) (qc0 h).length 0 (by omega)
 exact this
end Go.Proofs.Ytngkneknopenmaa.Hist
end
section
namespace Go.Proofs.Ytngkneknopenmaa.Hist
open Go Go.RowKit Go.Proofs.Ytngkneknopenmaa Go.Proofs.Ytngkneknopenmaa.qb9 Go.Proofs.YtngkneknopenmaaW.PrintWords
open Go.Proofs.Ytngkneknopenmaa.K (S55 S51 qD qG k55 jU9)
def CT (w : World) (A : Option Addr) (h : List T4) : Prop := Kd.C k55 w A h.length (h.map ofT)
theorem CT.below {w w' : World} {A : Option Addr} {h : List T4} (k : CT w A h) (hb : Below w.heap.size w w') : CT w' A h := Kd.qm6 k hb
theorem CT.len {w : World} {A : Option Addr} {h : List T4} (k : CT w A h) : Kd.C k55 w A (h.map ofT).length (h.map ofT) := by rw [List.length_map]; exact k
def Sm (h : List T4) : Prop := h.length ≤ 1000 ∧ jG h ≤ 100000
variable {A B : Option Addr} {c d : Nat} {a b h : List T4} {w : World}
theorem zN4 (k : CT w A h) (hc : h.length ≤ c) (s : Sm h) (hm : qy7 h) :
  Calls Try.prog 17 #[.slice A h.length c] w fun e w' => ∃ (A' : Option Addr) (c' : Nat), e = .returned (.slice A' (jW h).length c') ∧ ((jW h).length ≤ c' ∧ CT w' A' (jW h)) ∧ Below w.heap.size w w' := by
 obtain ⟨n, hn⟩ := (zN3 hm s.1 s.2).rounds
 have := T.qL.calls n (fun k => k < w.heap.size) A c (h.map ofT) _ w (Kd.qT7 (by rw [List.length_map]; exact hc) (Kd.C_F jU9 k.len)) hn
 rw [List.length_map] at this
 refine this.mono ?_
 rintro e w' ⟨v, rfl, hS, hb⟩
 obtain ⟨A', c', rfl⟩ := Kd.qS7 hS
 have q := Kd.zY hS
 rw [List.length_map] at q ⊢
 exact ⟨A', c', rfl, ⟨q.2.1, q.2.2⟩, hb⟩
end Go.Proofs.Ytngkneknopenmaa.Hist
end
