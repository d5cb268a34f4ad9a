/- qq5 of this claim, joined by a program of this session: the zO that its theorem uses. -/
import Derived.Test.YtngkneknopenmaaZQ5
import Derived.Test.YtngkneknopenmaaZQ9
import Derived.Test.YtngkneknopenmaaZQ14
namespace Go.Proofs.Ytngkneknopenmaa.jZ5
end Go.Proofs.Ytngkneknopenmaa.jZ5
section
namespace Go.Proofs.Ytngkneknopenmaa.T
open Go.Proofs.Ytngkneknopenmaa Go.Proofs.Ytngkneknopenmaa.jZ5 Go.Proofs.Ytngkneknopenmaa.K
open Go.RowKit Go.Proofs.YtngkneknopenmaaW.PrintWords Go.Proofs.YtngkneknopenmaaW.qi2 Go.Proofs.YtngkneknopenmaaW.qk7
attribute [local go_sem] qr4 qr5 qw7 qw8 qn2 qn3 qr6 qr7   -- for this text's walks alone
set_option linter.unusedVariables false
set_option linter.unusedSimpArgs false
def j6.l0 : Nat → List (S55) → Int → Int → Int → Option (Int)
 | 0, _, _, _, _ => none
 | k + 1, x0, x1, x5, x6 => if x6 < (x0.length : Int) then (if 0 ≤ x6 then (if ((qD x0 x6).f1) < x1 then (if ((qD x0 x6).f2) < x1 then (j6.l0 k x0 x1 (wrap64 ((wrap64 (x5 + 1)) + 1)) (wrap64 (x6 + 1))) else (j6.l0 k x0 x1 (wrap64 (x5 + 1)) (wrap64 (x6 + 1)))) else (if ((qD x0 x6).f2) < x1 then (j6.l0 k x0 x1 (wrap64 (x5 + 1)) (wrap64 (x6 + 1))) else (j6.l0 k x0 x1 x5 (wrap64 (x6 + 1))))) else (none)) else (some x5)
def j6.f (k : Nat) (l0 : List (S55)) (a1 : Int) : Option (Int) := j6.l0 k l0 a1 0 0
set_option maxHeartbeats 8000000 in
set_option maxRecDepth 100000 in
theorem j6.calls (k : Nat) (A0 : Option Addr) (c0 : Nat) (l0 : List (S55)) (a1 : Int) (r : Int) (w : World) (hr0 : Kd.C k55 w A0 l0.length l0) (hc0 : l0.length ≤ c0) (h : j6.f k l0 a1 = some r) :
  Calls Try.prog 44 #[.slice A0 l0.length c0, .int .i64 a1] w fun e w' => e = .returned (.int .i64 r) ∧ qa0 w w' := by
 have HR0 := q8.mk hr0
 have HC0 := q8.mk hc0
 clear hr0 hc0
 have H : (j6.l0 k l0 a1 0 0) = some r := h
 clear h
 have H' := q8.mk H
 clear H
 go_enter Try.func44, Try.ntmps44
 go_wp2
 go_loopg [5, 6] k (fun kq v5 v6 w' => ∃ (qz1 : Int) (jX : Int), v5 = .int .i64 qz1 ∧ v6 = .int .i64 jX ∧ q8 (j6.l0 kq l0 a1 qz1 jX = some r) ∧ q8 (kq ≤ k) ∧ qa0 w w')
 case atStart => exact ⟨(0), (0), (by first | rfl | (simp; done) | (simp [*]; done)), (by first | rfl | (simp; done) | (simp [*]; done)), H', ⟨Nat.le_refl _⟩, by repeat (first | exact qa0.refl _ | apply qa0.step)⟩
 case round =>
  clear H'
  try clear p2
  obtain ⟨qz1, jX, rfl, rfl, HA, HK1, ⟨m1, rfl⟩⟩ := hrel
  cases gk with
  | zero => exact absurd HA.out (by simp [j6.l0])
  | succ k1 =>
   have H := HA.out
   clear HA
   simp only [j6.l0] at H
   by_cases c3 : jX < (l0.length : Int)
   ·rw [if_pos c3] at H
    have jx4 : decide (jX < (l0.length : Int)) = true := decide_eq_true c3
    clear c3
    by_cases c4 : 0 ≤ jX
    ·rw [if_pos c4] at H
     have qC5 : decide (0 ≤ jX) = true := decide_eq_true c4
     clear c4
     by_cases c5 : ((qD l0 jX).f1) < a1
     ·rw [if_pos c5] at H
      have jx5 : decide (((qD l0 jX).f1) < a1) = true := decide_eq_true c5
      clear c5
      by_cases c6 : ((qD l0 jX).f2) < a1
      ·rw [if_pos c6] at H
       have ja0 : decide (((qD l0 jX).f2) < a1) = true := decide_eq_true c6
       clear c6
       have H' := q8.mk H
       clear H
       have qV2 : 0 ≤ (jX : Int) := of_decide_eq_true (by first | (with_reducible assumption) | assumption)
       have qV3 : jX < (l0.length : Int) := of_decide_eq_true (by first | (with_reducible assumption) | assumption)
       obtain ⟨jq0, zb6, zb7, zb8, jH0, jH1, jH2, qK0, qt8, qt9⟩ := qa5 HR0.out jX qV2 qV3
       cases zb8
       have jH3 := q8.mk qt9
       have jH4 := q8.mk qt8
       clear qt9 qt8
       replace qV2 := eq_true qV2
       replace qV3 := eq_true qV3
       have zb9 : 0 ≤ (jX : Int) := of_decide_eq_true (by first | (with_reducible assumption) | assumption)
       have zc0 : jX < (l0.length : Int) := of_decide_eq_true (by first | (with_reducible assumption) | assumption)
       obtain ⟨zx9, Qa2, Qa3, e185, zJ2, zJ3, zJ4, jH5, ja1, ja2⟩ := qa5 HR0.out jX zb9 zc0
       obtain rfl : jq0 = zx9 := (by injection e185)
       have zJ5 := q8.mk ja2
       have zJ6 := q8.mk ja1
       clear ja2 ja1
       replace zb9 := eq_true zb9
       replace zc0 := eq_true zc0
       have ea_ := Option.some.inj (qK0.symm.trans jH5)
       injection ea_ with ea_ en_ ec_
       subst ea_
       subst ec_
       clear en_
       go_wp2
       go_roundg k1
       case measure => have := HK1.out; omega
       case rel => exact ⟨(wrap64 ((wrap64 (qz1 + 1)) + 1)), (wrap64 (jX + 1)), (by first | rfl | (simp; done) | (simp [*]; done)), (by first | rfl | (simp; done) | (simp [*]; done)), H', ⟨by have := HK1.out; omega⟩, by repeat (first | exact qa0.refl _ | apply qa0.step)⟩
      ·rw [if_neg c6] at H
       have ja0 : decide (((qD l0 jX).f2) < a1) = false := decide_eq_false c6
       clear c6
       have H' := q8.mk H
       clear H
       have qV2 : 0 ≤ (jX : Int) := of_decide_eq_true (by first | (with_reducible assumption) | assumption)
       have qV3 : jX < (l0.length : Int) := of_decide_eq_true (by first | (with_reducible assumption) | assumption)
       obtain ⟨jq0, zb6, zb7, zb8, jH0, jH1, jH2, qK0, qt8, qt9⟩ := qa5 HR0.out jX qV2 qV3
       cases zb8
       have jH3 := q8.mk qt9
       have jH4 := q8.mk qt8
       clear qt9 qt8
       replace qV2 := eq_true qV2
       replace qV3 := eq_true qV3
       have zb9 : 0 ≤ (jX : Int) := of_decide_eq_true (by first | (with_reducible assumption) | assumption)
       have zc0 : jX < (l0.length : Int) := of_decide_eq_true (by first | (with_reducible assumption) | assumption)
       obtain ⟨zx9, Qa2, Qa3, e185, zJ2, zJ3, zJ4, jH5, ja1, ja2⟩ := qa5 HR0.out jX zb9 zc0
       obtain rfl : jq0 = zx9 := (by injection e185)
       have zJ5 := q8.mk ja2
       have zJ6 := q8.mk ja1
       clear ja2 ja1
       replace zb9 := eq_true zb9
       replace zc0 := eq_true zc0
       have ea_ := Option.some.inj (qK0.symm.trans jH5)
       injection ea_ with ea_ en_ ec_
       subst ea_
       subst ec_
       clear en_
       go_wp2
       go_roundg k1
       case measure => have := HK1.out; omega
       case rel => exact ⟨(wrap64 (qz1 + 1)), (wrap64 (jX + 1)), (by first | rfl | (simp; done) | (simp [*]; done)), (by first | rfl | (simp; done) | (simp [*]; done)), H', ⟨by have := HK1.out; omega⟩, by repeat (first | exact qa0.refl _ | apply qa0.step)⟩
     ·rw [if_neg c5] at H
      have jx5 : decide (((qD l0 jX).f1) < a1) = false := decide_eq_false c5
      clear c5
      by_cases c7 : ((qD l0 jX).f2) < a1
      ·rw [if_pos c7] at H
       have zJ7 : decide (((qD l0 jX).f2) < a1) = true := decide_eq_true c7
       clear c7
       have H' := q8.mk H
       clear H
       have qV2 : 0 ≤ (jX : Int) := of_decide_eq_true (by first | (with_reducible assumption) | assumption)
       have qV3 : jX < (l0.length : Int) := of_decide_eq_true (by first | (with_reducible assumption) | assumption)
       obtain ⟨jq0, zb6, zb7, zb8, jH0, jH1, jH2, qK0, qt8, qt9⟩ := qa5 HR0.out jX qV2 qV3
       cases zb8
       have jH3 := q8.mk qt9
       have jH4 := q8.mk qt8
       clear qt9 qt8
       replace qV2 := eq_true qV2
       replace qV3 := eq_true qV3
       have zc1 : 0 ≤ (jX : Int) := of_decide_eq_true (by first | (with_reducible assumption) | assumption)
       have zc2 : jX < (l0.length : Int) := of_decide_eq_true (by first | (with_reducible assumption) | assumption)
       obtain ⟨zy0, Qa4, Qa5, Qa6, zJ8, zJ9, zK0, jH6, ja3, ja4⟩ := qa5 HR0.out jX zc1 zc2
       obtain rfl : jq0 = zy0 := (by injection Qa6)
       have zK1 := q8.mk ja4
       have zK2 := q8.mk ja3
       clear ja4 ja3
       replace zc1 := eq_true zc1
       replace zc2 := eq_true zc2
       have ea_ := Option.some.inj (qK0.symm.trans jH6)
       injection ea_ with ea_ en_ ec_
       subst ea_
       subst ec_
       clear en_
       go_wp2
       go_roundg k1
       case measure => have := HK1.out; omega
       case rel => exact ⟨(wrap64 (qz1 + 1)), (wrap64 (jX + 1)), (by first | rfl | (simp; done) | (simp [*]; done)), (by first | rfl | (simp; done) | (simp [*]; done)), H', ⟨by have := HK1.out; omega⟩, by repeat (first | exact qa0.refl _ | apply qa0.step)⟩
      ·rw [if_neg c7] at H
       have zJ7 : decide (((qD l0 jX).f2) < a1) = false := decide_eq_false c7
       clear c7
       have H' := q8.mk H
       clear H
       have qV2 : 0 ≤ (jX : Int) := of_decide_eq_true (by first | (with_reducible assumption) | assumption)
       have qV3 : jX < (l0.length : Int) := of_decide_eq_true (by first | (with_reducible assumption) | assumption)
       obtain ⟨jq0, zb6, zb7, zb8, jH0, jH1, jH2, qK0, qt8, qt9⟩ := qa5 HR0.out jX qV2 qV3
       cases zb8
       have jH3 := q8.mk qt9
       have jH4 := q8.mk qt8
       clear qt9 qt8
       replace qV2 := eq_true qV2
       replace qV3 := eq_true qV3
       have zc1 : 0 ≤ (jX : Int) := of_decide_eq_true (by first | (with_reducible assumption) | assumption)
       have zc2 : jX < (l0.length : Int) := of_decide_eq_true (by first | (with_reducible assumption) | assumption)
       obtain ⟨zy0, Qa4, Qa5, Qa6, zJ8, zJ9, zK0, jH6, ja3, ja4⟩ := qa5 HR0.out jX zc1 zc2
       obtain rfl : jq0 = zy0 := (by injection Qa6)
       have zK1 := q8.mk ja4
       have zK2 := q8.mk ja3
       clear ja4 ja3
       replace zc1 := eq_true zc1
       replace zc2 := eq_true zc2
       have ea_ := Option.some.inj (qK0.symm.trans jH6)
       injection ea_ with ea_ en_ ec_
       subst ea_
       subst ec_
       clear en_
       go_wp2
       go_roundg k1
       case measure => have := HK1.out; omega
       case rel => exact ⟨(qz1), (wrap64 (jX + 1)), (by first | rfl | (simp; done) | (simp [*]; done)), (by first | rfl | (simp; done) | (simp [*]; done)), H', ⟨by have := HK1.out; omega⟩, by repeat (first | exact qa0.refl _ | apply qa0.step)⟩
    ·rw [if_neg c4] at H
     exact absurd H (by simp)
   ·rw [if_neg c3] at H
    have jx4 : decide (jX < (l0.length : Int)) = false := decide_eq_false c3
    clear c3
    obtain rfl := Option.some.inj H
    go_wp2
    go_ret
    exact ⟨by first | rfl | (simp; done) | (simp [*]; done), by repeat (first | exact qa0.refl _ | apply qa0.step)⟩
def jB.l0 : Nat → List Int → Int → Int → Option (List Int × Int)
 | 0, _, _, _ => none
 | k + 1, x0, x1, x6 => if x6 < (x0.length : Int) then (if 0 ≤ x6 then (if (rd x0 x6) = x1 then (some (x0, x6)) else (jB.l0 k x0 x1 (wrap64 (x6 + 1)))) else (none)) else ((some (([] : List Int) : List Int)).bind fun y188 => (if y188.length + x0.length < 17592186044416 then ((some (y188 ++ x0 : List Int)).bind fun y191 => (if y191.length < 17592186044416 then (some ((y191 ++ [x1]), (x0.length : Int))) else (none))) else (none)))
def jB.f (k : Nat) (l0 : List Int) (a1 : Int) : Option (List Int × Int) := jB.l0 k l0 a1 0
set_option maxHeartbeats 8000000 in
set_option maxRecDepth 100000 in
theorem jB.calls (k : Nat) (P0_ : Nat → Prop) (jH7 : Value) (l0 : List Int) (a1 : Int) (r1 : List Int) (r2 : Int) (w0 w : World) (hB : Below w0.heap.size w0 w) (ho0 : Kd.R (Kd.int .i64) 3 w w0.heap.size P0_ jH7 l0) (h : jB.f k l0 a1 = some (r1, r2)) :
  Calls Try.prog 45 #[jH7, .int .i64 a1] w fun e w' => ∃ v0_ : Value, e = .returned (.tuple #[v0_, .int .i64 r2]) ∧ Kd.R (Kd.int .i64) 3 w' w0.heap.size (fun k_ => (P0_ k_ ∨ w.heap.size ≤ k_)) v0_ r1 ∧ Below w0.heap.size w0 w' ∧ Kept w w' (fun k_ => P0_ k_) := by
 have HO0 := q8.mk (show Kd.R (Kd.int .i64) 3 w w0.heap.size (fun k_ => (P0_ k_ ∨ w.heap.size ≤ k_)) jH7 l0 from Kd.jK ho0 (fun k_ hk => (.inl hk)))
 have HK := q8.mk (Kept.refl w (fun k_ => P0_ k_))
 have HW0 := q8.mk hB.size
 have HB := q8.mk hB
 clear hB
 have H : (jB.l0 k l0 a1 0) = some (r1, r2) := h
 clear h
 have H' := q8.mk H
 clear H
 go_enter Try.func45, Try.ntmps45
 go_wp2
 go_loopg [6] k (fun kq v6 w' => ∃ (jX : Int), v6 = .int .i64 jX ∧ q8 (jB.l0 kq l0 a1 jX = some (r1, r2)) ∧ q8 (kq ≤ k) ∧ q8 (Kd.R (Kd.int .i64) 3 w' w0.heap.size (fun k_ => (P0_ k_ ∨ w.heap.size ≤ k_)) jH7 l0) ∧ q8 (Kept w w' (fun k_ => P0_ k_)) ∧ q8 (Below w0.heap.size w0 w'))
 case atStart => exact ⟨(0), (by first | rfl | (simp; done) | (simp [*]; done)), H', ⟨Nat.le_refl _⟩, ⟨by (with_reducible repeat (first | apply Kd.qV | apply Kd.qW | apply Kd.jC)); exact HO0.out⟩, ⟨by repeat (first | (with_reducible first | exact HK.out | apply Kept.alloc | apply Kept.drewN | apply Kept.drew) | exact HK.out)⟩, ⟨by repeat (first | (with_reducible first | exact HB.out | apply qA | apply q9 | apply qB) | exact HB.out)⟩⟩
 case round =>
  clear H'
  try clear p2
  obtain ⟨jX, rfl, HA, HK1, qa1, HK, HB⟩ := hrel
  cases gk with
  | zero => exact absurd HA.out (by simp [jB.l0])
  | succ k1 =>
   have H := HA.out
   clear HA
   simp only [jB.l0] at H
   by_cases c3 : jX < (l0.length : Int)
   ·rw [if_pos c3] at H
    have jx4 : decide (jX < (l0.length : Int)) = true := decide_eq_true c3
    clear c3
    by_cases c4 : 0 ≤ jX
    ·rw [if_pos c4] at H
     have qC5 : decide (0 ≤ jX) = true := decide_eq_true c4
     clear c4
     by_cases c5 : (rd l0 jX) = a1
     ·rw [if_pos c5] at H
      have jx5 : ((rd l0 jX) == a1) = true := beq_iff_eq.mpr c5
      have c5b1 : ((rd l0 jX) != a1) = false := bne_eq_false_iff_eq.mpr c5
      clear c5
      simp only [Option.some.injEq, Prod.mk.injEq] at H
      obtain ⟨rfl, rfl⟩ := H
      obtain ⟨Ao6, co6, eo6⟩ := Kd.qu0 qa1.out
      subst eo6
      have zc3 : 0 ≤ (jX : Int) := of_decide_eq_true (by first | (with_reducible assumption) | assumption)
      have zc4 : jX < (l0.length : Int) := of_decide_eq_true (by first | (with_reducible assumption) | assumption)
      obtain ⟨Qk7, e187, zK3⟩ := Kd.zy1 (Kd.qx7 qa1.out).2.2 jX zc3 zc4
      cases e187
      replace zc3 := eq_true zc3
      replace zc4 := eq_true zc4
      go_wp2
      go_ret2
      exact ⟨_, by first | rfl | (simp [jF, jG] <;> rfl) | (simp [*, jF, jG] <;> rfl), by (with_reducible repeat (first | apply Kd.qV | apply Kd.qW | apply Kd.jC)); exact qa1.out, by repeat (first | (with_reducible first | exact HB.out | apply qA | apply q9 | apply qB) | exact HB.out), by repeat (first | (with_reducible first | exact HK.out | apply Kept.alloc | apply Kept.drewN | apply Kept.drew) | exact HK.out)⟩
     ·rw [if_neg c5] at H
      have jx5 : ((rd l0 jX) == a1) = false := beq_eq_false_iff_ne.mpr c5
      have c5b1 : ((rd l0 jX) != a1) = true := bne_iff_ne.mpr c5
      have H' := q8.mk H
      clear H
      obtain ⟨Ao7, co7, eo7⟩ := Kd.qu0 qa1.out
      subst eo7
      have zc3 : 0 ≤ (jX : Int) := of_decide_eq_true (by first | (with_reducible assumption) | assumption)
      have zc4 : jX < (l0.length : Int) := of_decide_eq_true (by first | (with_reducible assumption) | assumption)
      obtain ⟨Qk7, e187, zK3⟩ := Kd.zy1 (Kd.qx7 qa1.out).2.2 jX zc3 zc4
      cases e187
      replace zc3 := eq_true zc3
      replace zc4 := eq_true zc4
      go_wp2
      go_roundg k1
      case measure => have := HK1.out; omega
      case rel => exact ⟨(wrap64 (jX + 1)), (by first | rfl | (simp; done) | (simp [*]; done)), H', ⟨by have := HK1.out; omega⟩, ⟨by (with_reducible repeat (first | apply Kd.qV | apply Kd.qW | apply Kd.jC)); exact qa1.out⟩, ⟨by repeat (first | (with_reducible first | exact HK.out | apply Kept.alloc | apply Kept.drewN | apply Kept.drew) | exact HK.out)⟩, ⟨by repeat (first | (with_reducible first | exact HB.out | apply qA | apply q9 | apply qB) | exact HB.out)⟩⟩
    ·rw [if_neg c4] at H
     exact absurd H (by simp)
   ·rw [if_neg c3] at H
    have jx4 : decide (jX < (l0.length : Int)) = false := decide_eq_false c3
    clear c3
    obtain ⟨y188, jR6⟩ : ∃ y_ : List Int, y_ = (([] : List Int)) := ⟨_, rfl⟩
    replace H : (if y188.length + l0.length < 17592186044416 then ((some (y188 ++ l0 : List Int)).bind fun y191 => (if y191.length < 17592186044416 then (some ((y191 ++ [a1]), (l0.length : Int))) else (none))) else (none)) = some (r1, r2) := by first | (rw [jR6]; with_reducible exact H) | (have H2_ := (Option.bind_some _ _).symm.trans H; rw [jR6]; with_reducible exact H2_) | (have H2_ := (Option.bind_some _ _).symm.trans H; with_reducible exact H2_) | with_reducible exact H | (rw [jR6]; exact H) | exact H
    have zU9 := q8.mk jR6
    clear jR6
    by_cases c8 : y188.length + l0.length < 17592186044416
    ·rw [if_pos c8] at H
     have LMc8 := q8.mk c8
     clear c8
     obtain ⟨y191, jR7⟩ : ∃ y_ : List Int, y_ = (y188 ++ l0) := ⟨_, rfl⟩
     replace H : (if y191.length < 17592186044416 then (some ((y191 ++ [a1]), (l0.length : Int))) else (none)) = some (r1, r2) := by first | (rw [jR7]; with_reducible exact H) | (have H2_ := (Option.bind_some _ _).symm.trans H; rw [jR7]; with_reducible exact H2_) | (have H2_ := (Option.bind_some _ _).symm.trans H; with_reducible exact H2_) | with_reducible exact H | (rw [jR7]; exact H) | exact H
     have Qk8 := q8.mk jR7
     clear jR7
     by_cases c9 : y191.length < 17592186044416
     ·rw [if_pos c9] at H
      have LMc9 := q8.mk c9
      clear c9
      obtain ⟨y194, jR8⟩ : ∃ y_ : List Int, y_ = (y191 ++ [a1]) := ⟨_, rfl⟩
      replace H : (some (y194, (l0.length : Int))) = some (r1, r2) := by first | (rw [jR8]; with_reducible exact H) | (have H2_ := (Option.bind_some _ _).symm.trans H; rw [jR8]; with_reducible exact H2_) | (have H2_ := (Option.bind_some _ _).symm.trans H; with_reducible exact H2_) | with_reducible exact H | (rw [jR8]; exact H) | exact H
      have Qk9 := q8.mk jR8
      clear jR8
      simp only [Option.some.injEq, Prod.mk.injEq] at H
      obtain ⟨rfl, rfl⟩ := H
      obtain ⟨Ao10, co10, eo10⟩ := Kd.qu0 qa1.out
      subst eo10
      go_wp2_with (first | ((with_reducible refine zW (N := 21) rfl ?_); refine Kd.jR9 (Kd.int .i64) _ 3 ?hg (N := 21) ?hd (xs := ([] : List Int)) (inner := []) (ok := fun _ => True) (okp := fun _ => True) ?hr ?hp (fun _ hk => hk) trivial (Below.refl _ _) (Nat.le_refl _) (by simp) ?_; (case hd => rfl); (case hg => rfl); (case hr => first | (go_simp; done) | (go_simp; rfl)); (case hp => exact (qc7.none _ _)); intro v189 w11 zq6 hb hg_ qC1; clear hg_ qC1; (first | rw [← zU9.out] at zq6 | (simp only [Int.reduceToNat] at zq6; rw [← zU9.out] at zq6)); have n0_ := q8.mk (Kd.ja5 (by (with_reducible repeat (first | apply Kd.qV | apply Kd.qW | apply Kd.jC)); exact qa1.out) (Kd.qu1 zq6) hb); have n1_ := q8.mk (Kd.qR8 (Kd.jH8 (Kd.jH9 (M := fun k_ => (P0_ k_ ∨ w.heap.size ≤ k_)) zq6 (by first | exact HK.out.1 | exact (show Kept w _ (fun k_ => P0_ k_) from by repeat (first | (with_reducible first | exact HK.out | apply Kept.alloc | apply Kept.drewN | apply Kept.drew) | exact HK.out)).1) (fun k_ h_ => .inr h_)) (Kd.qO1 (by (with_reducible repeat (first | apply Kd.qV | apply Kd.qW | apply Kd.jC)); exact qa1.out))) (qJ (by repeat (first | (with_reducible first | exact HB.out | apply qA | apply q9 | apply qB) | exact HB.out)))); have n2_ := q8.mk (Kept.below (S := (fun k_ => P0_ k_)) (by repeat (first | (with_reducible first | exact HK.out | apply Kept.alloc | apply Kept.drewN | apply Kept.drew) | exact HK.out)) hb); have n3_ := q8.mk (jL (by repeat (first | (with_reducible first | exact HB.out | apply qA | apply q9 | apply qB) | exact HB.out)) hb); clear qa1; clear HK; clear HB; have qa1 := n0_; have zy2 := n1_; have HK := n2_; have HB := n3_; clear n0_ n1_ n2_ n3_; clear hb zq6) | ((with_reducible refine ql4 (b := .append) (xs := #[.tmp 21, .tmp 22]) rfl ?_); at_builtin; refine Kd.qT1 (Kd.int .i64) (w0 := w0) w0.heap.size rfl (.tmp 21) (.tmp 22) 29 3 (.int .i64 0) 8 rfl Try.underlying29 info3 rfl (by decide) (by omega) v189 y188 l0 _ _ _ (fun k_ => (P0_ k_ ∨ w.heap.size ≤ k_) ∧ some k_ ≠ (.slice Ao10 l0.length co10 : Value).ownBlock) (fun _ => False) rfl rfl ?aO ?aR (fun _ _ h => h) (fun _ h => h.elim) ?aF ?aB ?aS ?aL ?_; (case aR => repeat (first | exact (Kd.qx7 qa1.out).2.2 | (with_reducible refine Kd.qi9 ?_ _) | (with_reducible refine Kd.qj0 ?_ _) | (with_reducible refine Kd.qn5 ?_))); (case aB => exact (by repeat (first | (with_reducible first | exact HB.out | apply qA | apply q9 | apply qB) | exact HB.out))); (case aF => exact (fun k_ hk => ⟨(.inr (Nat.le_trans (by first | exact HK.out.1 | exact (show Kept w _ (fun k_ => P0_ k_) from by repeat (first | (with_reducible first | exact HK.out | apply Kept.alloc | apply Kept.drewN | apply Kept.drew) | exact HK.out)).1) hk)), Kd.fresh' (Kd.qO1 (by (with_reducible repeat (first | apply Kd.qV | apply Kd.qW | apply Kd.jC)); exact qa1.out)) k_ hk⟩)); (case aO => exact (by (with_reducible repeat (first | apply Kd.qV | apply Kd.qW | apply Kd.jC)); exact Kd.jK zy2.out (fun _ hk => ⟨hk.1.1, hk.2⟩))); (case aS => exact (qJ (by repeat (first | (with_reducible first | exact HB.out | apply qA | apply q9 | apply qB) | exact HB.out)))); (case aL => have := LMc8.out; omega); intro v192 w13 ho hb hg hat; rw [← Qk8.out] at ho; have n0_ := q8.mk (Kd.zj7 (ok := (fun k_ => (P0_ k_ ∨ w.heap.size ≤ k_))) (by (with_reducible repeat (first | apply Kd.qV | apply Kd.qW | apply Kd.jC)); exact qa1.out) hg hat); have n1_ := q8.mk (hb); have n2_ := q8.mk (Kept.qx4 (S := (fun k_ => P0_ k_)) hg (by repeat (first | (with_reducible first | exact HK.out | apply Kept.alloc | apply Kept.drewN | apply Kept.drew) | exact HK.out)) (fun k_ e_ => (zy2.out.1 k_ e_).1.1)); have n3_ := q8.mk (ho); clear qa1; clear HB; clear HK; clear zy2; have qa1 := n0_; have HB := n1_; have HK := n2_; have zy3 := n3_; clear n0_ n1_ n2_ n3_; clear ho hb hg hat) | ((with_reducible refine ql4 (b := .append) (xs := #[.tmp 23, .tmp 25]) rfl ?_); at_builtin; refine Kd.ja6 (Kd.int .i64) (w0 := w0) w0.heap.size rfl (.tmp 23) (.tmp 25) 29 3 (.int .i64 0) 8 rfl Try.underlying29 info3 rfl (by decide) (by omega) v192 y191 a1 [.int .i64 a1] (fun k_ => (P0_ k_ ∨ w.heap.size ≤ k_) ∧ some k_ ≠ (.slice Ao10 l0.length co10 : Value).ownBlock) (fun _ => False) rfl rfl ?aP (fun _ hk => hk.elim) ?aF ?aO ?aB ?aS ?aL ?_; (case aP => exact rfl); (case aB => exact (by repeat (first | (with_reducible first | exact HB.out | apply qA | apply q9 | apply qB) | exact HB.out))); (case aF => exact (fun k_ hk => ⟨(.inr (Nat.le_trans (by first | exact HK.out.1 | exact (show Kept w _ (fun k_ => P0_ k_) from by repeat (first | (with_reducible first | exact HK.out | apply Kept.alloc | apply Kept.drewN | apply Kept.drew) | exact HK.out)).1) hk)), Kd.fresh' (Kd.qO1 (by (with_reducible repeat (first | apply Kd.qV | apply Kd.qW | apply Kd.jC)); exact qa1.out)) k_ hk⟩)); (case aO => exact (by (with_reducible repeat (first | apply Kd.qV | apply Kd.qW | apply Kd.jC)); exact zy3.out)); (case aS => exact (qJ (by repeat (first | (with_reducible first | exact HB.out | apply qA | apply q9 | apply qB) | exact HB.out)))); (case aL => have := LMc9.out; omega); intro v195 w14 ho hb hg hat; rw [← Qk9.out] at ho; have n0_ := q8.mk (Kd.zj7 (ok := (fun k_ => (P0_ k_ ∨ w.heap.size ≤ k_))) (by (with_reducible repeat (first | apply Kd.qV | apply Kd.qW | apply Kd.jC)); exact qa1.out) hg hat); have n1_ := q8.mk (hb); have n2_ := q8.mk (Kept.qx4 (S := (fun k_ => P0_ k_)) hg (by repeat (first | (with_reducible first | exact HK.out | apply Kept.alloc | apply Kept.drewN | apply Kept.drew) | exact HK.out)) (fun k_ e_ => (zy3.out.1 k_ e_).1)); have n3_ := q8.mk (ho); clear qa1; clear HB; clear HK; clear zy3; have qa1 := n0_; have HB := n1_; have HK := n2_; have Ql0 := n3_; clear n0_ n1_ n2_ n3_; clear ho hb hg hat))
      go_ret2
      exact ⟨_, by first | rfl | (simp [jF, jG] <;> rfl) | (simp [*, jF, jG] <;> rfl), by (with_reducible repeat (first | apply Kd.qV | apply Kd.qW | apply Kd.jC)); exact Kd.jK Ql0.out (fun _ hk => hk.1), by repeat (first | (with_reducible first | exact HB.out | apply qA | apply q9 | apply qB) | exact HB.out), by repeat (first | (with_reducible first | exact HK.out | apply Kept.alloc | apply Kept.drewN | apply Kept.drew) | exact HK.out)⟩
     ·rw [if_neg c9] at H
      exact absurd H (by simp)
    ·rw [if_neg c8] at H
     exact absurd H (by simp)
end Go.Proofs.Ytngkneknopenmaa.T
end
section
namespace Go.Proofs.Ytngkneknopenmaa.T
open Go.Proofs.Ytngkneknopenmaa Go.Proofs.Ytngkneknopenmaa.jZ5 Go.Proofs.Ytngkneknopenmaa.K
open Go.RowKit Go.Proofs.YtngkneknopenmaaW.PrintWords Go.Proofs.YtngkneknopenmaaW.qi2 Go.Proofs.YtngkneknopenmaaW.qk7
attribute [local go_sem] qr4 qr5 qw7 qw8 qn2 qn3 qr6 qr7   -- for this text's walks alone
set_option linter.unusedVariables false
set_option linter.unusedSimpArgs false
mutual
def qM.l0 : Nat → List (S55) → List (S55) → List (S55) → List Int → List Int → List Int → Int → Option ((List (S55)))
 | 0, _, _, _, _, _, _, _ => none
 | k + 1, x0, x3, x4, x5, x6, x7, x8 => if x8 < (x4.length : Int) then (if 0 ≤ x8 then ((j6.f k x0 ((qD x4 x8).f1)).bind fun t213 => ((j6.f k x0 ((qD x4 x8).f2)).bind fun t215 => ((jB.f k x5 ((qD x4 x8).f0)).bind fun jj6 => (qM.l1 k x0 x3 x4 jj6.1 x6 x7 x8 0 jj6.2 t213 t215 ([] : List (S51)))))) else (none)) else (some x3)
def qM.l1 : Nat → List (S55) → List (S55) → List (S55) → List Int → List Int → List Int → Int → Int → Int → Int → Int → List (S51) → Option ((List (S55)))
 | 0, _, _, _, _, _, _, _, _, _, _, _, _ => none
 | k + 1, x0, x3, x4, x5, x6, x7, x8, x10, x217000, x217001, x217002, x217003 => if 0 ≤ x8 then (if x8 < (x4.length : Int) then (if x10 < (((qD x4 x8).f3).length : Int) then (if 0 ≤ x10 then ((jB.f k x6 ((qG ((qD x4 x8).f3) x10).f1)).bind fun zj8 => (if ((qG ((qD x4 x8).f3) x10).f2) = 0 then (if x217003.length < 5864062014805 then (qM.l1 k x0 x3 x4 x5 zj8.1 x7 x8 (wrap64 (x10 + 1)) x217000 x217001 x217002 (x217003 ++ [(⟨(qG ((qD x4 x8).f3) x10).f0, zj8.2, (qG ((qD x4 x8).f3) x10).f2⟩ : S51)])) else (none)) else ((jB.f k x7 ((qG ((qD x4 x8).f3) x10).f2)).bind fun jS0 => (if x217003.length < 5864062014805 then (qM.l1 k x0 x3 x4 x5 zj8.1 jS0.1 x8 (wrap64 (x10 + 1)) x217000 x217001 x217002 (x217003 ++ [(⟨(qG ((qD x4 x8).f3) x10).f0, zj8.2, wrap64 (jS0.2 + 1)⟩ : S51)])) else (none))))) else (none)) else (if x3.length < 2932031007402 then (qM.l0 k x0 (x3 ++ [(⟨x217000, x217001, x217002, x217003⟩ : S55)]) x4 x5 x6 x7 (wrap64 (x8 + 1))) else (none))) else (none)) else (none)
end
def qM.f (k : Nat) (l0 : List (S55)) : Option ((List (S55))) := (qF.f k l0).bind fun t200 => (qM.l0 k l0 (([] : List (S55))) t200 (([] : List Int)) (([] : List Int)) (([] : List Int)) 0)
def qM.T9 : Bool × List (List Nat × List Nat) := (true, [([], []), ([], []), ([], []), ([1, 2], [1, 2]), ([3], [3]), ([4], [4]), ([0, 5], [0, 5]), ([], []), ([], []), ([], []), ([8, 9], [8, 9]), ([10], [10]), ([11], [11]), ([7, 12, 6], [7, 12]), ([6, 13], [6, 13]), ([], []), ([15, 14, 13, 0, 1, 2, 3, 4, 5, 6, 7, 8, 9, 10, 11, 12, 13, 14, 15], [14, 15])])
def qM.B9 : List Nat := [0, 0, 0, 6, 14, 30, 63, 0, 0, 0, 768, 1792, 3840, 8191, 16383, 0, 65535]
theorem qM.tab9 : qA6 .any (opsOf Try.f17 9) = qM.T9 := by kernel_rfl
theorem qM.Ql1 : qJ3 qM.T9.2 qM.B9 = true := by kernel_rfl
set_option maxHeartbeats 8000000 in
set_option maxRecDepth 100000 in
theorem qM.calls (k : Nat) (P0_ : Nat → Prop) (A0 : Option Addr) (c0 : Nat) (l0 : List (S55)) (r : List (S55)) (w : World) (hs0 : Kd.V k55 55 w w.heap.size (fun k_ => P0_ k_) (.slice A0 l0.length c0) l0) (h : qM.f k l0 = some r) :
  Calls Try.prog 17 #[.slice A0 l0.length c0] w fun e w' => ∃ v0_ : Value, e = .returned (v0_) ∧ Kd.N k55 55 w' w.heap.size (fun k_ => (P0_ k_ ∨ w.heap.size ≤ k_)) v0_ r ∧ Below w.heap.size w w' := by
 have zx1 := Try.underlying55
 have zy4 := Try.underlying51
 have HO0 := q8.mk (show Kd.V k55 55 w w.heap.size (fun k_ => (P0_ k_ ∨ w.heap.size ≤ k_)) (.slice A0 l0.length c0) l0 from Kd.zN hs0 (fun k_ hk => .inl hk))
 have HB := q8.mk (Below.refl w.heap.size w)
 have H : ((qF.f k l0).bind fun t200 => (qM.l0 k l0 (([] : List (S55))) t200 (([] : List Int)) (([] : List Int)) (([] : List Int)) 0)) = some r := h
 clear h
 obtain ⟨y197, jS1⟩ : ∃ y_ : List (S55), y_ = (([] : List (S55))) := ⟨_, rfl⟩
 replace H : ((qF.f k l0).bind fun t200 => (qM.l0 k l0 y197 t200 (([] : List Int)) (([] : List Int)) (([] : List Int)) 0)) = some r := by first | (rw [jS1]; with_reducible exact H) | (have H2_ := (Option.bind_some _ _).symm.trans H; rw [jS1]; with_reducible exact H2_) | (have H2_ := (Option.bind_some _ _).symm.trans H; with_reducible exact H2_) | with_reducible exact H | (rw [jS1]; exact H) | exact H
 have zV0 := q8.mk jS1
 clear jS1
 replace H := Option.bind_eq_some_iff.mp H
 obtain ⟨t200, A20, H⟩ := H
 replace H : (qM.l0 k l0 y197 t200 (([] : List Int)) (([] : List Int)) (([] : List Int)) 0) = some r := H
 have A2 := q8.mk A20
 clear A20
 obtain ⟨y203, jS2⟩ : ∃ y_ : List Int, y_ = (([] : List Int)) := ⟨_, rfl⟩
 replace H : (qM.l0 k l0 y197 t200 y203 (([] : List Int)) (([] : List Int)) 0) = some r := by first | (rw [jS2]; with_reducible exact H) | (have H2_ := (Option.bind_some _ _).symm.trans H; rw [jS2]; with_reducible exact H2_) | (have H2_ := (Option.bind_some _ _).symm.trans H; with_reducible exact H2_) | with_reducible exact H | (rw [jS2]; exact H) | exact H
 have zV1 := q8.mk jS2
 clear jS2
 obtain ⟨y206, jS3⟩ : ∃ y_ : List Int, y_ = (([] : List Int)) := ⟨_, rfl⟩
 replace H : (qM.l0 k l0 y197 t200 y203 y206 (([] : List Int)) 0) = some r := by first | (rw [jS3]; with_reducible exact H) | (have H2_ := (Option.bind_some _ _).symm.trans H; rw [jS3]; with_reducible exact H2_) | (have H2_ := (Option.bind_some _ _).symm.trans H; with_reducible exact H2_) | with_reducible exact H | (rw [jS3]; exact H) | exact H
 have zV2 := q8.mk jS3
 clear jS3
 obtain ⟨y209, jS4⟩ : ∃ y_ : List Int, y_ = (([] : List Int)) := ⟨_, rfl⟩
 replace H : (qM.l0 k l0 y197 t200 y203 y206 y209 0) = some r := by first | (rw [jS4]; with_reducible exact H) | (have H2_ := (Option.bind_some _ _).symm.trans H; rw [jS4]; with_reducible exact H2_) | (have H2_ := (Option.bind_some _ _).symm.trans H; with_reducible exact H2_) | with_reducible exact H | (rw [jS4]; exact H) | exact H
 have zV3 := q8.mk jS4
 clear jS4
 have H' := q8.mk H
 clear H
 go_enter Try.func17, Try.ntmps17
 go_wp2_with (first | ((with_reducible refine zW (N := 12) rfl ?_); refine Kd.zx2 k55 _ 55 ?hg (N' := 12) ?hd (xs := ([] : List (S55))) (inner := []) (ok := (fun k_ => (P0_ k_ ∨ w.heap.size ≤ k_))) (okp := (fun k_ => (P0_ k_ ∨ w.heap.size ≤ k_))) ?hr ?hp (fun _ hk => hk) ((show ∀ k_, w.heap.size ≤ k_ → (fun k_ => (P0_ k_ ∨ w.heap.size ≤ k_)) k_ from fun k_ hk => (.inr (Nat.le_trans (qJ (by repeat (first | (with_reducible first | exact HB.out | apply qA | apply q9 | apply qB) | exact HB.out))) hk))) _ (Nat.le_refl _)) (Below.refl _ _) (Nat.le_refl _) (by simp) ?_; (case hd => rfl); (case hg => rfl); (case hr => first | (go_simp; done) | (go_simp; rfl)); (case hp => exact (qc7.none _ _)); intro v198 w3 ho4 hb hg_ qC1; clear hg_ qC1; (first | rw [← zV0.out] at ho4 | (simp only [Int.reduceToNat] at ho4; rw [← zV0.out] at ho4)); have n0_ := q8.mk (Kd.qr8 (by (with_reducible repeat (first | apply Kd.jO | apply Kd.jP | apply Kd.zA)); exact HO0.out) (Kd.qC2 ho4) hb); have n1_ := q8.mk (Kd.qY7 ho4 (qJ (by repeat (first | (with_reducible first | exact HB.out | apply qA | apply q9 | apply qB) | exact HB.out)))); have n2_ := q8.mk (jL (by repeat (first | (with_reducible first | exact HB.out | apply qA | apply q9 | apply qB) | exact HB.out)) hb); clear HO0; clear HB; have HO0 := n0_; have qD8 := n1_; have HB := n2_; clear n0_ n1_ n2_; clear hb ho4) | ((with_reducible refine qj6 (f := 43) rfl ?_); refine qK1 (some 14) rfl rfl Try.func43 (by kernel_rfl) rfl #[.slice A0 l0.length c0] rfl (by (try simp only [List.map_toArray, List.map_cons, List.map_nil]); first | done | rfl | (simp only [List.length_drop, List.length_take]; rfl)) ?_; (with_reducible refine (qF.calls k (fun k_ => ((P0_ k_ ∨ w.heap.size ≤ k_) ∧ some k_ ≠ (v198 : Value).ownBlock)) _ _ l0 t200 _ ?qu2 A2.out).mono ?_); (case qu2 => exact HO0.out); rintro e w5 ⟨v201, rfl, ho0, hb⟩; refine ⟨_, rfl, ?_⟩; have n0_ := q8.mk (Kd.qr8 (by (with_reducible repeat (first | apply Kd.jO | apply Kd.jP | apply Kd.zA)); exact HO0.out) (Kd.qC2 ho0) hb); have n1_ := q8.mk (Kd.qr9 (by (with_reducible repeat (first | apply Kd.jD | apply Kd.jE | apply Kd.jJ)); exact qD8.out) (Kd.qC2 ho0) hb); have n2_ := q8.mk (Kd.qY7 (Kd.z8 (ok' := fun k_ => (P0_ k_ ∨ w.heap.size ≤ k_) ∧ some k_ ≠ (v198 : Value).ownBlock) ho0 (fun k_ hk_ => ⟨Or.elim hk_ (fun hs_ => hs_.1) (fun hn_ => (.inr (Nat.le_trans (qJ (by repeat (first | (with_reducible first | exact HB.out | apply qA | apply q9 | apply qB) | exact HB.out))) hn_))), Or.elim hk_ (fun hs_ => hs_.2) (fun hn_ => (Kd.fresh' (Kd.jx1 (by (with_reducible repeat (first | apply Kd.jD | apply Kd.jE | apply Kd.jJ)); exact qD8.out)) k_ hn_))⟩)) (qJ (by repeat (first | (with_reducible first | exact HB.out | apply qA | apply q9 | apply qB) | exact HB.out)))); have n3_ := q8.mk (jL (by repeat (first | (with_reducible first | exact HB.out | apply qA | apply q9 | apply qB) | exact HB.out)) hb); clear HO0; clear qD8; clear HB; have HO0 := n0_; have qD8 := n1_; have qT2 := n2_; have HB := n3_; clear n0_ n1_ n2_ n3_; (try clear hb); (try clear hb2); (try clear hk); (try clear hi); (try clear ho0)) | ((with_reducible refine zW (N := 15) rfl ?_); refine Kd.jR9 (Kd.int .i64) _ 3 ?hg (N := 15) ?hd (xs := ([] : List Int)) (inner := []) (ok := fun _ => True) (okp := fun _ => True) ?hr ?hp (fun _ hk => hk) trivial (Below.refl _ _) (Nat.le_refl _) (by simp) ?_; (case hd => rfl); (case hg => rfl); (case hr => first | (go_simp; done) | (go_simp; rfl)); (case hp => exact (qc7.none _ _)); intro v204 w6 ho7 hb hg_ qC1; clear hg_ qC1; (first | rw [← zV1.out] at ho7 | (simp only [Int.reduceToNat] at ho7; rw [← zV1.out] at ho7)); have n0_ := q8.mk (Kd.qr8 (by (with_reducible repeat (first | apply Kd.jO | apply Kd.jP | apply Kd.zA)); exact HO0.out) (Kd.qu1 ho7) hb); have n1_ := q8.mk (Kd.qr9 (by (with_reducible repeat (first | apply Kd.jD | apply Kd.jE | apply Kd.jJ)); exact qD8.out) (Kd.qu1 ho7) hb); have n2_ := q8.mk (Kd.qr9 (by (with_reducible repeat (first | apply Kd.jD | apply Kd.jE | apply Kd.jJ)); exact qT2.out) (Kd.qu1 ho7) hb); have n3_ := q8.mk (Kd.qR8 (Kd.jH9 (M := fun k_ => (w.heap.size ≤ k_)) ho7 (qJ (by repeat (first | (with_reducible first | exact HB.out | apply qA | apply q9 | apply qB) | exact HB.out))) (fun k_ h_ => h_)) (qJ (by repeat (first | (with_reducible first | exact HB.out | apply qA | apply q9 | apply qB) | exact HB.out)))); have n4_ := q8.mk (jL (by repeat (first | (with_reducible first | exact HB.out | apply qA | apply q9 | apply qB) | exact HB.out)) hb); clear HO0; clear qD8; clear qT2; clear HB; have HO0 := n0_; have qD8 := n1_; have qT2 := n2_; have ja7 := n3_; have HB := n4_; clear n0_ n1_ n2_ n3_ n4_; clear hb ho7) | ((with_reducible refine zW (N := 16) rfl ?_); refine Kd.jR9 (Kd.int .i64) _ 3 ?hg (N := 16) ?hd (xs := ([] : List Int)) (inner := []) (ok := fun _ => True) (okp := fun _ => True) ?hr ?hp (fun _ hk => hk) trivial (Below.refl _ _) (Nat.le_refl _) (by simp) ?_; (case hd => rfl); (case hg => rfl); (case hr => first | (go_simp; done) | (go_simp; rfl)); (case hp => exact (qc7.none _ _)); intro v207 w8 ho9 hb hg_ qC1; clear hg_ qC1; (first | rw [← zV2.out] at ho9 | (simp only [Int.reduceToNat] at ho9; rw [← zV2.out] at ho9)); have n0_ := q8.mk (Kd.qr8 (by (with_reducible repeat (first | apply Kd.jO | apply Kd.jP | apply Kd.zA)); exact HO0.out) (Kd.qu1 ho9) hb); have n1_ := q8.mk (Kd.qr9 (by (with_reducible repeat (first | apply Kd.jD | apply Kd.jE | apply Kd.jJ)); exact qD8.out) (Kd.qu1 ho9) hb); have n2_ := q8.mk (Kd.qr9 (by (with_reducible repeat (first | apply Kd.jD | apply Kd.jE | apply Kd.jJ)); exact qT2.out) (Kd.qu1 ho9) hb); have n3_ := q8.mk (Kd.ja5 (by (with_reducible repeat (first | apply Kd.qV | apply Kd.qW | apply Kd.jC)); exact ja7.out) (Kd.qu1 ho9) hb); have n4_ := q8.mk (Kd.qR8 (Kd.jH8 (Kd.jH9 (M := fun k_ => (w.heap.size ≤ k_)) ho9 (qJ (by repeat (first | (with_reducible first | exact HB.out | apply qA | apply q9 | apply qB) | exact HB.out))) (fun k_ h_ => h_)) (Kd.qO1 (by (with_reducible repeat (first | apply Kd.qV | apply Kd.qW | apply Kd.jC)); exact ja7.out))) (qJ (by repeat (first | (with_reducible first | exact HB.out | apply qA | apply q9 | apply qB) | exact HB.out)))); have n5_ := q8.mk (jL (by repeat (first | (with_reducible first | exact HB.out | apply qA | apply q9 | apply qB) | exact HB.out)) hb); clear HO0; clear qD8; clear qT2; clear ja7; clear HB; have HO0 := n0_; have qD8 := n1_; have qT2 := n2_; have ja7 := n3_; have jS5 := n4_; have HB := n5_; clear n0_ n1_ n2_ n3_ n4_ n5_; clear hb ho9) | ((with_reducible refine zW (N := 17) rfl ?_); refine Kd.jR9 (Kd.int .i64) _ 3 ?hg (N := 17) ?hd (xs := ([] : List Int)) (inner := []) (ok := fun _ => True) (okp := fun _ => True) ?hr ?hp (fun _ hk => hk) trivial (Below.refl _ _) (Nat.le_refl _) (by simp) ?_; (case hd => rfl); (case hg => rfl); (case hr => first | (go_simp; done) | (go_simp; rfl)); (case hp => exact (qc7.none _ _)); intro v210 w10 jx6 hb hg_ qC1; clear hg_ qC1; (first | rw [← zV3.out] at jx6 | (simp only [Int.reduceToNat] at jx6; rw [← zV3.out] at jx6)); have n0_ := q8.mk (Kd.qr8 (by (with_reducible repeat (first | apply Kd.jO | apply Kd.jP | apply Kd.zA)); exact HO0.out) (Kd.qu1 jx6) hb); have n1_ := q8.mk (Kd.qr9 (by (with_reducible repeat (first | apply Kd.jD | apply Kd.jE | apply Kd.jJ)); exact qD8.out) (Kd.qu1 jx6) hb); have n2_ := q8.mk (Kd.qr9 (by (with_reducible repeat (first | apply Kd.jD | apply Kd.jE | apply Kd.jJ)); exact qT2.out) (Kd.qu1 jx6) hb); have n3_ := q8.mk (Kd.ja5 (by (with_reducible repeat (first | apply Kd.qV | apply Kd.qW | apply Kd.jC)); exact ja7.out) (Kd.qu1 jx6) hb); have n4_ := q8.mk (Kd.ja5 (by (with_reducible repeat (first | apply Kd.qV | apply Kd.qW | apply Kd.jC)); exact jS5.out) (Kd.qu1 jx6) hb); have n5_ := q8.mk (Kd.qR8 (Kd.jH8 (Kd.jH8 (Kd.jH9 (M := fun k_ => (w.heap.size ≤ k_)) jx6 (qJ (by repeat (first | (with_reducible first | exact HB.out | apply qA | apply q9 | apply qB) | exact HB.out))) (fun k_ h_ => h_)) (Kd.qO1 (by (with_reducible repeat (first | apply Kd.qV | apply Kd.qW | apply Kd.jC)); exact ja7.out))) (Kd.qO1 (by (with_reducible repeat (first | apply Kd.qV | apply Kd.qW | apply Kd.jC)); exact jS5.out))) (qJ (by repeat (first | (with_reducible first | exact HB.out | apply qA | apply q9 | apply qB) | exact HB.out)))); have n6_ := q8.mk (jL (by repeat (first | (with_reducible first | exact HB.out | apply qA | apply q9 | apply qB) | exact HB.out)) hb); clear HO0; clear qD8; clear qT2; clear ja7; clear jS5; clear HB; have HO0 := n0_; have qD8 := n1_; have qT2 := n2_; have ja7 := n3_; have jS5 := n4_; have Ql2 := n5_; have HB := n6_; clear n0_ n1_ n2_ n3_ n4_ n5_ n6_; clear hb jx6))
 go_loopg [3, 5, 6, 7, 8] k (fun kq v3 v5 v6 v7 v8 w' => ∃ (qh2 : List (S55)) (qz1 : List Int) (jX : List Int) (qb3 : List Int) (qO : Int), v8 = .int .i64 qO ∧ q8 (qM.l0 kq l0 qh2 t200 qz1 jX qb3 qO = some r) ∧ q8 (kq ≤ k) ∧ q8 (Kd.V k55 55 w' w.heap.size (fun k_ => (P0_ k_ ∨ w.heap.size ≤ k_) ∧ some k_ ≠ (v3 : Value).ownBlock ∧ some k_ ≠ (v201 : Value).ownBlock ∧ some k_ ≠ (v5 : Value).ownBlock ∧ some k_ ≠ (v6 : Value).ownBlock ∧ some k_ ≠ (v7 : Value).ownBlock) (.slice A0 l0.length c0) l0) ∧ q8 (Kd.N k55 55 w' w.heap.size (fun k_ => (P0_ k_ ∨ w.heap.size ≤ k_) ∧ some k_ ≠ (v201 : Value).ownBlock ∧ some k_ ≠ (v5 : Value).ownBlock ∧ some k_ ≠ (v6 : Value).ownBlock ∧ some k_ ≠ (v7 : Value).ownBlock) v3 qh2) ∧ q8 (Kd.N k55 55 w' w.heap.size (fun k_ => (P0_ k_ ∨ w.heap.size ≤ k_) ∧ some k_ ≠ (v3 : Value).ownBlock ∧ some k_ ≠ (v5 : Value).ownBlock ∧ some k_ ≠ (v6 : Value).ownBlock ∧ some k_ ≠ (v7 : Value).ownBlock) v201 t200) ∧ q8 (Kd.R (Kd.int .i64) 3 w' w.heap.size (fun k_ => (w.heap.size ≤ k_) ∧ some k_ ≠ (v6 : Value).ownBlock ∧ some k_ ≠ (v7 : Value).ownBlock) v5 qz1) ∧ q8 (Kd.R (Kd.int .i64) 3 w' w.heap.size (fun k_ => (w.heap.size ≤ k_) ∧ some k_ ≠ (v5 : Value).ownBlock ∧ some k_ ≠ (v7 : Value).ownBlock) v6 jX) ∧ q8 (Kd.R (Kd.int .i64) 3 w' w.heap.size (fun k_ => (w.heap.size ≤ k_) ∧ some k_ ≠ (v5 : Value).ownBlock ∧ some k_ ≠ (v6 : Value).ownBlock) v7 qb3) ∧ q8 (Below w.heap.size w w'))
 case atStart => exact ⟨(y197), (y203), (y206), (y209), (0), (by first | rfl | (simp; done) | (simp [*]; done)), H', ⟨Nat.le_refl _⟩, ⟨by (with_reducible repeat (first | apply Kd.jO | apply Kd.jP | apply Kd.zA)); exact Kd.zN HO0.out (fun _ hk => ⟨hk.1.1.1.1.1, ⟨hk.1.1.1.1.2, ⟨hk.1.1.1.2, ⟨hk.1.1.2, ⟨hk.1.2, hk.2⟩⟩⟩⟩⟩)⟩, ⟨by (with_reducible repeat (first | apply Kd.jD | apply Kd.jE | apply Kd.jJ)); exact Kd.z8 qD8.out (fun _ hk => ⟨hk.1.1.1.1, ⟨hk.1.1.1.2, ⟨hk.1.1.2, ⟨hk.1.2, hk.2⟩⟩⟩⟩)⟩, ⟨by (with_reducible repeat (first | apply Kd.jD | apply Kd.jE | apply Kd.jJ)); exact Kd.z8 qT2.out (fun _ hk => ⟨hk.1.1.1.1, ⟨hk.1.1.1.2, ⟨hk.1.1.2, ⟨hk.1.2, hk.2⟩⟩⟩⟩)⟩, ⟨by (with_reducible repeat (first | apply Kd.qV | apply Kd.qW | apply Kd.jC)); exact Kd.jK ja7.out (fun _ hk => ⟨hk.1.1.1, ⟨hk.1.2, hk.2⟩⟩)⟩, ⟨by (with_reducible repeat (first | apply Kd.qV | apply Kd.qW | apply Kd.jC)); exact Kd.jK jS5.out (fun _ hk => ⟨hk.1.1.1, ⟨hk.1.2, hk.2⟩⟩)⟩, ⟨by (with_reducible repeat (first | apply Kd.qV | apply Kd.qW | apply Kd.jC)); exact Kd.jK Ql2.out (fun _ hk => ⟨hk.1.1.1, ⟨hk.1.2, hk.2⟩⟩)⟩, ⟨by repeat (first | (with_reducible first | exact HB.out | apply qA | apply q9 | apply qB) | exact HB.out)⟩⟩
 case round =>
  clear H'
  try clear c1
  try clear p2
  try clear c4
  obtain ⟨qh2, qz1, jX, qb3, qO, rfl, HA, HK1, qa1, qa9, qU, qc9, qe8, qd2, HB⟩ := hrel
  cases gk with
  | zero => exact absurd HA.out (by simp [qM.l0])
  | succ k1 =>
   have H := HA.out
   clear HA
   simp only [qM.l0] at H
   by_cases c12 : qO < (t200.length : Int)
   ·rw [if_pos c12] at H
    have qH0 : decide (qO < (t200.length : Int)) = true := decide_eq_true c12
    clear c12
    by_cases c13 : 0 ≤ qO
    ·rw [if_pos c13] at H
     have zT9 : decide (0 ≤ qO) = true := decide_eq_true c13
     clear c13
     replace H := Option.bind_eq_some_iff.mp H
     obtain ⟨t213, A140, H⟩ := H
     replace H : ((j6.f k1 l0 ((qD t200 qO).f2)).bind fun t215 => ((jB.f k1 qz1 ((qD t200 qO).f0)).bind fun jj6 => (qM.l1 k1 l0 qh2 t200 jj6.1 jX qb3 qO 0 jj6.2 t213 t215 ([] : List (S51))))) = some r := H
     have A14 := q8.mk A140
     clear A140
     replace H := Option.bind_eq_some_iff.mp H
     obtain ⟨t215, A150, H⟩ := H
     replace H : ((jB.f k1 qz1 ((qD t200 qO).f0)).bind fun jj6 => (qM.l1 k1 l0 qh2 t200 jj6.1 jX qb3 qO 0 jj6.2 t213 t215 ([] : List (S51)))) = some r := H
     have A15 := q8.mk A150
     clear A150
     replace H := Option.bind_eq_some_iff.mp H
     obtain ⟨⟨t218, t221⟩, A160, H⟩ := H
     replace H : (qM.l1 k1 l0 qh2 t200 t218 jX qb3 qO 0 t221 t213 t215 ([] : List (S51))) = some r := H
     have A16 := q8.mk A160
     clear A160
     have H' := q8.mk H
     clear H
     obtain ⟨Ao17, qh3, eo17⟩ := Kd.qR6 qU.out
     subst eo17
     try go_wp2
     have n0_ := q8.mk (Kd.zA qa1.out)
     have n1_ := q8.mk (Kd.jJ qa9.out)
     have n2_ := q8.mk (Kd.jJ qU.out)
     have n3_ := q8.mk (Kd.jC qc9.out)
     have n4_ := q8.mk (Kd.jC qe8.out)
     have n5_ := q8.mk (Kd.jC qd2.out)
     have n6_ := q8.mk (qB HB.out)
     clear qa1
     clear qa9
     clear qU
     clear qc9
     clear qe8
     clear qd2
     clear HB
     have qa1 := n0_
     have qa9 := n1_
     have qU := n2_
     have qc9 := n3_
     have qe8 := n4_
     have qd2 := n5_
     have HB := n6_
     clear n0_ n1_ n2_ n3_ n4_ n5_ n6_
     have zy5 : 0 ≤ (qO : Int) := of_decide_eq_true (by first | (with_reducible assumption) | assumption)
     have zy6 : qO < (t200.length : Int) := of_decide_eq_true (by first | (with_reducible assumption) | assumption)
     obtain ⟨jS, qz2, qz3, e212, jI0, jI1, jI2, ja8, zj9, zk0⟩ := qa5 (Kd.zZ qU.out).2.2 qO zy5 zy6
     cases e212
     obtain ⟨ce212, Qa7, Qa8, zy7⟩ := Kd.qH1 qU.out z55 qO zy5 (by first | exact zy6 | exact of_decide_eq_true (by first | (with_reducible assumption) | assumption) | (have e_ := (Kd.zZ qU.out).1; omega))
     obtain ⟨Qr4, Qr5, rfl, jI3, jI4⟩ := qi3 Qa8
     have jl8 := zy7 3 _ rfl
     rw [zS _ _ 3 (by omega)] at jl8
     replace jl8 := Option.some.inj (jl8.symm.trans ja8)
     injection jl8 with qm7 qz0 qm8
     rw [qm7] at jI4
     rw [qm8] at jI3
     have qj1 := q8.mk (show Kd.V k51 51 _ w.heap.size _ _ ((qD t200 qO).f3) from Kd.qS6 jI3 jI4)
     clear qm7 qz0 qm8 jI4 jI3
     clear zy7 Qa7
     have qp7 := q8.mk zk0
     have Qr6 := q8.mk zj9
     clear zk0 zj9
     replace zy5 := eq_true zy5
     replace zy6 := eq_true zy6
     have zy8 : 0 ≤ (qO : Int) := of_decide_eq_true (by first | (with_reducible assumption) | assumption)
     have zy9 : qO < (t200.length : Int) := of_decide_eq_true (by first | (with_reducible assumption) | assumption)
     obtain ⟨Ql3, A214_3, c214_3, e214, jI5, jI6, jI7, ja9, zk1, zk2⟩ := qa5 (Kd.zZ qU.out).2.2 qO zy8 zy9
     obtain rfl : jS = Ql3 := (by injection e214)
     obtain ⟨ce214, Qa9, Qb0, zz0⟩ := Kd.qH1 qU.out z55 qO zy8 (by first | exact zy9 | exact of_decide_eq_true (by first | (with_reducible assumption) | assumption) | (have e_ := (Kd.zZ qU.out).1; omega))
     obtain ⟨Qr7, Qr8, rfl, jI8, jI9⟩ := qi3 Qb0
     have jl9 := zz0 3 _ rfl
     rw [zS _ _ 3 (by omega)] at jl9
     replace jl9 := Option.some.inj (jl9.symm.trans ja9)
     injection jl9 with qm7 qz0 qm8
     rw [qm7] at jI9
     rw [qm8] at jI8
     have qj2 := q8.mk (show Kd.V k51 51 _ w.heap.size _ _ ((qD t200 qO).f3) from Kd.qS6 jI8 jI9)
     clear qm7 qz0 qm8 jI9 jI8
     clear zz0 Qa9
     have qp8 := q8.mk zk2
     have Qr9 := q8.mk zk1
     clear zk2 zk1
     replace zy8 := eq_true zy8
     replace zy9 := eq_true zy9
     have ea_ := Option.some.inj (ja8.symm.trans ja9)
     injection ea_ with ea_ en_ ec_
     subst ea_
     subst ec_
     clear en_
     refine jG7 (n := 17) (S := fun w' => w'.cell? (jS.add ((qO).toNat * 4)) = some (.int .i64 ((qD t200 qO).f0)) ∧ w'.cell? ⟨(jS.add ((qO).toNat * 4)).block, (jS.add ((qO).toNat * 4)).off + 1, none⟩ = some (.int .i64 ((qD t200 qO).f1)) ∧ w'.cell? ⟨(jS.add ((qO).toNat * 4)).block, (jS.add ((qO).toNat * 4)).off + 2, none⟩ = some (.int .i64 ((qD t200 qO).f2)) ∧ w'.cell? ⟨(jS.add ((qO).toNat * 4)).block, (jS.add ((qO).toNat * 4)).off + 3, none⟩ = some (.slice qz2 ((qD t200 qO).f3).length qz3) ∧ w'.cell? (jS.add ((qO).toNat * 4)) = some (.int .i64 ((qD t200 qO).f0)) ∧ w'.cell? ⟨(jS.add ((qO).toNat * 4)).block, (jS.add ((qO).toNat * 4)).off + 1, none⟩ = some (.int .i64 ((qD t200 qO).f1)) ∧ w'.cell? ⟨(jS.add ((qO).toNat * 4)).block, (jS.add ((qO).toNat * 4)).off + 2, none⟩ = some (.int .i64 ((qD t200 qO).f2)) ∧ w'.cell? ⟨(jS.add ((qO).toNat * 4)).block, (jS.add ((qO).toNat * 4)).off + 3, none⟩ = some (.slice qz2 ((qD t200 qO).f3).length qz3)) (ds := []) #[false, false, false, false, false, false, false, false, false, false, false, false, false, false, false, false, false] (by kernel_rfl) rfl rfl ⟨jI0, jI1, jI2, ja8, jI5, jI6, jI7, ja9⟩ (fun hHeld => ?_); refine qR7 qM.tab9 qM.Ql1 (fun HT_ HW_ => ?_)
     generalize wr.drew = w18 at qa1 qa9 qU qc9 qe8 qd2 HB qj1 qj2 qp7 qp8 jI0 jI1 jI2 ja8 jI5 jI6 jI7 ja9 hHeld ⊢
     refine qf3 (i := 0) (N := some 24) (v := ?_) (a' := ?_) #[true, false, false, false, false, false, false, false, false, false, false, false, false, false, false, false, false] rfl rfl (qb6 HT_.out (by kernel_rfl)) (fun _ _ _ h => h) (Or.inl ⟨by rfl, ?_⟩) ?_ ?_
     rotate_left
     ·intro w'
      go_simp
      with_reducible rfl
     rotate_left
     ·simp only [Act.put, List.setIfInBounds_toArray, List.set_cons_zero, List.set_cons_succ, qa2, qa3]
      rfl
     refine qf3 (i := 1) (N := some 25) (v := ?_) (a' := ?_) #[true, true, false, false, false, false, false, false, false, false, false, false, false, false, false, false, false] rfl rfl (qb6 HT_.out (by kernel_rfl)) (fun _ _ _ h => h) (Or.inl ⟨by rfl, ?_⟩) ?_ ?_
     rotate_left
     ·intro w'
      go_simp
      with_reducible rfl
     rotate_left
     ·simp only [Act.put, List.setIfInBounds_toArray, List.set_cons_zero, List.set_cons_succ, qa2, qa3]
      rfl
     refine qf3 (i := 2) (N := some 26) (v := ?_) (a' := ?_) #[true, true, true, false, false, false, false, false, false, false, false, false, false, false, false, false, false] rfl rfl (qb6 HT_.out (by kernel_rfl)) (fun _ _ _ h => h) (Or.inl ⟨by rfl, ?_⟩) ?_ ?_
     rotate_left
     ·intro w'
      go_simp
      with_reducible rfl
     rotate_left
     ·simp only [Act.put, List.setIfInBounds_toArray, List.set_cons_zero, List.set_cons_succ, qa2, qa3]
      rfl
     refine qf3 (i := 3) (N := some 27) (v := ?_) (a' := ?_) #[true, true, true, true, false, false, false, false, false, false, false, false, false, false, false, false, false] rfl rfl (qb6 HT_.out (by kernel_rfl)) (fun _ _ _ h => h) (Or.inl ⟨by rfl, ?_⟩) ?_ ?_
     rotate_left
     ·intro w'
      go_simp
      with_reducible rfl
     rotate_left
     ·simp only [Act.put, List.setIfInBounds_toArray, List.set_cons_zero, List.set_cons_succ, qa2, qa3]
      rfl
     refine qf3 (i := 4) (N := some 28) (v := ?_) (a' := ?_) #[true, true, true, true, true, false, false, false, false, false, false, false, false, false, false, false, false] rfl rfl (qb6 HT_.out (by kernel_rfl)) (fun _ _ _ h => h) (Or.inl ⟨by rfl, ?_⟩) ?_ ?_
     rotate_left
     ·intro w'
      go_simp
      with_reducible rfl
     rotate_left
     ·simp only [Act.put, List.setIfInBounds_toArray, List.set_cons_zero, List.set_cons_succ, qa2, qa3]
      rfl
     refine qf3 (i := 7) (N := some 31) (v := ?_) (a' := ?_) #[true, true, true, true, true, false, false, true, false, false, false, false, false, false, false, false, false] rfl rfl (qb6 HT_.out (by kernel_rfl)) (fun _ _ _ h => h) (Or.inl ⟨by rfl, ?_⟩) ?_ ?_
     rotate_left
     ·intro w'
      go_simp
      with_reducible rfl
     rotate_left
     ·simp only [Act.put, List.setIfInBounds_toArray, List.set_cons_zero, List.set_cons_succ, qa2, qa3]
      rfl
     refine qf3 (i := 8) (N := some 32) (v := ?_) (a' := ?_) #[true, true, true, true, true, false, false, true, true, false, false, false, false, false, false, false, false] rfl rfl (qb6 HT_.out (by kernel_rfl)) (fun _ _ _ h => h) (Or.inl ⟨by rfl, ?_⟩) ?_ ?_
     rotate_left
     ·intro w'
      go_simp
      with_reducible rfl
     rotate_left
     ·simp only [Act.put, List.setIfInBounds_toArray, List.set_cons_zero, List.set_cons_succ, qa2, qa3]
      rfl
     refine qf3 (i := 9) (N := some 33) (v := ?_) (a' := ?_) #[true, true, true, true, true, false, false, true, true, true, false, false, false, false, false, false, false] rfl rfl (qb6 HT_.out (by kernel_rfl)) (fun _ _ _ h => h) (Or.inl ⟨by rfl, ?_⟩) ?_ ?_
     rotate_left
     ·intro w'
      go_simp
      with_reducible rfl
     rotate_left
     ·simp only [Act.put, List.setIfInBounds_toArray, List.set_cons_zero, List.set_cons_succ, qa2, qa3]
      rfl
     refine qf3 (i := 10) (N := some 34) (v := ?_) (a' := ?_) #[true, true, true, true, true, false, false, true, true, true, true, false, false, false, false, false, false] rfl rfl (qb6 HT_.out (by kernel_rfl)) (fun _ _ _ h => h) (Or.inl ⟨by rfl, ?_⟩) ?_ ?_
     rotate_left
     ·intro w'
      go_simp
      with_reducible rfl
     rotate_left
     ·simp only [Act.put, List.setIfInBounds_toArray, List.set_cons_zero, List.set_cons_succ, qa2, qa3]
      rfl
     refine qf3 (i := 11) (N := some 35) (v := ?_) (a' := ?_) #[true, true, true, true, true, false, false, true, true, true, true, true, false, false, false, false, false] rfl rfl (qb6 HT_.out (by kernel_rfl)) (fun _ _ _ h => h) (Or.inl ⟨by rfl, ?_⟩) ?_ ?_
     rotate_left
     ·intro w'
      go_simp
      with_reducible rfl
     rotate_left
     ·simp only [Act.put, List.setIfInBounds_toArray, List.set_cons_zero, List.set_cons_succ, qa2, qa3]
      rfl
     refine jB0 (i := 5) (N := some 29) (v := ?_) (a' := ?_) #[true, true, true, true, true, true, false, true, true, true, true, true, false, false, false, false, false] rfl rfl (qH2 HT_.out HW_.out (by kernel_rfl)) (fun _ _ _ h => h) (Or.inl ⟨by rfl, ?_⟩) hHeld ?_ ?_
     rotate_left
     ·rintro w' ⟨s0, s1, s2, s3, s4, s5, s6, s7⟩
      go_simp
      with_reducible rfl
     rotate_left
     ·simp only [Act.put, List.setIfInBounds_toArray, List.set_cons_zero, List.set_cons_succ, qa2, qa3]
      rfl
     refine jB0 (i := 12) (N := some 36) (v := ?_) (a' := ?_) #[true, true, true, true, true, true, false, true, true, true, true, true, true, false, false, false, false] rfl rfl (qH2 HT_.out HW_.out (by kernel_rfl)) (fun _ _ _ h => h) (Or.inl ⟨by rfl, ?_⟩) hHeld ?_ ?_
     rotate_left
     ·rintro w' ⟨s0, s1, s2, s3, s4, s5, s6, s7⟩
      go_simp
      with_reducible rfl
     rotate_left
     ·simp only [Act.put, List.setIfInBounds_toArray, List.set_cons_zero, List.set_cons_succ, qa2, qa3]
      rfl
     refine Ql4 (σ := Nat) 1 #[true, true, true, true, true, true, true, true, true, true, true, true, true, true, true, true, false] (fun s_ => [(30, .int .i64 t213), (37, .int .i64 t215), (9, .pointer (some ⟨s_, 0, none⟩)), (38, .agg #[.int .i64 0, .int .i64 t213, .int .i64 t215, .slice none 0 0])]) (fun s_ w' => (w'.cell? (jS.add ((qO).toNat * 4)) = some (.int .i64 ((qD t200 qO).f0)) ∧ w'.cell? ⟨(jS.add ((qO).toNat * 4)).block, (jS.add ((qO).toNat * 4)).off + 1, none⟩ = some (.int .i64 ((qD t200 qO).f1)) ∧ w'.cell? ⟨(jS.add ((qO).toNat * 4)).block, (jS.add ((qO).toNat * 4)).off + 2, none⟩ = some (.int .i64 ((qD t200 qO).f2)) ∧ w'.cell? ⟨(jS.add ((qO).toNat * 4)).block, (jS.add ((qO).toNat * 4)).off + 3, none⟩ = some (.slice qz2 ((qD t200 qO).f3).length qz3) ∧ w'.cell? (jS.add ((qO).toNat * 4)) = some (.int .i64 ((qD t200 qO).f0)) ∧ w'.cell? ⟨(jS.add ((qO).toNat * 4)).block, (jS.add ((qO).toNat * 4)).off + 1, none⟩ = some (.int .i64 ((qD t200 qO).f1)) ∧ w'.cell? ⟨(jS.add ((qO).toNat * 4)).block, (jS.add ((qO).toNat * 4)).off + 2, none⟩ = some (.int .i64 ((qD t200 qO).f2)) ∧ w'.cell? ⟨(jS.add ((qO).toNat * 4)).block, (jS.add ((qO).toNat * 4)).off + 3, none⟩ = some (.slice qz2 ((qD t200 qO).f3).length qz3)) ∧ (Kd.V k51 51 w' w.heap.size (fun k_ => (P0_ k_ ∨ w.heap.size ≤ k_) ∧ some k_ ≠ (u3 : Value).ownBlock ∧ some k_ ≠ (.slice (some jS) t200.length qh3 : Value).ownBlock ∧ some k_ ≠ (u5 : Value).ownBlock ∧ some k_ ≠ (u6 : Value).ownBlock ∧ some k_ ≠ (u7 : Value).ownBlock ∧ k_ ≠ s_) (.slice qz2 ((qD t200 qO).f3).length qz3) ((qD t200 qO).f3)) ∧ (Kd.V k51 51 w' w.heap.size (fun k_ => (P0_ k_ ∨ w.heap.size ≤ k_) ∧ some k_ ≠ (u3 : Value).ownBlock ∧ some k_ ≠ (.slice (some jS) t200.length qh3 : Value).ownBlock ∧ some k_ ≠ (u5 : Value).ownBlock ∧ some k_ ≠ (u6 : Value).ownBlock ∧ some k_ ≠ (u7 : Value).ownBlock ∧ k_ ≠ s_) (.slice qz2 ((qD t200 qO).f3).length qz3) ((qD t200 qO).f3)) ∧ (Kd.V k55 55 w' w.heap.size (fun k_ => (P0_ k_ ∨ w.heap.size ≤ k_) ∧ some k_ ≠ (u3 : Value).ownBlock ∧ some k_ ≠ (.slice (some jS) t200.length qh3 : Value).ownBlock ∧ some k_ ≠ (u5 : Value).ownBlock ∧ some k_ ≠ (u6 : Value).ownBlock ∧ some k_ ≠ (u7 : Value).ownBlock ∧ k_ ≠ s_) (.slice A0 l0.length c0) l0) ∧ (Kd.N k55 55 w' w.heap.size (fun k_ => (P0_ k_ ∨ w.heap.size ≤ k_) ∧ some k_ ≠ (.slice (some jS) t200.length qh3 : Value).ownBlock ∧ some k_ ≠ (u5 : Value).ownBlock ∧ some k_ ≠ (u6 : Value).ownBlock ∧ some k_ ≠ (u7 : Value).ownBlock ∧ k_ ≠ s_) u3 qh2) ∧ (Kd.N k55 55 w' w.heap.size (fun k_ => (P0_ k_ ∨ w.heap.size ≤ k_) ∧ some k_ ≠ (u3 : Value).ownBlock ∧ some k_ ≠ (u5 : Value).ownBlock ∧ some k_ ≠ (u6 : Value).ownBlock ∧ some k_ ≠ (u7 : Value).ownBlock ∧ k_ ≠ s_) (.slice (some jS) t200.length qh3) t200) ∧ (Kd.R (Kd.int .i64) 3 w' w.heap.size (fun k_ => (w.heap.size ≤ k_) ∧ some k_ ≠ (u6 : Value).ownBlock ∧ some k_ ≠ (u7 : Value).ownBlock) u5 qz1) ∧ (Kd.R (Kd.int .i64) 3 w' w.heap.size (fun k_ => (w.heap.size ≤ k_) ∧ some k_ ≠ (u5 : Value).ownBlock ∧ some k_ ≠ (u7 : Value).ownBlock) u6 jX) ∧ (Kd.R (Kd.int .i64) 3 w' w.heap.size (fun k_ => (w.heap.size ≤ k_) ∧ some k_ ≠ (u5 : Value).ownBlock ∧ some k_ ≠ (u6 : Value).ownBlock) u7 qb3) ∧ (w'.heap[s_]? = some (.cells #[.int .i64 0, .int .i64 0, .int .i64 0, .slice none 0 0] 55 (0, 0))) ∧ (w.heap.size ≤ s_) ∧ (w.heap.size ≤ s_) ∧ (Below w.heap.size w w')) ?_ ?_
     rotate_left
     ·intro zz1
      refine two_ (i := 6) (j := 15) (Ni := some 30) (Nj := some 9) #[true, true, true, true, true, true, true, true, true, true, true, true, true, false, false, false, false] #[true, true, true, true, true, true, false, true, true, true, true, true, true, false, false, true, false] rfl rfl rfl rfl (zz2 HT_.out (by kernel_rfl)) (by decide) (by decide) (fun K hK => ?_) (fun K hK => ?_)
      ·skip
       refine jS6 Try.func44 (by kernel_rfl) rfl #[.slice A0 l0.length c0, .int .i64 ((qD t200 qO).f1)] (by rfl) rfl rfl (by (try simp only [List.map_toArray, List.map_cons, List.map_nil]); first | done | rfl | (simp only [List.length_drop, List.length_take]; rfl)) ?_
       with_reducible refine (j6.calls k1 _ _ l0 ((qD t200 qO).f1) t213 _ ?qu2 ?qx8 A14.out).mono ?_
       (case qu2 => repeat (first | exact (Kd.qp4 qa1.out).2.2 | (with_reducible refine Kd.qi9 ?_ _) | (with_reducible refine Kd.qj0 ?_ _) | (with_reducible refine Kd.qn5 ?_)))
       (case qx8 => exact (Kd.qp4 qa1.out).2.1)
       rintro e w' ⟨rfl, ⟨nd, rfl⟩⟩
       refine ⟨_, rfl, ?_⟩
       refine hK.out _ _ ⟨hHeld.1, hHeld.2.1, hHeld.2.2.1, hHeld.2.2.2.1, hHeld.2.2.2.2.1, hHeld.2.2.2.2.2.1, hHeld.2.2.2.2.2.2.1, hHeld.2.2.2.2.2.2.2⟩ (fun hHeld => ?_)
       clear hK K
       refine qC3 (a' := ?_) ?_ ?_
       rotate_left
       ·show Act.put _ (some 30) _ = _
        simp only [Act.put, List.setIfInBounds_toArray, List.set_cons_zero, List.set_cons_succ, qa2, qa3]
        rfl
       refine two_ (i := 13) (j := 15) (Ni := some 37) (Nj := some 9) #[true, true, true, true, true, true, true, true, true, true, true, true, true, true, false, false, false] #[true, true, true, true, true, true, true, true, true, true, true, true, true, false, false, true, false] rfl rfl rfl rfl (zz2 HT_.out (by kernel_rfl)) (by decide) (by decide) (fun K hK => ?_) (fun K hK => ?_)
       ·skip
        refine jS6 Try.func44 (by kernel_rfl) rfl #[.slice A0 l0.length c0, .int .i64 ((qD t200 qO).f2)] (by rfl) rfl rfl (by (try simp only [List.map_toArray, List.map_cons, List.map_nil]); first | done | rfl | (simp only [List.length_drop, List.length_take]; rfl)) ?_
        with_reducible refine (j6.calls k1 _ _ l0 ((qD t200 qO).f2) t215 _ ?qu2 ?qx8 A15.out).mono ?_
        (case qu2 => repeat (first | exact (Kd.qp4 qa1.out).2.2 | (with_reducible refine Kd.qi9 ?_ _) | (with_reducible refine Kd.qj0 ?_ _) | (with_reducible refine Kd.qn5 ?_)))
        (case qx8 => exact (Kd.qp4 qa1.out).2.1)
        rintro e w' ⟨rfl, ⟨nd, rfl⟩⟩
        refine ⟨_, rfl, ?_⟩
        refine hK.out _ _ ⟨hHeld.1, hHeld.2.1, hHeld.2.2.1, hHeld.2.2.2.1, hHeld.2.2.2.2.1, hHeld.2.2.2.2.2.1, hHeld.2.2.2.2.2.2.1, hHeld.2.2.2.2.2.2.2⟩ (fun hHeld => ?_)
        clear hK K
        refine qC3 (a' := ?_) ?_ ?_
        rotate_left
        ·show Act.put _ (some 37) _ = _
         simp only [Act.put, List.setIfInBounds_toArray, List.set_cons_zero, List.set_cons_succ, qa2, qa3]
         rfl
        refine qf3 (i := 14) (N := some 38) (v := ?_) (a' := ?_) #[true, true, true, true, true, true, true, true, true, true, true, true, true, true, true, false, false] rfl rfl (qb6 HT_.out (by kernel_rfl)) (fun _ _ _ h => h) (Or.inl ⟨by rfl, ?_⟩) ?_ ?_
        rotate_left
        ·intro w'
         go_simp
         with_reducible rfl
        rotate_left
        ·simp only [Act.put, List.setIfInBounds_toArray, List.set_cons_zero, List.set_cons_succ, qa2, qa3]
         rfl
        refine jR5 (i := 15) (N := some 9) #[true, true, true, true, true, true, true, true, true, true, true, true, true, true, true, true, false] rfl rfl (qP4 HT_.out (by kernel_rfl)) (by decide) (fun K hK => ?_)
        refine jq1 ?hg (N := 9) ?hd (cs := #[.int .i64 0, .int .i64 0, .int .i64 0, .slice none 0 0]) (t := 55) ?hr ?_; (case hd => rfl); (case hg => rfl); (case hr => first | (go_simp; done) | (go_simp; rfl))
        intro qH hg w19 qb0 hb
        have zz3 := (hb.cell (World.block_lt_of_cell? _ _ (hHeld.1))).trans (hHeld.1)
        have zz4 := (hb.cell (World.block_lt_of_cell? _ _ (hHeld.2.1))).trans (hHeld.2.1)
        have zz5 := (hb.cell (World.block_lt_of_cell? _ _ (hHeld.2.2.1))).trans (hHeld.2.2.1)
        have zz6 := (hb.cell (World.block_lt_of_cell? _ _ (hHeld.2.2.2.1))).trans (hHeld.2.2.2.1)
        have zz7 := (hb.cell (World.block_lt_of_cell? _ _ (hHeld.2.2.2.2.1))).trans (hHeld.2.2.2.2.1)
        have zz8 := (hb.cell (World.block_lt_of_cell? _ _ (hHeld.2.2.2.2.2.1))).trans (hHeld.2.2.2.2.2.1)
        have zz9 := (hb.cell (World.block_lt_of_cell? _ _ (hHeld.2.2.2.2.2.2.1))).trans (hHeld.2.2.2.2.2.2.1)
        have zA0 := (hb.cell (World.block_lt_of_cell? _ _ (hHeld.2.2.2.2.2.2.2))).trans (hHeld.2.2.2.2.2.2.2)
        have n0_ := q8.mk (Kd.ql5 (Kd.qi7 (by (with_reducible repeat (first | apply Kd.jO | apply Kd.jP | apply Kd.zA)); exact qa1.out) qH (Nat.le_of_eq hg.symm)) hb)
        have n1_ := q8.mk (Kd.qn7 (Kd.qs0 (by (with_reducible repeat (first | apply Kd.jD | apply Kd.jE | apply Kd.jJ)); exact qa9.out) qH (Nat.le_of_eq hg.symm)) hb)
        have n2_ := q8.mk (Kd.qn7 (Kd.qs0 (by (with_reducible repeat (first | apply Kd.jD | apply Kd.jE | apply Kd.jJ)); exact qU.out) qH (Nat.le_of_eq hg.symm)) hb)
        have n3_ := q8.mk (Kd.qg6 (by (with_reducible repeat (first | apply Kd.qV | apply Kd.qW | apply Kd.jC)); exact qc9.out) hb)
        have n4_ := q8.mk (Kd.qg6 (by (with_reducible repeat (first | apply Kd.qV | apply Kd.qW | apply Kd.jC)); exact qe8.out) hb)
        have n5_ := q8.mk (Kd.qg6 (by (with_reducible repeat (first | apply Kd.qV | apply Kd.qW | apply Kd.jC)); exact qd2.out) hb)
        have n6_ := q8.mk (Kd.ql5 (Kd.qi7 (by (with_reducible repeat (first | apply Kd.jO | apply Kd.jP | apply Kd.zA)); exact qj1.out) qH (Nat.le_of_eq hg.symm)) hb)
        have n7_ := q8.mk (Kd.ql5 (Kd.qi7 (by (with_reducible repeat (first | apply Kd.jO | apply Kd.jP | apply Kd.zA)); exact qj2.out) qH (Nat.le_of_eq hg.symm)) hb)
        have n8_ := q8.mk (Kd.qn8 (by repeat (first | (with_reducible exact qp7.out) | (with_reducible refine Kd.qi9 ?_ _) | (with_reducible refine Kd.qj0 ?_ _) | (with_reducible refine Kd.qn5 ?_) | exact qp7.out)) hb)
        have n9_ := q8.mk (Kd.qn8 (by repeat (first | (with_reducible exact qp8.out) | (with_reducible refine Kd.qi9 ?_ _) | (with_reducible refine Kd.qj0 ?_ _) | (with_reducible refine Kd.qn5 ?_) | exact qp8.out)) hb)
        have qC6 := q8.mk (jL (by repeat (first | (with_reducible first | exact HB.out | apply qA | apply q9 | apply qB) | exact HB.out)) hb)
        have qC7 := q8.mk (qb0)
        have jb0 := q8.mk ((by rw [hg]; exact (qJ (by repeat (first | (with_reducible first | exact HB.out | apply qA | apply q9 | apply qB) | exact HB.out))) : w.heap.size ≤ qH))
        have jb1 := q8.mk ((by rw [hg]; exact (qJ (by repeat (first | (with_reducible first | exact HB.out | apply qA | apply q9 | apply qB) | exact HB.out))) : w.heap.size ≤ qH))
        clear qa1
        clear qa9
        clear qU
        clear qc9
        clear qe8
        clear qd2
        clear qj1
        clear qj2
        clear qp7
        clear qp8
        clear HB
        have qa1 := n0_
        have qa9 := n1_
        have qU := n2_
        have qc9 := n3_
        have qe8 := n4_
        have qd2 := n5_
        have qj1 := n6_
        have qj2 := n7_
        have qp7 := n8_
        have qp8 := n9_
        have HB := qC6
        have jH := qC7
        have jB1 := jb0
        have qe9 := jb1
        clear n0_ n1_ n2_ n3_ n4_ n5_ n6_ n7_ n8_ n9_ qC6 qC7 jb0 jb1
        clear hb qb0 hg
        refine hK.out _ _ ⟨zz3, zz4, zz5, zz6, zz7, zz8, zz9, zA0⟩ (fun hHeld => ?_)
        clear hK K
        refine qC3 (a' := ?_) ?_ ?_
        rotate_left
        ·show Act.put _ (some 9) _ = _
         simp only [Act.put, List.setIfInBounds_toArray, List.set_cons_zero, List.set_cons_succ, qa2, qa3]
         rfl
        exact qC3 (by simp only [qV4, Act.put, List.setIfInBounds_toArray, List.set_cons_zero, List.set_cons_succ]) (zz1 (qH) _ ⟨hHeld, (by (with_reducible repeat (first | apply Kd.jO | apply Kd.jP | apply Kd.zA)); exact Kd.zN qj1.out (fun _ hk => ⟨hk.1.1.1, ⟨hk.1.1.2.1, ⟨hk.1.2, ⟨hk.1.1.2.2.1, ⟨hk.1.1.2.2.2.1, ⟨hk.1.1.2.2.2.2, hk.2⟩⟩⟩⟩⟩⟩)), (by (with_reducible repeat (first | apply Kd.jO | apply Kd.jP | apply Kd.zA)); exact Kd.zN qj2.out (fun _ hk => ⟨hk.1.1.1, ⟨hk.1.1.2.1, ⟨hk.1.2, ⟨hk.1.1.2.2.1, ⟨hk.1.1.2.2.2.1, ⟨hk.1.1.2.2.2.2, hk.2⟩⟩⟩⟩⟩⟩)), (by (with_reducible repeat (first | apply Kd.jO | apply Kd.jP | apply Kd.zA)); exact Kd.zN qa1.out (fun _ hk => ⟨hk.1.1, ⟨hk.1.2.1, ⟨hk.1.2.2.1, ⟨hk.1.2.2.2.1, ⟨hk.1.2.2.2.2.1, ⟨hk.1.2.2.2.2.2, hk.2⟩⟩⟩⟩⟩⟩)), (by (with_reducible repeat (first | apply Kd.jD | apply Kd.jE | apply Kd.jJ)); exact Kd.z8 qa9.out (fun _ hk => ⟨hk.1.1, ⟨hk.1.2.1, ⟨hk.1.2.2.1, ⟨hk.1.2.2.2.1, ⟨hk.1.2.2.2.2, hk.2⟩⟩⟩⟩⟩)), (by (with_reducible repeat (first | apply Kd.jD | apply Kd.jE | apply Kd.jJ)); exact Kd.z8 qU.out (fun _ hk => ⟨hk.1.1, ⟨hk.1.2.1, ⟨hk.1.2.2.1, ⟨hk.1.2.2.2.1, ⟨hk.1.2.2.2.2, hk.2⟩⟩⟩⟩⟩)), (by (with_reducible repeat (first | apply Kd.qV | apply Kd.qW | apply Kd.jC)); exact qc9.out), (by (with_reducible repeat (first | apply Kd.qV | apply Kd.qW | apply Kd.jC)); exact qe8.out), (by (with_reducible repeat (first | apply Kd.qV | apply Kd.qW | apply Kd.jC)); exact qd2.out), (by (with_reducible repeat (first | refine qK ?_ _ | refine qR ?_ | refine qL ?_ _)); exact jH.out), jB1.out, qe9.out, (by repeat (first | (with_reducible first | exact HB.out | apply qA | apply q9 | apply qB | refine qI ?_ qe9.out) | exact HB.out))⟩)
       ·skip
        refine jq1 ?hg (N := 9) ?hd (cs := #[.int .i64 0, .int .i64 0, .int .i64 0, .slice none 0 0]) (t := 55) ?hr ?_; (case hd => rfl); (case hg => rfl); (case hr => first | (go_simp; done) | (go_simp; rfl))
        intro qH hg w19 qb0 hb
        have zz3 := (hb.cell (World.block_lt_of_cell? _ _ (hHeld.1))).trans (hHeld.1)
        have zz4 := (hb.cell (World.block_lt_of_cell? _ _ (hHeld.2.1))).trans (hHeld.2.1)
        have zz5 := (hb.cell (World.block_lt_of_cell? _ _ (hHeld.2.2.1))).trans (hHeld.2.2.1)
        have zz6 := (hb.cell (World.block_lt_of_cell? _ _ (hHeld.2.2.2.1))).trans (hHeld.2.2.2.1)
        have zz7 := (hb.cell (World.block_lt_of_cell? _ _ (hHeld.2.2.2.2.1))).trans (hHeld.2.2.2.2.1)
        have zz8 := (hb.cell (World.block_lt_of_cell? _ _ (hHeld.2.2.2.2.2.1))).trans (hHeld.2.2.2.2.2.1)
        have zz9 := (hb.cell (World.block_lt_of_cell? _ _ (hHeld.2.2.2.2.2.2.1))).trans (hHeld.2.2.2.2.2.2.1)
        have zA0 := (hb.cell (World.block_lt_of_cell? _ _ (hHeld.2.2.2.2.2.2.2))).trans (hHeld.2.2.2.2.2.2.2)
        have n0_ := q8.mk (Kd.ql5 (Kd.qi7 (by (with_reducible repeat (first | apply Kd.jO | apply Kd.jP | apply Kd.zA)); exact qa1.out) qH (Nat.le_of_eq hg.symm)) hb)
        have n1_ := q8.mk (Kd.qn7 (Kd.qs0 (by (with_reducible repeat (first | apply Kd.jD | apply Kd.jE | apply Kd.jJ)); exact qa9.out) qH (Nat.le_of_eq hg.symm)) hb)
        have n2_ := q8.mk (Kd.qn7 (Kd.qs0 (by (with_reducible repeat (first | apply Kd.jD | apply Kd.jE | apply Kd.jJ)); exact qU.out) qH (Nat.le_of_eq hg.symm)) hb)
        have n3_ := q8.mk (Kd.qg6 (by (with_reducible repeat (first | apply Kd.qV | apply Kd.qW | apply Kd.jC)); exact qc9.out) hb)
        have n4_ := q8.mk (Kd.qg6 (by (with_reducible repeat (first | apply Kd.qV | apply Kd.qW | apply Kd.jC)); exact qe8.out) hb)
        have n5_ := q8.mk (Kd.qg6 (by (with_reducible repeat (first | apply Kd.qV | apply Kd.qW | apply Kd.jC)); exact qd2.out) hb)
        have n6_ := q8.mk (Kd.ql5 (Kd.qi7 (by (with_reducible repeat (first | apply Kd.jO | apply Kd.jP | apply Kd.zA)); exact qj1.out) qH (Nat.le_of_eq hg.symm)) hb)
        have n7_ := q8.mk (Kd.ql5 (Kd.qi7 (by (with_reducible repeat (first | apply Kd.jO | apply Kd.jP | apply Kd.zA)); exact qj2.out) qH (Nat.le_of_eq hg.symm)) hb)
        have n8_ := q8.mk (Kd.qn8 (by repeat (first | (with_reducible exact qp7.out) | (with_reducible refine Kd.qi9 ?_ _) | (with_reducible refine Kd.qj0 ?_ _) | (with_reducible refine Kd.qn5 ?_) | exact qp7.out)) hb)
        have n9_ := q8.mk (Kd.qn8 (by repeat (first | (with_reducible exact qp8.out) | (with_reducible refine Kd.qi9 ?_ _) | (with_reducible refine Kd.qj0 ?_ _) | (with_reducible refine Kd.qn5 ?_) | exact qp8.out)) hb)
        have qC6 := q8.mk (jL (by repeat (first | (with_reducible first | exact HB.out | apply qA | apply q9 | apply qB) | exact HB.out)) hb)
        have qC7 := q8.mk (qb0)
        have jb0 := q8.mk ((by rw [hg]; exact (qJ (by repeat (first | (with_reducible first | exact HB.out | apply qA | apply q9 | apply qB) | exact HB.out))) : w.heap.size ≤ qH))
        have jb1 := q8.mk ((by rw [hg]; exact (qJ (by repeat (first | (with_reducible first | exact HB.out | apply qA | apply q9 | apply qB) | exact HB.out))) : w.heap.size ≤ qH))
        clear qa1
        clear qa9
        clear qU
        clear qc9
        clear qe8
        clear qd2
        clear qj1
        clear qj2
        clear qp7
        clear qp8
        clear HB
        have qa1 := n0_
        have qa9 := n1_
        have qU := n2_
        have qc9 := n3_
        have qe8 := n4_
        have qd2 := n5_
        have qj1 := n6_
        have qj2 := n7_
        have qp7 := n8_
        have qp8 := n9_
        have HB := qC6
        have jH := qC7
        have jB1 := jb0
        have qe9 := jb1
        clear n0_ n1_ n2_ n3_ n4_ n5_ n6_ n7_ n8_ n9_ qC6 qC7 jb0 jb1
        clear hb qb0 hg
        refine hK.out _ _ ⟨zz3, zz4, zz5, zz6, zz7, zz8, zz9, zA0⟩ (fun hHeld => ?_)
        clear hK K
        refine qC3 (a' := ?_) ?_ ?_
        rotate_left
        ·show Act.put _ (some 9) _ = _
         simp only [Act.put, List.setIfInBounds_toArray, List.set_cons_zero, List.set_cons_succ, qa2, qa3]
         rfl
        refine jR5 (i := 13) (N := some 37) #[true, true, true, true, true, true, true, true, true, true, true, true, true, true, false, true, false] rfl rfl (qP4 HT_.out (by kernel_rfl)) (by decide) (fun K hK => ?_)
        refine jS6 Try.func44 (by kernel_rfl) rfl #[.slice A0 l0.length c0, .int .i64 ((qD t200 qO).f2)] (by rfl) rfl rfl (by (try simp only [List.map_toArray, List.map_cons, List.map_nil]); first | done | rfl | (simp only [List.length_drop, List.length_take]; rfl)) ?_
        with_reducible refine (j6.calls k1 _ _ l0 ((qD t200 qO).f2) t215 _ ?qu2 ?qx8 A15.out).mono ?_
        (case qu2 => repeat (first | exact (Kd.qp4 qa1.out).2.2 | (with_reducible refine Kd.qi9 ?_ _) | (with_reducible refine Kd.qj0 ?_ _) | (with_reducible refine Kd.qn5 ?_)))
        (case qx8 => exact (Kd.qp4 qa1.out).2.1)
        rintro e w' ⟨rfl, ⟨nd, rfl⟩⟩
        refine ⟨_, rfl, ?_⟩
        refine hK.out _ _ ⟨hHeld.1, hHeld.2.1, hHeld.2.2.1, hHeld.2.2.2.1, hHeld.2.2.2.2.1, hHeld.2.2.2.2.2.1, hHeld.2.2.2.2.2.2.1, hHeld.2.2.2.2.2.2.2⟩ (fun hHeld => ?_)
        clear hK K
        refine qC3 (a' := ?_) ?_ ?_
        rotate_left
        ·show Act.put _ (some 37) _ = _
         simp only [Act.put, List.setIfInBounds_toArray, List.set_cons_zero, List.set_cons_succ, qa2, qa3]
         rfl
        refine qf3 (i := 14) (N := some 38) (v := ?_) (a' := ?_) #[true, true, true, true, true, true, true, true, true, true, true, true, true, true, true, true, false] rfl rfl (qb6 HT_.out (by kernel_rfl)) (fun _ _ _ h => h) (Or.inl ⟨by rfl, ?_⟩) ?_ ?_
        rotate_left
        ·intro w'
         go_simp
         with_reducible rfl
        rotate_left
        ·simp only [Act.put, List.setIfInBounds_toArray, List.set_cons_zero, List.set_cons_succ, qa2, qa3]
         rfl
        exact qC3 (by simp only [qV4, Act.put, List.setIfInBounds_toArray, List.set_cons_zero, List.set_cons_succ]) (zz1 (qH) _ ⟨hHeld, (by (with_reducible repeat (first | apply Kd.jO | apply Kd.jP | apply Kd.zA)); exact Kd.zN qj1.out (fun _ hk => ⟨hk.1.1.1, ⟨hk.1.1.2.1, ⟨hk.1.2, ⟨hk.1.1.2.2.1, ⟨hk.1.1.2.2.2.1, ⟨hk.1.1.2.2.2.2, hk.2⟩⟩⟩⟩⟩⟩)), (by (with_reducible repeat (first | apply Kd.jO | apply Kd.jP | apply Kd.zA)); exact Kd.zN qj2.out (fun _ hk => ⟨hk.1.1.1, ⟨hk.1.1.2.1, ⟨hk.1.2, ⟨hk.1.1.2.2.1, ⟨hk.1.1.2.2.2.1, ⟨hk.1.1.2.2.2.2, hk.2⟩⟩⟩⟩⟩⟩)), (by (with_reducible repeat (first | apply Kd.jO | apply Kd.jP | apply Kd.zA)); exact Kd.zN qa1.out (fun _ hk => ⟨hk.1.1, ⟨hk.1.2.1, ⟨hk.1.2.2.1, ⟨hk.1.2.2.2.1, ⟨hk.1.2.2.2.2.1, ⟨hk.1.2.2.2.2.2, hk.2⟩⟩⟩⟩⟩⟩)), (by (with_reducible repeat (first | apply Kd.jD | apply Kd.jE | apply Kd.jJ)); exact Kd.z8 qa9.out (fun _ hk => ⟨hk.1.1, ⟨hk.1.2.1, ⟨hk.1.2.2.1, ⟨hk.1.2.2.2.1, ⟨hk.1.2.2.2.2, hk.2⟩⟩⟩⟩⟩)), (by (with_reducible repeat (first | apply Kd.jD | apply Kd.jE | apply Kd.jJ)); exact Kd.z8 qU.out (fun _ hk => ⟨hk.1.1, ⟨hk.1.2.1, ⟨hk.1.2.2.1, ⟨hk.1.2.2.2.1, ⟨hk.1.2.2.2.2, hk.2⟩⟩⟩⟩⟩)), (by (with_reducible repeat (first | apply Kd.qV | apply Kd.qW | apply Kd.jC)); exact qc9.out), (by (with_reducible repeat (first | apply Kd.qV | apply Kd.qW | apply Kd.jC)); exact qe8.out), (by (with_reducible repeat (first | apply Kd.qV | apply Kd.qW | apply Kd.jC)); exact qd2.out), (by (with_reducible repeat (first | refine qK ?_ _ | refine qR ?_ | refine qL ?_ _)); exact jH.out), jB1.out, qe9.out, (by repeat (first | (with_reducible first | exact HB.out | apply qA | apply q9 | apply qB | refine qI ?_ qe9.out) | exact HB.out))⟩)
      ·skip
       refine jq1 ?hg (N := 9) ?hd (cs := #[.int .i64 0, .int .i64 0, .int .i64 0, .slice none 0 0]) (t := 55) ?hr ?_; (case hd => rfl); (case hg => rfl); (case hr => first | (go_simp; done) | (go_simp; rfl))
       intro qH hg w19 qb0 hb
       have zz3 := (hb.cell (World.block_lt_of_cell? _ _ (hHeld.1))).trans (hHeld.1)
       have zz4 := (hb.cell (World.block_lt_of_cell? _ _ (hHeld.2.1))).trans (hHeld.2.1)
       have zz5 := (hb.cell (World.block_lt_of_cell? _ _ (hHeld.2.2.1))).trans (hHeld.2.2.1)
       have zz6 := (hb.cell (World.block_lt_of_cell? _ _ (hHeld.2.2.2.1))).trans (hHeld.2.2.2.1)
       have zz7 := (hb.cell (World.block_lt_of_cell? _ _ (hHeld.2.2.2.2.1))).trans (hHeld.2.2.2.2.1)
       have zz8 := (hb.cell (World.block_lt_of_cell? _ _ (hHeld.2.2.2.2.2.1))).trans (hHeld.2.2.2.2.2.1)
       have zz9 := (hb.cell (World.block_lt_of_cell? _ _ (hHeld.2.2.2.2.2.2.1))).trans (hHeld.2.2.2.2.2.2.1)
       have zA0 := (hb.cell (World.block_lt_of_cell? _ _ (hHeld.2.2.2.2.2.2.2))).trans (hHeld.2.2.2.2.2.2.2)
       have n0_ := q8.mk (Kd.ql5 (Kd.qi7 (by (with_reducible repeat (first | apply Kd.jO | apply Kd.jP | apply Kd.zA)); exact qa1.out) qH (Nat.le_of_eq hg.symm)) hb)
       have n1_ := q8.mk (Kd.qn7 (Kd.qs0 (by (with_reducible repeat (first | apply Kd.jD | apply Kd.jE | apply Kd.jJ)); exact qa9.out) qH (Nat.le_of_eq hg.symm)) hb)
       have n2_ := q8.mk (Kd.qn7 (Kd.qs0 (by (with_reducible repeat (first | apply Kd.jD | apply Kd.jE | apply Kd.jJ)); exact qU.out) qH (Nat.le_of_eq hg.symm)) hb)
       have n3_ := q8.mk (Kd.qg6 (by (with_reducible repeat (first | apply Kd.qV | apply Kd.qW | apply Kd.jC)); exact qc9.out) hb)
       have n4_ := q8.mk (Kd.qg6 (by (with_reducible repeat (first | apply Kd.qV | apply Kd.qW | apply Kd.jC)); exact qe8.out) hb)
       have n5_ := q8.mk (Kd.qg6 (by (with_reducible repeat (first | apply Kd.qV | apply Kd.qW | apply Kd.jC)); exact qd2.out) hb)
       have n6_ := q8.mk (Kd.ql5 (Kd.qi7 (by (with_reducible repeat (first | apply Kd.jO | apply Kd.jP | apply Kd.zA)); exact qj1.out) qH (Nat.le_of_eq hg.symm)) hb)
       have n7_ := q8.mk (Kd.ql5 (Kd.qi7 (by (with_reducible repeat (first | apply Kd.jO | apply Kd.jP | apply Kd.zA)); exact qj2.out) qH (Nat.le_of_eq hg.symm)) hb)
       have n8_ := q8.mk (Kd.qn8 (by repeat (first | (with_reducible exact qp7.out) | (with_reducible refine Kd.qi9 ?_ _) | (with_reducible refine Kd.qj0 ?_ _) | (with_reducible refine Kd.qn5 ?_) | exact qp7.out)) hb)
       have n9_ := q8.mk (Kd.qn8 (by repeat (first | (with_reducible exact qp8.out) | (with_reducible refine Kd.qi9 ?_ _) | (with_reducible refine Kd.qj0 ?_ _) | (with_reducible refine Kd.qn5 ?_) | exact qp8.out)) hb)
       have qC6 := q8.mk (jL (by repeat (first | (with_reducible first | exact HB.out | apply qA | apply q9 | apply qB) | exact HB.out)) hb)
       have qC7 := q8.mk (qb0)
       have jb0 := q8.mk ((by rw [hg]; exact (qJ (by repeat (first | (with_reducible first | exact HB.out | apply qA | apply q9 | apply qB) | exact HB.out))) : w.heap.size ≤ qH))
       have jb1 := q8.mk ((by rw [hg]; exact (qJ (by repeat (first | (with_reducible first | exact HB.out | apply qA | apply q9 | apply qB) | exact HB.out))) : w.heap.size ≤ qH))
       clear qa1
       clear qa9
       clear qU
       clear qc9
       clear qe8
       clear qd2
       clear qj1
       clear qj2
       clear qp7
       clear qp8
       clear HB
       have qa1 := n0_
       have qa9 := n1_
       have qU := n2_
       have qc9 := n3_
       have qe8 := n4_
       have qd2 := n5_
       have qj1 := n6_
       have qj2 := n7_
       have qp7 := n8_
       have qp8 := n9_
       have HB := qC6
       have jH := qC7
       have jB1 := jb0
       have qe9 := jb1
       clear n0_ n1_ n2_ n3_ n4_ n5_ n6_ n7_ n8_ n9_ qC6 qC7 jb0 jb1
       clear hb qb0 hg
       refine hK.out _ _ ⟨zz3, zz4, zz5, zz6, zz7, zz8, zz9, zA0⟩ (fun hHeld => ?_)
       clear hK K
       refine qC3 (a' := ?_) ?_ ?_
       rotate_left
       ·show Act.put _ (some 9) _ = _
        simp only [Act.put, List.setIfInBounds_toArray, List.set_cons_zero, List.set_cons_succ, qa2, qa3]
        rfl
       refine jR5 (i := 6) (N := some 30) #[true, true, true, true, true, true, true, true, true, true, true, true, true, false, false, true, false] rfl rfl (qP4 HT_.out (by kernel_rfl)) (by decide) (fun K hK => ?_)
       refine jS6 Try.func44 (by kernel_rfl) rfl #[.slice A0 l0.length c0, .int .i64 ((qD t200 qO).f1)] (by rfl) rfl rfl (by (try simp only [List.map_toArray, List.map_cons, List.map_nil]); first | done | rfl | (simp only [List.length_drop, List.length_take]; rfl)) ?_
       with_reducible refine (j6.calls k1 _ _ l0 ((qD t200 qO).f1) t213 _ ?qu2 ?qx8 A14.out).mono ?_
       (case qu2 => repeat (first | exact (Kd.qp4 qa1.out).2.2 | (with_reducible refine Kd.qi9 ?_ _) | (with_reducible refine Kd.qj0 ?_ _) | (with_reducible refine Kd.qn5 ?_)))
       (case qx8 => exact (Kd.qp4 qa1.out).2.1)
       rintro e w' ⟨rfl, ⟨nd, rfl⟩⟩
       refine ⟨_, rfl, ?_⟩
       refine hK.out _ _ ⟨hHeld.1, hHeld.2.1, hHeld.2.2.1, hHeld.2.2.2.1, hHeld.2.2.2.2.1, hHeld.2.2.2.2.2.1, hHeld.2.2.2.2.2.2.1, hHeld.2.2.2.2.2.2.2⟩ (fun hHeld => ?_)
       clear hK K
       refine qC3 (a' := ?_) ?_ ?_
       rotate_left
       ·show Act.put _ (some 30) _ = _
        simp only [Act.put, List.setIfInBounds_toArray, List.set_cons_zero, List.set_cons_succ, qa2, qa3]
        rfl
       refine jR5 (i := 13) (N := some 37) #[true, true, true, true, true, true, true, true, true, true, true, true, true, true, false, true, false] rfl rfl (qP4 HT_.out (by kernel_rfl)) (by decide) (fun K hK => ?_)
       refine jS6 Try.func44 (by kernel_rfl) rfl #[.slice A0 l0.length c0, .int .i64 ((qD t200 qO).f2)] (by rfl) rfl rfl (by (try simp only [List.map_toArray, List.map_cons, List.map_nil]); first | done | rfl | (simp only [List.length_drop, List.length_take]; rfl)) ?_
       with_reducible refine (j6.calls k1 _ _ l0 ((qD t200 qO).f2) t215 _ ?qu2 ?qx8 A15.out).mono ?_
       (case qu2 => repeat (first | exact (Kd.qp4 qa1.out).2.2 | (with_reducible refine Kd.qi9 ?_ _) | (with_reducible refine Kd.qj0 ?_ _) | (with_reducible refine Kd.qn5 ?_)))
       (case qx8 => exact (Kd.qp4 qa1.out).2.1)
       rintro e w' ⟨rfl, ⟨nd, rfl⟩⟩
       refine ⟨_, rfl, ?_⟩
       refine hK.out _ _ ⟨hHeld.1, hHeld.2.1, hHeld.2.2.1, hHeld.2.2.2.1, hHeld.2.2.2.2.1, hHeld.2.2.2.2.2.1, hHeld.2.2.2.2.2.2.1, hHeld.2.2.2.2.2.2.2⟩ (fun hHeld => ?_)
       clear hK K
       refine qC3 (a' := ?_) ?_ ?_
       rotate_left
       ·show Act.put _ (some 37) _ = _
        simp only [Act.put, List.setIfInBounds_toArray, List.set_cons_zero, List.set_cons_succ, qa2, qa3]
        rfl
       refine qf3 (i := 14) (N := some 38) (v := ?_) (a' := ?_) #[true, true, true, true, true, true, true, true, true, true, true, true, true, true, true, true, false] rfl rfl (qb6 HT_.out (by kernel_rfl)) (fun _ _ _ h => h) (Or.inl ⟨by rfl, ?_⟩) ?_ ?_
       rotate_left
       ·intro w'
        go_simp
        with_reducible rfl
       rotate_left
       ·simp only [Act.put, List.setIfInBounds_toArray, List.set_cons_zero, List.set_cons_succ, qa2, qa3]
        rfl
       exact qC3 (by simp only [qV4, Act.put, List.setIfInBounds_toArray, List.set_cons_zero, List.set_cons_succ]) (zz1 (qH) _ ⟨hHeld, (by (with_reducible repeat (first | apply Kd.jO | apply Kd.jP | apply Kd.zA)); exact Kd.zN qj1.out (fun _ hk => ⟨hk.1.1.1, ⟨hk.1.1.2.1, ⟨hk.1.2, ⟨hk.1.1.2.2.1, ⟨hk.1.1.2.2.2.1, ⟨hk.1.1.2.2.2.2, hk.2⟩⟩⟩⟩⟩⟩)), (by (with_reducible repeat (first | apply Kd.jO | apply Kd.jP | apply Kd.zA)); exact Kd.zN qj2.out (fun _ hk => ⟨hk.1.1.1, ⟨hk.1.1.2.1, ⟨hk.1.2, ⟨hk.1.1.2.2.1, ⟨hk.1.1.2.2.2.1, ⟨hk.1.1.2.2.2.2, hk.2⟩⟩⟩⟩⟩⟩)), (by (with_reducible repeat (first | apply Kd.jO | apply Kd.jP | apply Kd.zA)); exact Kd.zN qa1.out (fun _ hk => ⟨hk.1.1, ⟨hk.1.2.1, ⟨hk.1.2.2.1, ⟨hk.1.2.2.2.1, ⟨hk.1.2.2.2.2.1, ⟨hk.1.2.2.2.2.2, hk.2⟩⟩⟩⟩⟩⟩)), (by (with_reducible repeat (first | apply Kd.jD | apply Kd.jE | apply Kd.jJ)); exact Kd.z8 qa9.out (fun _ hk => ⟨hk.1.1, ⟨hk.1.2.1, ⟨hk.1.2.2.1, ⟨hk.1.2.2.2.1, ⟨hk.1.2.2.2.2, hk.2⟩⟩⟩⟩⟩)), (by (with_reducible repeat (first | apply Kd.jD | apply Kd.jE | apply Kd.jJ)); exact Kd.z8 qU.out (fun _ hk => ⟨hk.1.1, ⟨hk.1.2.1, ⟨hk.1.2.2.1, ⟨hk.1.2.2.2.1, ⟨hk.1.2.2.2.2, hk.2⟩⟩⟩⟩⟩)), (by (with_reducible repeat (first | apply Kd.qV | apply Kd.qW | apply Kd.jC)); exact qc9.out), (by (with_reducible repeat (first | apply Kd.qV | apply Kd.qW | apply Kd.jC)); exact qe8.out), (by (with_reducible repeat (first | apply Kd.qV | apply Kd.qW | apply Kd.jC)); exact qd2.out), (by (with_reducible repeat (first | refine qK ?_ _ | refine qR ?_ | refine qL ?_ _)); exact jH.out), jB1.out, qe9.out, (by repeat (first | (with_reducible first | exact HB.out | apply qA | apply q9 | apply qB | refine qI ?_ qe9.out) | exact HB.out))⟩)
     rintro qH w20 ⟨hS_, h0_, h1_, h2_, h3_, h4_, h5_, h6_, h7_, h8_, h9_, h10_, h11_⟩
     have n0_ : q8 (Kd.V k51 51 w20 w.heap.size (fun k_ => (P0_ k_ ∨ w.heap.size ≤ k_) ∧ some k_ ≠ (u3 : Value).ownBlock ∧ some k_ ≠ (.slice (some jS) t200.length qh3 : Value).ownBlock ∧ some k_ ≠ (u5 : Value).ownBlock ∧ some k_ ≠ (u6 : Value).ownBlock ∧ some k_ ≠ (u7 : Value).ownBlock ∧ k_ ≠ qH) (.slice qz2 ((qD t200 qO).f3).length qz3) ((qD t200 qO).f3)) := ⟨h0_⟩
     have n1_ : q8 (Kd.V k51 51 w20 w.heap.size (fun k_ => (P0_ k_ ∨ w.heap.size ≤ k_) ∧ some k_ ≠ (u3 : Value).ownBlock ∧ some k_ ≠ (.slice (some jS) t200.length qh3 : Value).ownBlock ∧ some k_ ≠ (u5 : Value).ownBlock ∧ some k_ ≠ (u6 : Value).ownBlock ∧ some k_ ≠ (u7 : Value).ownBlock ∧ k_ ≠ qH) (.slice qz2 ((qD t200 qO).f3).length qz3) ((qD t200 qO).f3)) := ⟨h1_⟩
     have n2_ : q8 (Kd.V k55 55 w20 w.heap.size (fun k_ => (P0_ k_ ∨ w.heap.size ≤ k_) ∧ some k_ ≠ (u3 : Value).ownBlock ∧ some k_ ≠ (.slice (some jS) t200.length qh3 : Value).ownBlock ∧ some k_ ≠ (u5 : Value).ownBlock ∧ some k_ ≠ (u6 : Value).ownBlock ∧ some k_ ≠ (u7 : Value).ownBlock ∧ k_ ≠ qH) (.slice A0 l0.length c0) l0) := ⟨h2_⟩
     have n3_ : q8 (Kd.N k55 55 w20 w.heap.size (fun k_ => (P0_ k_ ∨ w.heap.size ≤ k_) ∧ some k_ ≠ (.slice (some jS) t200.length qh3 : Value).ownBlock ∧ some k_ ≠ (u5 : Value).ownBlock ∧ some k_ ≠ (u6 : Value).ownBlock ∧ some k_ ≠ (u7 : Value).ownBlock ∧ k_ ≠ qH) u3 qh2) := ⟨h3_⟩
     have n4_ : q8 (Kd.N k55 55 w20 w.heap.size (fun k_ => (P0_ k_ ∨ w.heap.size ≤ k_) ∧ some k_ ≠ (u3 : Value).ownBlock ∧ some k_ ≠ (u5 : Value).ownBlock ∧ some k_ ≠ (u6 : Value).ownBlock ∧ some k_ ≠ (u7 : Value).ownBlock ∧ k_ ≠ qH) (.slice (some jS) t200.length qh3) t200) := ⟨h4_⟩
     have n5_ : q8 (Kd.R (Kd.int .i64) 3 w20 w.heap.size (fun k_ => (w.heap.size ≤ k_) ∧ some k_ ≠ (u6 : Value).ownBlock ∧ some k_ ≠ (u7 : Value).ownBlock) u5 qz1) := ⟨h5_⟩
     have n6_ : q8 (Kd.R (Kd.int .i64) 3 w20 w.heap.size (fun k_ => (w.heap.size ≤ k_) ∧ some k_ ≠ (u5 : Value).ownBlock ∧ some k_ ≠ (u7 : Value).ownBlock) u6 jX) := ⟨h6_⟩
     have n7_ : q8 (Kd.R (Kd.int .i64) 3 w20 w.heap.size (fun k_ => (w.heap.size ≤ k_) ∧ some k_ ≠ (u5 : Value).ownBlock ∧ some k_ ≠ (u6 : Value).ownBlock) u7 qb3) := ⟨h7_⟩
     have n8_ : q8 (w20.heap[qH]? = some (.cells #[.int .i64 0, .int .i64 0, .int .i64 0, .slice none 0 0] 55 (0, 0))) := ⟨h8_⟩
     have n9_ : q8 (w.heap.size ≤ qH) := ⟨h9_⟩
     have qC6 : q8 (w.heap.size ≤ qH) := ⟨h10_⟩
     have qC7 : q8 (Below w.heap.size w w20) := ⟨h11_⟩
     clear qa1
     clear qa9
     clear qU
     clear qc9
     clear qe8
     clear qd2
     clear HB
     clear h0_ h1_ h2_ h3_ h4_ h5_ h6_ h7_ h8_ h9_ h10_ h11_
     have qj1 := n0_
     have qj2 := n1_
     have qa1 := n2_
     have qa9 := n3_
     have qU := n4_
     have qc9 := n5_
     have qe8 := n6_
     have qd2 := n7_
     have jH := n8_
     have jB1 := n9_
     have qe9 := qC6
     have HB := qC7
     clear n0_ n1_ n2_ n3_ n4_ n5_ n6_ n7_ n8_ n9_ qC6 qC7
     have hHeld : w20.cell? (jS.add ((qO).toNat * 4)) = some (.int .i64 ((qD t200 qO).f0)) ∧ w20.cell? ⟨(jS.add ((qO).toNat * 4)).block, (jS.add ((qO).toNat * 4)).off + 1, none⟩ = some (.int .i64 ((qD t200 qO).f1)) ∧ w20.cell? ⟨(jS.add ((qO).toNat * 4)).block, (jS.add ((qO).toNat * 4)).off + 2, none⟩ = some (.int .i64 ((qD t200 qO).f2)) ∧ w20.cell? ⟨(jS.add ((qO).toNat * 4)).block, (jS.add ((qO).toNat * 4)).off + 3, none⟩ = some (.slice qz2 ((qD t200 qO).f3).length qz3) ∧ w20.cell? (jS.add ((qO).toNat * 4)) = some (.int .i64 ((qD t200 qO).f0)) ∧ w20.cell? ⟨(jS.add ((qO).toNat * 4)).block, (jS.add ((qO).toNat * 4)).off + 1, none⟩ = some (.int .i64 ((qD t200 qO).f1)) ∧ w20.cell? ⟨(jS.add ((qO).toNat * 4)).block, (jS.add ((qO).toNat * 4)).off + 2, none⟩ = some (.int .i64 ((qD t200 qO).f2)) ∧ w20.cell? ⟨(jS.add ((qO).toNat * 4)).block, (jS.add ((qO).toNat * 4)).off + 3, none⟩ = some (.slice qz2 ((qD t200 qO).f3).length qz3) := hS_
     refine qC3 (a' := ?_) ?_ ?_
     rotate_left
     ·simp only [qV4, Act.put, List.setIfInBounds_toArray, List.set_cons_zero, List.set_cons_succ]
      rfl
     refine jR5 (i := 16) (N := none) #[true, true, true, true, true, true, true, true, true, true, true, true, true, true, true, true, true] rfl rfl (qP4 HT_.out (by kernel_rfl)) (by decide) (fun K hK => ?_)
     have hs21 : w20.cell? ⟨qH, 0, none⟩ = some (.int .i64 0) := (qE jH.out 0).trans rfl
     have hfs21 := qC jH.out 0
     have hs22 : w20.cell? ⟨qH, 1, none⟩ = some (.int .i64 0) := (qE jH.out 1).trans rfl
     have hfs22 := qC jH.out 1
     have hs23 : w20.cell? ⟨qH, 2, none⟩ = some (.int .i64 0) := (qE jH.out 2).trans rfl
     have hfs23 := qC jH.out 2
     have hs24 : w20.cell? ⟨qH, 3, none⟩ = some (.slice none 0 0) := (qE jH.out 3).trans rfl
     have hfs24 := qC jH.out 3
     refine Ql5 (w1 := ?_) (by rfl) rfl ?_ ?_
     rotate_left
     ·go_simp
      rfl
     refine hK.out _ _ ⟨((cell_far (p := ⟨qH, _, none⟩) (by first | exact Kd.qQ (Kd.qX qU.out (fun _ hk => hk.2.2.2.2.2)) | (rw [add_block]; exact Kd.qQ (Kd.qX qU.out (fun _ hk => hk.2.2.2.2.2))) | (show (Addr.add _ _).block ≠ _; rw [add_block]; exact Kd.qQ (Kd.qX qU.out (fun _ hk => hk.2.2.2.2.2))) | (dsimp only; exact Kd.qQ (Kd.qX qU.out (fun _ hk => hk.2.2.2.2.2)))) _).trans (((cell_far (p := ⟨qH, _, none⟩) (by first | exact Kd.qQ (Kd.qX qU.out (fun _ hk => hk.2.2.2.2.2)) | (rw [add_block]; exact Kd.qQ (Kd.qX qU.out (fun _ hk => hk.2.2.2.2.2))) | (show (Addr.add _ _).block ≠ _; rw [add_block]; exact Kd.qQ (Kd.qX qU.out (fun _ hk => hk.2.2.2.2.2))) | (dsimp only; exact Kd.qQ (Kd.qX qU.out (fun _ hk => hk.2.2.2.2.2)))) _).trans (((cell_far (p := ⟨qH, _, none⟩) (by first | exact Kd.qQ (Kd.qX qU.out (fun _ hk => hk.2.2.2.2.2)) | (rw [add_block]; exact Kd.qQ (Kd.qX qU.out (fun _ hk => hk.2.2.2.2.2))) | (show (Addr.add _ _).block ≠ _; rw [add_block]; exact Kd.qQ (Kd.qX qU.out (fun _ hk => hk.2.2.2.2.2))) | (dsimp only; exact Kd.qQ (Kd.qX qU.out (fun _ hk => hk.2.2.2.2.2)))) _).trans (((cell_far (p := ⟨qH, _, none⟩) (by first | exact Kd.qQ (Kd.qX qU.out (fun _ hk => hk.2.2.2.2.2)) | (rw [add_block]; exact Kd.qQ (Kd.qX qU.out (fun _ hk => hk.2.2.2.2.2))) | (show (Addr.add _ _).block ≠ _; rw [add_block]; exact Kd.qQ (Kd.qX qU.out (fun _ hk => hk.2.2.2.2.2))) | (dsimp only; exact Kd.qQ (Kd.qX qU.out (fun _ hk => hk.2.2.2.2.2)))) _).trans (hHeld.1)))))))), ((cell_far (p := ⟨qH, _, none⟩) (by first | exact Kd.qQ (Kd.qX qU.out (fun _ hk => hk.2.2.2.2.2)) | (rw [add_block]; exact Kd.qQ (Kd.qX qU.out (fun _ hk => hk.2.2.2.2.2))) | (show (Addr.add _ _).block ≠ _; rw [add_block]; exact Kd.qQ (Kd.qX qU.out (fun _ hk => hk.2.2.2.2.2))) | (dsimp only; exact Kd.qQ (Kd.qX qU.out (fun _ hk => hk.2.2.2.2.2)))) _).trans (((cell_far (p := ⟨qH, _, none⟩) (by first | exact Kd.qQ (Kd.qX qU.out (fun _ hk => hk.2.2.2.2.2)) | (rw [add_block]; exact Kd.qQ (Kd.qX qU.out (fun _ hk => hk.2.2.2.2.2))) | (show (Addr.add _ _).block ≠ _; rw [add_block]; exact Kd.qQ (Kd.qX qU.out (fun _ hk => hk.2.2.2.2.2))) | (dsimp only; exact Kd.qQ (Kd.qX qU.out (fun _ hk => hk.2.2.2.2.2)))) _).trans (((cell_far (p := ⟨qH, _, none⟩) (by first | exact Kd.qQ (Kd.qX qU.out (fun _ hk => hk.2.2.2.2.2)) | (rw [add_block]; exact Kd.qQ (Kd.qX qU.out (fun _ hk => hk.2.2.2.2.2))) | (show (Addr.add _ _).block ≠ _; rw [add_block]; exact Kd.qQ (Kd.qX qU.out (fun _ hk => hk.2.2.2.2.2))) | (dsimp only; exact Kd.qQ (Kd.qX qU.out (fun _ hk => hk.2.2.2.2.2)))) _).trans (((cell_far (p := ⟨qH, _, none⟩) (by first | exact Kd.qQ (Kd.qX qU.out (fun _ hk => hk.2.2.2.2.2)) | (rw [add_block]; exact Kd.qQ (Kd.qX qU.out (fun _ hk => hk.2.2.2.2.2))) | (show (Addr.add _ _).block ≠ _; rw [add_block]; exact Kd.qQ (Kd.qX qU.out (fun _ hk => hk.2.2.2.2.2))) | (dsimp only; exact Kd.qQ (Kd.qX qU.out (fun _ hk => hk.2.2.2.2.2)))) _).trans (hHeld.2.1)))))))), ((cell_far (p := ⟨qH, _, none⟩) (by first | exact Kd.qQ (Kd.qX qU.out (fun _ hk => hk.2.2.2.2.2)) | (rw [add_block]; exact Kd.qQ (Kd.qX qU.out (fun _ hk => hk.2.2.2.2.2))) | (show (Addr.add _ _).block ≠ _; rw [add_block]; exact Kd.qQ (Kd.qX qU.out (fun _ hk => hk.2.2.2.2.2))) | (dsimp only; exact Kd.qQ (Kd.qX qU.out (fun _ hk => hk.2.2.2.2.2)))) _).trans (((cell_far (p := ⟨qH, _, none⟩) (by first | exact Kd.qQ (Kd.qX qU.out (fun _ hk => hk.2.2.2.2.2)) | (rw [add_block]; exact Kd.qQ (Kd.qX qU.out (fun _ hk => hk.2.2.2.2.2))) | (show (Addr.add _ _).block ≠ _; rw [add_block]; exact Kd.qQ (Kd.qX qU.out (fun _ hk => hk.2.2.2.2.2))) | (dsimp only; exact Kd.qQ (Kd.qX qU.out (fun _ hk => hk.2.2.2.2.2)))) _).trans (((cell_far (p := ⟨qH, _, none⟩) (by first | exact Kd.qQ (Kd.qX qU.out (fun _ hk => hk.2.2.2.2.2)) | (rw [add_block]; exact Kd.qQ (Kd.qX qU.out (fun _ hk => hk.2.2.2.2.2))) | (show (Addr.add _ _).block ≠ _; rw [add_block]; exact Kd.qQ (Kd.qX qU.out (fun _ hk => hk.2.2.2.2.2))) | (dsimp only; exact Kd.qQ (Kd.qX qU.out (fun _ hk => hk.2.2.2.2.2)))) _).trans (((cell_far (p := ⟨qH, _, none⟩) (by first | exact Kd.qQ (Kd.qX qU.out (fun _ hk => hk.2.2.2.2.2)) | (rw [add_block]; exact Kd.qQ (Kd.qX qU.out (fun _ hk => hk.2.2.2.2.2))) | (show (Addr.add _ _).block ≠ _; rw [add_block]; exact Kd.qQ (Kd.qX qU.out (fun _ hk => hk.2.2.2.2.2))) | (dsimp only; exact Kd.qQ (Kd.qX qU.out (fun _ hk => hk.2.2.2.2.2)))) _).trans (hHeld.2.2.1)))))))), ((cell_far (p := ⟨qH, _, none⟩) (by first | exact Kd.qQ (Kd.qX qU.out (fun _ hk => hk.2.2.2.2.2)) | (rw [add_block]; exact Kd.qQ (Kd.qX qU.out (fun _ hk => hk.2.2.2.2.2))) | (show (Addr.add _ _).block ≠ _; rw [add_block]; exact Kd.qQ (Kd.qX qU.out (fun _ hk => hk.2.2.2.2.2))) | (dsimp only; exact Kd.qQ (Kd.qX qU.out (fun _ hk => hk.2.2.2.2.2)))) _).trans (((cell_far (p := ⟨qH, _, none⟩) (by first | exact Kd.qQ (Kd.qX qU.out (fun _ hk => hk.2.2.2.2.2)) | (rw [add_block]; exact Kd.qQ (Kd.qX qU.out (fun _ hk => hk.2.2.2.2.2))) | (show (Addr.add _ _).block ≠ _; rw [add_block]; exact Kd.qQ (Kd.qX qU.out (fun _ hk => hk.2.2.2.2.2))) | (dsimp only; exact Kd.qQ (Kd.qX qU.out (fun _ hk => hk.2.2.2.2.2)))) _).trans (((cell_far (p := ⟨qH, _, none⟩) (by first | exact Kd.qQ (Kd.qX qU.out (fun _ hk => hk.2.2.2.2.2)) | (rw [add_block]; exact Kd.qQ (Kd.qX qU.out (fun _ hk => hk.2.2.2.2.2))) | (show (Addr.add _ _).block ≠ _; rw [add_block]; exact Kd.qQ (Kd.qX qU.out (fun _ hk => hk.2.2.2.2.2))) | (dsimp only; exact Kd.qQ (Kd.qX qU.out (fun _ hk => hk.2.2.2.2.2)))) _).trans (((cell_far (p := ⟨qH, _, none⟩) (by first | exact Kd.qQ (Kd.qX qU.out (fun _ hk => hk.2.2.2.2.2)) | (rw [add_block]; exact Kd.qQ (Kd.qX qU.out (fun _ hk => hk.2.2.2.2.2))) | (show (Addr.add _ _).block ≠ _; rw [add_block]; exact Kd.qQ (Kd.qX qU.out (fun _ hk => hk.2.2.2.2.2))) | (dsimp only; exact Kd.qQ (Kd.qX qU.out (fun _ hk => hk.2.2.2.2.2)))) _).trans (hHeld.2.2.2.1)))))))), ((cell_far (p := ⟨qH, _, none⟩) (by first | exact Kd.qQ (Kd.qX qU.out (fun _ hk => hk.2.2.2.2.2)) | (rw [add_block]; exact Kd.qQ (Kd.qX qU.out (fun _ hk => hk.2.2.2.2.2))) | (show (Addr.add _ _).block ≠ _; rw [add_block]; exact Kd.qQ (Kd.qX qU.out (fun _ hk => hk.2.2.2.2.2))) | (dsimp only; exact Kd.qQ (Kd.qX qU.out (fun _ hk => hk.2.2.2.2.2)))) _).trans (((cell_far (p := ⟨qH, _, none⟩) (by first | exact Kd.qQ (Kd.qX qU.out (fun _ hk => hk.2.2.2.2.2)) | (rw [add_block]; exact Kd.qQ (Kd.qX qU.out (fun _ hk => hk.2.2.2.2.2))) | (show (Addr.add _ _).block ≠ _; rw [add_block]; exact Kd.qQ (Kd.qX qU.out (fun _ hk => hk.2.2.2.2.2))) | (dsimp only; exact Kd.qQ (Kd.qX qU.out (fun _ hk => hk.2.2.2.2.2)))) _).trans (((cell_far (p := ⟨qH, _, none⟩) (by first | exact Kd.qQ (Kd.qX qU.out (fun _ hk => hk.2.2.2.2.2)) | (rw [add_block]; exact Kd.qQ (Kd.qX qU.out (fun _ hk => hk.2.2.2.2.2))) | (show (Addr.add _ _).block ≠ _; rw [add_block]; exact Kd.qQ (Kd.qX qU.out (fun _ hk => hk.2.2.2.2.2))) | (dsimp only; exact Kd.qQ (Kd.qX qU.out (fun _ hk => hk.2.2.2.2.2)))) _).trans (((cell_far (p := ⟨qH, _, none⟩) (by first | exact Kd.qQ (Kd.qX qU.out (fun _ hk => hk.2.2.2.2.2)) | (rw [add_block]; exact Kd.qQ (Kd.qX qU.out (fun _ hk => hk.2.2.2.2.2))) | (show (Addr.add _ _).block ≠ _; rw [add_block]; exact Kd.qQ (Kd.qX qU.out (fun _ hk => hk.2.2.2.2.2))) | (dsimp only; exact Kd.qQ (Kd.qX qU.out (fun _ hk => hk.2.2.2.2.2)))) _).trans (hHeld.2.2.2.2.1)))))))), ((cell_far (p := ⟨qH, _, none⟩) (by first | exact Kd.qQ (Kd.qX qU.out (fun _ hk => hk.2.2.2.2.2)) | (rw [add_block]; exact Kd.qQ (Kd.qX qU.out (fun _ hk => hk.2.2.2.2.2))) | (show (Addr.add _ _).block ≠ _; rw [add_block]; exact Kd.qQ (Kd.qX qU.out (fun _ hk => hk.2.2.2.2.2))) | (dsimp only; exact Kd.qQ (Kd.qX qU.out (fun _ hk => hk.2.2.2.2.2)))) _).trans (((cell_far (p := ⟨qH, _, none⟩) (by first | exact Kd.qQ (Kd.qX qU.out (fun _ hk => hk.2.2.2.2.2)) | (rw [add_block]; exact Kd.qQ (Kd.qX qU.out (fun _ hk => hk.2.2.2.2.2))) | (show (Addr.add _ _).block ≠ _; rw [add_block]; exact Kd.qQ (Kd.qX qU.out (fun _ hk => hk.2.2.2.2.2))) | (dsimp only; exact Kd.qQ (Kd.qX qU.out (fun _ hk => hk.2.2.2.2.2)))) _).trans (((cell_far (p := ⟨qH, _, none⟩) (by first | exact Kd.qQ (Kd.qX qU.out (fun _ hk => hk.2.2.2.2.2)) | (rw [add_block]; exact Kd.qQ (Kd.qX qU.out (fun _ hk => hk.2.2.2.2.2))) | (show (Addr.add _ _).block ≠ _; rw [add_block]; exact Kd.qQ (Kd.qX qU.out (fun _ hk => hk.2.2.2.2.2))) | (dsimp only; exact Kd.qQ (Kd.qX qU.out (fun _ hk => hk.2.2.2.2.2)))) _).trans (((cell_far (p := ⟨qH, _, none⟩) (by first | exact Kd.qQ (Kd.qX qU.out (fun _ hk => hk.2.2.2.2.2)) | (rw [add_block]; exact Kd.qQ (Kd.qX qU.out (fun _ hk => hk.2.2.2.2.2))) | (show (Addr.add _ _).block ≠ _; rw [add_block]; exact Kd.qQ (Kd.qX qU.out (fun _ hk => hk.2.2.2.2.2))) | (dsimp only; exact Kd.qQ (Kd.qX qU.out (fun _ hk => hk.2.2.2.2.2)))) _).trans (hHeld.2.2.2.2.2.1)))))))), ((cell_far (p := ⟨qH, _, none⟩) (by first | exact Kd.qQ (Kd.qX qU.out (fun _ hk => hk.2.2.2.2.2)) | (rw [add_block]; exact Kd.qQ (Kd.qX qU.out (fun _ hk => hk.2.2.2.2.2))) | (show (Addr.add _ _).block ≠ _; rw [add_block]; exact Kd.qQ (Kd.qX qU.out (fun _ hk => hk.2.2.2.2.2))) | (dsimp only; exact Kd.qQ (Kd.qX qU.out (fun _ hk => hk.2.2.2.2.2)))) _).trans (((cell_far (p := ⟨qH, _, none⟩) (by first | exact Kd.qQ (Kd.qX qU.out (fun _ hk => hk.2.2.2.2.2)) | (rw [add_block]; exact Kd.qQ (Kd.qX qU.out (fun _ hk => hk.2.2.2.2.2))) | (show (Addr.add _ _).block ≠ _; rw [add_block]; exact Kd.qQ (Kd.qX qU.out (fun _ hk => hk.2.2.2.2.2))) | (dsimp only; exact Kd.qQ (Kd.qX qU.out (fun _ hk => hk.2.2.2.2.2)))) _).trans (((cell_far (p := ⟨qH, _, none⟩) (by first | exact Kd.qQ (Kd.qX qU.out (fun _ hk => hk.2.2.2.2.2)) | (rw [add_block]; exact Kd.qQ (Kd.qX qU.out (fun _ hk => hk.2.2.2.2.2))) | (show (Addr.add _ _).block ≠ _; rw [add_block]; exact Kd.qQ (Kd.qX qU.out (fun _ hk => hk.2.2.2.2.2))) | (dsimp only; exact Kd.qQ (Kd.qX qU.out (fun _ hk => hk.2.2.2.2.2)))) _).trans (((cell_far (p := ⟨qH, _, none⟩) (by first | exact Kd.qQ (Kd.qX qU.out (fun _ hk => hk.2.2.2.2.2)) | (rw [add_block]; exact Kd.qQ (Kd.qX qU.out (fun _ hk => hk.2.2.2.2.2))) | (show (Addr.add _ _).block ≠ _; rw [add_block]; exact Kd.qQ (Kd.qX qU.out (fun _ hk => hk.2.2.2.2.2))) | (dsimp only; exact Kd.qQ (Kd.qX qU.out (fun _ hk => hk.2.2.2.2.2)))) _).trans (hHeld.2.2.2.2.2.2.1)))))))), ((cell_far (p := ⟨qH, _, none⟩) (by first | exact Kd.qQ (Kd.qX qU.out (fun _ hk => hk.2.2.2.2.2)) | (rw [add_block]; exact Kd.qQ (Kd.qX qU.out (fun _ hk => hk.2.2.2.2.2))) | (show (Addr.add _ _).block ≠ _; rw [add_block]; exact Kd.qQ (Kd.qX qU.out (fun _ hk => hk.2.2.2.2.2))) | (dsimp only; exact Kd.qQ (Kd.qX qU.out (fun _ hk => hk.2.2.2.2.2)))) _).trans (((cell_far (p := ⟨qH, _, none⟩) (by first | exact Kd.qQ (Kd.qX qU.out (fun _ hk => hk.2.2.2.2.2)) | (rw [add_block]; exact Kd.qQ (Kd.qX qU.out (fun _ hk => hk.2.2.2.2.2))) | (show (Addr.add _ _).block ≠ _; rw [add_block]; exact Kd.qQ (Kd.qX qU.out (fun _ hk => hk.2.2.2.2.2))) | (dsimp only; exact Kd.qQ (Kd.qX qU.out (fun _ hk => hk.2.2.2.2.2)))) _).trans (((cell_far (p := ⟨qH, _, none⟩) (by first | exact Kd.qQ (Kd.qX qU.out (fun _ hk => hk.2.2.2.2.2)) | (rw [add_block]; exact Kd.qQ (Kd.qX qU.out (fun _ hk => hk.2.2.2.2.2))) | (show (Addr.add _ _).block ≠ _; rw [add_block]; exact Kd.qQ (Kd.qX qU.out (fun _ hk => hk.2.2.2.2.2))) | (dsimp only; exact Kd.qQ (Kd.qX qU.out (fun _ hk => hk.2.2.2.2.2)))) _).trans (((cell_far (p := ⟨qH, _, none⟩) (by first | exact Kd.qQ (Kd.qX qU.out (fun _ hk => hk.2.2.2.2.2)) | (rw [add_block]; exact Kd.qQ (Kd.qX qU.out (fun _ hk => hk.2.2.2.2.2))) | (show (Addr.add _ _).block ≠ _; rw [add_block]; exact Kd.qQ (Kd.qX qU.out (fun _ hk => hk.2.2.2.2.2))) | (dsimp only; exact Kd.qQ (Kd.qX qU.out (fun _ hk => hk.2.2.2.2.2)))) _).trans (hHeld.2.2.2.2.2.2.2))))))))⟩ (fun hHeld => ?_)
     clear hK K
     refine zj2 (jl5 HT_.out (by kernel_rfl)) ?_
     have n0_ : q8 (Kd.V k55 55 ((((w20.setCell ⟨qH, 0, none⟩ (.int .i64 0)).setCell ⟨qH, 1, none⟩ (.int .i64 t213)).setCell ⟨qH, 2, none⟩ (.int .i64 t215)).setCell ⟨qH, 3, none⟩ (.slice none 0 0)) w.heap.size (fun k_ => (P0_ k_ ∨ w.heap.size ≤ k_) ∧ some k_ ≠ (u3 : Value).ownBlock ∧ some k_ ≠ (.slice (some jS) t200.length qh3 : Value).ownBlock ∧ some k_ ≠ (u5 : Value).ownBlock ∧ some k_ ≠ (u6 : Value).ownBlock ∧ some k_ ≠ (u7 : Value).ownBlock ∧ k_ ≠ qH) (.slice A0 l0.length c0) l0) := ⟨by (with_reducible repeat (first | apply Kd.jO | apply Kd.jP | apply Kd.zA)); exact Kd.zN (Kd.qf8 (p := ⟨qH, 3, none⟩) (Kd.qf8 (p := ⟨qH, 2, none⟩) (Kd.qf8 (p := ⟨qH, 1, none⟩) (Kd.qf8 (p := ⟨qH, 0, none⟩) (Kd.zN qa1.out (fun k_ hk => (⟨hk, hk.2.2.2.2.2.2⟩ : _ ∧ k_ ≠ qH))) (fun _ hk => hk.2) (.int .i64 0)) (fun _ hk => hk.2) (.int .i64 t213)) (fun _ hk => hk.2) (.int .i64 t215)) (fun _ hk => hk.2) (.slice none 0 0)) (fun _ hk => ⟨hk.1.1, ⟨hk.1.2.1, ⟨hk.1.2.2.1, ⟨hk.1.2.2.2.1, ⟨hk.1.2.2.2.2.1, ⟨hk.1.2.2.2.2.2.1, hk.1.2.2.2.2.2.2⟩⟩⟩⟩⟩⟩)⟩
     have n1_ : q8 (Kd.N k55 55 ((((w20.setCell ⟨qH, 0, none⟩ (.int .i64 0)).setCell ⟨qH, 1, none⟩ (.int .i64 t213)).setCell ⟨qH, 2, none⟩ (.int .i64 t215)).setCell ⟨qH, 3, none⟩ (.slice none 0 0)) w.heap.size (fun k_ => (P0_ k_ ∨ w.heap.size ≤ k_) ∧ some k_ ≠ (.slice (some jS) t200.length qh3 : Value).ownBlock ∧ some k_ ≠ (u5 : Value).ownBlock ∧ some k_ ≠ (u6 : Value).ownBlock ∧ some k_ ≠ (u7 : Value).ownBlock ∧ k_ ≠ qH) u3 qh2) := ⟨by (with_reducible repeat (first | apply Kd.jD | apply Kd.jE | apply Kd.jJ)); exact Kd.z8 (Kd.qg7 (p := ⟨qH, 3, none⟩) (Kd.qg7 (p := ⟨qH, 2, none⟩) (Kd.qg7 (p := ⟨qH, 1, none⟩) (Kd.qg7 (p := ⟨qH, 0, none⟩) (Kd.z8 qa9.out (fun k_ hk => (⟨hk, hk.2.2.2.2.2⟩ : _ ∧ k_ ≠ qH))) (fun _ hk => hk.2) (.int .i64 0)) (fun _ hk => hk.2) (.int .i64 t213)) (fun _ hk => hk.2) (.int .i64 t215)) (fun _ hk => hk.2) (.slice none 0 0)) (fun _ hk => ⟨hk.1.1, ⟨hk.1.2.1, ⟨hk.1.2.2.1, ⟨hk.1.2.2.2.1, ⟨hk.1.2.2.2.2.1, hk.1.2.2.2.2.2⟩⟩⟩⟩⟩)⟩
     have n2_ : q8 (Kd.N k55 55 ((((w20.setCell ⟨qH, 0, none⟩ (.int .i64 0)).setCell ⟨qH, 1, none⟩ (.int .i64 t213)).setCell ⟨qH, 2, none⟩ (.int .i64 t215)).setCell ⟨qH, 3, none⟩ (.slice none 0 0)) w.heap.size (fun k_ => (P0_ k_ ∨ w.heap.size ≤ k_) ∧ some k_ ≠ (u3 : Value).ownBlock ∧ some k_ ≠ (u5 : Value).ownBlock ∧ some k_ ≠ (u6 : Value).ownBlock ∧ some k_ ≠ (u7 : Value).ownBlock ∧ k_ ≠ qH) (.slice (some jS) t200.length qh3) t200) := ⟨by (with_reducible repeat (first | apply Kd.jD | apply Kd.jE | apply Kd.jJ)); exact Kd.z8 (Kd.qg7 (p := ⟨qH, 3, none⟩) (Kd.qg7 (p := ⟨qH, 2, none⟩) (Kd.qg7 (p := ⟨qH, 1, none⟩) (Kd.qg7 (p := ⟨qH, 0, none⟩) (Kd.z8 qU.out (fun k_ hk => (⟨hk, hk.2.2.2.2.2⟩ : _ ∧ k_ ≠ qH))) (fun _ hk => hk.2) (.int .i64 0)) (fun _ hk => hk.2) (.int .i64 t213)) (fun _ hk => hk.2) (.int .i64 t215)) (fun _ hk => hk.2) (.slice none 0 0)) (fun _ hk => ⟨hk.1.1, ⟨hk.1.2.1, ⟨hk.1.2.2.1, ⟨hk.1.2.2.2.1, ⟨hk.1.2.2.2.2.1, hk.1.2.2.2.2.2⟩⟩⟩⟩⟩)⟩
     have n3_ : q8 (Kd.R (Kd.int .i64) 3 ((((w20.setCell ⟨qH, 0, none⟩ (.int .i64 0)).setCell ⟨qH, 1, none⟩ (.int .i64 t213)).setCell ⟨qH, 2, none⟩ (.int .i64 t215)).setCell ⟨qH, 3, none⟩ (.slice none 0 0)) w.heap.size (fun k_ => (w.heap.size ≤ k_) ∧ some k_ ≠ (u6 : Value).ownBlock ∧ some k_ ≠ (u7 : Value).ownBlock) u5 qz1) := ⟨by (with_reducible repeat (first | apply Kd.qV | apply Kd.qW | apply Kd.jC)); exact Kd.jK (Kd.zQ (p := ⟨qH, 3, none⟩) (Kd.zQ (p := ⟨qH, 2, none⟩) (Kd.zQ (p := ⟨qH, 1, none⟩) (Kd.zQ (p := ⟨qH, 0, none⟩) (Kd.qb7 qc9.out jH.out (by decide)) (fun _ hk => hk.2) (.int .i64 0)) (fun _ hk => hk.2) (.int .i64 t213)) (fun _ hk => hk.2) (.int .i64 t215)) (fun _ hk => hk.2) (.slice none 0 0)) (fun _ hk => ⟨hk.1.1, ⟨hk.1.2.1, hk.1.2.2⟩⟩)⟩
     have n4_ : q8 (Kd.R (Kd.int .i64) 3 ((((w20.setCell ⟨qH, 0, none⟩ (.int .i64 0)).setCell ⟨qH, 1, none⟩ (.int .i64 t213)).setCell ⟨qH, 2, none⟩ (.int .i64 t215)).setCell ⟨qH, 3, none⟩ (.slice none 0 0)) w.heap.size (fun k_ => (w.heap.size ≤ k_) ∧ some k_ ≠ (u5 : Value).ownBlock ∧ some k_ ≠ (u7 : Value).ownBlock) u6 jX) := ⟨by (with_reducible repeat (first | apply Kd.qV | apply Kd.qW | apply Kd.jC)); exact Kd.jK (Kd.zQ (p := ⟨qH, 3, none⟩) (Kd.zQ (p := ⟨qH, 2, none⟩) (Kd.zQ (p := ⟨qH, 1, none⟩) (Kd.zQ (p := ⟨qH, 0, none⟩) (Kd.qb7 qe8.out jH.out (by decide)) (fun _ hk => hk.2) (.int .i64 0)) (fun _ hk => hk.2) (.int .i64 t213)) (fun _ hk => hk.2) (.int .i64 t215)) (fun _ hk => hk.2) (.slice none 0 0)) (fun _ hk => ⟨hk.1.1, ⟨hk.1.2.1, hk.1.2.2⟩⟩)⟩
     have n5_ : q8 (Kd.R (Kd.int .i64) 3 ((((w20.setCell ⟨qH, 0, none⟩ (.int .i64 0)).setCell ⟨qH, 1, none⟩ (.int .i64 t213)).setCell ⟨qH, 2, none⟩ (.int .i64 t215)).setCell ⟨qH, 3, none⟩ (.slice none 0 0)) w.heap.size (fun k_ => (w.heap.size ≤ k_) ∧ some k_ ≠ (u5 : Value).ownBlock ∧ some k_ ≠ (u6 : Value).ownBlock) u7 qb3) := ⟨by (with_reducible repeat (first | apply Kd.qV | apply Kd.qW | apply Kd.jC)); exact Kd.jK (Kd.zQ (p := ⟨qH, 3, none⟩) (Kd.zQ (p := ⟨qH, 2, none⟩) (Kd.zQ (p := ⟨qH, 1, none⟩) (Kd.zQ (p := ⟨qH, 0, none⟩) (Kd.qb7 qd2.out jH.out (by decide)) (fun _ hk => hk.2) (.int .i64 0)) (fun _ hk => hk.2) (.int .i64 t213)) (fun _ hk => hk.2) (.int .i64 t215)) (fun _ hk => hk.2) (.slice none 0 0)) (fun _ hk => ⟨hk.1.1, ⟨hk.1.2.1, hk.1.2.2⟩⟩)⟩
     have n6_ : q8 (Kd.V k51 51 ((((w20.setCell ⟨qH, 0, none⟩ (.int .i64 0)).setCell ⟨qH, 1, none⟩ (.int .i64 t213)).setCell ⟨qH, 2, none⟩ (.int .i64 t215)).setCell ⟨qH, 3, none⟩ (.slice none 0 0)) w.heap.size (fun k_ => (P0_ k_ ∨ w.heap.size ≤ k_) ∧ some k_ ≠ (u3 : Value).ownBlock ∧ some k_ ≠ (.slice (some jS) t200.length qh3 : Value).ownBlock ∧ some k_ ≠ (u5 : Value).ownBlock ∧ some k_ ≠ (u6 : Value).ownBlock ∧ some k_ ≠ (u7 : Value).ownBlock ∧ k_ ≠ qH) (.slice qz2 ((qD t200 qO).f3).length qz3) ((qD t200 qO).f3)) := ⟨by (with_reducible repeat (first | apply Kd.jO | apply Kd.jP | apply Kd.zA)); exact Kd.zN (Kd.qf8 (p := ⟨qH, 3, none⟩) (Kd.qf8 (p := ⟨qH, 2, none⟩) (Kd.qf8 (p := ⟨qH, 1, none⟩) (Kd.qf8 (p := ⟨qH, 0, none⟩) (Kd.zN qj1.out (fun k_ hk => (⟨hk, hk.2.2.2.2.2.2⟩ : _ ∧ k_ ≠ qH))) (fun _ hk => hk.2) (.int .i64 0)) (fun _ hk => hk.2) (.int .i64 t213)) (fun _ hk => hk.2) (.int .i64 t215)) (fun _ hk => hk.2) (.slice none 0 0)) (fun _ hk => ⟨hk.1.1, ⟨hk.1.2.1, ⟨hk.1.2.2.1, ⟨hk.1.2.2.2.1, ⟨hk.1.2.2.2.2.1, ⟨hk.1.2.2.2.2.2.1, hk.1.2.2.2.2.2.2⟩⟩⟩⟩⟩⟩)⟩
     have n7_ : q8 (Kd.V k51 51 ((((w20.setCell ⟨qH, 0, none⟩ (.int .i64 0)).setCell ⟨qH, 1, none⟩ (.int .i64 t213)).setCell ⟨qH, 2, none⟩ (.int .i64 t215)).setCell ⟨qH, 3, none⟩ (.slice none 0 0)) w.heap.size (fun k_ => (P0_ k_ ∨ w.heap.size ≤ k_) ∧ some k_ ≠ (u3 : Value).ownBlock ∧ some k_ ≠ (.slice (some jS) t200.length qh3 : Value).ownBlock ∧ some k_ ≠ (u5 : Value).ownBlock ∧ some k_ ≠ (u6 : Value).ownBlock ∧ some k_ ≠ (u7 : Value).ownBlock ∧ k_ ≠ qH) (.slice qz2 ((qD t200 qO).f3).length qz3) ((qD t200 qO).f3)) := ⟨by (with_reducible repeat (first | apply Kd.jO | apply Kd.jP | apply Kd.zA)); exact Kd.zN (Kd.qf8 (p := ⟨qH, 3, none⟩) (Kd.qf8 (p := ⟨qH, 2, none⟩) (Kd.qf8 (p := ⟨qH, 1, none⟩) (Kd.qf8 (p := ⟨qH, 0, none⟩) (Kd.zN qj2.out (fun k_ hk => (⟨hk, hk.2.2.2.2.2.2⟩ : _ ∧ k_ ≠ qH))) (fun _ hk => hk.2) (.int .i64 0)) (fun _ hk => hk.2) (.int .i64 t213)) (fun _ hk => hk.2) (.int .i64 t215)) (fun _ hk => hk.2) (.slice none 0 0)) (fun _ hk => ⟨hk.1.1, ⟨hk.1.2.1, ⟨hk.1.2.2.1, ⟨hk.1.2.2.2.1, ⟨hk.1.2.2.2.2.1, ⟨hk.1.2.2.2.2.2.1, hk.1.2.2.2.2.2.2⟩⟩⟩⟩⟩⟩)⟩
     have n8_ : q8 (((((w20.setCell ⟨qH, 0, none⟩ (.int .i64 0)).setCell ⟨qH, 1, none⟩ (.int .i64 t213)).setCell ⟨qH, 2, none⟩ (.int .i64 t215)).setCell ⟨qH, 3, none⟩ (.slice none 0 0)).heap[qH]? = some (.cells #[.int .i64 0, .int .i64 t213, .int .i64 t215, .slice none 0 0] 55 (0, 0))) := ⟨by (with_reducible repeat (first | refine qK ?_ _ | refine qR ?_ | refine qL ?_ _)); refine qe0 (cs := #[.int .i64 0, .int .i64 t213, .int .i64 t215, .slice none 0 0]) ?_ 3 _ rfl; (with_reducible repeat (first | refine qK ?_ _ | refine qR ?_ | refine qL ?_ _)); refine qe0 (cs := #[.int .i64 0, .int .i64 t213, .int .i64 0, .slice none 0 0]) ?_ 2 _ rfl; (with_reducible repeat (first | refine qK ?_ _ | refine qR ?_ | refine qL ?_ _)); refine qe0 (cs := #[.int .i64 0, .int .i64 0, .int .i64 0, .slice none 0 0]) ?_ 1 _ rfl; (with_reducible repeat (first | refine qK ?_ _ | refine qR ?_ | refine qL ?_ _)); refine qe0 (cs := #[.int .i64 0, .int .i64 0, .int .i64 0, .slice none 0 0]) ?_ 0 _ rfl; (with_reducible repeat (first | refine qK ?_ _ | refine qR ?_ | refine qL ?_ _)); exact jH.out⟩
     have n9_ : q8 (Below w.heap.size w ((((w20.setCell ⟨qH, 0, none⟩ (.int .i64 0)).setCell ⟨qH, 1, none⟩ (.int .i64 t213)).setCell ⟨qH, 2, none⟩ (.int .i64 t215)).setCell ⟨qH, 3, none⟩ (.slice none 0 0))) := ⟨by repeat (first | (with_reducible first | exact HB.out | apply qA | apply q9 | apply qB | refine qI ?_ qe9.out) | exact HB.out)⟩
     (try clear qa1)
     (try clear qa9)
     (try clear qU)
     (try clear qc9)
     (try clear qe8)
     (try clear qd2)
     (try clear qj1)
     (try clear qj2)
     (try clear jH)
     (try clear HB)
     generalize ((((w20.setCell ⟨qH, 0, none⟩ (.int .i64 0)).setCell ⟨qH, 1, none⟩ (.int .i64 t213)).setCell ⟨qH, 2, none⟩ (.int .i64 t215)).setCell ⟨qH, 3, none⟩ (.slice none 0 0)) = w25 at n0_ n1_ n2_ n3_ n4_ n5_ n6_ n7_ n8_ n9_ ⊢
     have qa1 := n0_
     have qa9 := n1_
     have qU := n2_
     have qc9 := n3_
     have qe8 := n4_
     have qd2 := n5_
     have qj1 := n6_
     have qj2 := n7_
     have jH := n8_
     have HB := n9_
     clear n0_ n1_ n2_ n3_ n4_ n5_ n6_ n7_ n8_ n9_
     have zA1 : 0 ≤ (qO : Int) := of_decide_eq_true (by first | (with_reducible assumption) | assumption)
     have zA2 : qO < (t200.length : Int) := of_decide_eq_true (by first | (with_reducible assumption) | assumption)
     obtain ⟨Ql6, A217_3, c217_3, e217, zK4, zK5, zK6, zk3, zk4, zk5⟩ := qa5 (Kd.zZ qU.out).2.2 qO zA1 zA2
     obtain rfl : jS = Ql6 := (by injection e217)
     obtain ⟨ce217, Qb1, Qb2, zA3⟩ := Kd.qH1 qU.out z55 qO zA1 (by first | exact zA2 | exact of_decide_eq_true (by first | (with_reducible assumption) | assumption) | (have e_ := (Kd.zZ qU.out).1; omega))
     obtain ⟨Qs0, Qs1, rfl, jJ0, jJ1⟩ := qi3 Qb2
     have jm0 := zA3 3 _ rfl
     rw [zS _ _ 3 (by omega)] at jm0
     replace jm0 := Option.some.inj (jm0.symm.trans zk3)
     injection jm0 with qm7 qz0 qm8
     rw [qm7] at jJ1
     rw [qm8] at jJ0
     have zK7 := q8.mk (show Kd.V k51 51 _ w.heap.size _ _ ((qD t200 qO).f3) from Kd.qS6 jJ0 jJ1)
     clear qm7 qz0 qm8 jJ1 jJ0
     clear zA3 Qb1
     have Qs2 := q8.mk zk5
     have Qs3 := q8.mk zk4
     clear zk5 zk4
     replace zA1 := eq_true zA1
     replace zA2 := eq_true zA2
     obtain ⟨Qb3, Qb4, eo26⟩ := Kd.qu0 qc9.out
     subst eo26
     try go_wp2_with (first | ((with_reducible refine qj6 (f := 45) rfl ?_); refine qK1 (some 46) rfl rfl Try.func45 (by kernel_rfl) rfl #[.slice Qb3 qz1.length Qb4, .int .i64 ((qD t200 qO).f0)] rfl (by (try simp only [List.map_toArray, List.map_cons, List.map_nil]); first | done | rfl | (simp only [List.length_drop, List.length_take]; rfl)) ?_; (with_reducible refine (jB.calls k1 (fun k_ => some k_ = (.slice Qb3 qz1.length Qb4 : Value).ownBlock) (.slice Qb3 qz1.length Qb4) qz1 ((qD t200 qO).f0) t218 t221 w _ ?qu2 ?qx8 A16.out).mono ?_); (case qu2 => repeat (first | (with_reducible first | exact HB.out | apply qA | apply q9 | apply qB | refine qI ?_ qe9.out) | exact HB.out)); (case qx8 => exact Kd.jb2 rfl qc9.out); rintro e w27 ⟨v219, rfl, ho0, hb, hkp⟩; refine ⟨_, rfl, ?_⟩; have n0_ := q8.mk (Kd.zN (ok' := fun k_ => (P0_ k_ ∨ w.heap.size ≤ k_) ∧ some k_ ≠ (u3 : Value).ownBlock ∧ some k_ ≠ (.slice (some jS) t200.length qh3 : Value).ownBlock ∧ some k_ ≠ (u6 : Value).ownBlock ∧ some k_ ≠ (u7 : Value).ownBlock ∧ k_ ≠ qH ∧ some k_ ≠ (v219 : Value).ownBlock) (Kd.jm1 (qa1.out) hkp (fun k_ hk_ hs_ => (hk_.2.2.2.1) hs_)) (fun k_ hk_ => ⟨hk_.1.1, hk_.1.2.1, hk_.1.2.2.1, hk_.1.2.2.2.2.1, hk_.1.2.2.2.2.2.1, hk_.1.2.2.2.2.2.2, fun e_ => Or.elim (ho0.1 k_ e_.symm) (fun hs_ => hk_.2.1 hs_) (fun hn_ => Nat.not_le.2 hk_.2.2 hn_)⟩)); have n1_ := q8.mk (Kd.z8 (ok' := fun k_ => (P0_ k_ ∨ w.heap.size ≤ k_) ∧ some k_ ≠ (.slice (some jS) t200.length qh3 : Value).ownBlock ∧ some k_ ≠ (u6 : Value).ownBlock ∧ some k_ ≠ (u7 : Value).ownBlock ∧ k_ ≠ qH ∧ some k_ ≠ (v219 : Value).ownBlock) (Kd.qD9 (qa9.out) hkp (fun k_ hk_ hs_ => (hk_.2.2.1) hs_)) (fun k_ hk_ => ⟨hk_.1.1, hk_.1.2.1, hk_.1.2.2.2.1, hk_.1.2.2.2.2.1, hk_.1.2.2.2.2.2, fun e_ => Or.elim (ho0.1 k_ e_.symm) (fun hs_ => hk_.2.1 hs_) (fun hn_ => Nat.not_le.2 hk_.2.2 hn_)⟩)); have n2_ := q8.mk (Kd.z8 (ok' := fun k_ => (P0_ k_ ∨ w.heap.size ≤ k_) ∧ some k_ ≠ (u3 : Value).ownBlock ∧ some k_ ≠ (u6 : Value).ownBlock ∧ some k_ ≠ (u7 : Value).ownBlock ∧ k_ ≠ qH ∧ some k_ ≠ (v219 : Value).ownBlock) (Kd.qD9 (qU.out) hkp (fun k_ hk_ hs_ => (hk_.2.2.1) hs_)) (fun k_ hk_ => ⟨hk_.1.1, hk_.1.2.1, hk_.1.2.2.2.1, hk_.1.2.2.2.2.1, hk_.1.2.2.2.2.2, fun e_ => Or.elim (ho0.1 k_ e_.symm) (fun hs_ => hk_.2.1 hs_) (fun hn_ => Nat.not_le.2 hk_.2.2 hn_)⟩)); have n3_ := q8.mk (Kd.jK (ok' := fun k_ => (w.heap.size ≤ k_) ∧ some k_ ≠ (u7 : Value).ownBlock ∧ some k_ ≠ (v219 : Value).ownBlock) (Kd.qu3 (qe8.out) hkp (fun k_ hk_ hs_ => (hk_.2.1) hs_)) (fun k_ hk_ => ⟨hk_.1.1, hk_.1.2.2, fun e_ => Or.elim (ho0.1 k_ e_.symm) (fun hs_ => hk_.2.1 hs_) (fun hn_ => Nat.not_le.2 hk_.2.2 hn_)⟩)); have n4_ := q8.mk (Kd.jK (ok' := fun k_ => (w.heap.size ≤ k_) ∧ some k_ ≠ (u6 : Value).ownBlock ∧ some k_ ≠ (v219 : Value).ownBlock) (Kd.qu3 (qd2.out) hkp (fun k_ hk_ hs_ => (hk_.2.1) hs_)) (fun k_ hk_ => ⟨hk_.1.1, hk_.1.2.2, fun e_ => Or.elim (ho0.1 k_ e_.symm) (fun hs_ => hk_.2.1 hs_) (fun hn_ => Nat.not_le.2 hk_.2.2 hn_)⟩)); have n5_ := q8.mk (qC8 (by (with_reducible repeat (first | refine qK ?_ _ | refine qR ?_ | refine qL ?_ _)); exact jH.out) hkp (fun hs_ => (fun e_ => (Kd.jJ2 qc9.out jH.out (by decide)) e_) hs_)); have n6_ := q8.mk (Kd.jK (ok' := fun k_ => (w.heap.size ≤ k_) ∧ some k_ ≠ (u6 : Value).ownBlock ∧ some k_ ≠ (u7 : Value).ownBlock) ho0 (fun k_ hk_ => ⟨Or.elim hk_ (fun hs_ => (qc9.out.1 k_ (hs_).symm).1) (fun hn_ => (Nat.le_trans (qJ (by repeat (first | (with_reducible first | exact HB.out | apply qA | apply q9 | apply qB | refine qI ?_ qe9.out) | exact HB.out))) hn_)), Or.elim hk_ (fun hs_ => fun e_ => (((qe8.out).1 k_ e_.symm).2.1) hs_) (fun hn_ => (Kd.fresh' (Kd.qO1 (by (with_reducible repeat (first | apply Kd.qV | apply Kd.qW | apply Kd.jC)); exact qe8.out)) k_ hn_)), Or.elim hk_ (fun hs_ => fun e_ => (((qd2.out).1 k_ e_.symm).2.1) hs_) (fun hn_ => (Kd.fresh' (Kd.qO1 (by (with_reducible repeat (first | apply Kd.qV | apply Kd.qW | apply Kd.jC)); exact qd2.out)) k_ hn_))⟩)); have n7_ := q8.mk (hb); clear qa1; clear qa9; clear qU; clear qe8; clear qd2; clear jH; clear HB; clear qc9; clear qj1; clear qj2; clear zK7; have qa1 := n0_; have qa9 := n1_; have qU := n2_; have qe8 := n3_; have qd2 := n4_; have jH := n5_; have Ql7 := n6_; have HB := n7_; clear n0_ n1_ n2_ n3_ n4_ n5_ n6_ n7_; (try clear hb); (try clear hkp); (try clear ho0); have zK8 : w27.cell? ⟨qH, 0, none⟩ = some (.int .i64 0) := (qE jH.out 0).trans rfl; have zK9 : w27.cell? ⟨qH, 1, none⟩ = some (.int .i64 t213) := (qE jH.out 1).trans rfl; have zL0 : w27.cell? ⟨qH, 2, none⟩ = some (.int .i64 t215) := (qE jH.out 2).trans rfl; have zL1 : w27.cell? ⟨qH, 3, none⟩ = some (.slice none 0 0) := (qE jH.out 3).trans rfl; have zL2 := qC jH.out 0; have zL3 := qC jH.out 1; have zL4 := qC jH.out 2; have zL5 := qC jH.out 3))
     go_loopg [6, 7, 10] k1 (fun kq v6 v7 v10 w' => ∃ (qe4 : List Int) (qf7 : List Int) (qZ : Int) (zX : List (S51)) (u217003 : Value), v10 = .int .i64 qZ ∧ q8 (qM.l1 kq l0 qh2 t200 t218 qe4 qf7 qO qZ t221 t213 t215 zX = some r) ∧ q8 (kq ≤ k1) ∧ q8 (Kd.V k55 55 w' w.heap.size (fun k_ => (P0_ k_ ∨ w.heap.size ≤ k_) ∧ some k_ ≠ (u3 : Value).ownBlock ∧ some k_ ≠ ((.slice (some jS) t200.length qh3) : Value).ownBlock ∧ some k_ ≠ (v219 : Value).ownBlock ∧ some k_ ≠ (v6 : Value).ownBlock ∧ some k_ ≠ (v7 : Value).ownBlock ∧ some k_ ≠ (u217003 : Value).ownBlock ∧ k_ ≠ qH) (.slice A0 l0.length c0) l0) ∧ q8 (Kd.N k55 55 w' w.heap.size (fun k_ => (P0_ k_ ∨ w.heap.size ≤ k_) ∧ some k_ ≠ ((.slice (some jS) t200.length qh3) : Value).ownBlock ∧ some k_ ≠ (v219 : Value).ownBlock ∧ some k_ ≠ (v6 : Value).ownBlock ∧ some k_ ≠ (v7 : Value).ownBlock ∧ some k_ ≠ (u217003 : Value).ownBlock ∧ k_ ≠ qH) u3 qh2) ∧ q8 (Kd.N k55 55 w' w.heap.size (fun k_ => (P0_ k_ ∨ w.heap.size ≤ k_) ∧ some k_ ≠ (u3 : Value).ownBlock ∧ some k_ ≠ (v219 : Value).ownBlock ∧ some k_ ≠ (v6 : Value).ownBlock ∧ some k_ ≠ (v7 : Value).ownBlock ∧ some k_ ≠ (u217003 : Value).ownBlock ∧ k_ ≠ qH) (.slice (some jS) t200.length qh3) t200) ∧ q8 (Kd.R (Kd.int .i64) 3 w' w.heap.size (fun k_ => (w.heap.size ≤ k_) ∧ some k_ ≠ (v6 : Value).ownBlock ∧ some k_ ≠ (v7 : Value).ownBlock) v219 t218) ∧ q8 (Kd.R (Kd.int .i64) 3 w' w.heap.size (fun k_ => (w.heap.size ≤ k_) ∧ some k_ ≠ (v219 : Value).ownBlock ∧ some k_ ≠ (v7 : Value).ownBlock) v6 qe4) ∧ q8 (Kd.R (Kd.int .i64) 3 w' w.heap.size (fun k_ => (w.heap.size ≤ k_) ∧ some k_ ≠ (v219 : Value).ownBlock ∧ some k_ ≠ (v6 : Value).ownBlock) v7 qf7) ∧ q8 (Kd.R k51 51 w' w.heap.size (fun k_ => (w.heap.size ≤ k_)) u217003 zX) ∧ q8 (w'.heap[qH]? = some (.cells #[.int .i64 t221, .int .i64 t213, .int .i64 t215, u217003] 55 (0, 0))) ∧ q8 (Below w.heap.size w w'))
     case atStart => exact ⟨(jX), (qb3), (0), (([] : List (S51))), (.slice none 0 0), (by first | rfl | (simp; done) | (simp [*]; done)), H', ⟨Nat.le_refl _⟩, ⟨by (with_reducible repeat (first | apply Kd.jO | apply Kd.jP | apply Kd.zA)); exact Kd.zN (Kd.qf8 (p := ⟨qH, 0, none⟩) (Kd.zN qa1.out (fun k_ hk => (⟨hk, hk.2.2.2.2.2.1⟩ : _ ∧ k_ ≠ qH))) (fun _ hk => hk.2) (.int .i64 t221)) (fun _ hk => ⟨hk.1.1, ⟨hk.1.2.1, ⟨hk.1.2.2.1, ⟨hk.1.2.2.2.2.2.2, ⟨hk.1.2.2.2.1, ⟨hk.1.2.2.2.2.1, ⟨(by simp [Value.ownBlock]), hk.1.2.2.2.2.2.1⟩⟩⟩⟩⟩⟩⟩)⟩, ⟨by (with_reducible repeat (first | apply Kd.jD | apply Kd.jE | apply Kd.jJ)); exact Kd.z8 (Kd.qg7 (p := ⟨qH, 0, none⟩) (Kd.z8 qa9.out (fun k_ hk => (⟨hk, hk.2.2.2.2.1⟩ : _ ∧ k_ ≠ qH))) (fun _ hk => hk.2) (.int .i64 t221)) (fun _ hk => ⟨hk.1.1, ⟨hk.1.2.1, ⟨hk.1.2.2.2.2.2, ⟨hk.1.2.2.1, ⟨hk.1.2.2.2.1, ⟨(by simp [Value.ownBlock]), hk.1.2.2.2.2.1⟩⟩⟩⟩⟩⟩)⟩, ⟨by (with_reducible repeat (first | apply Kd.jD | apply Kd.jE | apply Kd.jJ)); exact Kd.z8 (Kd.qg7 (p := ⟨qH, 0, none⟩) (Kd.z8 qU.out (fun k_ hk => (⟨hk, hk.2.2.2.2.1⟩ : _ ∧ k_ ≠ qH))) (fun _ hk => hk.2) (.int .i64 t221)) (fun _ hk => ⟨hk.1.1, ⟨hk.1.2.1, ⟨hk.1.2.2.2.2.2, ⟨hk.1.2.2.1, ⟨hk.1.2.2.2.1, ⟨(by simp [Value.ownBlock]), hk.1.2.2.2.2.1⟩⟩⟩⟩⟩⟩)⟩, ⟨by (with_reducible repeat (first | apply Kd.qV | apply Kd.qW | apply Kd.jC)); exact Kd.jK (Kd.zQ (p := ⟨qH, 0, none⟩) (Kd.qb7 Ql7.out jH.out (by decide)) (fun _ hk => hk.2) (.int .i64 t221)) (fun _ hk => ⟨hk.1.1, ⟨hk.1.2.1, hk.1.2.2⟩⟩)⟩, ⟨by (with_reducible repeat (first | apply Kd.qV | apply Kd.qW | apply Kd.jC)); exact Kd.jK (Kd.zQ (p := ⟨qH, 0, none⟩) (Kd.qb7 qe8.out jH.out (by decide)) (fun _ hk => hk.2) (.int .i64 t221)) (fun _ hk => ⟨hk.1.1, ⟨hk.1.2.2, hk.1.2.1⟩⟩)⟩, ⟨by (with_reducible repeat (first | apply Kd.qV | apply Kd.qW | apply Kd.jC)); exact Kd.jK (Kd.zQ (p := ⟨qH, 0, none⟩) (Kd.qb7 qd2.out jH.out (by decide)) (fun _ hk => hk.2) (.int .i64 t221)) (fun _ hk => ⟨hk.1.1, ⟨hk.1.2.2, hk.1.2.1⟩⟩)⟩, ⟨by first | exact Kd.zk6 _ _ _ _ _ | exact Kd.Ql8 _ _ _ _ _ | exact Kd.Ql9 _ _ _ _ _ | exact Kd.Qm0 _ _ _ _ _ | exact Kd.Qm1 _ _ _ _ _⟩, ⟨by (with_reducible repeat (first | refine qK ?_ _ | refine qR ?_ | refine qL ?_ _)); refine qe0 (cs := #[.int .i64 0, .int .i64 t213, .int .i64 t215, .slice none 0 0]) ?_ 0 _ rfl; (with_reducible repeat (first | refine qK ?_ _ | refine qR ?_ | refine qL ?_ _)); exact jH.out⟩, ⟨by repeat (first | (with_reducible first | exact HB.out | apply qA | apply q9 | apply qB | refine qI ?_ qe9.out) | exact HB.out)⟩⟩
     case round =>
      clear H'
      try clear c1
      try clear c2
      try clear p2
      try clear q2
      try clear hx2
      try clear c4
      try clear c12
      try clear qH0
      try clear c13
      try clear zT9
      try clear c21
      try clear p21
      try clear q21
      try clear hx21
      try clear zK8
      try clear zK9
      try clear zL0
      try clear zL1
      try clear zL2
      try clear zL3
      try clear zL4
      try clear zL5
      try clear jI0
      try clear jI1
      try clear jI2
      try clear ja8
      try clear jI5
      try clear jI6
      try clear jI7
      try clear ja9
      try clear zK4
      try clear zK5
      try clear zK6
      try clear zk3
      try clear p2
      try clear zy5
      try clear zy8
      try clear zA1
      try clear zy6
      try clear zy9
      try clear zA2
      obtain ⟨qe4, qf7, qZ, zX, u217003, rfl, HA, HK2, qa1, qa9, qU, qc9, qe8, qd2, jR, jH, HB⟩ := hrel
      cases gk with
      | zero => exact absurd HA.out (by simp [qM.l1])
      | succ k2 =>
       have H := HA.out
       clear HA
       simp only [qM.l1] at H
       by_cases c29 : 0 ≤ qO
       ·rw [if_pos c29] at H
        have c29b0 : decide (0 ≤ qO) = true := decide_eq_true c29
        clear c29
        by_cases c30 : qO < (t200.length : Int)
        ·rw [if_pos c30] at H
         have c30b0 : decide (qO < (t200.length : Int)) = true := decide_eq_true c30
         clear c30
         by_cases c31 : qZ < (((qD t200 qO).f3).length : Int)
         ·rw [if_pos c31] at H
          have Qm2 : decide (qZ < (((qD t200 qO).f3).length : Int)) = true := decide_eq_true c31
          clear c31
          by_cases c32 : 0 ≤ qZ
          ·rw [if_pos c32] at H
           have c32b0 : decide (0 ≤ qZ) = true := decide_eq_true c32
           clear c32
           replace H := Option.bind_eq_some_iff.mp H
           obtain ⟨⟨t229, t232⟩, A330, H⟩ := H
           replace H : (if ((qG ((qD t200 qO).f3) qZ).f2) = 0 then (if zX.length < 5864062014805 then (qM.l1 k2 l0 qh2 t200 t218 t229 qf7 qO (wrap64 (qZ + 1)) t221 t213 t215 (zX ++ [(⟨(qG ((qD t200 qO).f3) qZ).f0, t232, (qG ((qD t200 qO).f3) qZ).f2⟩ : S51)])) else (none)) else ((jB.f k2 qf7 ((qG ((qD t200 qO).f3) qZ).f2)).bind fun jS0 => (if zX.length < 5864062014805 then (qM.l1 k2 l0 qh2 t200 t218 t229 jS0.1 qO (wrap64 (qZ + 1)) t221 t213 t215 (zX ++ [(⟨(qG ((qD t200 qO).f3) qZ).f0, t232, wrap64 (jS0.2 + 1)⟩ : S51)])) else (none)))) = some r := H
           have A33 := q8.mk A330
           clear A330
           by_cases c34 : ((qG ((qD t200 qO).f3) qZ).f2) = 0
           ·rw [if_pos c34] at H
            have Qm3 : (((qG ((qD t200 qO).f3) qZ).f2) == 0) = true := beq_iff_eq.mpr c34
            have Qm4 : (((qG ((qD t200 qO).f3) qZ).f2) != 0) = false := bne_eq_false_iff_eq.mpr c34
            clear c34
            by_cases c35 : zX.length < 5864062014805
            ·rw [if_pos c35] at H
             have Qm5 := q8.mk c35
             clear c35
             obtain ⟨y233, jS7⟩ : ∃ y_ : List (S51), y_ = (zX ++ [(⟨(qG ((qD t200 qO).f3) qZ).f0, t232, (qG ((qD t200 qO).f3) qZ).f2⟩ : S51)]) := ⟨_, rfl⟩
             replace H : (qM.l1 k2 l0 qh2 t200 t218 t229 qf7 qO (wrap64 (qZ + 1)) t221 t213 t215 y233) = some r := by first | (rw [jS7]; with_reducible exact H) | (have H2_ := (Option.bind_some _ _).symm.trans H; rw [jS7]; with_reducible exact H2_) | (have H2_ := (Option.bind_some _ _).symm.trans H; with_reducible exact H2_) | with_reducible exact H | (rw [jS7]; exact H) | exact H
             have Qm6 := q8.mk jS7
             clear jS7
             have H' := q8.mk H
             clear H
             have jb3 : 0 ≤ (qO : Int) := of_decide_eq_true (by first | (with_reducible assumption) | assumption)
             have jb4 : qO < (t200.length : Int) := of_decide_eq_true (by first | (with_reducible assumption) | assumption)
             obtain ⟨jS8, zA4, jh3, e222, zk7, zk8, zk9, qK2, qE0, qE1⟩ := qa5 (Kd.zZ qU.out).2.2 qO jb3 jb4
             obtain rfl : jS = jS8 := (by injection e222)
             obtain ⟨zV4, jq2, jq3, qP5⟩ := Kd.qH1 qU.out z55 qO jb3 (by first | exact jb4 | exact of_decide_eq_true (by first | (with_reducible assumption) | assumption) | (have e_ := (Kd.zZ qU.out).1; omega))
             obtain ⟨zl0, zl1, rfl, qu4, qu5⟩ := qi3 jq3
             have qn9 := qP5 3 _ rfl
             rw [zS _ _ 3 (by omega)] at qn9
             replace qn9 := Option.some.inj (qn9.symm.trans qK2)
             injection qn9 with qm7 qz0 qm8
             rw [qm7] at qu5
             rw [qm8] at qu4
             have qh4 := q8.mk (show Kd.V k51 51 _ w.heap.size _ _ ((qD t200 qO).f3) from Kd.qS6 qu4 qu5)
             clear qm7 qz0 qm8 qu5 qu4
             clear qP5 jq2
             have qw9 := q8.mk qE1
             have zl2 := q8.mk qE0
             clear qE1 qE0
             replace jb3 := eq_true jb3
             replace jb4 := eq_true jb4
             have jJ3 : 0 ≤ (qO : Int) := of_decide_eq_true (by first | (with_reducible assumption) | assumption)
             have jJ4 : qO < (t200.length : Int) := of_decide_eq_true (by first | (with_reducible assumption) | assumption)
             obtain ⟨zA5, Qb5, Qb6, e226, zL6, zL7, zL8, jb5, jb6, jb7⟩ := qa5 (Kd.zZ qU.out).2.2 qO jJ3 jJ4
             obtain rfl : jS = zA5 := (by injection e226)
             obtain ⟨Qm7, zc5, zc6, jq4⟩ := Kd.qH1 qU.out z55 qO jJ3 (by first | exact jJ4 | exact of_decide_eq_true (by first | (with_reducible assumption) | assumption) | (have e_ := (Kd.zZ qU.out).1; omega))
             obtain ⟨zL9, zM0, rfl, qK3, qK4⟩ := qi3 zc6
             have qA9 := jq4 3 _ rfl
             rw [zS _ _ 3 (by omega)] at qA9
             replace qA9 := Option.some.inj (qA9.symm.trans jb5)
             injection qA9 with qm7 qz0 qm8
             rw [qm7] at qK4
             rw [qm8] at qK3
             have ql6 := q8.mk (show Kd.V k51 51 _ w.heap.size _ _ ((qD t200 qO).f3) from Kd.qS6 qK3 qK4)
             clear qm7 qz0 qm8 qK4 qK3
             clear jq4 zc5
             have qp9 := q8.mk jb7
             have zM1 := q8.mk jb6
             clear jb7 jb6
             replace jJ3 := eq_true jJ3
             replace jJ4 := eq_true jJ4
             have ea_ := Option.some.inj (qK2.symm.trans jb5)
             injection ea_ with ea_ en_ ec_
             subst ea_
             subst ec_
             clear en_
             have zc7 : 0 ≤ (qZ : Int) := of_decide_eq_true (by first | (with_reducible assumption) | assumption)
             have zc8 : qZ < (((qD t200 qO).f3).length : Int) := of_decide_eq_true (by first | (with_reducible assumption) | assumption)
             obtain ⟨jS9, e227, zM2, zM3, zM4⟩ := qs5 (by repeat (first | (with_reducible exact qp9.out) | (with_reducible refine Kd.qi9 ?_ _) | (with_reducible refine Kd.qj0 ?_ _) | (with_reducible refine Kd.qn5 ?_) | exact qp9.out)) qZ zc7 zc8
             cases e227
             replace zc7 := eq_true zc7
             replace zc8 := eq_true zc8
             go_wp2_with (first | ((with_reducible refine zW (N := 11) rfl ?_); refine qa4 ?hg (N := 11) ?hd (cs := #[.bool false, .int .i64 0, .int .i64 0]) (t := 51) ?hr ?_; (case hd => rfl); (case hg => rfl); (case hr => first | (go_simp; done) | (go_simp; rfl)); intro qP hg w36 qb0 hb; have n0_ := q8.mk (Kd.ql5 (Kd.qi7 (by (with_reducible repeat (first | apply Kd.jO | apply Kd.jP | apply Kd.zA)); exact qa1.out) qP (Nat.le_of_eq hg.symm)) hb); have n1_ := q8.mk (Kd.qn7 (Kd.qs0 (by (with_reducible repeat (first | apply Kd.jD | apply Kd.jE | apply Kd.jJ)); exact qa9.out) qP (Nat.le_of_eq hg.symm)) hb); have n2_ := q8.mk (Kd.qn7 (Kd.qs0 (by (with_reducible repeat (first | apply Kd.jD | apply Kd.jE | apply Kd.jJ)); exact qU.out) qP (Nat.le_of_eq hg.symm)) hb); have n3_ := q8.mk (Kd.qg6 (by (with_reducible repeat (first | apply Kd.qV | apply Kd.qW | apply Kd.jC)); exact qc9.out) hb); have n4_ := q8.mk (Kd.qg6 (by (with_reducible repeat (first | apply Kd.qV | apply Kd.qW | apply Kd.jC)); exact qe8.out) hb); have n5_ := q8.mk (Kd.qg6 (by (with_reducible repeat (first | apply Kd.qV | apply Kd.qW | apply Kd.jC)); exact qd2.out) hb); have n6_ := q8.mk (Kd.qg6 (Kd.jT0 (by (with_reducible repeat (first | apply Kd.qV | apply Kd.qW | apply Kd.jC)); exact jR.out) qP (Nat.le_of_eq hg.symm)) hb); have n7_ := q8.mk (Kd.ql5 (Kd.qi7 (by (with_reducible repeat (first | apply Kd.jO | apply Kd.jP | apply Kd.zA)); exact qh4.out) qP (Nat.le_of_eq hg.symm)) hb); have n8_ := q8.mk (Kd.ql5 (Kd.qi7 (by (with_reducible repeat (first | apply Kd.jO | apply Kd.jP | apply Kd.zA)); exact ql6.out) qP (Nat.le_of_eq hg.symm)) hb); have n9_ := q8.mk (qn4 (g := qH) (o := .cells #[.int .i64 t221, .int .i64 t213, .int .i64 t215, u217003] 55 (0, 0)) (by (with_reducible repeat (first | refine qK ?_ _ | refine qR ?_ | refine qL ?_ _)); exact jH.out) hb); have qC6 := q8.mk (Kd.qn8 (by repeat (first | (with_reducible exact qw9.out) | (with_reducible refine Kd.qi9 ?_ _) | (with_reducible refine Kd.qj0 ?_ _) | (with_reducible refine Kd.qn5 ?_) | exact qw9.out)) hb); have qC7 := q8.mk (Kd.qn8 (by repeat (first | (with_reducible exact qp9.out) | (with_reducible refine Kd.qi9 ?_ _) | (with_reducible refine Kd.qj0 ?_ _) | (with_reducible refine Kd.qn5 ?_) | exact qp9.out)) hb); have jb0 := q8.mk (jL (by repeat (first | (with_reducible first | exact HB.out | apply qA | apply q9 | apply qB | refine qI ?_ qe9.out) | exact HB.out)) hb); have jb1 := q8.mk (qb0); have zA6 := q8.mk ((by rw [hg]; exact (qJ (by repeat (first | (with_reducible first | exact HB.out | apply qA | apply q9 | apply qB | refine qI ?_ qe9.out) | exact HB.out))) : w.heap.size ≤ qP)); have zA7 := q8.mk ((by rw [hg]; exact (qJ (by repeat (first | (with_reducible first | exact HB.out | apply qA | apply q9 | apply qB | refine qI ?_ qe9.out) | exact HB.out))) : w.heap.size ≤ qP)); have zA8 := q8.mk ((by rw [hg]; exact Nat.ne_of_lt (qu6 (g := qH) (o := .cells #[.int .i64 t221, .int .i64 t213, .int .i64 t215, u217003] 55 (0, 0)) (by (with_reducible repeat (first | refine qK ?_ _ | refine qR ?_ | refine qL ?_ _)); exact jH.out)) : qH ≠ qP)); have zA9 := q8.mk ((by rw [hg]; exact Nat.ne_of_gt (qu6 (g := qH) (o := .cells #[.int .i64 t221, .int .i64 t213, .int .i64 t215, u217003] 55 (0, 0)) (by (with_reducible repeat (first | refine qK ?_ _ | refine qR ?_ | refine qL ?_ _)); exact jH.out)) : qP ≠ qH)); clear qa1; clear qa9; clear qU; clear qc9; clear qe8; clear qd2; clear jR; clear qh4; clear ql6; clear jH; clear qw9; clear qp9; clear HB; have qa1 := n0_; have qa9 := n1_; have qU := n2_; have qc9 := n3_; have qe8 := n4_; have qd2 := n5_; have jR := n6_; have qh4 := n7_; have ql6 := n8_; have jH := n9_; have qw9 := qC6; have qp9 := qC7; have HB := jb0; have jW := jb1; have Qm8 := zA6; have qv9 := zA7; have qi4 := zA8; have jh4 := zA9; clear n0_ n1_ n2_ n3_ n4_ n5_ n6_ n7_ n8_ n9_ qC6 qC7 jb0 jb1 zA6 zA7 zA8 zA9; clear hb qb0 hg; have hnb37 := jh4.out; have hnc37 := qi4.out; have Qs4 : w36.cell? ⟨qP, 0, none⟩ = some (.bool false) := (qE jW.out 0).trans rfl; have Qs5 : w36.cell? ⟨qP, 1, none⟩ = some (.int .i64 0) := (qE jW.out 1).trans rfl; have Qs6 : w36.cell? ⟨qP, 2, none⟩ = some (.int .i64 0) := (qE jW.out 2).trans rfl; have Qs7 := qC jW.out 0; have Qs8 := qC jW.out 1; have Qs9 := qC jW.out 2) | ((with_reducible refine qV5 (t := 51) (p := 11) rfl ?_); refine qP6 (t := 51) (p := 11) (v := ?vo_w39) (w1 := (((w36.setCell ⟨qP, 0, none⟩ (.bool ((qG ((qD t200 qO).f3) qZ).f0))).setCell ⟨qP, 1, none⟩ (.int .i64 ((qG ((qD t200 qO).f3) qZ).f1))).setCell ⟨qP, 2, none⟩ (.int .i64 ((qG ((qD t200 qO).f3) qZ).f2)))) ?hg ?ho ?hn ?hr ?_; (case ho => rfl); (case hg => rfl); (case hn => rfl); (case hr => first | (go_simp; done) | (go_simp; rfl)); intro w39 hw; have n0_ : q8 (Kd.V k55 55 w39 w.heap.size (fun k_ => (P0_ k_ ∨ w.heap.size ≤ k_) ∧ some k_ ≠ (u3 : Value).ownBlock ∧ some k_ ≠ (.slice (some jS) t200.length qh3 : Value).ownBlock ∧ some k_ ≠ (v219 : Value).ownBlock ∧ some k_ ≠ (u6 : Value).ownBlock ∧ some k_ ≠ (u7 : Value).ownBlock ∧ some k_ ≠ (u217003 : Value).ownBlock ∧ k_ ≠ qH ∧ k_ ≠ qP) (.slice A0 l0.length c0) l0) := ⟨(by rw [hw]; exact (by (with_reducible repeat (first | apply Kd.jO | apply Kd.jP | apply Kd.zA)); exact Kd.zN (Kd.qf8 (p := ⟨qP, 2, none⟩) (Kd.qf8 (p := ⟨qP, 1, none⟩) (Kd.qf8 (p := ⟨qP, 0, none⟩) (Kd.zN qa1.out (fun k_ hk => (⟨hk, hk.2⟩ : _ ∧ k_ ≠ qP))) (fun _ hk => hk.2) (.bool ((qG ((qD t200 qO).f3) qZ).f0))) (fun _ hk => hk.2) (.int .i64 ((qG ((qD t200 qO).f3) qZ).f1))) (fun _ hk => hk.2) (.int .i64 ((qG ((qD t200 qO).f3) qZ).f2))) (fun _ hk => ⟨hk.1.1.1, ⟨hk.1.1.2.1, ⟨hk.1.1.2.2.1, ⟨hk.1.1.2.2.2.1, ⟨hk.1.1.2.2.2.2.1, ⟨hk.1.1.2.2.2.2.2.1, ⟨hk.1.1.2.2.2.2.2.2.1, ⟨hk.1.1.2.2.2.2.2.2.2, hk.1.2⟩⟩⟩⟩⟩⟩⟩⟩)))⟩; have n1_ : q8 (Kd.N k55 55 w39 w.heap.size (fun k_ => (P0_ k_ ∨ w.heap.size ≤ k_) ∧ some k_ ≠ (.slice (some jS) t200.length qh3 : Value).ownBlock ∧ some k_ ≠ (v219 : Value).ownBlock ∧ some k_ ≠ (u6 : Value).ownBlock ∧ some k_ ≠ (u7 : Value).ownBlock ∧ some k_ ≠ (u217003 : Value).ownBlock ∧ k_ ≠ qH ∧ k_ ≠ qP) u3 qh2) := ⟨(by rw [hw]; exact (by (with_reducible repeat (first | apply Kd.jD | apply Kd.jE | apply Kd.jJ)); exact Kd.z8 (Kd.qg7 (p := ⟨qP, 2, none⟩) (Kd.qg7 (p := ⟨qP, 1, none⟩) (Kd.qg7 (p := ⟨qP, 0, none⟩) (Kd.z8 qa9.out (fun k_ hk => (⟨hk, hk.2⟩ : _ ∧ k_ ≠ qP))) (fun _ hk => hk.2) (.bool ((qG ((qD t200 qO).f3) qZ).f0))) (fun _ hk => hk.2) (.int .i64 ((qG ((qD t200 qO).f3) qZ).f1))) (fun _ hk => hk.2) (.int .i64 ((qG ((qD t200 qO).f3) qZ).f2))) (fun _ hk => ⟨hk.1.1.1, ⟨hk.1.1.2.1, ⟨hk.1.1.2.2.1, ⟨hk.1.1.2.2.2.1, ⟨hk.1.1.2.2.2.2.1, ⟨hk.1.1.2.2.2.2.2.1, ⟨hk.1.1.2.2.2.2.2.2, hk.1.2⟩⟩⟩⟩⟩⟩⟩)))⟩; have n2_ : q8 (Kd.N k55 55 w39 w.heap.size (fun k_ => (P0_ k_ ∨ w.heap.size ≤ k_) ∧ some k_ ≠ (u3 : Value).ownBlock ∧ some k_ ≠ (v219 : Value).ownBlock ∧ some k_ ≠ (u6 : Value).ownBlock ∧ some k_ ≠ (u7 : Value).ownBlock ∧ some k_ ≠ (u217003 : Value).ownBlock ∧ k_ ≠ qH ∧ k_ ≠ qP) (.slice (some jS) t200.length qh3) t200) := ⟨(by rw [hw]; exact (by (with_reducible repeat (first | apply Kd.jD | apply Kd.jE | apply Kd.jJ)); exact Kd.z8 (Kd.qg7 (p := ⟨qP, 2, none⟩) (Kd.qg7 (p := ⟨qP, 1, none⟩) (Kd.qg7 (p := ⟨qP, 0, none⟩) (Kd.z8 qU.out (fun k_ hk => (⟨hk, hk.2⟩ : _ ∧ k_ ≠ qP))) (fun _ hk => hk.2) (.bool ((qG ((qD t200 qO).f3) qZ).f0))) (fun _ hk => hk.2) (.int .i64 ((qG ((qD t200 qO).f3) qZ).f1))) (fun _ hk => hk.2) (.int .i64 ((qG ((qD t200 qO).f3) qZ).f2))) (fun _ hk => ⟨hk.1.1.1, ⟨hk.1.1.2.1, ⟨hk.1.1.2.2.1, ⟨hk.1.1.2.2.2.1, ⟨hk.1.1.2.2.2.2.1, ⟨hk.1.1.2.2.2.2.2.1, ⟨hk.1.1.2.2.2.2.2.2, hk.1.2⟩⟩⟩⟩⟩⟩⟩)))⟩; have n3_ : q8 (Kd.R (Kd.int .i64) 3 w39 w.heap.size (fun k_ => (w.heap.size ≤ k_) ∧ some k_ ≠ (u6 : Value).ownBlock ∧ some k_ ≠ (u7 : Value).ownBlock) v219 t218) := ⟨(by rw [hw]; exact (by (with_reducible repeat (first | apply Kd.qV | apply Kd.qW | apply Kd.jC)); exact Kd.jK (Kd.zQ (p := ⟨qP, 2, none⟩) (Kd.zQ (p := ⟨qP, 1, none⟩) (Kd.zQ (p := ⟨qP, 0, none⟩) (Kd.qb7 qc9.out jW.out (by decide)) (fun _ hk => hk.2) (.bool ((qG ((qD t200 qO).f3) qZ).f0))) (fun _ hk => hk.2) (.int .i64 ((qG ((qD t200 qO).f3) qZ).f1))) (fun _ hk => hk.2) (.int .i64 ((qG ((qD t200 qO).f3) qZ).f2))) (fun _ hk => ⟨hk.1.1, ⟨hk.1.2.1, hk.1.2.2⟩⟩)))⟩; have n4_ : q8 (Kd.R (Kd.int .i64) 3 w39 w.heap.size (fun k_ => (w.heap.size ≤ k_) ∧ some k_ ≠ (v219 : Value).ownBlock ∧ some k_ ≠ (u7 : Value).ownBlock) u6 qe4) := ⟨(by rw [hw]; exact (by (with_reducible repeat (first | apply Kd.qV | apply Kd.qW | apply Kd.jC)); exact Kd.jK (Kd.zQ (p := ⟨qP, 2, none⟩) (Kd.zQ (p := ⟨qP, 1, none⟩) (Kd.zQ (p := ⟨qP, 0, none⟩) (Kd.qb7 qe8.out jW.out (by decide)) (fun _ hk => hk.2) (.bool ((qG ((qD t200 qO).f3) qZ).f0))) (fun _ hk => hk.2) (.int .i64 ((qG ((qD t200 qO).f3) qZ).f1))) (fun _ hk => hk.2) (.int .i64 ((qG ((qD t200 qO).f3) qZ).f2))) (fun _ hk => ⟨hk.1.1, ⟨hk.1.2.1, hk.1.2.2⟩⟩)))⟩; have n5_ : q8 (Kd.R (Kd.int .i64) 3 w39 w.heap.size (fun k_ => (w.heap.size ≤ k_) ∧ some k_ ≠ (v219 : Value).ownBlock ∧ some k_ ≠ (u6 : Value).ownBlock) u7 qf7) := ⟨(by rw [hw]; exact (by (with_reducible repeat (first | apply Kd.qV | apply Kd.qW | apply Kd.jC)); exact Kd.jK (Kd.zQ (p := ⟨qP, 2, none⟩) (Kd.zQ (p := ⟨qP, 1, none⟩) (Kd.zQ (p := ⟨qP, 0, none⟩) (Kd.qb7 qd2.out jW.out (by decide)) (fun _ hk => hk.2) (.bool ((qG ((qD t200 qO).f3) qZ).f0))) (fun _ hk => hk.2) (.int .i64 ((qG ((qD t200 qO).f3) qZ).f1))) (fun _ hk => hk.2) (.int .i64 ((qG ((qD t200 qO).f3) qZ).f2))) (fun _ hk => ⟨hk.1.1, ⟨hk.1.2.1, hk.1.2.2⟩⟩)))⟩; have n6_ : q8 (Kd.R k51 51 w39 w.heap.size (fun k_ => (w.heap.size ≤ k_) ∧ k_ ≠ qP) u217003 zX) := ⟨(by rw [hw]; exact (by (with_reducible repeat (first | apply Kd.qV | apply Kd.qW | apply Kd.jC)); exact Kd.jK (Kd.zQ (p := ⟨qP, 2, none⟩) (Kd.zQ (p := ⟨qP, 1, none⟩) (Kd.zQ (p := ⟨qP, 0, none⟩) (Kd.jK jR.out (fun k_ hk => (⟨hk, hk.2⟩ : _ ∧ k_ ≠ qP))) (fun _ hk => hk.2) (.bool ((qG ((qD t200 qO).f3) qZ).f0))) (fun _ hk => hk.2) (.int .i64 ((qG ((qD t200 qO).f3) qZ).f1))) (fun _ hk => hk.2) (.int .i64 ((qG ((qD t200 qO).f3) qZ).f2))) (fun _ hk => ⟨hk.1.1, hk.1.2⟩)))⟩; have n7_ : q8 (Kd.V k51 51 w39 w.heap.size (fun k_ => (P0_ k_ ∨ w.heap.size ≤ k_) ∧ some k_ ≠ (u3 : Value).ownBlock ∧ some k_ ≠ (.slice (some jS) t200.length qh3 : Value).ownBlock ∧ some k_ ≠ (v219 : Value).ownBlock ∧ some k_ ≠ (u6 : Value).ownBlock ∧ some k_ ≠ (u7 : Value).ownBlock ∧ some k_ ≠ (u217003 : Value).ownBlock ∧ k_ ≠ qH ∧ k_ ≠ qP) (.slice (some jS9) ((qD t200 qO).f3).length jh3) ((qD t200 qO).f3)) := ⟨(by rw [hw]; exact (by (with_reducible repeat (first | apply Kd.jO | apply Kd.jP | apply Kd.zA)); exact Kd.zN (Kd.qf8 (p := ⟨qP, 2, none⟩) (Kd.qf8 (p := ⟨qP, 1, none⟩) (Kd.qf8 (p := ⟨qP, 0, none⟩) (Kd.zN qh4.out (fun k_ hk => (⟨hk, hk.2⟩ : _ ∧ k_ ≠ qP))) (fun _ hk => hk.2) (.bool ((qG ((qD t200 qO).f3) qZ).f0))) (fun _ hk => hk.2) (.int .i64 ((qG ((qD t200 qO).f3) qZ).f1))) (fun _ hk => hk.2) (.int .i64 ((qG ((qD t200 qO).f3) qZ).f2))) (fun _ hk => ⟨hk.1.1.1.1, ⟨hk.1.1.1.2.1, ⟨hk.1.1.2, ⟨hk.1.1.1.2.2.1, ⟨hk.1.1.1.2.2.2.1, ⟨hk.1.1.1.2.2.2.2.1, ⟨hk.1.1.1.2.2.2.2.2.1, ⟨hk.1.1.1.2.2.2.2.2.2, hk.1.2⟩⟩⟩⟩⟩⟩⟩⟩)))⟩; have n8_ : q8 (Kd.V k51 51 w39 w.heap.size (fun k_ => (P0_ k_ ∨ w.heap.size ≤ k_) ∧ some k_ ≠ (u3 : Value).ownBlock ∧ some k_ ≠ (.slice (some jS) t200.length qh3 : Value).ownBlock ∧ some k_ ≠ (v219 : Value).ownBlock ∧ some k_ ≠ (u6 : Value).ownBlock ∧ some k_ ≠ (u7 : Value).ownBlock ∧ some k_ ≠ (u217003 : Value).ownBlock ∧ k_ ≠ qH ∧ k_ ≠ qP) (.slice (some jS9) ((qD t200 qO).f3).length jh3) ((qD t200 qO).f3)) := ⟨(by rw [hw]; exact (by (with_reducible repeat (first | apply Kd.jO | apply Kd.jP | apply Kd.zA)); exact Kd.zN (Kd.qf8 (p := ⟨qP, 2, none⟩) (Kd.qf8 (p := ⟨qP, 1, none⟩) (Kd.qf8 (p := ⟨qP, 0, none⟩) (Kd.zN ql6.out (fun k_ hk => (⟨hk, hk.2⟩ : _ ∧ k_ ≠ qP))) (fun _ hk => hk.2) (.bool ((qG ((qD t200 qO).f3) qZ).f0))) (fun _ hk => hk.2) (.int .i64 ((qG ((qD t200 qO).f3) qZ).f1))) (fun _ hk => hk.2) (.int .i64 ((qG ((qD t200 qO).f3) qZ).f2))) (fun _ hk => ⟨hk.1.1.1.1, ⟨hk.1.1.1.2.1, ⟨hk.1.1.2, ⟨hk.1.1.1.2.2.1, ⟨hk.1.1.1.2.2.2.1, ⟨hk.1.1.1.2.2.2.2.1, ⟨hk.1.1.1.2.2.2.2.2.1, ⟨hk.1.1.1.2.2.2.2.2.2, hk.1.2⟩⟩⟩⟩⟩⟩⟩⟩)))⟩; have n9_ : q8 (w39.heap[qH]? = some (.cells #[.int .i64 t221, .int .i64 t213, .int .i64 t215, u217003] 55 (0, 0))) := ⟨(by rw [hw]; exact (by (with_reducible repeat (first | refine qK ?_ _ | refine qR ?_ | refine qL ?_ _)); refine qk2 ?_ qi4.out _; (with_reducible repeat (first | refine qK ?_ _ | refine qR ?_ | refine qL ?_ _)); refine qk2 ?_ qi4.out _; (with_reducible repeat (first | refine qK ?_ _ | refine qR ?_ | refine qL ?_ _)); refine qk2 ?_ qi4.out _; (with_reducible repeat (first | refine qK ?_ _ | refine qR ?_ | refine qL ?_ _)); exact jH.out))⟩; have qC6 : q8 (w39.heap[qP]? = some (.cells #[.bool ((qG ((qD t200 qO).f3) qZ).f0), .int .i64 ((qG ((qD t200 qO).f3) qZ).f1), .int .i64 ((qG ((qD t200 qO).f3) qZ).f2)] 51 (0, 0))) := ⟨(by rw [hw]; exact (by (with_reducible repeat (first | refine qK ?_ _ | refine qR ?_ | refine qL ?_ _)); refine qe0 (cs := #[.bool ((qG ((qD t200 qO).f3) qZ).f0), .int .i64 ((qG ((qD t200 qO).f3) qZ).f1), .int .i64 0]) ?_ 2 _ rfl; (with_reducible repeat (first | refine qK ?_ _ | refine qR ?_ | refine qL ?_ _)); refine qe0 (cs := #[.bool ((qG ((qD t200 qO).f3) qZ).f0), .int .i64 0, .int .i64 0]) ?_ 1 _ rfl; (with_reducible repeat (first | refine qK ?_ _ | refine qR ?_ | refine qL ?_ _)); refine qe0 (cs := #[.bool false, .int .i64 0, .int .i64 0]) ?_ 0 _ rfl; (with_reducible repeat (first | refine qK ?_ _ | refine qR ?_ | refine qL ?_ _)); exact jW.out))⟩; have qC7 : q8 (Below w.heap.size w w39) := ⟨(by rw [hw]; exact (by repeat (first | (with_reducible first | exact HB.out | apply qA | apply q9 | apply qB | refine qI ?_ qe9.out | refine qI ?_ qv9.out) | exact HB.out)))⟩; clear hw; clear qa1; clear qa9; clear qU; clear qc9; clear qe8; clear qd2; clear jR; clear qh4; clear ql6; clear jH; clear jW; clear HB; have qa1 := n0_; have qa9 := n1_; have qU := n2_; have qc9 := n3_; have qe8 := n4_; have qd2 := n5_; have jR := n6_; have qh4 := n7_; have ql6 := n8_; have jH := n9_; have jW := qC6; have HB := qC7; clear n0_ n1_ n2_ n3_ n4_ n5_ n6_ n7_ n8_ n9_ qC6 qC7; have Qt0 : w39.cell? ⟨qP, 0, none⟩ = some (.bool ((qG ((qD t200 qO).f3) qZ).f0)) := (qE jW.out 0).trans rfl; have Qt1 : w39.cell? ⟨qP, 1, none⟩ = some (.int .i64 ((qG ((qD t200 qO).f3) qZ).f1)) := (qE jW.out 1).trans rfl; have Qt2 : w39.cell? ⟨qP, 2, none⟩ = some (.int .i64 ((qG ((qD t200 qO).f3) qZ).f2)) := (qE jW.out 2).trans rfl; have Qt3 := qC jW.out 0; have Qt4 := qC jW.out 1; have Qt5 := qC jW.out 2; obtain ⟨Qb7, Qb8, eo41⟩ := Kd.qu0 qe8.out; subst eo41) | ((with_reducible refine qj6 (f := 45) rfl ?_); refine qK1 (some 72) rfl rfl Try.func45 (by kernel_rfl) rfl #[.slice Qb7 qe4.length Qb8, .int .i64 ((qG ((qD t200 qO).f3) qZ).f1)] rfl (by (try simp only [List.map_toArray, List.map_cons, List.map_nil]); first | done | rfl | (simp only [List.length_drop, List.length_take]; rfl)) ?_; (with_reducible refine (jB.calls k2 (fun k_ => some k_ = (.slice Qb7 qe4.length Qb8 : Value).ownBlock) (.slice Qb7 qe4.length Qb8) qe4 ((qG ((qD t200 qO).f3) qZ).f1) t229 t232 w _ ?qu2 ?qx8 A33.out).mono ?_); (case qu2 => repeat (first | (with_reducible first | exact HB.out | apply qA | apply q9 | apply qB | refine qI ?_ qe9.out | refine qI ?_ qv9.out) | exact HB.out)); (case qx8 => exact Kd.jb2 rfl qe8.out); rintro e w42 ⟨v230, rfl, ho0, hb, hkp⟩; refine ⟨_, rfl, ?_⟩; have n0_ := q8.mk (Kd.zN (ok' := fun k_ => (P0_ k_ ∨ w.heap.size ≤ k_) ∧ some k_ ≠ (u3 : Value).ownBlock ∧ some k_ ≠ (.slice (some jS) t200.length qh3 : Value).ownBlock ∧ some k_ ≠ (v219 : Value).ownBlock ∧ some k_ ≠ (u7 : Value).ownBlock ∧ some k_ ≠ (u217003 : Value).ownBlock ∧ k_ ≠ qH ∧ k_ ≠ qP ∧ some k_ ≠ (v230 : Value).ownBlock) (Kd.jm1 (qa1.out) hkp (fun k_ hk_ hs_ => (hk_.2.2.2.2.1) hs_)) (fun k_ hk_ => ⟨hk_.1.1, hk_.1.2.1, hk_.1.2.2.1, hk_.1.2.2.2.1, hk_.1.2.2.2.2.2.1, hk_.1.2.2.2.2.2.2.1, hk_.1.2.2.2.2.2.2.2.1, hk_.1.2.2.2.2.2.2.2.2, fun e_ => Or.elim (ho0.1 k_ e_.symm) (fun hs_ => hk_.2.1 hs_) (fun hn_ => Nat.not_le.2 hk_.2.2 hn_)⟩)); have n1_ := q8.mk (Kd.z8 (ok' := fun k_ => (P0_ k_ ∨ w.heap.size ≤ k_) ∧ some k_ ≠ (.slice (some jS) t200.length qh3 : Value).ownBlock ∧ some k_ ≠ (v219 : Value).ownBlock ∧ some k_ ≠ (u7 : Value).ownBlock ∧ some k_ ≠ (u217003 : Value).ownBlock ∧ k_ ≠ qH ∧ k_ ≠ qP ∧ some k_ ≠ (v230 : Value).ownBlock) (Kd.qD9 (qa9.out) hkp (fun k_ hk_ hs_ => (hk_.2.2.2.1) hs_)) (fun k_ hk_ => ⟨hk_.1.1, hk_.1.2.1, hk_.1.2.2.1, hk_.1.2.2.2.2.1, hk_.1.2.2.2.2.2.1, hk_.1.2.2.2.2.2.2.1, hk_.1.2.2.2.2.2.2.2, fun e_ => Or.elim (ho0.1 k_ e_.symm) (fun hs_ => hk_.2.1 hs_) (fun hn_ => Nat.not_le.2 hk_.2.2 hn_)⟩)); have n2_ := q8.mk (Kd.z8 (ok' := fun k_ => (P0_ k_ ∨ w.heap.size ≤ k_) ∧ some k_ ≠ (u3 : Value).ownBlock ∧ some k_ ≠ (v219 : Value).ownBlock ∧ some k_ ≠ (u7 : Value).ownBlock ∧ some k_ ≠ (u217003 : Value).ownBlock ∧ k_ ≠ qH ∧ k_ ≠ qP ∧ some k_ ≠ (v230 : Value).ownBlock) (Kd.qD9 (qU.out) hkp (fun k_ hk_ hs_ => (hk_.2.2.2.1) hs_)) (fun k_ hk_ => ⟨hk_.1.1, hk_.1.2.1, hk_.1.2.2.1, hk_.1.2.2.2.2.1, hk_.1.2.2.2.2.2.1, hk_.1.2.2.2.2.2.2.1, hk_.1.2.2.2.2.2.2.2, fun e_ => Or.elim (ho0.1 k_ e_.symm) (fun hs_ => hk_.2.1 hs_) (fun hn_ => Nat.not_le.2 hk_.2.2 hn_)⟩)); have n3_ := q8.mk (Kd.jK (ok' := fun k_ => (w.heap.size ≤ k_) ∧ some k_ ≠ (u7 : Value).ownBlock ∧ some k_ ≠ (v230 : Value).ownBlock) (Kd.qu3 (qc9.out) hkp (fun k_ hk_ hs_ => (hk_.2.1) hs_)) (fun k_ hk_ => ⟨hk_.1.1, hk_.1.2.2, fun e_ => Or.elim (ho0.1 k_ e_.symm) (fun hs_ => hk_.2.1 hs_) (fun hn_ => Nat.not_le.2 hk_.2.2 hn_)⟩)); have n4_ := q8.mk (Kd.jK (ok' := fun k_ => (w.heap.size ≤ k_) ∧ some k_ ≠ (v219 : Value).ownBlock ∧ some k_ ≠ (v230 : Value).ownBlock) (Kd.qu3 (qd2.out) hkp (fun k_ hk_ hs_ => (hk_.2.2) hs_)) (fun k_ hk_ => ⟨hk_.1.1, hk_.1.2.1, fun e_ => Or.elim (ho0.1 k_ e_.symm) (fun hs_ => hk_.2.1 hs_) (fun hn_ => Nat.not_le.2 hk_.2.2 hn_)⟩)); have n5_ := q8.mk (Kd.jK (ok' := fun k_ => (w.heap.size ≤ k_) ∧ k_ ≠ qP) (Kd.qu3 ((Kd.qk8 jR.out (Kd.qk3 qe8.out) (by decide))) hkp (fun k_ hk_ hs_ => (hk_.2) hs_)) (fun k_ hk_ => ⟨hk_.1.1.1, hk_.1.1.2⟩)); have n6_ := q8.mk (qC8 (by (with_reducible repeat (first | refine qK ?_ _ | refine qR ?_ | refine qL ?_ _)); exact jH.out) hkp (fun hs_ => (fun e_ => (Kd.jJ2 qe8.out jH.out (by decide)) e_) hs_)); have n7_ := q8.mk (qC8 (by (with_reducible repeat (first | refine qK ?_ _ | refine qR ?_ | refine qL ?_ _)); exact jW.out) hkp (fun hs_ => (fun e_ => (Kd.jJ2 qe8.out jW.out (by decide)) e_) hs_)); have n8_ := q8.mk (Kd.jK (ok' := fun k_ => (w.heap.size ≤ k_) ∧ some k_ ≠ (v219 : Value).ownBlock ∧ some k_ ≠ (u7 : Value).ownBlock) ho0 (fun k_ hk_ => ⟨Or.elim hk_ (fun hs_ => (qe8.out.1 k_ (hs_).symm).1) (fun hn_ => (Nat.le_trans (qJ (by repeat (first | (with_reducible first | exact HB.out | apply qA | apply q9 | apply qB | refine qI ?_ qe9.out | refine qI ?_ qv9.out) | exact HB.out))) hn_)), Or.elim hk_ (fun hs_ => fun e_ => (((qc9.out).1 k_ e_.symm).2.1) hs_) (fun hn_ => (Kd.fresh' (Kd.qO1 (by (with_reducible repeat (first | apply Kd.qV | apply Kd.qW | apply Kd.jC)); exact qc9.out)) k_ hn_)), Or.elim hk_ (fun hs_ => fun e_ => (((qd2.out).1 k_ e_.symm).2.2) hs_) (fun hn_ => (Kd.fresh' (Kd.qO1 (by (with_reducible repeat (first | apply Kd.qV | apply Kd.qW | apply Kd.jC)); exact qd2.out)) k_ hn_))⟩)); have n9_ := q8.mk (hb); clear qa1; clear qa9; clear qU; clear qc9; clear qd2; clear jR; clear jH; clear jW; clear HB; clear qe8; clear qh4; clear ql6; have qa1 := n0_; have qa9 := n1_; have qU := n2_; have qc9 := n3_; have qd2 := n4_; have jR := n5_; have jH := n6_; have jW := n7_; have qx9 := n8_; have HB := n9_; clear n0_ n1_ n2_ n3_ n4_ n5_ n6_ n7_ n8_ n9_; (try clear hb); (try clear hkp); (try clear ho0); have Qt6 : w42.cell? ⟨qP, 0, none⟩ = some (.bool ((qG ((qD t200 qO).f3) qZ).f0)) := (qE jW.out 0).trans rfl; have Qt7 : w42.cell? ⟨qP, 1, none⟩ = some (.int .i64 ((qG ((qD t200 qO).f3) qZ).f1)) := (qE jW.out 1).trans rfl; have Qt8 : w42.cell? ⟨qP, 2, none⟩ = some (.int .i64 ((qG ((qD t200 qO).f3) qZ).f2)) := (qE jW.out 2).trans rfl; have Qt9 := qC jW.out 0; have Qu0 := qC jW.out 1; have Qu1 := qC jW.out 2; have Qu2 : w42.cell? ⟨qH, 0, none⟩ = some (.int .i64 t221) := (qE jH.out 0).trans rfl; have Qu3 : w42.cell? ⟨qH, 1, none⟩ = some (.int .i64 t213) := (qE jH.out 1).trans rfl; have Qu4 : w42.cell? ⟨qH, 2, none⟩ = some (.int .i64 t215) := (qE jH.out 2).trans rfl; have Qu5 : w42.cell? ⟨qH, 3, none⟩ = some (u217003) := (qE jH.out 3).trans rfl; have Qu6 := qC jH.out 0; have Qu7 := qC jH.out 1; have Qu8 := qC jH.out 2; have Qu9 := qC jH.out 3) | ((with_reducible refine ql4 (b := .append) (xs := #[.tmp 92, .tmp 94]) rfl ?_); at_builtin; refine Kd.ja6 k51 (w0 := w) w.heap.size rfl (.tmp 92) (.tmp 94) 53 51 (.agg #[(.bool false), (.int .i64 0), (.int .i64 0)]) 24 rfl Try.underlying53 zx0 rfl (by decide) (by omega) u217003 zX (⟨(qG ((qD t200 qO).f3) qZ).f0, t232, (qG ((qD t200 qO).f3) qZ).f2⟩ : S51) [.bool ((qG ((qD t200 qO).f3) qZ).f0), .int .i64 t232, .int .i64 ((qG ((qD t200 qO).f3) qZ).f2)] (fun k_ => (w.heap.size ≤ k_) ∧ k_ ≠ qP) (fun _ => False) rfl (by first | (go_simp; done) | (go_simp; rfl)) ?aP (fun _ hk => hk.elim) ?aF ?aO ?aB ?aS ?aL ?_; (case aP => exact zl3 _ _ _ (⟨(qG ((qD t200 qO).f3) qZ).f0, t232, (qG ((qD t200 qO).f3) qZ).f2⟩ : S51)); (case aB => exact (by repeat (first | (with_reducible first | exact HB.out | apply qA | apply q9 | apply qB | refine qI ?_ qe9.out | refine qI ?_ qv9.out) | exact HB.out))); (case aF => exact (fun k_ hk => ⟨(Nat.le_trans (qJ (by repeat (first | (with_reducible first | exact HB.out | apply qA | apply q9 | apply qB | refine qI ?_ qe9.out | refine qI ?_ qv9.out) | exact HB.out))) hk), Kd.zc9 (g := qP) (o := .cells #[.bool ((qG ((qD t200 qO).f3) qZ).f0), .int .i64 t232, .int .i64 ((qG ((qD t200 qO).f3) qZ).f2)] 51 (0, 0)) (by (with_reducible repeat (first | refine qK ?_ _ | refine qR ?_ | refine qL ?_ _)); refine qe0 (cs := #[.bool ((qG ((qD t200 qO).f3) qZ).f0), .int .i64 ((qG ((qD t200 qO).f3) qZ).f1), .int .i64 ((qG ((qD t200 qO).f3) qZ).f2)]) ?_ 1 _ rfl; (with_reducible repeat (first | refine qK ?_ _ | refine qR ?_ | refine qL ?_ _)); exact jW.out) k_ hk⟩)); (case aO => exact (by (with_reducible repeat (first | apply Kd.qV | apply Kd.qW | apply Kd.jC)); exact Kd.jK (Kd.zQ (p := ⟨qP, 1, none⟩) (Kd.jK jR.out (fun k_ hk => (⟨hk, hk.2⟩ : _ ∧ k_ ≠ qP))) (fun _ hk => hk.2) (.int .i64 t232)) (fun _ hk => ⟨hk.1.1, hk.1.2⟩))); (case aS => exact (qJ (by repeat (first | (with_reducible first | exact HB.out | apply qA | apply q9 | apply qB | refine qI ?_ qe9.out | refine qI ?_ qv9.out) | exact HB.out)))); (case aL => have := Qm5.out; omega); intro v234 w45 ho hb hg hat; rw [← Qm6.out] at ho; have n0_ := q8.mk (Kd.qm6 (ok := (fun k_ => (P0_ k_ ∨ w.heap.size ≤ k_) ∧ some k_ ≠ (u3 : Value).ownBlock ∧ some k_ ≠ (.slice (some jS) t200.length qh3 : Value).ownBlock ∧ some k_ ≠ (v219 : Value).ownBlock ∧ some k_ ≠ (u7 : Value).ownBlock ∧ some k_ ≠ (v230 : Value).ownBlock ∧ k_ ≠ qH ∧ k_ ≠ qP)) (by (with_reducible repeat (first | apply Kd.jO | apply Kd.jP | apply Kd.zA)); exact Kd.zN (Kd.qf8 (p := ⟨qP, 1, none⟩) (Kd.zN qa1.out (fun k_ hk => (⟨hk, hk.2.2.2.2.2.2.2.1⟩ : _ ∧ k_ ≠ qP))) (fun _ hk => hk.2) (.int .i64 t232)) (fun _ hk => ⟨⟨hk.1.1, ⟨hk.1.2.1, ⟨hk.1.2.2.1, ⟨hk.1.2.2.2.1, ⟨hk.1.2.2.2.2.1, ⟨hk.1.2.2.2.2.2.2.2.2, ⟨hk.1.2.2.2.2.2.2.1, hk.1.2.2.2.2.2.2.2.1⟩⟩⟩⟩⟩⟩⟩, hk.1.2.2.2.2.2.1⟩)) hg hat); have n1_ := q8.mk (Kd.qp3 (ok := (fun k_ => (P0_ k_ ∨ w.heap.size ≤ k_) ∧ some k_ ≠ (.slice (some jS) t200.length qh3 : Value).ownBlock ∧ some k_ ≠ (v219 : Value).ownBlock ∧ some k_ ≠ (u7 : Value).ownBlock ∧ some k_ ≠ (v230 : Value).ownBlock ∧ k_ ≠ qH ∧ k_ ≠ qP)) (by (with_reducible repeat (first | apply Kd.jD | apply Kd.jE | apply Kd.jJ)); exact Kd.z8 (Kd.qg7 (p := ⟨qP, 1, none⟩) (Kd.z8 qa9.out (fun k_ hk => (⟨hk, hk.2.2.2.2.2.2.1⟩ : _ ∧ k_ ≠ qP))) (fun _ hk => hk.2) (.int .i64 t232)) (fun _ hk => ⟨⟨hk.1.1, ⟨hk.1.2.1, ⟨hk.1.2.2.1, ⟨hk.1.2.2.2.1, ⟨hk.1.2.2.2.2.2.2.2, ⟨hk.1.2.2.2.2.2.1, hk.1.2.2.2.2.2.2.1⟩⟩⟩⟩⟩⟩, hk.1.2.2.2.2.1⟩)) hg hat); have n2_ := q8.mk (Kd.qp3 (ok := (fun k_ => (P0_ k_ ∨ w.heap.size ≤ k_) ∧ some k_ ≠ (u3 : Value).ownBlock ∧ some k_ ≠ (v219 : Value).ownBlock ∧ some k_ ≠ (u7 : Value).ownBlock ∧ some k_ ≠ (v230 : Value).ownBlock ∧ k_ ≠ qH ∧ k_ ≠ qP)) (by (with_reducible repeat (first | apply Kd.jD | apply Kd.jE | apply Kd.jJ)); exact Kd.z8 (Kd.qg7 (p := ⟨qP, 1, none⟩) (Kd.z8 qU.out (fun k_ hk => (⟨hk, hk.2.2.2.2.2.2.1⟩ : _ ∧ k_ ≠ qP))) (fun _ hk => hk.2) (.int .i64 t232)) (fun _ hk => ⟨⟨hk.1.1, ⟨hk.1.2.1, ⟨hk.1.2.2.1, ⟨hk.1.2.2.2.1, ⟨hk.1.2.2.2.2.2.2.2, ⟨hk.1.2.2.2.2.2.1, hk.1.2.2.2.2.2.2.1⟩⟩⟩⟩⟩⟩, hk.1.2.2.2.2.1⟩)) hg hat); have n3_ := q8.mk (Kd.qB0 (by (with_reducible repeat (first | apply Kd.qV | apply Kd.qW | apply Kd.jC)); exact (Kd.jK (Kd.zQ (p := ⟨qP, 1, none⟩) (Kd.qb7 qc9.out jW.out (by decide)) (fun _ hk => hk.2) (.int .i64 t232)) (fun _ h_ => h_.1))) (Kd.qk3 (by (with_reducible repeat (first | apply Kd.qV | apply Kd.qW | apply Kd.jC)); exact (Kd.jK (Kd.zQ (p := ⟨qP, 1, none⟩) (Kd.jK jR.out (fun k_ hk => (⟨hk, hk.2⟩ : _ ∧ k_ ≠ qP))) (fun _ hk => hk.2) (.int .i64 t232)) (fun _ h_ => h_.1)))) (by decide) hg); have n4_ := q8.mk (Kd.qB0 (by (with_reducible repeat (first | apply Kd.qV | apply Kd.qW | apply Kd.jC)); exact (Kd.jK (Kd.zQ (p := ⟨qP, 1, none⟩) (Kd.qb7 qd2.out jW.out (by decide)) (fun _ hk => hk.2) (.int .i64 t232)) (fun _ h_ => h_.1))) (Kd.qk3 (by (with_reducible repeat (first | apply Kd.qV | apply Kd.qW | apply Kd.jC)); exact (Kd.jK (Kd.zQ (p := ⟨qP, 1, none⟩) (Kd.jK jR.out (fun k_ hk => (⟨hk, hk.2⟩ : _ ∧ k_ ≠ qP))) (fun _ hk => hk.2) (.int .i64 t232)) (fun _ h_ => h_.1)))) (by decide) hg); have n5_ := q8.mk (qH3 (g := qH) (o := .cells #[.int .i64 t221, .int .i64 t213, .int .i64 t215, u217003] 55 (0, 0)) (by (with_reducible repeat (first | refine qK ?_ _ | refine qR ?_ | refine qL ?_ _)); refine qk2 ?_ qi4.out _; (with_reducible repeat (first | refine qK ?_ _ | refine qR ?_ | refine qL ?_ _)); exact jH.out) hg (Kd.jJ2 jR.out jH.out (by decide))); have n6_ := q8.mk (qH3 (g := qP) (o := .cells #[.bool ((qG ((qD t200 qO).f3) qZ).f0), .int .i64 t232, .int .i64 ((qG ((qD t200 qO).f3) qZ).f2)] 51 (0, 0)) (by (with_reducible repeat (first | refine qK ?_ _ | refine qR ?_ | refine qL ?_ _)); refine qe0 (cs := #[.bool ((qG ((qD t200 qO).f3) qZ).f0), .int .i64 ((qG ((qD t200 qO).f3) qZ).f1), .int .i64 ((qG ((qD t200 qO).f3) qZ).f2)]) ?_ 1 _ rfl; (with_reducible repeat (first | refine qK ?_ _ | refine qR ?_ | refine qL ?_ _)); exact jW.out) hg (Kd.zB0 jR.out (fun _ hk => hk.2))); have n7_ := q8.mk (Kd.qB0 (by (with_reducible repeat (first | apply Kd.qV | apply Kd.qW | apply Kd.jC)); exact (Kd.jK (Kd.zQ (p := ⟨qP, 1, none⟩) (Kd.qb7 qx9.out jW.out (by decide)) (fun _ hk => hk.2) (.int .i64 t232)) (fun _ h_ => h_.1))) (Kd.qk3 (by (with_reducible repeat (first | apply Kd.qV | apply Kd.qW | apply Kd.jC)); exact (Kd.jK (Kd.zQ (p := ⟨qP, 1, none⟩) (Kd.jK jR.out (fun k_ hk => (⟨hk, hk.2⟩ : _ ∧ k_ ≠ qP))) (fun _ hk => hk.2) (.int .i64 t232)) (fun _ h_ => h_.1)))) (by decide) hg); have n8_ := q8.mk (hb); have n9_ := q8.mk (ho); clear qa1; clear qa9; clear qU; clear qc9; clear qd2; clear jH; clear jW; clear qx9; clear HB; clear jR; have qa1 := n0_; have qa9 := n1_; have qU := n2_; have qc9 := n3_; have qd2 := n4_; have jH := n5_; have jW := n6_; have qx9 := n7_; have HB := n8_; have zV5 := n9_; clear n0_ n1_ n2_ n3_ n4_ n5_ n6_ n7_ n8_ n9_; clear ho hb hg hat; obtain ⟨jT1, jT2, eo46⟩ := Kd.qu0 zV5.out; subst eo46; have Qv0 : w45.cell? ⟨qH, 0, none⟩ = some (.int .i64 t221) := (qE jH.out 0).trans rfl; have Qv1 : w45.cell? ⟨qH, 1, none⟩ = some (.int .i64 t213) := (qE jH.out 1).trans rfl; have Qv2 : w45.cell? ⟨qH, 2, none⟩ = some (.int .i64 t215) := (qE jH.out 2).trans rfl; have Qv3 : w45.cell? ⟨qH, 3, none⟩ = some (u217003) := (qE jH.out 3).trans rfl; have Qv4 := qC jH.out 0; have Qv5 := qC jH.out 1; have Qv6 := qC jH.out 2; have Qv7 := qC jH.out 3))
             go_roundg k2
             case measure => have := HK1.out; have := HK2.out; omega
             case rel => exact ⟨(t229), (qf7), (wrap64 (qZ + 1)), (y233), (.slice jT1 y233.length jT2), (by first | rfl | (simp; done) | (simp [*]; done)), H', ⟨by have := HK1.out; have := HK2.out; omega⟩, ⟨by (with_reducible repeat (first | apply Kd.jO | apply Kd.jP | apply Kd.zA)); exact Kd.zN (Kd.qf8 (p := ⟨qH, 3, none⟩) (Kd.zN qa1.out (fun k_ hk => (⟨hk, hk.1.2.2.2.2.2.2.1⟩ : _ ∧ k_ ≠ qH))) (fun _ hk => hk.2) (.slice jT1 y233.length jT2)) (fun _ hk => ⟨hk.1.1.1, ⟨hk.1.1.2.1, ⟨hk.1.1.2.2.1, ⟨hk.1.1.2.2.2.1, ⟨hk.1.1.2.2.2.2.2.1, ⟨hk.1.1.2.2.2.2.1, ⟨hk.1.2, hk.1.1.2.2.2.2.2.2.1⟩⟩⟩⟩⟩⟩⟩)⟩, ⟨by (with_reducible repeat (first | apply Kd.jD | apply Kd.jE | apply Kd.jJ)); exact Kd.z8 (Kd.qg7 (p := ⟨qH, 3, none⟩) (Kd.z8 qa9.out (fun k_ hk => (⟨hk, hk.1.2.2.2.2.2.1⟩ : _ ∧ k_ ≠ qH))) (fun _ hk => hk.2) (.slice jT1 y233.length jT2)) (fun _ hk => ⟨hk.1.1.1, ⟨hk.1.1.2.1, ⟨hk.1.1.2.2.1, ⟨hk.1.1.2.2.2.2.1, ⟨hk.1.1.2.2.2.1, ⟨hk.1.2, hk.1.1.2.2.2.2.2.1⟩⟩⟩⟩⟩⟩)⟩, ⟨by (with_reducible repeat (first | apply Kd.jD | apply Kd.jE | apply Kd.jJ)); exact Kd.z8 (Kd.qg7 (p := ⟨qH, 3, none⟩) (Kd.z8 qU.out (fun k_ hk => (⟨hk, hk.1.2.2.2.2.2.1⟩ : _ ∧ k_ ≠ qH))) (fun _ hk => hk.2) (.slice jT1 y233.length jT2)) (fun _ hk => ⟨hk.1.1.1, ⟨hk.1.1.2.1, ⟨hk.1.1.2.2.1, ⟨hk.1.1.2.2.2.2.1, ⟨hk.1.1.2.2.2.1, ⟨hk.1.2, hk.1.1.2.2.2.2.2.1⟩⟩⟩⟩⟩⟩)⟩, ⟨by (with_reducible repeat (first | apply Kd.qV | apply Kd.qW | apply Kd.jC)); exact Kd.jK (Kd.zQ (p := ⟨qH, 3, none⟩) (Kd.qb7 qc9.out jH.out (by decide)) (fun _ hk => hk.2) (.slice jT1 y233.length jT2)) (fun _ hk => ⟨hk.1.1, ⟨hk.1.2.2, hk.1.2.1⟩⟩)⟩, ⟨by (with_reducible repeat (first | apply Kd.qV | apply Kd.qW | apply Kd.jC)); exact Kd.jK (Kd.zQ (p := ⟨qH, 3, none⟩) (Kd.qb7 qx9.out jH.out (by decide)) (fun _ hk => hk.2) (.slice jT1 y233.length jT2)) (fun _ hk => ⟨hk.1.1, ⟨hk.1.2.1, hk.1.2.2⟩⟩)⟩, ⟨by (with_reducible repeat (first | apply Kd.qV | apply Kd.qW | apply Kd.jC)); exact Kd.jK (Kd.zQ (p := ⟨qH, 3, none⟩) (Kd.qb7 qd2.out jH.out (by decide)) (fun _ hk => hk.2) (.slice jT1 y233.length jT2)) (fun _ hk => ⟨hk.1.1, ⟨hk.1.2.1, hk.1.2.2⟩⟩)⟩, ⟨by (with_reducible repeat (first | apply Kd.qV | apply Kd.qW | apply Kd.jC)); exact Kd.jK (Kd.zQ (p := ⟨qH, 3, none⟩) (Kd.qb7 zV5.out jH.out (by decide)) (fun _ hk => hk.2) (.slice jT1 y233.length jT2)) (fun _ hk => hk.1.1)⟩, ⟨by (with_reducible repeat (first | refine qK ?_ _ | refine qR ?_ | refine qL ?_ _)); refine qe0 (cs := #[.int .i64 t221, .int .i64 t213, .int .i64 t215, u217003]) ?_ 3 _ rfl; (with_reducible repeat (first | refine qK ?_ _ | refine qR ?_ | refine qL ?_ _)); exact jH.out⟩, ⟨by repeat (first | (with_reducible first | exact HB.out | apply qA | apply q9 | apply qB | refine qI ?_ qe9.out | refine qI ?_ qv9.out) | exact HB.out)⟩⟩
            ·rw [if_neg c35] at H
             exact absurd H (by simp)
           ·rw [if_neg c34] at H
            have Qm3 : (((qG ((qD t200 qO).f3) qZ).f2) == 0) = false := beq_eq_false_iff_ne.mpr c34
            have Qm4 : (((qG ((qD t200 qO).f3) qZ).f2) != 0) = true := bne_iff_ne.mpr c34
            replace H := Option.bind_eq_some_iff.mp H
            obtain ⟨⟨t236, t239⟩, A480, H⟩ := H
            replace H : (if zX.length < 5864062014805 then (qM.l1 k2 l0 qh2 t200 t218 t229 t236 qO (wrap64 (qZ + 1)) t221 t213 t215 (zX ++ [(⟨(qG ((qD t200 qO).f3) qZ).f0, t232, wrap64 (t239 + 1)⟩ : S51)])) else (none)) = some r := H
            have A48 := q8.mk A480
            clear A480
            by_cases c49 : zX.length < 5864062014805
            ·rw [if_pos c49] at H
             have Qm9 := q8.mk c49
             clear c49
             obtain ⟨y240, jT3⟩ : ∃ y_ : List (S51), y_ = (zX ++ [(⟨(qG ((qD t200 qO).f3) qZ).f0, t232, wrap64 (t239 + 1)⟩ : S51)]) := ⟨_, rfl⟩
             replace H : (qM.l1 k2 l0 qh2 t200 t218 t229 t236 qO (wrap64 (qZ + 1)) t221 t213 t215 y240) = some r := by first | (rw [jT3]; with_reducible exact H) | (have H2_ := (Option.bind_some _ _).symm.trans H; rw [jT3]; with_reducible exact H2_) | (have H2_ := (Option.bind_some _ _).symm.trans H; with_reducible exact H2_) | with_reducible exact H | (rw [jT3]; exact H) | exact H
             have Qn0 := q8.mk jT3
             clear jT3
             have H' := q8.mk H
             clear H
             have jb3 : 0 ≤ (qO : Int) := of_decide_eq_true (by first | (with_reducible assumption) | assumption)
             have jb4 : qO < (t200.length : Int) := of_decide_eq_true (by first | (with_reducible assumption) | assumption)
             obtain ⟨jS8, zA4, jh3, e222, zk7, zk8, zk9, qK2, qE0, qE1⟩ := qa5 (Kd.zZ qU.out).2.2 qO jb3 jb4
             obtain rfl : jS = jS8 := (by injection e222)
             obtain ⟨zV4, jq2, jq3, qP5⟩ := Kd.qH1 qU.out z55 qO jb3 (by first | exact jb4 | exact of_decide_eq_true (by first | (with_reducible assumption) | assumption) | (have e_ := (Kd.zZ qU.out).1; omega))
             obtain ⟨zl0, zl1, rfl, qu4, qu5⟩ := qi3 jq3
             have qn9 := qP5 3 _ rfl
             rw [zS _ _ 3 (by omega)] at qn9
             replace qn9 := Option.some.inj (qn9.symm.trans qK2)
             injection qn9 with qm7 qz0 qm8
             rw [qm7] at qu5
             rw [qm8] at qu4
             have qh4 := q8.mk (show Kd.V k51 51 _ w.heap.size _ _ ((qD t200 qO).f3) from Kd.qS6 qu4 qu5)
             clear qm7 qz0 qm8 qu5 qu4
             clear qP5 jq2
             have qw9 := q8.mk qE1
             have zl2 := q8.mk qE0
             clear qE1 qE0
             replace jb3 := eq_true jb3
             replace jb4 := eq_true jb4
             have jJ3 : 0 ≤ (qO : Int) := of_decide_eq_true (by first | (with_reducible assumption) | assumption)
             have jJ4 : qO < (t200.length : Int) := of_decide_eq_true (by first | (with_reducible assumption) | assumption)
             obtain ⟨zA5, Qb5, Qb6, e226, zL6, zL7, zL8, jb5, jb6, jb7⟩ := qa5 (Kd.zZ qU.out).2.2 qO jJ3 jJ4
             obtain rfl : jS = zA5 := (by injection e226)
             obtain ⟨Qm7, zc5, zc6, jq4⟩ := Kd.qH1 qU.out z55 qO jJ3 (by first | exact jJ4 | exact of_decide_eq_true (by first | (with_reducible assumption) | assumption) | (have e_ := (Kd.zZ qU.out).1; omega))
             obtain ⟨zL9, zM0, rfl, qK3, qK4⟩ := qi3 zc6
             have qA9 := jq4 3 _ rfl
             rw [zS _ _ 3 (by omega)] at qA9
             replace qA9 := Option.some.inj (qA9.symm.trans jb5)
             injection qA9 with qm7 qz0 qm8
             rw [qm7] at qK4
             rw [qm8] at qK3
             have ql6 := q8.mk (show Kd.V k51 51 _ w.heap.size _ _ ((qD t200 qO).f3) from Kd.qS6 qK3 qK4)
             clear qm7 qz0 qm8 qK4 qK3
             clear jq4 zc5
             have qp9 := q8.mk jb7
             have zM1 := q8.mk jb6
             clear jb7 jb6
             replace jJ3 := eq_true jJ3
             replace jJ4 := eq_true jJ4
             have ea_ := Option.some.inj (qK2.symm.trans jb5)
             injection ea_ with ea_ en_ ec_
             subst ea_
             subst ec_
             clear en_
             have zc7 : 0 ≤ (qZ : Int) := of_decide_eq_true (by first | (with_reducible assumption) | assumption)
             have zc8 : qZ < (((qD t200 qO).f3).length : Int) := of_decide_eq_true (by first | (with_reducible assumption) | assumption)
             obtain ⟨jS9, e227, zM2, zM3, zM4⟩ := qs5 (by repeat (first | (with_reducible exact qp9.out) | (with_reducible refine Kd.qi9 ?_ _) | (with_reducible refine Kd.qj0 ?_ _) | (with_reducible refine Kd.qn5 ?_) | exact qp9.out)) qZ zc7 zc8
             cases e227
             replace zc7 := eq_true zc7
             replace zc8 := eq_true zc8
             go_wp2_with (first | ((with_reducible refine zW (N := 11) rfl ?_); refine qa4 ?hg (N := 11) ?hd (cs := #[.bool false, .int .i64 0, .int .i64 0]) (t := 51) ?hr ?_; (case hd => rfl); (case hg => rfl); (case hr => first | (go_simp; done) | (go_simp; rfl)); intro qP hg w50 qb0 hb; have n0_ := q8.mk (Kd.ql5 (Kd.qi7 (by (with_reducible repeat (first | apply Kd.jO | apply Kd.jP | apply Kd.zA)); exact qa1.out) qP (Nat.le_of_eq hg.symm)) hb); have n1_ := q8.mk (Kd.qn7 (Kd.qs0 (by (with_reducible repeat (first | apply Kd.jD | apply Kd.jE | apply Kd.jJ)); exact qa9.out) qP (Nat.le_of_eq hg.symm)) hb); have n2_ := q8.mk (Kd.qn7 (Kd.qs0 (by (with_reducible repeat (first | apply Kd.jD | apply Kd.jE | apply Kd.jJ)); exact qU.out) qP (Nat.le_of_eq hg.symm)) hb); have n3_ := q8.mk (Kd.qg6 (by (with_reducible repeat (first | apply Kd.qV | apply Kd.qW | apply Kd.jC)); exact qc9.out) hb); have n4_ := q8.mk (Kd.qg6 (by (with_reducible repeat (first | apply Kd.qV | apply Kd.qW | apply Kd.jC)); exact qe8.out) hb); have n5_ := q8.mk (Kd.qg6 (by (with_reducible repeat (first | apply Kd.qV | apply Kd.qW | apply Kd.jC)); exact qd2.out) hb); have n6_ := q8.mk (Kd.qg6 (Kd.jT0 (by (with_reducible repeat (first | apply Kd.qV | apply Kd.qW | apply Kd.jC)); exact jR.out) qP (Nat.le_of_eq hg.symm)) hb); have n7_ := q8.mk (Kd.ql5 (Kd.qi7 (by (with_reducible repeat (first | apply Kd.jO | apply Kd.jP | apply Kd.zA)); exact qh4.out) qP (Nat.le_of_eq hg.symm)) hb); have n8_ := q8.mk (Kd.ql5 (Kd.qi7 (by (with_reducible repeat (first | apply Kd.jO | apply Kd.jP | apply Kd.zA)); exact ql6.out) qP (Nat.le_of_eq hg.symm)) hb); have n9_ := q8.mk (qn4 (g := qH) (o := .cells #[.int .i64 t221, .int .i64 t213, .int .i64 t215, u217003] 55 (0, 0)) (by (with_reducible repeat (first | refine qK ?_ _ | refine qR ?_ | refine qL ?_ _)); exact jH.out) hb); have qC6 := q8.mk (Kd.qn8 (by repeat (first | (with_reducible exact qw9.out) | (with_reducible refine Kd.qi9 ?_ _) | (with_reducible refine Kd.qj0 ?_ _) | (with_reducible refine Kd.qn5 ?_) | exact qw9.out)) hb); have qC7 := q8.mk (Kd.qn8 (by repeat (first | (with_reducible exact qp9.out) | (with_reducible refine Kd.qi9 ?_ _) | (with_reducible refine Kd.qj0 ?_ _) | (with_reducible refine Kd.qn5 ?_) | exact qp9.out)) hb); have jb0 := q8.mk (jL (by repeat (first | (with_reducible first | exact HB.out | apply qA | apply q9 | apply qB | refine qI ?_ qe9.out) | exact HB.out)) hb); have jb1 := q8.mk (qb0); have zA6 := q8.mk ((by rw [hg]; exact (qJ (by repeat (first | (with_reducible first | exact HB.out | apply qA | apply q9 | apply qB | refine qI ?_ qe9.out) | exact HB.out))) : w.heap.size ≤ qP)); have zA7 := q8.mk ((by rw [hg]; exact (qJ (by repeat (first | (with_reducible first | exact HB.out | apply qA | apply q9 | apply qB | refine qI ?_ qe9.out) | exact HB.out))) : w.heap.size ≤ qP)); have zA8 := q8.mk ((by rw [hg]; exact Nat.ne_of_lt (qu6 (g := qH) (o := .cells #[.int .i64 t221, .int .i64 t213, .int .i64 t215, u217003] 55 (0, 0)) (by (with_reducible repeat (first | refine qK ?_ _ | refine qR ?_ | refine qL ?_ _)); exact jH.out)) : qH ≠ qP)); have zA9 := q8.mk ((by rw [hg]; exact Nat.ne_of_gt (qu6 (g := qH) (o := .cells #[.int .i64 t221, .int .i64 t213, .int .i64 t215, u217003] 55 (0, 0)) (by (with_reducible repeat (first | refine qK ?_ _ | refine qR ?_ | refine qL ?_ _)); exact jH.out)) : qP ≠ qH)); clear qa1; clear qa9; clear qU; clear qc9; clear qe8; clear qd2; clear jR; clear qh4; clear ql6; clear jH; clear qw9; clear qp9; clear HB; have qa1 := n0_; have qa9 := n1_; have qU := n2_; have qc9 := n3_; have qe8 := n4_; have qd2 := n5_; have jR := n6_; have qh4 := n7_; have ql6 := n8_; have jH := n9_; have qw9 := qC6; have qp9 := qC7; have HB := jb0; have jW := jb1; have Qm8 := zA6; have qv9 := zA7; have qi4 := zA8; have jh4 := zA9; clear n0_ n1_ n2_ n3_ n4_ n5_ n6_ n7_ n8_ n9_ qC6 qC7 jb0 jb1 zA6 zA7 zA8 zA9; clear hb qb0 hg; have hnb51 := jh4.out; have hnc51 := qi4.out; have Qv8 : w50.cell? ⟨qP, 0, none⟩ = some (.bool false) := (qE jW.out 0).trans rfl; have Qv9 : w50.cell? ⟨qP, 1, none⟩ = some (.int .i64 0) := (qE jW.out 1).trans rfl; have Qw0 : w50.cell? ⟨qP, 2, none⟩ = some (.int .i64 0) := (qE jW.out 2).trans rfl; have Qw1 := qC jW.out 0; have Qw2 := qC jW.out 1; have Qw3 := qC jW.out 2) | ((with_reducible refine qV5 (t := 51) (p := 11) rfl ?_); refine qP6 (t := 51) (p := 11) (v := ?vo_w53) (w1 := (((w50.setCell ⟨qP, 0, none⟩ (.bool ((qG ((qD t200 qO).f3) qZ).f0))).setCell ⟨qP, 1, none⟩ (.int .i64 ((qG ((qD t200 qO).f3) qZ).f1))).setCell ⟨qP, 2, none⟩ (.int .i64 ((qG ((qD t200 qO).f3) qZ).f2)))) ?hg ?ho ?hn ?hr ?_; (case ho => rfl); (case hg => rfl); (case hn => rfl); (case hr => first | (go_simp; done) | (go_simp; rfl)); intro w53 hw; have n0_ : q8 (Kd.V k55 55 w53 w.heap.size (fun k_ => (P0_ k_ ∨ w.heap.size ≤ k_) ∧ some k_ ≠ (u3 : Value).ownBlock ∧ some k_ ≠ (.slice (some jS) t200.length qh3 : Value).ownBlock ∧ some k_ ≠ (v219 : Value).ownBlock ∧ some k_ ≠ (u6 : Value).ownBlock ∧ some k_ ≠ (u7 : Value).ownBlock ∧ some k_ ≠ (u217003 : Value).ownBlock ∧ k_ ≠ qH ∧ k_ ≠ qP) (.slice A0 l0.length c0) l0) := ⟨(by rw [hw]; exact (by (with_reducible repeat (first | apply Kd.jO | apply Kd.jP | apply Kd.zA)); exact Kd.zN (Kd.qf8 (p := ⟨qP, 2, none⟩) (Kd.qf8 (p := ⟨qP, 1, none⟩) (Kd.qf8 (p := ⟨qP, 0, none⟩) (Kd.zN qa1.out (fun k_ hk => (⟨hk, hk.2⟩ : _ ∧ k_ ≠ qP))) (fun _ hk => hk.2) (.bool ((qG ((qD t200 qO).f3) qZ).f0))) (fun _ hk => hk.2) (.int .i64 ((qG ((qD t200 qO).f3) qZ).f1))) (fun _ hk => hk.2) (.int .i64 ((qG ((qD t200 qO).f3) qZ).f2))) (fun _ hk => ⟨hk.1.1.1, ⟨hk.1.1.2.1, ⟨hk.1.1.2.2.1, ⟨hk.1.1.2.2.2.1, ⟨hk.1.1.2.2.2.2.1, ⟨hk.1.1.2.2.2.2.2.1, ⟨hk.1.1.2.2.2.2.2.2.1, ⟨hk.1.1.2.2.2.2.2.2.2, hk.1.2⟩⟩⟩⟩⟩⟩⟩⟩)))⟩; have n1_ : q8 (Kd.N k55 55 w53 w.heap.size (fun k_ => (P0_ k_ ∨ w.heap.size ≤ k_) ∧ some k_ ≠ (.slice (some jS) t200.length qh3 : Value).ownBlock ∧ some k_ ≠ (v219 : Value).ownBlock ∧ some k_ ≠ (u6 : Value).ownBlock ∧ some k_ ≠ (u7 : Value).ownBlock ∧ some k_ ≠ (u217003 : Value).ownBlock ∧ k_ ≠ qH ∧ k_ ≠ qP) u3 qh2) := ⟨(by rw [hw]; exact (by (with_reducible repeat (first | apply Kd.jD | apply Kd.jE | apply Kd.jJ)); exact Kd.z8 (Kd.qg7 (p := ⟨qP, 2, none⟩) (Kd.qg7 (p := ⟨qP, 1, none⟩) (Kd.qg7 (p := ⟨qP, 0, none⟩) (Kd.z8 qa9.out (fun k_ hk => (⟨hk, hk.2⟩ : _ ∧ k_ ≠ qP))) (fun _ hk => hk.2) (.bool ((qG ((qD t200 qO).f3) qZ).f0))) (fun _ hk => hk.2) (.int .i64 ((qG ((qD t200 qO).f3) qZ).f1))) (fun _ hk => hk.2) (.int .i64 ((qG ((qD t200 qO).f3) qZ).f2))) (fun _ hk => ⟨hk.1.1.1, ⟨hk.1.1.2.1, ⟨hk.1.1.2.2.1, ⟨hk.1.1.2.2.2.1, ⟨hk.1.1.2.2.2.2.1, ⟨hk.1.1.2.2.2.2.2.1, ⟨hk.1.1.2.2.2.2.2.2, hk.1.2⟩⟩⟩⟩⟩⟩⟩)))⟩; have n2_ : q8 (Kd.N k55 55 w53 w.heap.size (fun k_ => (P0_ k_ ∨ w.heap.size ≤ k_) ∧ some k_ ≠ (u3 : Value).ownBlock ∧ some k_ ≠ (v219 : Value).ownBlock ∧ some k_ ≠ (u6 : Value).ownBlock ∧ some k_ ≠ (u7 : Value).ownBlock ∧ some k_ ≠ (u217003 : Value).ownBlock ∧ k_ ≠ qH ∧ k_ ≠ qP) (.slice (some jS) t200.length qh3) t200) := ⟨(by rw [hw]; exact (by (with_reducible repeat (first | apply Kd.jD | apply Kd.jE | apply Kd.jJ)); exact Kd.z8 (Kd.qg7 (p := ⟨qP, 2, none⟩) (Kd.qg7 (p := ⟨qP, 1, none⟩) (Kd.qg7 (p := ⟨qP, 0, none⟩) (Kd.z8 qU.out (fun k_ hk => (⟨hk, hk.2⟩ : _ ∧ k_ ≠ qP))) (fun _ hk => hk.2) (.bool ((qG ((qD t200 qO).f3) qZ).f0))) (fun _ hk => hk.2) (.int .i64 ((qG ((qD t200 qO).f3) qZ).f1))) (fun _ hk => hk.2) (.int .i64 ((qG ((qD t200 qO).f3) qZ).f2))) (fun _ hk => ⟨hk.1.1.1, ⟨hk.1.1.2.1, ⟨hk.1.1.2.2.1, ⟨hk.1.1.2.2.2.1, ⟨hk.1.1.2.2.2.2.1, ⟨hk.1.1.2.2.2.2.2.1, ⟨hk.1.1.2.2.2.2.2.2, hk.1.2⟩⟩⟩⟩⟩⟩⟩)))⟩; have n3_ : q8 (Kd.R (Kd.int .i64) 3 w53 w.heap.size (fun k_ => (w.heap.size ≤ k_) ∧ some k_ ≠ (u6 : Value).ownBlock ∧ some k_ ≠ (u7 : Value).ownBlock) v219 t218) := ⟨(by rw [hw]; exact (by (with_reducible repeat (first | apply Kd.qV | apply Kd.qW | apply Kd.jC)); exact Kd.jK (Kd.zQ (p := ⟨qP, 2, none⟩) (Kd.zQ (p := ⟨qP, 1, none⟩) (Kd.zQ (p := ⟨qP, 0, none⟩) (Kd.qb7 qc9.out jW.out (by decide)) (fun _ hk => hk.2) (.bool ((qG ((qD t200 qO).f3) qZ).f0))) (fun _ hk => hk.2) (.int .i64 ((qG ((qD t200 qO).f3) qZ).f1))) (fun _ hk => hk.2) (.int .i64 ((qG ((qD t200 qO).f3) qZ).f2))) (fun _ hk => ⟨hk.1.1, ⟨hk.1.2.1, hk.1.2.2⟩⟩)))⟩; have n4_ : q8 (Kd.R (Kd.int .i64) 3 w53 w.heap.size (fun k_ => (w.heap.size ≤ k_) ∧ some k_ ≠ (v219 : Value).ownBlock ∧ some k_ ≠ (u7 : Value).ownBlock) u6 qe4) := ⟨(by rw [hw]; exact (by (with_reducible repeat (first | apply Kd.qV | apply Kd.qW | apply Kd.jC)); exact Kd.jK (Kd.zQ (p := ⟨qP, 2, none⟩) (Kd.zQ (p := ⟨qP, 1, none⟩) (Kd.zQ (p := ⟨qP, 0, none⟩) (Kd.qb7 qe8.out jW.out (by decide)) (fun _ hk => hk.2) (.bool ((qG ((qD t200 qO).f3) qZ).f0))) (fun _ hk => hk.2) (.int .i64 ((qG ((qD t200 qO).f3) qZ).f1))) (fun _ hk => hk.2) (.int .i64 ((qG ((qD t200 qO).f3) qZ).f2))) (fun _ hk => ⟨hk.1.1, ⟨hk.1.2.1, hk.1.2.2⟩⟩)))⟩; have n5_ : q8 (Kd.R (Kd.int .i64) 3 w53 w.heap.size (fun k_ => (w.heap.size ≤ k_) ∧ some k_ ≠ (v219 : Value).ownBlock ∧ some k_ ≠ (u6 : Value).ownBlock) u7 qf7) := ⟨(by rw [hw]; exact (by (with_reducible repeat (first | apply Kd.qV | apply Kd.qW | apply Kd.jC)); exact Kd.jK (Kd.zQ (p := ⟨qP, 2, none⟩) (Kd.zQ (p := ⟨qP, 1, none⟩) (Kd.zQ (p := ⟨qP, 0, none⟩) (Kd.qb7 qd2.out jW.out (by decide)) (fun _ hk => hk.2) (.bool ((qG ((qD t200 qO).f3) qZ).f0))) (fun _ hk => hk.2) (.int .i64 ((qG ((qD t200 qO).f3) qZ).f1))) (fun _ hk => hk.2) (.int .i64 ((qG ((qD t200 qO).f3) qZ).f2))) (fun _ hk => ⟨hk.1.1, ⟨hk.1.2.1, hk.1.2.2⟩⟩)))⟩; have n6_ : q8 (Kd.R k51 51 w53 w.heap.size (fun k_ => (w.heap.size ≤ k_) ∧ k_ ≠ qP) u217003 zX) := ⟨(by rw [hw]; exact (by (with_reducible repeat (first | apply Kd.qV | apply Kd.qW | apply Kd.jC)); exact Kd.jK (Kd.zQ (p := ⟨qP, 2, none⟩) (Kd.zQ (p := ⟨qP, 1, none⟩) (Kd.zQ (p := ⟨qP, 0, none⟩) (Kd.jK jR.out (fun k_ hk => (⟨hk, hk.2⟩ : _ ∧ k_ ≠ qP))) (fun _ hk => hk.2) (.bool ((qG ((qD t200 qO).f3) qZ).f0))) (fun _ hk => hk.2) (.int .i64 ((qG ((qD t200 qO).f3) qZ).f1))) (fun _ hk => hk.2) (.int .i64 ((qG ((qD t200 qO).f3) qZ).f2))) (fun _ hk => ⟨hk.1.1, hk.1.2⟩)))⟩; have n7_ : q8 (Kd.V k51 51 w53 w.heap.size (fun k_ => (P0_ k_ ∨ w.heap.size ≤ k_) ∧ some k_ ≠ (u3 : Value).ownBlock ∧ some k_ ≠ (.slice (some jS) t200.length qh3 : Value).ownBlock ∧ some k_ ≠ (v219 : Value).ownBlock ∧ some k_ ≠ (u6 : Value).ownBlock ∧ some k_ ≠ (u7 : Value).ownBlock ∧ some k_ ≠ (u217003 : Value).ownBlock ∧ k_ ≠ qH ∧ k_ ≠ qP) (.slice (some jS9) ((qD t200 qO).f3).length jh3) ((qD t200 qO).f3)) := ⟨(by rw [hw]; exact (by (with_reducible repeat (first | apply Kd.jO | apply Kd.jP | apply Kd.zA)); exact Kd.zN (Kd.qf8 (p := ⟨qP, 2, none⟩) (Kd.qf8 (p := ⟨qP, 1, none⟩) (Kd.qf8 (p := ⟨qP, 0, none⟩) (Kd.zN qh4.out (fun k_ hk => (⟨hk, hk.2⟩ : _ ∧ k_ ≠ qP))) (fun _ hk => hk.2) (.bool ((qG ((qD t200 qO).f3) qZ).f0))) (fun _ hk => hk.2) (.int .i64 ((qG ((qD t200 qO).f3) qZ).f1))) (fun _ hk => hk.2) (.int .i64 ((qG ((qD t200 qO).f3) qZ).f2))) (fun _ hk => ⟨hk.1.1.1.1, ⟨hk.1.1.1.2.1, ⟨hk.1.1.2, ⟨hk.1.1.1.2.2.1, ⟨hk.1.1.1.2.2.2.1, ⟨hk.1.1.1.2.2.2.2.1, ⟨hk.1.1.1.2.2.2.2.2.1, ⟨hk.1.1.1.2.2.2.2.2.2, hk.1.2⟩⟩⟩⟩⟩⟩⟩⟩)))⟩; have n8_ : q8 (Kd.V k51 51 w53 w.heap.size (fun k_ => (P0_ k_ ∨ w.heap.size ≤ k_) ∧ some k_ ≠ (u3 : Value).ownBlock ∧ some k_ ≠ (.slice (some jS) t200.length qh3 : Value).ownBlock ∧ some k_ ≠ (v219 : Value).ownBlock ∧ some k_ ≠ (u6 : Value).ownBlock ∧ some k_ ≠ (u7 : Value).ownBlock ∧ some k_ ≠ (u217003 : Value).ownBlock ∧ k_ ≠ qH ∧ k_ ≠ qP) (.slice (some jS9) ((qD t200 qO).f3).length jh3) ((qD t200 qO).f3)) := ⟨(by rw [hw]; exact (by (with_reducible repeat (first | apply Kd.jO | apply Kd.jP | apply Kd.zA)); exact Kd.zN (Kd.qf8 (p := ⟨qP, 2, none⟩) (Kd.qf8 (p := ⟨qP, 1, none⟩) (Kd.qf8 (p := ⟨qP, 0, none⟩) (Kd.zN ql6.out (fun k_ hk => (⟨hk, hk.2⟩ : _ ∧ k_ ≠ qP))) (fun _ hk => hk.2) (.bool ((qG ((qD t200 qO).f3) qZ).f0))) (fun _ hk => hk.2) (.int .i64 ((qG ((qD t200 qO).f3) qZ).f1))) (fun _ hk => hk.2) (.int .i64 ((qG ((qD t200 qO).f3) qZ).f2))) (fun _ hk => ⟨hk.1.1.1.1, ⟨hk.1.1.1.2.1, ⟨hk.1.1.2, ⟨hk.1.1.1.2.2.1, ⟨hk.1.1.1.2.2.2.1, ⟨hk.1.1.1.2.2.2.2.1, ⟨hk.1.1.1.2.2.2.2.2.1, ⟨hk.1.1.1.2.2.2.2.2.2, hk.1.2⟩⟩⟩⟩⟩⟩⟩⟩)))⟩; have n9_ : q8 (w53.heap[qH]? = some (.cells #[.int .i64 t221, .int .i64 t213, .int .i64 t215, u217003] 55 (0, 0))) := ⟨(by rw [hw]; exact (by (with_reducible repeat (first | refine qK ?_ _ | refine qR ?_ | refine qL ?_ _)); refine qk2 ?_ qi4.out _; (with_reducible repeat (first | refine qK ?_ _ | refine qR ?_ | refine qL ?_ _)); refine qk2 ?_ qi4.out _; (with_reducible repeat (first | refine qK ?_ _ | refine qR ?_ | refine qL ?_ _)); refine qk2 ?_ qi4.out _; (with_reducible repeat (first | refine qK ?_ _ | refine qR ?_ | refine qL ?_ _)); exact jH.out))⟩; have qC6 : q8 (w53.heap[qP]? = some (.cells #[.bool ((qG ((qD t200 qO).f3) qZ).f0), .int .i64 ((qG ((qD t200 qO).f3) qZ).f1), .int .i64 ((qG ((qD t200 qO).f3) qZ).f2)] 51 (0, 0))) := ⟨(by rw [hw]; exact (by (with_reducible repeat (first | refine qK ?_ _ | refine qR ?_ | refine qL ?_ _)); refine qe0 (cs := #[.bool ((qG ((qD t200 qO).f3) qZ).f0), .int .i64 ((qG ((qD t200 qO).f3) qZ).f1), .int .i64 0]) ?_ 2 _ rfl; (with_reducible repeat (first | refine qK ?_ _ | refine qR ?_ | refine qL ?_ _)); refine qe0 (cs := #[.bool ((qG ((qD t200 qO).f3) qZ).f0), .int .i64 0, .int .i64 0]) ?_ 1 _ rfl; (with_reducible repeat (first | refine qK ?_ _ | refine qR ?_ | refine qL ?_ _)); refine qe0 (cs := #[.bool false, .int .i64 0, .int .i64 0]) ?_ 0 _ rfl; (with_reducible repeat (first | refine qK ?_ _ | refine qR ?_ | refine qL ?_ _)); exact jW.out))⟩; have qC7 : q8 (Below w.heap.size w w53) := ⟨(by rw [hw]; exact (by repeat (first | (with_reducible first | exact HB.out | apply qA | apply q9 | apply qB | refine qI ?_ qe9.out | refine qI ?_ qv9.out) | exact HB.out)))⟩; clear hw; clear qa1; clear qa9; clear qU; clear qc9; clear qe8; clear qd2; clear jR; clear qh4; clear ql6; clear jH; clear jW; clear HB; have qa1 := n0_; have qa9 := n1_; have qU := n2_; have qc9 := n3_; have qe8 := n4_; have qd2 := n5_; have jR := n6_; have qh4 := n7_; have ql6 := n8_; have jH := n9_; have jW := qC6; have HB := qC7; clear n0_ n1_ n2_ n3_ n4_ n5_ n6_ n7_ n8_ n9_ qC6 qC7; have Qw4 : w53.cell? ⟨qP, 0, none⟩ = some (.bool ((qG ((qD t200 qO).f3) qZ).f0)) := (qE jW.out 0).trans rfl; have Qw5 : w53.cell? ⟨qP, 1, none⟩ = some (.int .i64 ((qG ((qD t200 qO).f3) qZ).f1)) := (qE jW.out 1).trans rfl; have Qw6 : w53.cell? ⟨qP, 2, none⟩ = some (.int .i64 ((qG ((qD t200 qO).f3) qZ).f2)) := (qE jW.out 2).trans rfl; have Qw7 := qC jW.out 0; have Qw8 := qC jW.out 1; have Qw9 := qC jW.out 2; obtain ⟨Qb9, Qc0, eo55⟩ := Kd.qu0 qe8.out; subst eo55) | ((with_reducible refine qj6 (f := 45) rfl ?_); refine qK1 (some 72) rfl rfl Try.func45 (by kernel_rfl) rfl #[.slice Qb9 qe4.length Qc0, .int .i64 ((qG ((qD t200 qO).f3) qZ).f1)] rfl (by (try simp only [List.map_toArray, List.map_cons, List.map_nil]); first | done | rfl | (simp only [List.length_drop, List.length_take]; rfl)) ?_; (with_reducible refine (jB.calls k2 (fun k_ => some k_ = (.slice Qb9 qe4.length Qc0 : Value).ownBlock) (.slice Qb9 qe4.length Qc0) qe4 ((qG ((qD t200 qO).f3) qZ).f1) t229 t232 w _ ?qu2 ?qx8 A33.out).mono ?_); (case qu2 => repeat (first | (with_reducible first | exact HB.out | apply qA | apply q9 | apply qB | refine qI ?_ qe9.out | refine qI ?_ qv9.out) | exact HB.out)); (case qx8 => exact Kd.jb2 rfl qe8.out); rintro e w56 ⟨v230, rfl, ho0, hb, hkp⟩; refine ⟨_, rfl, ?_⟩; have n0_ := q8.mk (Kd.zN (ok' := fun k_ => (P0_ k_ ∨ w.heap.size ≤ k_) ∧ some k_ ≠ (u3 : Value).ownBlock ∧ some k_ ≠ (.slice (some jS) t200.length qh3 : Value).ownBlock ∧ some k_ ≠ (v219 : Value).ownBlock ∧ some k_ ≠ (u7 : Value).ownBlock ∧ some k_ ≠ (u217003 : Value).ownBlock ∧ k_ ≠ qH ∧ k_ ≠ qP ∧ some k_ ≠ (v230 : Value).ownBlock) (Kd.jm1 (qa1.out) hkp (fun k_ hk_ hs_ => (hk_.2.2.2.2.1) hs_)) (fun k_ hk_ => ⟨hk_.1.1, hk_.1.2.1, hk_.1.2.2.1, hk_.1.2.2.2.1, hk_.1.2.2.2.2.2.1, hk_.1.2.2.2.2.2.2.1, hk_.1.2.2.2.2.2.2.2.1, hk_.1.2.2.2.2.2.2.2.2, fun e_ => Or.elim (ho0.1 k_ e_.symm) (fun hs_ => hk_.2.1 hs_) (fun hn_ => Nat.not_le.2 hk_.2.2 hn_)⟩)); have n1_ := q8.mk (Kd.z8 (ok' := fun k_ => (P0_ k_ ∨ w.heap.size ≤ k_) ∧ some k_ ≠ (.slice (some jS) t200.length qh3 : Value).ownBlock ∧ some k_ ≠ (v219 : Value).ownBlock ∧ some k_ ≠ (u7 : Value).ownBlock ∧ some k_ ≠ (u217003 : Value).ownBlock ∧ k_ ≠ qH ∧ k_ ≠ qP ∧ some k_ ≠ (v230 : Value).ownBlock) (Kd.qD9 (qa9.out) hkp (fun k_ hk_ hs_ => (hk_.2.2.2.1) hs_)) (fun k_ hk_ => ⟨hk_.1.1, hk_.1.2.1, hk_.1.2.2.1, hk_.1.2.2.2.2.1, hk_.1.2.2.2.2.2.1, hk_.1.2.2.2.2.2.2.1, hk_.1.2.2.2.2.2.2.2, fun e_ => Or.elim (ho0.1 k_ e_.symm) (fun hs_ => hk_.2.1 hs_) (fun hn_ => Nat.not_le.2 hk_.2.2 hn_)⟩)); have n2_ := q8.mk (Kd.z8 (ok' := fun k_ => (P0_ k_ ∨ w.heap.size ≤ k_) ∧ some k_ ≠ (u3 : Value).ownBlock ∧ some k_ ≠ (v219 : Value).ownBlock ∧ some k_ ≠ (u7 : Value).ownBlock ∧ some k_ ≠ (u217003 : Value).ownBlock ∧ k_ ≠ qH ∧ k_ ≠ qP ∧ some k_ ≠ (v230 : Value).ownBlock) (Kd.qD9 (qU.out) hkp (fun k_ hk_ hs_ => (hk_.2.2.2.1) hs_)) (fun k_ hk_ => ⟨hk_.1.1, hk_.1.2.1, hk_.1.2.2.1, hk_.1.2.2.2.2.1, hk_.1.2.2.2.2.2.1, hk_.1.2.2.2.2.2.2.1, hk_.1.2.2.2.2.2.2.2, fun e_ => Or.elim (ho0.1 k_ e_.symm) (fun hs_ => hk_.2.1 hs_) (fun hn_ => Nat.not_le.2 hk_.2.2 hn_)⟩)); have n3_ := q8.mk (Kd.jK (ok' := fun k_ => (w.heap.size ≤ k_) ∧ some k_ ≠ (u7 : Value).ownBlock ∧ some k_ ≠ (v230 : Value).ownBlock) (Kd.qu3 (qc9.out) hkp (fun k_ hk_ hs_ => (hk_.2.1) hs_)) (fun k_ hk_ => ⟨hk_.1.1, hk_.1.2.2, fun e_ => Or.elim (ho0.1 k_ e_.symm) (fun hs_ => hk_.2.1 hs_) (fun hn_ => Nat.not_le.2 hk_.2.2 hn_)⟩)); have n4_ := q8.mk (Kd.jK (ok' := fun k_ => (w.heap.size ≤ k_) ∧ some k_ ≠ (v219 : Value).ownBlock ∧ some k_ ≠ (v230 : Value).ownBlock) (Kd.qu3 (qd2.out) hkp (fun k_ hk_ hs_ => (hk_.2.2) hs_)) (fun k_ hk_ => ⟨hk_.1.1, hk_.1.2.1, fun e_ => Or.elim (ho0.1 k_ e_.symm) (fun hs_ => hk_.2.1 hs_) (fun hn_ => Nat.not_le.2 hk_.2.2 hn_)⟩)); have n5_ := q8.mk (Kd.jK (ok' := fun k_ => (w.heap.size ≤ k_) ∧ k_ ≠ qP) (Kd.qu3 ((Kd.qk8 jR.out (Kd.qk3 qe8.out) (by decide))) hkp (fun k_ hk_ hs_ => (hk_.2) hs_)) (fun k_ hk_ => ⟨hk_.1.1.1, hk_.1.1.2⟩)); have n6_ := q8.mk (qC8 (by (with_reducible repeat (first | refine qK ?_ _ | refine qR ?_ | refine qL ?_ _)); exact jH.out) hkp (fun hs_ => (fun e_ => (Kd.jJ2 qe8.out jH.out (by decide)) e_) hs_)); have n7_ := q8.mk (qC8 (by (with_reducible repeat (first | refine qK ?_ _ | refine qR ?_ | refine qL ?_ _)); exact jW.out) hkp (fun hs_ => (fun e_ => (Kd.jJ2 qe8.out jW.out (by decide)) e_) hs_)); have n8_ := q8.mk (Kd.jK (ok' := fun k_ => (w.heap.size ≤ k_) ∧ some k_ ≠ (v219 : Value).ownBlock ∧ some k_ ≠ (u7 : Value).ownBlock) ho0 (fun k_ hk_ => ⟨Or.elim hk_ (fun hs_ => (qe8.out.1 k_ (hs_).symm).1) (fun hn_ => (Nat.le_trans (qJ (by repeat (first | (with_reducible first | exact HB.out | apply qA | apply q9 | apply qB | refine qI ?_ qe9.out | refine qI ?_ qv9.out) | exact HB.out))) hn_)), Or.elim hk_ (fun hs_ => fun e_ => (((qc9.out).1 k_ e_.symm).2.1) hs_) (fun hn_ => (Kd.fresh' (Kd.qO1 (by (with_reducible repeat (first | apply Kd.qV | apply Kd.qW | apply Kd.jC)); exact qc9.out)) k_ hn_)), Or.elim hk_ (fun hs_ => fun e_ => (((qd2.out).1 k_ e_.symm).2.2) hs_) (fun hn_ => (Kd.fresh' (Kd.qO1 (by (with_reducible repeat (first | apply Kd.qV | apply Kd.qW | apply Kd.jC)); exact qd2.out)) k_ hn_))⟩)); have n9_ := q8.mk (hb); clear qa1; clear qa9; clear qU; clear qc9; clear qd2; clear jR; clear jH; clear jW; clear HB; clear qe8; clear qh4; clear ql6; have qa1 := n0_; have qa9 := n1_; have qU := n2_; have qc9 := n3_; have qd2 := n4_; have jR := n5_; have jH := n6_; have jW := n7_; have qx9 := n8_; have HB := n9_; clear n0_ n1_ n2_ n3_ n4_ n5_ n6_ n7_ n8_ n9_; (try clear hb); (try clear hkp); (try clear ho0); have Qx0 : w56.cell? ⟨qP, 0, none⟩ = some (.bool ((qG ((qD t200 qO).f3) qZ).f0)) := (qE jW.out 0).trans rfl; have Qx1 : w56.cell? ⟨qP, 1, none⟩ = some (.int .i64 ((qG ((qD t200 qO).f3) qZ).f1)) := (qE jW.out 1).trans rfl; have Qx2 : w56.cell? ⟨qP, 2, none⟩ = some (.int .i64 ((qG ((qD t200 qO).f3) qZ).f2)) := (qE jW.out 2).trans rfl; have Qx3 := qC jW.out 0; have Qx4 := qC jW.out 1; have Qx5 := qC jW.out 2) | ((with_reducible refine qV5 (t := 3) (p := 75) rfl ?_); refine qP6 (t := 3) (p := 75) (v := ?vo_w58) (w1 := (w56.setCell ⟨qP, 1, none⟩ (.int .i64 t232))) ?hg ?ho ?hn ?hr ?_; (case ho => rfl); (case hg => rfl); (case hn => rfl); (case hr => first | (go_simp; done) | (go_simp; rfl)); intro w58 hw; have n0_ : q8 (Kd.V k55 55 w58 w.heap.size (fun k_ => (P0_ k_ ∨ w.heap.size ≤ k_) ∧ some k_ ≠ (u3 : Value).ownBlock ∧ some k_ ≠ (.slice (some jS) t200.length qh3 : Value).ownBlock ∧ some k_ ≠ (v219 : Value).ownBlock ∧ some k_ ≠ (u7 : Value).ownBlock ∧ some k_ ≠ (u217003 : Value).ownBlock ∧ some k_ ≠ (v230 : Value).ownBlock ∧ k_ ≠ qH ∧ k_ ≠ qP) (.slice A0 l0.length c0) l0) := ⟨(by rw [hw]; exact (by (with_reducible repeat (first | apply Kd.jO | apply Kd.jP | apply Kd.zA)); exact Kd.zN (Kd.qf8 (p := ⟨qP, 1, none⟩) (Kd.zN qa1.out (fun k_ hk => (⟨hk, hk.2.2.2.2.2.2.2.1⟩ : _ ∧ k_ ≠ qP))) (fun _ hk => hk.2) (.int .i64 t232)) (fun _ hk => ⟨hk.1.1, ⟨hk.1.2.1, ⟨hk.1.2.2.1, ⟨hk.1.2.2.2.1, ⟨hk.1.2.2.2.2.1, ⟨hk.1.2.2.2.2.2.1, ⟨hk.1.2.2.2.2.2.2.2.2, ⟨hk.1.2.2.2.2.2.2.1, hk.1.2.2.2.2.2.2.2.1⟩⟩⟩⟩⟩⟩⟩⟩)))⟩; have n1_ : q8 (Kd.N k55 55 w58 w.heap.size (fun k_ => (P0_ k_ ∨ w.heap.size ≤ k_) ∧ some k_ ≠ (.slice (some jS) t200.length qh3 : Value).ownBlock ∧ some k_ ≠ (v219 : Value).ownBlock ∧ some k_ ≠ (u7 : Value).ownBlock ∧ some k_ ≠ (u217003 : Value).ownBlock ∧ some k_ ≠ (v230 : Value).ownBlock ∧ k_ ≠ qH ∧ k_ ≠ qP) u3 qh2) := ⟨(by rw [hw]; exact (by (with_reducible repeat (first | apply Kd.jD | apply Kd.jE | apply Kd.jJ)); exact Kd.z8 (Kd.qg7 (p := ⟨qP, 1, none⟩) (Kd.z8 qa9.out (fun k_ hk => (⟨hk, hk.2.2.2.2.2.2.1⟩ : _ ∧ k_ ≠ qP))) (fun _ hk => hk.2) (.int .i64 t232)) (fun _ hk => ⟨hk.1.1, ⟨hk.1.2.1, ⟨hk.1.2.2.1, ⟨hk.1.2.2.2.1, ⟨hk.1.2.2.2.2.1, ⟨hk.1.2.2.2.2.2.2.2, ⟨hk.1.2.2.2.2.2.1, hk.1.2.2.2.2.2.2.1⟩⟩⟩⟩⟩⟩⟩)))⟩; have n2_ : q8 (Kd.N k55 55 w58 w.heap.size (fun k_ => (P0_ k_ ∨ w.heap.size ≤ k_) ∧ some k_ ≠ (u3 : Value).ownBlock ∧ some k_ ≠ (v219 : Value).ownBlock ∧ some k_ ≠ (u7 : Value).ownBlock ∧ some k_ ≠ (u217003 : Value).ownBlock ∧ some k_ ≠ (v230 : Value).ownBlock ∧ k_ ≠ qH ∧ k_ ≠ qP) (.slice (some jS) t200.length qh3) t200) := ⟨(by rw [hw]; exact (by (with_reducible repeat (first | apply Kd.jD | apply Kd.jE | apply Kd.jJ)); exact Kd.z8 (Kd.qg7 (p := ⟨qP, 1, none⟩) (Kd.z8 qU.out (fun k_ hk => (⟨hk, hk.2.2.2.2.2.2.1⟩ : _ ∧ k_ ≠ qP))) (fun _ hk => hk.2) (.int .i64 t232)) (fun _ hk => ⟨hk.1.1, ⟨hk.1.2.1, ⟨hk.1.2.2.1, ⟨hk.1.2.2.2.1, ⟨hk.1.2.2.2.2.1, ⟨hk.1.2.2.2.2.2.2.2, ⟨hk.1.2.2.2.2.2.1, hk.1.2.2.2.2.2.2.1⟩⟩⟩⟩⟩⟩⟩)))⟩; have n3_ : q8 (Kd.R (Kd.int .i64) 3 w58 w.heap.size (fun k_ => (w.heap.size ≤ k_) ∧ some k_ ≠ (u7 : Value).ownBlock ∧ some k_ ≠ (v230 : Value).ownBlock) v219 t218) := ⟨(by rw [hw]; exact (by (with_reducible repeat (first | apply Kd.qV | apply Kd.qW | apply Kd.jC)); exact Kd.jK (Kd.zQ (p := ⟨qP, 1, none⟩) (Kd.qb7 qc9.out jW.out (by decide)) (fun _ hk => hk.2) (.int .i64 t232)) (fun _ hk => ⟨hk.1.1, ⟨hk.1.2.1, hk.1.2.2⟩⟩)))⟩; have n4_ : q8 (Kd.R (Kd.int .i64) 3 w58 w.heap.size (fun k_ => (w.heap.size ≤ k_) ∧ some k_ ≠ (v219 : Value).ownBlock ∧ some k_ ≠ (v230 : Value).ownBlock) u7 qf7) := ⟨(by rw [hw]; exact (by (with_reducible repeat (first | apply Kd.qV | apply Kd.qW | apply Kd.jC)); exact Kd.jK (Kd.zQ (p := ⟨qP, 1, none⟩) (Kd.qb7 qd2.out jW.out (by decide)) (fun _ hk => hk.2) (.int .i64 t232)) (fun _ hk => ⟨hk.1.1, ⟨hk.1.2.1, hk.1.2.2⟩⟩)))⟩; have n5_ : q8 (Kd.R k51 51 w58 w.heap.size (fun k_ => (w.heap.size ≤ k_) ∧ k_ ≠ qP) u217003 zX) := ⟨(by rw [hw]; exact (by (with_reducible repeat (first | apply Kd.qV | apply Kd.qW | apply Kd.jC)); exact Kd.jK (Kd.zQ (p := ⟨qP, 1, none⟩) (Kd.jK jR.out (fun k_ hk => (⟨hk, hk.2⟩ : _ ∧ k_ ≠ qP))) (fun _ hk => hk.2) (.int .i64 t232)) (fun _ hk => ⟨hk.1.1, hk.1.2⟩)))⟩; have n6_ : q8 (Kd.R (Kd.int .i64) 3 w58 w.heap.size (fun k_ => (w.heap.size ≤ k_) ∧ some k_ ≠ (v219 : Value).ownBlock ∧ some k_ ≠ (u7 : Value).ownBlock) v230 t229) := ⟨(by rw [hw]; exact (by (with_reducible repeat (first | apply Kd.qV | apply Kd.qW | apply Kd.jC)); exact Kd.jK (Kd.zQ (p := ⟨qP, 1, none⟩) (Kd.qb7 qx9.out jW.out (by decide)) (fun _ hk => hk.2) (.int .i64 t232)) (fun _ hk => ⟨hk.1.1, ⟨hk.1.2.1, hk.1.2.2⟩⟩)))⟩; have n7_ : q8 (w58.heap[qH]? = some (.cells #[.int .i64 t221, .int .i64 t213, .int .i64 t215, u217003] 55 (0, 0))) := ⟨(by rw [hw]; exact (by (with_reducible repeat (first | refine qK ?_ _ | refine qR ?_ | refine qL ?_ _)); refine qk2 ?_ qi4.out _; (with_reducible repeat (first | refine qK ?_ _ | refine qR ?_ | refine qL ?_ _)); exact jH.out))⟩; have n8_ : q8 (w58.heap[qP]? = some (.cells #[.bool ((qG ((qD t200 qO).f3) qZ).f0), .int .i64 t232, .int .i64 ((qG ((qD t200 qO).f3) qZ).f2)] 51 (0, 0))) := ⟨(by rw [hw]; exact (by (with_reducible repeat (first | refine qK ?_ _ | refine qR ?_ | refine qL ?_ _)); refine qe0 (cs := #[.bool ((qG ((qD t200 qO).f3) qZ).f0), .int .i64 ((qG ((qD t200 qO).f3) qZ).f1), .int .i64 ((qG ((qD t200 qO).f3) qZ).f2)]) ?_ 1 _ rfl; (with_reducible repeat (first | refine qK ?_ _ | refine qR ?_ | refine qL ?_ _)); exact jW.out))⟩; have n9_ : q8 (Below w.heap.size w w58) := ⟨(by rw [hw]; exact (by repeat (first | (with_reducible first | exact HB.out | apply qA | apply q9 | apply qB | refine qI ?_ qe9.out | refine qI ?_ qv9.out) | exact HB.out)))⟩; clear hw; clear qa1; clear qa9; clear qU; clear qc9; clear qd2; clear jR; clear qx9; clear jH; clear jW; clear HB; have qa1 := n0_; have qa9 := n1_; have qU := n2_; have qc9 := n3_; have qd2 := n4_; have jR := n5_; have qx9 := n6_; have jH := n7_; have jW := n8_; have HB := n9_; clear n0_ n1_ n2_ n3_ n4_ n5_ n6_ n7_ n8_ n9_; have Qx6 : w58.cell? ⟨qP, 0, none⟩ = some (.bool ((qG ((qD t200 qO).f3) qZ).f0)) := (qE jW.out 0).trans rfl; have Qx7 : w58.cell? ⟨qP, 1, none⟩ = some (.int .i64 t232) := (qE jW.out 1).trans rfl; have Qx8 : w58.cell? ⟨qP, 2, none⟩ = some (.int .i64 ((qG ((qD t200 qO).f3) qZ).f2)) := (qE jW.out 2).trans rfl; have Qx9 := qC jW.out 0; have Qy0 := qC jW.out 1; have Qy1 := qC jW.out 2; obtain ⟨Qc1, Qc2, eo60⟩ := Kd.qu0 qd2.out; subst eo60) | ((with_reducible refine qj6 (f := 45) rfl ?_); refine qK1 (some 83) rfl rfl Try.func45 (by kernel_rfl) rfl #[.slice Qc1 qf7.length Qc2, .int .i64 ((qG ((qD t200 qO).f3) qZ).f2)] rfl (by (try simp only [List.map_toArray, List.map_cons, List.map_nil]); first | done | rfl | (simp only [List.length_drop, List.length_take]; rfl)) ?_; (with_reducible refine (jB.calls k2 (fun k_ => some k_ = (.slice Qc1 qf7.length Qc2 : Value).ownBlock) (.slice Qc1 qf7.length Qc2) qf7 ((qG ((qD t200 qO).f3) qZ).f2) t236 t239 w _ ?qu2 ?qx8 A48.out).mono ?_); (case qu2 => repeat (first | (with_reducible first | exact HB.out | apply qA | apply q9 | apply qB | refine qI ?_ qe9.out | refine qI ?_ qv9.out) | exact HB.out)); (case qx8 => exact Kd.jb2 rfl qd2.out); rintro e w61 ⟨v237, rfl, ho0, hb, hkp⟩; refine ⟨_, rfl, ?_⟩; have n0_ := q8.mk (Kd.zN (ok' := fun k_ => (P0_ k_ ∨ w.heap.size ≤ k_) ∧ some k_ ≠ (u3 : Value).ownBlock ∧ some k_ ≠ (.slice (some jS) t200.length qh3 : Value).ownBlock ∧ some k_ ≠ (v219 : Value).ownBlock ∧ some k_ ≠ (u217003 : Value).ownBlock ∧ some k_ ≠ (v230 : Value).ownBlock ∧ k_ ≠ qH ∧ k_ ≠ qP ∧ some k_ ≠ (v237 : Value).ownBlock) (Kd.jm1 (qa1.out) hkp (fun k_ hk_ hs_ => (hk_.2.2.2.2.1) hs_)) (fun k_ hk_ => ⟨hk_.1.1, hk_.1.2.1, hk_.1.2.2.1, hk_.1.2.2.2.1, hk_.1.2.2.2.2.2.1, hk_.1.2.2.2.2.2.2.1, hk_.1.2.2.2.2.2.2.2.1, hk_.1.2.2.2.2.2.2.2.2, fun e_ => Or.elim (ho0.1 k_ e_.symm) (fun hs_ => hk_.2.1 hs_) (fun hn_ => Nat.not_le.2 hk_.2.2 hn_)⟩)); have n1_ := q8.mk (Kd.z8 (ok' := fun k_ => (P0_ k_ ∨ w.heap.size ≤ k_) ∧ some k_ ≠ (.slice (some jS) t200.length qh3 : Value).ownBlock ∧ some k_ ≠ (v219 : Value).ownBlock ∧ some k_ ≠ (u217003 : Value).ownBlock ∧ some k_ ≠ (v230 : Value).ownBlock ∧ k_ ≠ qH ∧ k_ ≠ qP ∧ some k_ ≠ (v237 : Value).ownBlock) (Kd.qD9 (qa9.out) hkp (fun k_ hk_ hs_ => (hk_.2.2.2.1) hs_)) (fun k_ hk_ => ⟨hk_.1.1, hk_.1.2.1, hk_.1.2.2.1, hk_.1.2.2.2.2.1, hk_.1.2.2.2.2.2.1, hk_.1.2.2.2.2.2.2.1, hk_.1.2.2.2.2.2.2.2, fun e_ => Or.elim (ho0.1 k_ e_.symm) (fun hs_ => hk_.2.1 hs_) (fun hn_ => Nat.not_le.2 hk_.2.2 hn_)⟩)); have n2_ := q8.mk (Kd.z8 (ok' := fun k_ => (P0_ k_ ∨ w.heap.size ≤ k_) ∧ some k_ ≠ (u3 : Value).ownBlock ∧ some k_ ≠ (v219 : Value).ownBlock ∧ some k_ ≠ (u217003 : Value).ownBlock ∧ some k_ ≠ (v230 : Value).ownBlock ∧ k_ ≠ qH ∧ k_ ≠ qP ∧ some k_ ≠ (v237 : Value).ownBlock) (Kd.qD9 (qU.out) hkp (fun k_ hk_ hs_ => (hk_.2.2.2.1) hs_)) (fun k_ hk_ => ⟨hk_.1.1, hk_.1.2.1, hk_.1.2.2.1, hk_.1.2.2.2.2.1, hk_.1.2.2.2.2.2.1, hk_.1.2.2.2.2.2.2.1, hk_.1.2.2.2.2.2.2.2, fun e_ => Or.elim (ho0.1 k_ e_.symm) (fun hs_ => hk_.2.1 hs_) (fun hn_ => Nat.not_le.2 hk_.2.2 hn_)⟩)); have n3_ := q8.mk (Kd.jK (ok' := fun k_ => (w.heap.size ≤ k_) ∧ some k_ ≠ (v230 : Value).ownBlock ∧ some k_ ≠ (v237 : Value).ownBlock) (Kd.qu3 (qc9.out) hkp (fun k_ hk_ hs_ => (hk_.2.1) hs_)) (fun k_ hk_ => ⟨hk_.1.1, hk_.1.2.2, fun e_ => Or.elim (ho0.1 k_ e_.symm) (fun hs_ => hk_.2.1 hs_) (fun hn_ => Nat.not_le.2 hk_.2.2 hn_)⟩)); have n4_ := q8.mk (Kd.jK (ok' := fun k_ => (w.heap.size ≤ k_) ∧ k_ ≠ qP) (Kd.qu3 ((Kd.qk8 jR.out (Kd.qk3 qd2.out) (by decide))) hkp (fun k_ hk_ hs_ => (hk_.2) hs_)) (fun k_ hk_ => ⟨hk_.1.1.1, hk_.1.1.2⟩)); have n5_ := q8.mk (qC8 (by (with_reducible repeat (first | refine qK ?_ _ | refine qR ?_ | refine qL ?_ _)); exact jH.out) hkp (fun hs_ => (fun e_ => (Kd.jJ2 qd2.out jH.out (by decide)) e_) hs_)); have n6_ := q8.mk (qC8 (by (with_reducible repeat (first | refine qK ?_ _ | refine qR ?_ | refine qL ?_ _)); exact jW.out) hkp (fun hs_ => (fun e_ => (Kd.jJ2 qd2.out jW.out (by decide)) e_) hs_)); have n7_ := q8.mk (Kd.jK (ok' := fun k_ => (w.heap.size ≤ k_) ∧ some k_ ≠ (v219 : Value).ownBlock ∧ some k_ ≠ (v237 : Value).ownBlock) (Kd.qu3 (qx9.out) hkp (fun k_ hk_ hs_ => (hk_.2.2) hs_)) (fun k_ hk_ => ⟨hk_.1.1, hk_.1.2.1, fun e_ => Or.elim (ho0.1 k_ e_.symm) (fun hs_ => hk_.2.1 hs_) (fun hn_ => Nat.not_le.2 hk_.2.2 hn_)⟩)); have n8_ := q8.mk (Kd.jK (ok' := fun k_ => (w.heap.size ≤ k_) ∧ some k_ ≠ (v219 : Value).ownBlock ∧ some k_ ≠ (v230 : Value).ownBlock) ho0 (fun k_ hk_ => ⟨Or.elim hk_ (fun hs_ => (qd2.out.1 k_ (hs_).symm).1) (fun hn_ => (Nat.le_trans (qJ (by repeat (first | (with_reducible first | exact HB.out | apply qA | apply q9 | apply qB | refine qI ?_ qe9.out | refine qI ?_ qv9.out) | exact HB.out))) hn_)), Or.elim hk_ (fun hs_ => fun e_ => (((qc9.out).1 k_ e_.symm).2.1) hs_) (fun hn_ => (Kd.fresh' (Kd.qO1 (by (with_reducible repeat (first | apply Kd.qV | apply Kd.qW | apply Kd.jC)); exact qc9.out)) k_ hn_)), Or.elim hk_ (fun hs_ => fun e_ => (((qx9.out).1 k_ e_.symm).2.2) hs_) (fun hn_ => (Kd.fresh' (Kd.qO1 (by (with_reducible repeat (first | apply Kd.qV | apply Kd.qW | apply Kd.jC)); exact qx9.out)) k_ hn_))⟩)); have n9_ := q8.mk (hb); clear qa1; clear qa9; clear qU; clear qc9; clear jR; clear jH; clear jW; clear qx9; clear HB; clear qd2; have qa1 := n0_; have qa9 := n1_; have qU := n2_; have qc9 := n3_; have jR := n4_; have jH := n5_; have jW := n6_; have qx9 := n7_; have zl4 := n8_; have HB := n9_; clear n0_ n1_ n2_ n3_ n4_ n5_ n6_ n7_ n8_ n9_; (try clear hb); (try clear hkp); (try clear ho0); have Qy2 : w61.cell? ⟨qP, 0, none⟩ = some (.bool ((qG ((qD t200 qO).f3) qZ).f0)) := (qE jW.out 0).trans rfl; have Qy3 : w61.cell? ⟨qP, 1, none⟩ = some (.int .i64 t232) := (qE jW.out 1).trans rfl; have Qy4 : w61.cell? ⟨qP, 2, none⟩ = some (.int .i64 ((qG ((qD t200 qO).f3) qZ).f2)) := (qE jW.out 2).trans rfl; have Qy5 := qC jW.out 0; have Qy6 := qC jW.out 1; have Qy7 := qC jW.out 2; have Qy8 : w61.cell? ⟨qH, 0, none⟩ = some (.int .i64 t221) := (qE jH.out 0).trans rfl; have Qy9 : w61.cell? ⟨qH, 1, none⟩ = some (.int .i64 t213) := (qE jH.out 1).trans rfl; have Qz0 : w61.cell? ⟨qH, 2, none⟩ = some (.int .i64 t215) := (qE jH.out 2).trans rfl; have Qz1 : w61.cell? ⟨qH, 3, none⟩ = some (u217003) := (qE jH.out 3).trans rfl; have Qz2 := qC jH.out 0; have Qz3 := qC jH.out 1; have Qz4 := qC jH.out 2; have Qz5 := qC jH.out 3) | ((with_reducible refine ql4 (b := .append) (xs := #[.tmp 92, .tmp 94]) rfl ?_); at_builtin; refine Kd.ja6 k51 (w0 := w) w.heap.size rfl (.tmp 92) (.tmp 94) 53 51 (.agg #[(.bool false), (.int .i64 0), (.int .i64 0)]) 24 rfl Try.underlying53 zx0 rfl (by decide) (by omega) u217003 zX (⟨(qG ((qD t200 qO).f3) qZ).f0, t232, wrap64 (t239 + 1)⟩ : S51) [.bool ((qG ((qD t200 qO).f3) qZ).f0), .int .i64 t232, .int .i64 (wrap64 (t239 + 1))] (fun k_ => (w.heap.size ≤ k_) ∧ k_ ≠ qP) (fun _ => False) rfl (by first | (go_simp; done) | (go_simp; rfl)) ?aP (fun _ hk => hk.elim) ?aF ?aO ?aB ?aS ?aL ?_; (case aP => exact zl3 _ _ _ (⟨(qG ((qD t200 qO).f3) qZ).f0, t232, wrap64 (t239 + 1)⟩ : S51)); (case aB => exact (by repeat (first | (with_reducible first | exact HB.out | apply qA | apply q9 | apply qB | refine qI ?_ qe9.out | refine qI ?_ qv9.out) | exact HB.out))); (case aF => exact (fun k_ hk => ⟨(Nat.le_trans (qJ (by repeat (first | (with_reducible first | exact HB.out | apply qA | apply q9 | apply qB | refine qI ?_ qe9.out | refine qI ?_ qv9.out) | exact HB.out))) hk), Kd.zc9 (g := qP) (o := .cells #[.bool ((qG ((qD t200 qO).f3) qZ).f0), .int .i64 t232, .int .i64 (wrap64 (t239 + 1))] 51 (0, 0)) (by (with_reducible repeat (first | refine qK ?_ _ | refine qR ?_ | refine qL ?_ _)); refine qe0 (cs := #[.bool ((qG ((qD t200 qO).f3) qZ).f0), .int .i64 t232, .int .i64 t239]) ?_ 2 _ rfl; (with_reducible repeat (first | refine qK ?_ _ | refine qR ?_ | refine qL ?_ _)); refine qe0 (cs := #[.bool ((qG ((qD t200 qO).f3) qZ).f0), .int .i64 t232, .int .i64 ((qG ((qD t200 qO).f3) qZ).f2)]) ?_ 2 _ rfl; (with_reducible repeat (first | refine qK ?_ _ | refine qR ?_ | refine qL ?_ _)); exact jW.out) k_ hk⟩)); (case aO => exact (by (with_reducible repeat (first | apply Kd.qV | apply Kd.qW | apply Kd.jC)); exact Kd.jK (Kd.zQ (p := ⟨qP, 2, none⟩) (Kd.zQ (p := ⟨qP, 2, none⟩) (Kd.jK jR.out (fun k_ hk => (⟨hk, hk.2⟩ : _ ∧ k_ ≠ qP))) (fun _ hk => hk.2) (.int .i64 t239)) (fun _ hk => hk.2) (.int .i64 (wrap64 (t239 + 1)))) (fun _ hk => ⟨hk.1.1, hk.1.2⟩))); (case aS => exact (qJ (by repeat (first | (with_reducible first | exact HB.out | apply qA | apply q9 | apply qB | refine qI ?_ qe9.out | refine qI ?_ qv9.out) | exact HB.out)))); (case aL => have := Qm9.out; omega); intro v241 w64 ho hb hg hat; rw [← Qn0.out] at ho; have n0_ := q8.mk (Kd.qm6 (ok := (fun k_ => (P0_ k_ ∨ w.heap.size ≤ k_) ∧ some k_ ≠ (u3 : Value).ownBlock ∧ some k_ ≠ (.slice (some jS) t200.length qh3 : Value).ownBlock ∧ some k_ ≠ (v219 : Value).ownBlock ∧ some k_ ≠ (v230 : Value).ownBlock ∧ some k_ ≠ (v237 : Value).ownBlock ∧ k_ ≠ qH ∧ k_ ≠ qP)) (by (with_reducible repeat (first | apply Kd.jO | apply Kd.jP | apply Kd.zA)); exact Kd.zN (Kd.qf8 (p := ⟨qP, 2, none⟩) (Kd.qf8 (p := ⟨qP, 2, none⟩) (Kd.zN qa1.out (fun k_ hk => (⟨hk, hk.2.2.2.2.2.2.2.1⟩ : _ ∧ k_ ≠ qP))) (fun _ hk => hk.2) (.int .i64 t239)) (fun _ hk => hk.2) (.int .i64 (wrap64 (t239 + 1)))) (fun _ hk => ⟨⟨hk.1.1, ⟨hk.1.2.1, ⟨hk.1.2.2.1, ⟨hk.1.2.2.2.1, ⟨hk.1.2.2.2.2.2.1, ⟨hk.1.2.2.2.2.2.2.2.2, ⟨hk.1.2.2.2.2.2.2.1, hk.1.2.2.2.2.2.2.2.1⟩⟩⟩⟩⟩⟩⟩, hk.1.2.2.2.2.1⟩)) hg hat); have n1_ := q8.mk (Kd.qp3 (ok := (fun k_ => (P0_ k_ ∨ w.heap.size ≤ k_) ∧ some k_ ≠ (.slice (some jS) t200.length qh3 : Value).ownBlock ∧ some k_ ≠ (v219 : Value).ownBlock ∧ some k_ ≠ (v230 : Value).ownBlock ∧ some k_ ≠ (v237 : Value).ownBlock ∧ k_ ≠ qH ∧ k_ ≠ qP)) (by (with_reducible repeat (first | apply Kd.jD | apply Kd.jE | apply Kd.jJ)); exact Kd.z8 (Kd.qg7 (p := ⟨qP, 2, none⟩) (Kd.qg7 (p := ⟨qP, 2, none⟩) (Kd.z8 qa9.out (fun k_ hk => (⟨hk, hk.2.2.2.2.2.2.1⟩ : _ ∧ k_ ≠ qP))) (fun _ hk => hk.2) (.int .i64 t239)) (fun _ hk => hk.2) (.int .i64 (wrap64 (t239 + 1)))) (fun _ hk => ⟨⟨hk.1.1, ⟨hk.1.2.1, ⟨hk.1.2.2.1, ⟨hk.1.2.2.2.2.1, ⟨hk.1.2.2.2.2.2.2.2, ⟨hk.1.2.2.2.2.2.1, hk.1.2.2.2.2.2.2.1⟩⟩⟩⟩⟩⟩, hk.1.2.2.2.1⟩)) hg hat); have n2_ := q8.mk (Kd.qp3 (ok := (fun k_ => (P0_ k_ ∨ w.heap.size ≤ k_) ∧ some k_ ≠ (u3 : Value).ownBlock ∧ some k_ ≠ (v219 : Value).ownBlock ∧ some k_ ≠ (v230 : Value).ownBlock ∧ some k_ ≠ (v237 : Value).ownBlock ∧ k_ ≠ qH ∧ k_ ≠ qP)) (by (with_reducible repeat (first | apply Kd.jD | apply Kd.jE | apply Kd.jJ)); exact Kd.z8 (Kd.qg7 (p := ⟨qP, 2, none⟩) (Kd.qg7 (p := ⟨qP, 2, none⟩) (Kd.z8 qU.out (fun k_ hk => (⟨hk, hk.2.2.2.2.2.2.1⟩ : _ ∧ k_ ≠ qP))) (fun _ hk => hk.2) (.int .i64 t239)) (fun _ hk => hk.2) (.int .i64 (wrap64 (t239 + 1)))) (fun _ hk => ⟨⟨hk.1.1, ⟨hk.1.2.1, ⟨hk.1.2.2.1, ⟨hk.1.2.2.2.2.1, ⟨hk.1.2.2.2.2.2.2.2, ⟨hk.1.2.2.2.2.2.1, hk.1.2.2.2.2.2.2.1⟩⟩⟩⟩⟩⟩, hk.1.2.2.2.1⟩)) hg hat); have n3_ := q8.mk (Kd.qB0 (by (with_reducible repeat (first | apply Kd.qV | apply Kd.qW | apply Kd.jC)); exact (Kd.jK (Kd.zQ (p := ⟨qP, 2, none⟩) (Kd.zQ (p := ⟨qP, 2, none⟩) (Kd.qb7 qc9.out jW.out (by decide)) (fun _ hk => hk.2) (.int .i64 t239)) (fun _ hk => hk.2) (.int .i64 (wrap64 (t239 + 1)))) (fun _ h_ => h_.1))) (Kd.qk3 (by (with_reducible repeat (first | apply Kd.qV | apply Kd.qW | apply Kd.jC)); exact (Kd.jK (Kd.zQ (p := ⟨qP, 2, none⟩) (Kd.zQ (p := ⟨qP, 2, none⟩) (Kd.jK jR.out (fun k_ hk => (⟨hk, hk.2⟩ : _ ∧ k_ ≠ qP))) (fun _ hk => hk.2) (.int .i64 t239)) (fun _ hk => hk.2) (.int .i64 (wrap64 (t239 + 1)))) (fun _ h_ => h_.1)))) (by decide) hg); have n4_ := q8.mk (qH3 (g := qH) (o := .cells #[.int .i64 t221, .int .i64 t213, .int .i64 t215, u217003] 55 (0, 0)) (by (with_reducible repeat (first | refine qK ?_ _ | refine qR ?_ | refine qL ?_ _)); refine qk2 ?_ qi4.out _; (with_reducible repeat (first | refine qK ?_ _ | refine qR ?_ | refine qL ?_ _)); refine qk2 ?_ qi4.out _; (with_reducible repeat (first | refine qK ?_ _ | refine qR ?_ | refine qL ?_ _)); exact jH.out) hg (Kd.jJ2 jR.out jH.out (by decide))); have n5_ := q8.mk (qH3 (g := qP) (o := .cells #[.bool ((qG ((qD t200 qO).f3) qZ).f0), .int .i64 t232, .int .i64 (wrap64 (t239 + 1))] 51 (0, 0)) (by (with_reducible repeat (first | refine qK ?_ _ | refine qR ?_ | refine qL ?_ _)); refine qe0 (cs := #[.bool ((qG ((qD t200 qO).f3) qZ).f0), .int .i64 t232, .int .i64 t239]) ?_ 2 _ rfl; (with_reducible repeat (first | refine qK ?_ _ | refine qR ?_ | refine qL ?_ _)); refine qe0 (cs := #[.bool ((qG ((qD t200 qO).f3) qZ).f0), .int .i64 t232, .int .i64 ((qG ((qD t200 qO).f3) qZ).f2)]) ?_ 2 _ rfl; (with_reducible repeat (first | refine qK ?_ _ | refine qR ?_ | refine qL ?_ _)); exact jW.out) hg (Kd.zB0 jR.out (fun _ hk => hk.2))); have n6_ := q8.mk (Kd.qB0 (by (with_reducible repeat (first | apply Kd.qV | apply Kd.qW | apply Kd.jC)); exact (Kd.jK (Kd.zQ (p := ⟨qP, 2, none⟩) (Kd.zQ (p := ⟨qP, 2, none⟩) (Kd.qb7 qx9.out jW.out (by decide)) (fun _ hk => hk.2) (.int .i64 t239)) (fun _ hk => hk.2) (.int .i64 (wrap64 (t239 + 1)))) (fun _ h_ => h_.1))) (Kd.qk3 (by (with_reducible repeat (first | apply Kd.qV | apply Kd.qW | apply Kd.jC)); exact (Kd.jK (Kd.zQ (p := ⟨qP, 2, none⟩) (Kd.zQ (p := ⟨qP, 2, none⟩) (Kd.jK jR.out (fun k_ hk => (⟨hk, hk.2⟩ : _ ∧ k_ ≠ qP))) (fun _ hk => hk.2) (.int .i64 t239)) (fun _ hk => hk.2) (.int .i64 (wrap64 (t239 + 1)))) (fun _ h_ => h_.1)))) (by decide) hg); have n7_ := q8.mk (Kd.qB0 (by (with_reducible repeat (first | apply Kd.qV | apply Kd.qW | apply Kd.jC)); exact (Kd.jK (Kd.zQ (p := ⟨qP, 2, none⟩) (Kd.zQ (p := ⟨qP, 2, none⟩) (Kd.qb7 zl4.out jW.out (by decide)) (fun _ hk => hk.2) (.int .i64 t239)) (fun _ hk => hk.2) (.int .i64 (wrap64 (t239 + 1)))) (fun _ h_ => h_.1))) (Kd.qk3 (by (with_reducible repeat (first | apply Kd.qV | apply Kd.qW | apply Kd.jC)); exact (Kd.jK (Kd.zQ (p := ⟨qP, 2, none⟩) (Kd.zQ (p := ⟨qP, 2, none⟩) (Kd.jK jR.out (fun k_ hk => (⟨hk, hk.2⟩ : _ ∧ k_ ≠ qP))) (fun _ hk => hk.2) (.int .i64 t239)) (fun _ hk => hk.2) (.int .i64 (wrap64 (t239 + 1)))) (fun _ h_ => h_.1)))) (by decide) hg); have n8_ := q8.mk (hb); have n9_ := q8.mk (ho); clear qa1; clear qa9; clear qU; clear qc9; clear jH; clear jW; clear qx9; clear zl4; clear HB; clear jR; have qa1 := n0_; have qa9 := n1_; have qU := n2_; have qc9 := n3_; have jH := n4_; have jW := n5_; have qx9 := n6_; have zl4 := n7_; have HB := n8_; have zV6 := n9_; clear n0_ n1_ n2_ n3_ n4_ n5_ n6_ n7_ n8_ n9_; clear ho hb hg hat; obtain ⟨jT4, jT5, eo65⟩ := Kd.qu0 zV6.out; subst eo65; have Qz6 : w64.cell? ⟨qH, 0, none⟩ = some (.int .i64 t221) := (qE jH.out 0).trans rfl; have Qz7 : w64.cell? ⟨qH, 1, none⟩ = some (.int .i64 t213) := (qE jH.out 1).trans rfl; have Qz8 : w64.cell? ⟨qH, 2, none⟩ = some (.int .i64 t215) := (qE jH.out 2).trans rfl; have Qz9 : w64.cell? ⟨qH, 3, none⟩ = some (u217003) := (qE jH.out 3).trans rfl; have QA0 := qC jH.out 0; have QA1 := qC jH.out 1; have QA2 := qC jH.out 2; have QA3 := qC jH.out 3))
             go_roundg k2
             case measure => have := HK1.out; have := HK2.out; omega
             case rel => exact ⟨(t229), (t236), (wrap64 (qZ + 1)), (y240), (.slice jT4 y240.length jT5), (by first | rfl | (simp; done) | (simp [*]; done)), H', ⟨by have := HK1.out; have := HK2.out; omega⟩, ⟨by (with_reducible repeat (first | apply Kd.jO | apply Kd.jP | apply Kd.zA)); exact Kd.zN (Kd.qf8 (p := ⟨qH, 3, none⟩) (Kd.zN qa1.out (fun k_ hk => (⟨hk, hk.1.2.2.2.2.2.2.1⟩ : _ ∧ k_ ≠ qH))) (fun _ hk => hk.2) (.slice jT4 y240.length jT5)) (fun _ hk => ⟨hk.1.1.1, ⟨hk.1.1.2.1, ⟨hk.1.1.2.2.1, ⟨hk.1.1.2.2.2.1, ⟨hk.1.1.2.2.2.2.1, ⟨hk.1.1.2.2.2.2.2.1, ⟨hk.1.2, hk.1.1.2.2.2.2.2.2.1⟩⟩⟩⟩⟩⟩⟩)⟩, ⟨by (with_reducible repeat (first | apply Kd.jD | apply Kd.jE | apply Kd.jJ)); exact Kd.z8 (Kd.qg7 (p := ⟨qH, 3, none⟩) (Kd.z8 qa9.out (fun k_ hk => (⟨hk, hk.1.2.2.2.2.2.1⟩ : _ ∧ k_ ≠ qH))) (fun _ hk => hk.2) (.slice jT4 y240.length jT5)) (fun _ hk => ⟨hk.1.1.1, ⟨hk.1.1.2.1, ⟨hk.1.1.2.2.1, ⟨hk.1.1.2.2.2.1, ⟨hk.1.1.2.2.2.2.1, ⟨hk.1.2, hk.1.1.2.2.2.2.2.1⟩⟩⟩⟩⟩⟩)⟩, ⟨by (with_reducible repeat (first | apply Kd.jD | apply Kd.jE | apply Kd.jJ)); exact Kd.z8 (Kd.qg7 (p := ⟨qH, 3, none⟩) (Kd.z8 qU.out (fun k_ hk => (⟨hk, hk.1.2.2.2.2.2.1⟩ : _ ∧ k_ ≠ qH))) (fun _ hk => hk.2) (.slice jT4 y240.length jT5)) (fun _ hk => ⟨hk.1.1.1, ⟨hk.1.1.2.1, ⟨hk.1.1.2.2.1, ⟨hk.1.1.2.2.2.1, ⟨hk.1.1.2.2.2.2.1, ⟨hk.1.2, hk.1.1.2.2.2.2.2.1⟩⟩⟩⟩⟩⟩)⟩, ⟨by (with_reducible repeat (first | apply Kd.qV | apply Kd.qW | apply Kd.jC)); exact Kd.jK (Kd.zQ (p := ⟨qH, 3, none⟩) (Kd.qb7 qc9.out jH.out (by decide)) (fun _ hk => hk.2) (.slice jT4 y240.length jT5)) (fun _ hk => ⟨hk.1.1, ⟨hk.1.2.1, hk.1.2.2⟩⟩)⟩, ⟨by (with_reducible repeat (first | apply Kd.qV | apply Kd.qW | apply Kd.jC)); exact Kd.jK (Kd.zQ (p := ⟨qH, 3, none⟩) (Kd.qb7 qx9.out jH.out (by decide)) (fun _ hk => hk.2) (.slice jT4 y240.length jT5)) (fun _ hk => ⟨hk.1.1, ⟨hk.1.2.1, hk.1.2.2⟩⟩)⟩, ⟨by (with_reducible repeat (first | apply Kd.qV | apply Kd.qW | apply Kd.jC)); exact Kd.jK (Kd.zQ (p := ⟨qH, 3, none⟩) (Kd.qb7 zl4.out jH.out (by decide)) (fun _ hk => hk.2) (.slice jT4 y240.length jT5)) (fun _ hk => ⟨hk.1.1, ⟨hk.1.2.1, hk.1.2.2⟩⟩)⟩, ⟨by (with_reducible repeat (first | apply Kd.qV | apply Kd.qW | apply Kd.jC)); exact Kd.jK (Kd.zQ (p := ⟨qH, 3, none⟩) (Kd.qb7 zV6.out jH.out (by decide)) (fun _ hk => hk.2) (.slice jT4 y240.length jT5)) (fun _ hk => hk.1.1)⟩, ⟨by (with_reducible repeat (first | refine qK ?_ _ | refine qR ?_ | refine qL ?_ _)); refine qe0 (cs := #[.int .i64 t221, .int .i64 t213, .int .i64 t215, u217003]) ?_ 3 _ rfl; (with_reducible repeat (first | refine qK ?_ _ | refine qR ?_ | refine qL ?_ _)); exact jH.out⟩, ⟨by repeat (first | (with_reducible first | exact HB.out | apply qA | apply q9 | apply qB | refine qI ?_ qe9.out | refine qI ?_ qv9.out) | exact HB.out)⟩⟩
            ·rw [if_neg c49] at H
             exact absurd H (by simp)
          ·rw [if_neg c32] at H
           exact absurd H (by simp)
         ·rw [if_neg c31] at H
          have Qm2 : decide (qZ < (((qD t200 qO).f3).length : Int)) = false := decide_eq_false c31
          clear c31
          by_cases c67 : qh2.length < 2932031007402
          ·rw [if_pos c67] at H
           have Qn1 := q8.mk c67
           clear c67
           obtain ⟨y223, jT6⟩ : ∃ y_ : List (S55), y_ = (qh2 ++ [(⟨t221, t213, t215, zX⟩ : S55)]) := ⟨_, rfl⟩
           replace H : (qM.l0 k2 l0 y223 t200 t218 qe4 qf7 (wrap64 (qO + 1))) = some r := by first | (rw [jT6]; with_reducible exact H) | (have H2_ := (Option.bind_some _ _).symm.trans H; rw [jT6]; with_reducible exact H2_) | (have H2_ := (Option.bind_some _ _).symm.trans H; with_reducible exact H2_) | with_reducible exact H | (rw [jT6]; exact H) | exact H
           have Qn2 := q8.mk jT6
           clear jT6
           have H' := q8.mk H
           clear H
           have jb3 : 0 ≤ (qO : Int) := of_decide_eq_true (by first | (with_reducible assumption) | assumption)
           have jb4 : qO < (t200.length : Int) := of_decide_eq_true (by first | (with_reducible assumption) | assumption)
           obtain ⟨jS8, zA4, jh3, e222, zk7, zk8, zk9, qK2, qE0, qE1⟩ := qa5 (Kd.zZ qU.out).2.2 qO jb3 jb4
           obtain rfl : jS = jS8 := (by injection e222)
           obtain ⟨zV4, jq2, jq3, qP5⟩ := Kd.qH1 qU.out z55 qO jb3 (by first | exact jb4 | exact of_decide_eq_true (by first | (with_reducible assumption) | assumption) | (have e_ := (Kd.zZ qU.out).1; omega))
           obtain ⟨zl0, zl1, rfl, qu4, qu5⟩ := qi3 jq3
           have qn9 := qP5 3 _ rfl
           rw [zS _ _ 3 (by omega)] at qn9
           replace qn9 := Option.some.inj (qn9.symm.trans qK2)
           injection qn9 with qm7 qz0 qm8
           rw [qm7] at qu5
           rw [qm8] at qu4
           have qh4 := q8.mk (show Kd.V k51 51 _ w.heap.size _ _ ((qD t200 qO).f3) from Kd.qS6 qu4 qu5)
           clear qm7 qz0 qm8 qu5 qu4
           clear qP5 jq2
           have qw9 := q8.mk qE1
           have zl2 := q8.mk qE0
           clear qE1 qE0
           replace jb3 := eq_true jb3
           replace jb4 := eq_true jb4
           have QA4 : wr.cell? ⟨qH, 0, none⟩ = some (.int .i64 t221) := (qE jH.out 0).trans rfl
           have QA5 : wr.cell? ⟨qH, 1, none⟩ = some (.int .i64 t213) := (qE jH.out 1).trans rfl
           have QA6 : wr.cell? ⟨qH, 2, none⟩ = some (.int .i64 t215) := (qE jH.out 2).trans rfl
           have QA7 : wr.cell? ⟨qH, 3, none⟩ = some (u217003) := (qE jH.out 3).trans rfl
           have QA8 := qC jH.out 0
           have QA9 := qC jH.out 1
           have QB0 := qC jH.out 2
           have QB1 := qC jH.out 3
           obtain ⟨zq7, zq8, eo70⟩ := Kd.qu0 jR.out
           subst eo70
           go_wp2_with (first | ((with_reducible refine ql4 (b := .append) (xs := #[.tmp 97, .tmp 99]) rfl ?_); at_builtin; refine Kd.jR4 k55 (w0 := w) w.heap.size rfl (.tmp 97) (.tmp 99) 22 55 (.agg #[(.int .i64 0), (.int .i64 0), (.int .i64 0), (.slice none 0 0)]) 48 rfl Try.underlying22 qV0 rfl (by decide) (by omega) u3 qh2 (⟨t221, t213, t215, zX⟩ : S55) [.int .i64 t221, .int .i64 t213, .int .i64 t215, .slice zq7 zX.length zq8] (fun k_ => (P0_ k_ ∨ w.heap.size ≤ k_) ∧ some k_ ≠ (.slice (some jS) t200.length qh3 : Value).ownBlock ∧ some k_ ≠ (v219 : Value).ownBlock ∧ some k_ ≠ (u6 : Value).ownBlock ∧ some k_ ≠ (u7 : Value).ownBlock ∧ k_ ≠ qH) (fun k_ => ((fun k_ => (P0_ k_ ∨ w.heap.size ≤ k_) ∧ some k_ ≠ (.slice (some jS) t200.length qh3 : Value).ownBlock ∧ some k_ ≠ (v219 : Value).ownBlock ∧ some k_ ≠ (u6 : Value).ownBlock ∧ some k_ ≠ (u7 : Value).ownBlock ∧ k_ ≠ qH)) k_ ∧ some k_ ≠ (u3 : Value).ownBlock) rfl rfl ?aP (fun _ hk => hk) ?aF ?aO ?aB ?aS ?aL ?_; (case aP => exact (zj5 _ _ (⟨t221, t213, t215, zX⟩ : S55) (Kd.qx7 (Kd.jK (ok' := (fun k_ => ((fun k_ => (P0_ k_ ∨ w.heap.size ≤ k_) ∧ some k_ ≠ (.slice (some jS) t200.length qh3 : Value).ownBlock ∧ some k_ ≠ (v219 : Value).ownBlock ∧ some k_ ≠ (u6 : Value).ownBlock ∧ some k_ ≠ (u7 : Value).ownBlock ∧ k_ ≠ qH)) k_ ∧ some k_ ≠ (u3 : Value).ownBlock)) (Kd.qb7 (Kd.qk8 (Kd.qk8 (Kd.qk8 (Kd.qk8 (Kd.qk8 (jR.out) (Kd.qK5 qU.out) (by decide)) (Kd.qk3 qc9.out) (by decide)) (Kd.qk3 qe8.out) (by decide)) (Kd.qk3 qd2.out) (by decide)) (Kd.qK5 qa9.out) (by decide)) jH.out (by decide)) (fun k_ hk => ⟨⟨(.inr (hk.1.1.1.1.1.1)), ⟨hk.1.1.1.1.1.2, ⟨hk.1.1.1.1.2, ⟨hk.1.1.1.2, ⟨hk.1.1.2, hk.2⟩⟩⟩⟩⟩, hk.1.2⟩))).2.1 (Kd.R_F (Kd.jK (ok' := (fun k_ => ((fun k_ => (P0_ k_ ∨ w.heap.size ≤ k_) ∧ some k_ ≠ (.slice (some jS) t200.length qh3 : Value).ownBlock ∧ some k_ ≠ (v219 : Value).ownBlock ∧ some k_ ≠ (u6 : Value).ownBlock ∧ some k_ ≠ (u7 : Value).ownBlock ∧ k_ ≠ qH)) k_ ∧ some k_ ≠ (u3 : Value).ownBlock)) (Kd.qb7 (Kd.qk8 (Kd.qk8 (Kd.qk8 (Kd.qk8 (Kd.qk8 (jR.out) (Kd.qK5 qU.out) (by decide)) (Kd.qk3 qc9.out) (by decide)) (Kd.qk3 qe8.out) (by decide)) (Kd.qk3 qd2.out) (by decide)) (Kd.qK5 qa9.out) (by decide)) jH.out (by decide)) (fun k_ hk => ⟨⟨(.inr (hk.1.1.1.1.1.1)), ⟨hk.1.1.1.1.1.2, ⟨hk.1.1.1.1.2, ⟨hk.1.1.1.2, ⟨hk.1.1.2, hk.2⟩⟩⟩⟩⟩, hk.1.2⟩))))); (case aB => exact (by repeat (first | (with_reducible first | exact HB.out | apply qA | apply q9 | apply qB | refine qI ?_ qe9.out) | exact HB.out))); (case aF => exact (fun k_ hk => ⟨(.inr (Nat.le_trans (qJ (by repeat (first | (with_reducible first | exact HB.out | apply qA | apply q9 | apply qB | refine qI ?_ qe9.out) | exact HB.out))) hk)), Kd.fresh' (Kd.jx1 (by (with_reducible repeat (first | apply Kd.jD | apply Kd.jE | apply Kd.jJ)); exact qU.out)) k_ hk, Kd.fresh' (Kd.qO1 (by (with_reducible repeat (first | apply Kd.qV | apply Kd.qW | apply Kd.jC)); exact qc9.out)) k_ hk, Kd.fresh' (Kd.qO1 (by (with_reducible repeat (first | apply Kd.qV | apply Kd.qW | apply Kd.jC)); exact qe8.out)) k_ hk, Kd.fresh' (Kd.qO1 (by (with_reducible repeat (first | apply Kd.qV | apply Kd.qW | apply Kd.jC)); exact qd2.out)) k_ hk, Kd.zc9 (g := qH) (o := .cells #[.int .i64 t221, .int .i64 t213, .int .i64 t215, .slice zq7 zX.length zq8] 55 (0, 0)) (by (with_reducible repeat (first | refine qK ?_ _ | refine qR ?_ | refine qL ?_ _)); exact jH.out) k_ hk⟩)); (case aO => exact (by (with_reducible repeat (first | apply Kd.jD | apply Kd.jE | apply Kd.jJ)); exact Kd.z8 qa9.out (fun _ hk => ⟨hk.1, ⟨hk.2.1, ⟨hk.2.2.1, ⟨hk.2.2.2.1, ⟨hk.2.2.2.2.1, hk.2.2.2.2.2.2⟩⟩⟩⟩⟩))); (case aS => exact (qJ (by repeat (first | (with_reducible first | exact HB.out | apply qA | apply q9 | apply qB | refine qI ?_ qe9.out) | exact HB.out)))); (case aL => have := Qn1.out; omega); intro v224 w69 ho hb hg hat; rw [← Qn2.out] at ho; have n0_ := q8.mk (Kd.qm6 (ok := (fun k_ => (P0_ k_ ∨ w.heap.size ≤ k_) ∧ some k_ ≠ (.slice (some jS) t200.length qh3 : Value).ownBlock ∧ some k_ ≠ (v219 : Value).ownBlock ∧ some k_ ≠ (u6 : Value).ownBlock ∧ some k_ ≠ (u7 : Value).ownBlock ∧ some k_ ≠ (.slice zq7 zX.length zq8 : Value).ownBlock ∧ k_ ≠ qH)) (by (with_reducible repeat (first | apply Kd.jO | apply Kd.jP | apply Kd.zA)); exact Kd.zN qa1.out (fun _ hk => ⟨⟨hk.1, ⟨hk.2.2.1, ⟨hk.2.2.2.1, ⟨hk.2.2.2.2.1, ⟨hk.2.2.2.2.2.1, ⟨hk.2.2.2.2.2.2.1, hk.2.2.2.2.2.2.2⟩⟩⟩⟩⟩⟩, hk.2.1⟩)) hg hat); have n1_ := q8.mk (Kd.qp3 (ok := (fun k_ => (P0_ k_ ∨ w.heap.size ≤ k_) ∧ some k_ ≠ (v219 : Value).ownBlock ∧ some k_ ≠ (u6 : Value).ownBlock ∧ some k_ ≠ (u7 : Value).ownBlock ∧ some k_ ≠ (.slice zq7 zX.length zq8 : Value).ownBlock ∧ k_ ≠ qH)) (by (with_reducible repeat (first | apply Kd.jD | apply Kd.jE | apply Kd.jJ)); exact Kd.z8 qU.out (fun _ hk => ⟨⟨hk.1, ⟨hk.2.2.1, ⟨hk.2.2.2.1, ⟨hk.2.2.2.2.1, ⟨hk.2.2.2.2.2.1, hk.2.2.2.2.2.2⟩⟩⟩⟩⟩, hk.2.1⟩)) hg hat); have n2_ := q8.mk (Kd.qB0 (by (with_reducible repeat (first | apply Kd.qV | apply Kd.qW | apply Kd.jC)); exact qc9.out) (Kd.qK5 (by (with_reducible repeat (first | apply Kd.jD | apply Kd.jE | apply Kd.jJ)); exact qa9.out)) (by decide) hg); have n3_ := q8.mk (Kd.qB0 (by (with_reducible repeat (first | apply Kd.qV | apply Kd.qW | apply Kd.jC)); exact qe8.out) (Kd.qK5 (by (with_reducible repeat (first | apply Kd.jD | apply Kd.jE | apply Kd.jJ)); exact qa9.out)) (by decide) hg); have n4_ := q8.mk (Kd.qB0 (by (with_reducible repeat (first | apply Kd.qV | apply Kd.qW | apply Kd.jC)); exact qd2.out) (Kd.qK5 (by (with_reducible repeat (first | apply Kd.jD | apply Kd.jE | apply Kd.jJ)); exact qa9.out)) (by decide) hg); have n5_ := q8.mk (qH3 (g := qH) (o := .cells #[.int .i64 t221, .int .i64 t213, .int .i64 t215, .slice zq7 zX.length zq8] 55 (0, 0)) (by (with_reducible repeat (first | refine qK ?_ _ | refine qR ?_ | refine qL ?_ _)); exact jH.out) hg (Kd.qX qa9.out (fun _ hk => hk.2.2.2.2.2.2))); have n6_ := q8.mk (Kd.qm6 (ok := (fun k_ => (P0_ k_ ∨ w.heap.size ≤ k_) ∧ some k_ ≠ (.slice (some jS) t200.length qh3 : Value).ownBlock ∧ some k_ ≠ (v219 : Value).ownBlock ∧ some k_ ≠ (u6 : Value).ownBlock ∧ some k_ ≠ (u7 : Value).ownBlock ∧ some k_ ≠ (.slice zq7 zX.length zq8 : Value).ownBlock ∧ k_ ≠ qH)) (by (with_reducible repeat (first | apply Kd.jO | apply Kd.jP | apply Kd.zA)); exact Kd.zN qh4.out (fun _ hk => ⟨⟨hk.1.1, ⟨hk.2, ⟨hk.1.2.2.1, ⟨hk.1.2.2.2.1, ⟨hk.1.2.2.2.2.1, ⟨hk.1.2.2.2.2.2.1, hk.1.2.2.2.2.2.2⟩⟩⟩⟩⟩⟩, hk.1.2.1⟩)) hg hat); have n7_ := q8.mk (hb); have n8_ := q8.mk (ho); clear qa1; clear qU; clear qc9; clear qe8; clear qd2; clear jH; clear qh4; clear HB; clear qa9; clear jR; have qa1 := n0_; have qU := n1_; have qc9 := n2_; have qe8 := n3_; have qd2 := n4_; have jH := n5_; have qh4 := n6_; have HB := n7_; have Qn3 := n8_; clear n0_ n1_ n2_ n3_ n4_ n5_ n6_ n7_ n8_; clear ho hb hg hat))
           go_roundg k2
           case measure => have := HK1.out; have := HK2.out; omega
           case rel => exact ⟨(y223), (t218), (qe4), (qf7), (wrap64 (qO + 1)), (by first | rfl | (simp; done) | (simp [*]; done)), H', ⟨by have := HK1.out; have := HK2.out; omega⟩, ⟨by (with_reducible repeat (first | apply Kd.jO | apply Kd.jP | apply Kd.zA)); exact Kd.zN qa1.out (fun _ hk => ⟨hk.1.1, ⟨hk.2, ⟨hk.1.2.1, ⟨hk.1.2.2.1, ⟨hk.1.2.2.2.1, hk.1.2.2.2.2.1⟩⟩⟩⟩⟩)⟩, ⟨by (with_reducible repeat (first | apply Kd.jD | apply Kd.jE | apply Kd.jJ)); exact Kd.z8 Qn3.out (fun _ hk => ⟨hk.1, ⟨hk.2.1, ⟨hk.2.2.1, ⟨hk.2.2.2.1, hk.2.2.2.2.1⟩⟩⟩⟩)⟩, ⟨by (with_reducible repeat (first | apply Kd.jD | apply Kd.jE | apply Kd.jJ)); exact Kd.z8 qU.out (fun _ hk => ⟨hk.1.1, ⟨hk.2, ⟨hk.1.2.1, ⟨hk.1.2.2.1, hk.1.2.2.2.1⟩⟩⟩⟩)⟩, ⟨by (with_reducible repeat (first | apply Kd.qV | apply Kd.qW | apply Kd.jC)); exact qc9.out⟩, ⟨by (with_reducible repeat (first | apply Kd.qV | apply Kd.qW | apply Kd.jC)); exact qe8.out⟩, ⟨by (with_reducible repeat (first | apply Kd.qV | apply Kd.qW | apply Kd.jC)); exact qd2.out⟩, ⟨by repeat (first | (with_reducible first | exact HB.out | apply qA | apply q9 | apply qB | refine qI ?_ qe9.out) | exact HB.out)⟩⟩
          ·rw [if_neg c67] at H
           exact absurd H (by simp)
        ·rw [if_neg c30] at H
         exact absurd H (by simp)
       ·rw [if_neg c29] at H
        exact absurd H (by simp)
    ·rw [if_neg c13] at H
     exact absurd H (by simp)
   ·rw [if_neg c12] at H
    have qH0 : decide (qO < (t200.length : Int)) = false := decide_eq_false c12
    clear c12
    obtain rfl := Option.some.inj H
    obtain ⟨Ao71, co71, eo71⟩ := Kd.qR6 qU.out
    subst eo71
    go_wp2
    go_ret
    exact ⟨_, by first | rfl | (simp [jF, jG] <;> rfl) | (simp [*, jF, jG] <;> rfl), by (with_reducible repeat (first | apply Kd.jD | apply Kd.jE | apply Kd.jJ)); exact Kd.z8 qa9.out (fun _ hk => hk.1), by repeat (first | (with_reducible first | exact HB.out | apply qA | apply q9 | apply qB) | exact HB.out)⟩
end Go.Proofs.Ytngkneknopenmaa.T
end
section
namespace Go.Proofs.Ytngkneknopenmaa.Hist
open Go Go.RowKit Go.Proofs.Ytngkneknopenmaa Go.Proofs.Ytngkneknopenmaa.qb8 Go.Proofs.YtngkneknopenmaaW.PrintWords
open Go.Proofs.Ytngkneknopenmaa.K (S55 S51 qD qG)
theorem zM5 (h : List T4) (x : Int) (hm : h.length ≤ 1000000) : ∀ (d i n : Nat), i + d = h.length → n ≤ 2 * i →
  Ev (fun k => T.j6.l0 k (h.map ofT) x (n : Int) (i : Int)) ((n + jN (j4 (h.drop i)) x : Nat) : Int) := by
 intro d
 induction d with
 | zero =>
  intro i n hi hn
  refine Ev.step (f := fun _ => some (n : Int)) (fun k => by simp only [T.j6.l0]; rw [if_neg (by rw [List.length_map]; omega)]) ?_
  rw [List.drop_of_length_le (by omega)]
  exact Ev.now _
 | succ d ih =>
  intro i n hi hn
  have h1 : i < h.length := by omega
  have e : j4 (h.drop i) = [h[i].b, h[i].c] ++ j4 (h.drop (i + 1)) := by rw [List.drop_eq_getElem_cons h1]; rfl
  have ec : jN (j4 (h.drop i)) x = (if h[i].b < x then 1 else 0) + (if h[i].c < x then 1 else 0) + jN (j4 (h.drop (i + 1))) x := by
   rw [e]
   unfold jN
   rw [List.countP_append, List.countP_cons, List.countP_cons, List.countP_nil]
   simp only [decide_eq_true_eq]
   omega
  rw [ec]
  have key : ∀ m : Nat, m ≤ 2 * (i + 1) → Ev (fun k => T.j6.l0 k (h.map ofT) x (m : Int) ((i + 1 : Nat) : Int)) ((m + jN (j4 (h.drop (i + 1))) x : Nat) : Int) := fun m hm2 => ih (i + 1) m (by omega) hm2
  by_cases c1 : h[i].b < x <;> by_cases c2 : h[i].c < x
  ·refine Ev.step (fun k => by
    simp only [T.j6.l0]
    rw [if_pos (by rw [List.length_map]; omega), if_pos (by omega), qk0 h i h1, if_pos (show (ofT h[i]).f1 < x from c1), if_pos (show (ofT h[i]).f2 < x from c2), qb4 (x := i) (by omega), qb4 (x := n) (by omega), qb4 (x := n + 1) (by omega)]) ?_
   rw [if_pos c1, if_pos c2, show n + (1 + 1 + jN (j4 (h.drop (i + 1))) x) = n + 1 + 1 + jN (j4 (h.drop (i + 1))) x by omega]
   exact key _ (by omega)
  ·refine Ev.step (fun k => by
    simp only [T.j6.l0]
    rw [if_pos (by rw [List.length_map]; omega), if_pos (by omega), qk0 h i h1, if_pos (show (ofT h[i]).f1 < x from c1), if_neg (show ¬ (ofT h[i]).f2 < x from c2), qb4 (x := i) (by omega), qb4 (x := n) (by omega)]) ?_
   rw [if_pos c1, if_neg c2, show n + (1 + 0 + jN (j4 (h.drop (i + 1))) x) = n + 1 + jN (j4 (h.drop (i + 1))) x by omega]
   exact key _ (by omega)
  ·refine Ev.step (fun k => by
    simp only [T.j6.l0]
    rw [if_pos (by rw [List.length_map]; omega), if_pos (by omega), qk0 h i h1, if_neg (show ¬ (ofT h[i]).f1 < x from c1), if_pos (show (ofT h[i]).f2 < x from c2), qb4 (x := i) (by omega), qb4 (x := n) (by omega)]) ?_
   rw [if_neg c1, if_pos c2, show n + (0 + 1 + jN (j4 (h.drop (i + 1))) x) = n + 1 + jN (j4 (h.drop (i + 1))) x by omega]
   exact key _ (by omega)
  ·refine Ev.step (fun k => by
    simp only [T.j6.l0]
    rw [if_pos (by rw [List.length_map]; omega), if_pos (by omega), qk0 h i h1, if_neg (show ¬ (ofT h[i]).f1 < x from c1), if_neg (show ¬ (ofT h[i]).f2 < x from c2), qb4 (x := i) (by omega)]) ?_
   rw [if_neg c1, if_neg c2, show n + (0 + 0 + jN (j4 (h.drop (i + 1))) x) = n + jN (j4 (h.drop (i + 1))) x by omega]
   exact key _ (by omega)
theorem zB1 (h : List T4) (x : Int) (hm : h.length ≤ 1000000) : Ev (fun k => T.j6.f k (h.map ofT) x) (qt0 h x) := by
 have := zM5 h x hm h.length 0 0 (by omega) (by omega)
 rw [List.drop_zero, Nat.zero_add] at this
 exact this
theorem jT7 {l : List Int} {x : Int} (h : x ∉ l) : zU l x = l.length := by
 unfold zU
 rw [List.findIdx_eq_length]
 intro y hy
 simp
 exact fun e => h (e ▸ hy)
theorem jq5 (l : List Int) (x : Int) : zU (zG l x) x = zU l x := by
 unfold zG
 by_cases h : x ∈ l
 ·rw [if_pos h]
 ·rw [if_neg h, qO7 h, jT7 h]
theorem zM6 (l : List Int) (x : Int) (hm : l.length ≤ 1000000) : ∀ (d i : Nat), i + d = l.length → (∀ j, j < i → ∀ h : j < l.length, l[j] ≠ x) →
  Ev (fun k => T.jB.l0 k l x (i : Int)) (zG l x, (zU l x : Int)) := by
 intro d
 induction d with
 | zero =>
  intro i hi hn
  have hx : x ∉ l := fun hx => by
   obtain ⟨j, hj, e⟩ := List.mem_iff_getElem.1 hx
   exact hn j (by omega) hj e
  have e2 : ((zG l x, (zU l x : Int)) : List Int × Int) = (l ++ [x], (l.length : Int)) := by
   rw [jT7 hx]
   unfold zG
   rw [if_neg hx]
  rw [e2]
  refine Ev.step (f := fun _ => some (l ++ [x], (l.length : Int))) (fun k => ?_) (Ev.now _)
  simp only [T.jB.l0]
  rw [if_neg (by omega)]
  simp only [Option.bind_some, List.length_nil, List.nil_append]
  rw [if_pos (by omega), if_pos (by omega)]
 | succ d ih =>
  intro i hi hn
  have h1 : i < l.length := by omega
  have er : rd l (i : Int) = l[i] := by unfold rd; simp [h1]
  by_cases c : l[i] = x
  ·have e2 : ((zG l x, (zU l x : Int)) : List Int × Int) = (l, (i : Int)) := by
    have hx : x ∈ l := c ▸ List.getElem_mem h1
    have : zU l x = i := by
     unfold zU
     rw [List.findIdx_eq h1]
     refine ⟨by simp [c], fun j hj => by simp; exact hn j hj (by omega)⟩
    rw [this]
    unfold zG
    rw [if_pos hx]
   rw [e2]
   refine Ev.step (f := fun _ => some (l, (i : Int))) (fun k => ?_) (Ev.now _)
   simp only [T.jB.l0]
   rw [if_pos (by omega), if_pos (by omega), er, if_pos c]
  ·refine Ev.step (fun k => by
    simp only [T.jB.l0]
    rw [if_pos (by omega), if_pos (by omega), er, if_neg c, qb4 (by omega)]) ?_
   refine ih (i + 1) (by omega) (fun j hj hjl => ?_)
   by_cases q : j = i
   ·subst q; exact c
   ·exact hn j (by omega) hjl
theorem zd0 (l : List Int) (x : Int) (hm : l.length ≤ 1000000) : Ev (fun k => T.jB.f k l x) (zG l x, (zU l x : Int)) :=
 zM6 l x hm l.length 0 (by omega) (fun j hj => by omega)
end Go.Proofs.Ytngkneknopenmaa.Hist
end
section
namespace Go.Proofs.Ytngkneknopenmaa.Hist
open Go Go.RowKit Go.Proofs.Ytngkneknopenmaa Go.Proofs.Ytngkneknopenmaa.qb8 Go.Proofs.YtngkneknopenmaaW.PrintWords
open Go.Proofs.Ytngkneknopenmaa.K (S55 S51 qD qG)
theorem jq6 {α : Type} (l : List α) (k : Nat) (h : k < l.length) : (l[k] :: (l.take k ++ l.drop (k + 1))).Perm l := by
 have e : l = l.take k ++ l[k] :: l.drop (k + 1) := by rw [← List.drop_eq_getElem_cons h, List.take_append_drop]
 have p : (l.take k ++ l[k] :: l.drop (k + 1)).Perm (l[k] :: (l.take k ++ l.drop (k + 1))) := List.perm_middle
 exact p.symm.trans (List.Perm.of_eq e.symm)
theorem zd1 (out left : List T4) (k kk i : Nat) (hi : i = left.length) (hk : kk < left.length) (hm : left.length ≤ 1000000) (hm2 : out.length ≤ 1000000) : T.qF.l1 (k + 1) (out.map ofT) (left.map ofT) (kk : Int) (i : Int) = T.qF.l0 k ((out ++ [left[kk]]).map ofT) ((left.take kk ++ left.drop (kk + 1)).map ofT) := by
 have h1 : ¬ ((i : Int) < ((left.map ofT).length : Int)) := by rw [List.length_map]; omega
 have h2 : (0 : Int) ≤ (kk : Int) := by omega
 have h3 : (kk : Int) < ((left.map ofT).length : Int) := by rw [List.length_map]; omega
 have h4 : (out.map ofT).length < 2932031007402 := by rw [List.length_map]; omega
 have h5 : (kk : Int) ≤ ((left.map ofT).length : Int) := by rw [List.length_map]; omega
 have h6 : ([] : List S55).length + ((left.map ofT).take ((kk : Nat) : Int).toNat).length < 2932031007402 := by simp only [List.length_nil, List.length_take, List.length_map]; omega
 have h7 : wrap64 ((kk : Int) + 1) = ((kk + 1 : Nat) : Int) := qb4 (by omega)
 have h8 : (0 : Int) ≤ wrap64 ((kk : Int) + 1) := by rw [h7]; exact Int.natCast_nonneg _
 have h9 : wrap64 ((kk : Int) + 1) ≤ ((left.map ofT).length : Int) := by rw [h7, List.length_map]; exact Int.ofNat_le.2 hk
 have h10 : (([] : List S55) ++ (left.map ofT).take ((kk : Nat) : Int).toNat).length + ((left.map ofT).drop (wrap64 ((kk : Int) + 1)).toNat).length < 2932031007402 := by
  rw [h7]
  simp only [List.nil_append, List.length_take, List.length_drop, List.length_map]
  clear h7 h8 h9
  omega
 rw [T.qF.l1]
 rw [if_neg h1, if_pos h2, if_pos h3, if_pos h4]
 rw [Option.bind_some]
 rw [if_pos h5]
 rw [Option.bind_some]
 rw [if_pos h6]
 rw [Option.bind_some]
 rw [if_pos h8, if_pos h9]
 rw [Option.bind_some]
 rw [if_pos h10, h7, qk0 left kk hk]
 simp only [List.nil_append, List.map_append, List.map_take, List.map_drop, List.map_cons, List.map_nil, Int.toNat_natCast]
theorem zq9 (out left : List T4) (hm : left.length ≤ 1000000) (hm2 : out.length + left.length ≤ 1000000) : ∀ (d kk i : Nat), i + d = left.length → (hk : kk < left.length) → (∀ j, j < i → ∀ h : j < left.length, left[kk].b ≤ left[j].b) → ∃ k2, ∃ h2 : k2 < left.length, (∀ u ∈ left, left[k2].b ≤ u.b) ∧ ∀ r, Ev (fun k => T.qF.l0 k ((out ++ [left[k2]]).map ofT) ((left.take k2 ++ left.drop (k2 + 1)).map ofT)) r → Ev (fun k => T.qF.l1 k (out.map ofT) (left.map ofT) (kk : Int) (i : Int)) r := by
 intro d
 induction d with
 | zero =>
  intro kk i hi hk hmin
  have Qn4 : ∀ u ∈ left, left[kk].b ≤ u.b := fun u hu => by
   obtain ⟨j, hj, rfl⟩ := List.mem_iff_getElem.1 hu
   exact hmin j (by omega) hj
  refine ⟨kk, hk, Qn4, fun r hr => ?_⟩
  refine Ev.step (fun k => zd1 out left k kk i (by omega) hk (by omega) (by omega)) hr
 | succ d ihd =>
  intro kk i hi hk hmin
  have h1 : i < left.length := by omega
  by_cases c : left[i].b < left[kk].b
  ·obtain ⟨k2, h2, hm3, hr⟩ := ihd i (i + 1) (by omega) h1 (fun j hj hjl => by
    by_cases q : j = i
    ·subst q; exact Int.le_refl _
    ·have := hmin j (by omega) hjl; omega)
   refine ⟨k2, h2, hm3, fun r hr2 => Ev.step (fun k => ?_) (hr r hr2)⟩
   simp only [T.qF.l1]
   rw [if_pos (by rw [List.length_map]; omega), if_pos (by omega), if_pos (by omega), if_pos (by rw [List.length_map]; omega), qk0 left i h1, qk0 left kk hk, if_pos (show (ofT left[i]).f1 < (ofT left[kk]).f1 from c), qb4 (x := i) (by omega)]
  ·obtain ⟨k2, h2, hm3, hr⟩ := ihd kk (i + 1) (by omega) hk (fun j hj hjl => by
    by_cases q : j = i
    ·subst q; omega
    ·exact hmin j (by omega) hjl)
   refine ⟨k2, h2, hm3, fun r hr2 => Ev.step (fun k => ?_) (hr r hr2)⟩
   simp only [T.qF.l1]
   rw [if_pos (by rw [List.length_map]; omega), if_pos (by omega), if_pos (by omega), if_pos (by rw [List.length_map]; omega), qk0 left i h1, qk0 left kk hk, if_neg (show ¬ (ofT left[i]).f1 < (ofT left[kk]).f1 from c), qb4 (x := i) (by omega)]
theorem zr0 : ∀ (n : Nat) (out left : List T4), left.length = n → left.length ≤ 1000000 → out.length + left.length ≤ 1000000 → ∃ r : List T4, r.Perm left ∧ r.Pairwise (fun x y => x.b ≤ y.b) ∧ Ev (fun k => T.qF.l0 k (out.map ofT) (left.map ofT)) ((out ++ r).map ofT) := by
 intro n
 induction n with
 | zero =>
  intro out left hl _ _
  obtain rfl := List.eq_nil_of_length_eq_zero hl
  refine ⟨[], List.Perm.refl _, List.Pairwise.nil, ?_⟩
  rw [List.append_nil]
  refine Ev.step (f := fun _ => some (out.map ofT)) (fun k => ?_) (Ev.now _)
  simp only [T.qF.l0]
  rfl
 | succ n ih =>
  intro out left hl hm hm2
  have run := zq9 out left hm hm2 left.length 0 0 (by omega) (by omega) (fun j hj => by omega)
  obtain ⟨k2, h2, hmin, hrun⟩ := run
  have hlen : (left.take k2 ++ left.drop (k2 + 1)).length = n := by simp; omega
  obtain ⟨r, hp, hs, hev⟩ := ih (out ++ [left[k2]]) (left.take k2 ++ left.drop (k2 + 1)) hlen (by omega) (by simp; omega)
  refine ⟨left[k2] :: r, (hp.cons _).trans (jq6 left k2 h2), ?_, ?_⟩
  ·rw [List.pairwise_cons]
   refine ⟨fun u hu => hmin u ?_, hs⟩
   have := hp.mem_iff.1 hu
   rcases List.mem_append.1 this with q | q
   ·exact List.mem_of_mem_take q
   ·exact List.mem_of_mem_drop q
  ·have e : (out ++ [left[k2]]) ++ r = out ++ left[k2] :: r := by simp
   rw [e] at hev
   refine Ev.step (fun k => ?_) (hrun _ hev)
   simp only [T.qF.l0]
   rw [if_pos (by rw [List.length_map]; omega)]
   rfl
theorem zB2 {h : List T4} (hm : qy8 h) (hl : h.length ≤ 1000000) : Ev (fun k => T.qF.f k (h.map ofT)) ((qc0 h).map ofT) := by
 obtain ⟨r, hp, hs, hev⟩ := zr0 h.length [] h rfl hl (by simp; omega)
 have e : r = qc0 h := qr2 (hp.trans (zP h).symm) hs (qh1 h) (fun x hx y hy e => qI4 hm x (hp.mem_iff.1 hx) y (hp.mem_iff.1 hy) e)
 subst e
 unfold T.qF.f
 refine Ev.congr (fun k => ?_) hev
 simp only [Option.bind_some, List.length_nil, List.nil_append, List.length_map]
 rw [if_pos (by omega)]
 rfl
theorem Qn5 (h l : List T4) (hm : l.length ≤ 1000) (hc : jI l ≤ 100000) (i : Nat) (hi : i < l.length) (out : List S55) (ho : out.length ≤ 1000) (s' b' c' : Int) (r : List S55)
  (hK : Ev (fun k => T.qM.l0 k (h.map ofT) (out ++ [(⟨s', b', c', (l[i].ops.map (qA5 (names (jV l)) (names (zH l)))).map ofO⟩ : S55)]) (l.map ofT) (qb2 l i l[i] l[i].ops.length 0) (qb2 l i l[i] l[i].ops.length 1) (qb2 l i l[i] l[i].ops.length 2) ((i + 1 : Nat) : Int)) r) :
  ∀ (d j : Nat), j + d = l[i].ops.length →
   Ev (fun k => T.qM.l1 k (h.map ofT) out (l.map ofT) (qb2 l i l[i] j 0) (qb2 l i l[i] j 1) (qb2 l i l[i] j 2) (i : Int) (j : Int) s' b' c' (((l[i].ops.take j).map (qA5 (names (jV l)) (names (zH l)))).map ofO)) r := by
 have hg : l[i]? = some l[i] := List.getElem?_eq_getElem hi
 have hlen : l[i].ops.length ≤ 100000 := Nat.le_trans (qs7 (List.getElem_mem hi)) hc
 intro d
 induction d with
 | zero =>
  intro j hj
  have ej : j = l[i].ops.length := by omega
  subst ej
  refine Ev.step (fun k => ?_) hK
  simp only [T.qM.l1]
  rw [if_pos (by omega), if_pos (by rw [List.length_map]; omega), qk0 l i hi]
  rw [show (ofT l[i]).f3 = l[i].ops.map ofO from rfl, if_neg (by rw [List.length_map]; omega), if_pos (by omega), qb4 (x := i) (by omega), List.take_length]
 | succ d ih =>
  intro j hj
  have h1 : j < l[i].ops.length := by omega
  have hgo : l[i].ops[j]? = some l[i].ops[j] := List.getElem?_eq_getElem h1
  have e1 := zd0 (qb2 l i l[i] j 1) (l[i].ops[j].k) (by have := qY6 hg j; omega)
  have ek : ((zU (qb2 l i l[i] j 1) l[i].ops[j].k : Nat) : Int) = (zU (names (jV l)) l[i].ops[j].k : Nat) := by rw [← zw5 hg hgo, jq5]
  have es : ((l[i].ops.take (j + 1)).map (qA5 (names (jV l)) (names (zH l)))).map ofO = ((l[i].ops.take j).map (qA5 (names (jV l)) (names (zH l)))).map ofO ++ [ofO (qA5 (names (jV l)) (names (zH l)) l[i].ops[j])] := by
   rw [qi1 hgo, List.map_append, List.map_append]; rfl
  have hih := ih (j + 1) (by omega)
  rw [es] at hih
  have hlt : (((l[i].ops.take j).map (qA5 (names (jV l)) (names (zH l)))).map ofO).length < 5864062014805 := by
   simp only [List.length_map, List.length_take]; omega
  by_cases hv : l[i].ops[j].v = 0
  ·have hL := zw2 (l := l) (i := i) hgo hv
   have L0 : qb2 l i l[i] j 0 = qb2 l i l[i] (j + 1) 0 := by have := congrFun hL 0; simpa using this
   have L1 : zG (qb2 l i l[i] j 1) l[i].ops[j].k = qb2 l i l[i] (j + 1) 1 := by have := congrFun hL 1; simpa using this
   have L2 : qb2 l i l[i] j 2 = qb2 l i l[i] (j + 1) 2 := by have := congrFun hL 2; simpa using this
   refine Ev.step (f := fun k => (T.jB.f k (qb2 l i l[i] j 1) l[i].ops[j].k).bind fun bt => T.qM.l1 k (h.map ofT) out (l.map ofT) (qb2 l i l[i] j 0) bt.1 (qb2 l i l[i] j 2) (i : Int) ((j + 1 : Nat) : Int) s' b' c' (((l[i].ops.take j).map (qA5 (names (jV l)) (names (zH l)))).map ofO ++ [(⟨l[i].ops[j].w, bt.2, l[i].ops[j].v⟩ : S51)])) (fun k => ?_) ?_
   ·simp only [T.qM.l1]
    rw [if_pos (by omega), if_pos (by rw [List.length_map]; omega), qk0 l i hi]
    rw [show (ofT l[i]).f3 = l[i].ops.map ofO from rfl, if_pos (by rw [List.length_map]; omega), if_pos (by omega), jh5 _ j h1, qb4 (x := j) (by omega)]
    congr 1
    funext bt
    rw [if_pos (show (ofO l[i].ops[j]).f2 = 0 from hv), if_pos hlt]
    rfl
   ·refine Ev.bind e1 ?_
    have eo : (⟨l[i].ops[j].w, ((zU (qb2 l i l[i] j 1) l[i].ops[j].k : Nat) : Int), l[i].ops[j].v⟩ : S51) = ofO (qA5 (names (jV l)) (names (zH l)) l[i].ops[j]) := by
     rw [ek]; unfold qA5 ofO; simp [hv]
    show Ev (fun k => T.qM.l1 k _ _ _ (qb2 l i l[i] j 0) (zG (qb2 l i l[i] j 1) l[i].ops[j].k) (qb2 l i l[i] j 2) _ _ _ _ _ (_ ++ [(⟨l[i].ops[j].w, ((zU (qb2 l i l[i] j 1) l[i].ops[j].k : Nat) : Int), l[i].ops[j].v⟩ : S51)])) r
    rw [eo, L0, L1, L2]
    exact hih
  ·have hL := zw3 (l := l) (i := i) hgo hv
   have L0 : qb2 l i l[i] j 0 = qb2 l i l[i] (j + 1) 0 := by have := congrFun hL 0; simpa using this
   have L1 : zG (qb2 l i l[i] j 1) l[i].ops[j].k = qb2 l i l[i] (j + 1) 1 := by have := congrFun hL 1; simpa using this
   have L2 : zG (qb2 l i l[i] j 2) l[i].ops[j].v = qb2 l i l[i] (j + 1) 2 := by have := congrFun hL 2; simpa using this
   have e2 := zd0 (qb2 l i l[i] j 2) (l[i].ops[j].v) (by have := qJ1 hg j; omega)
   have ev : ((zU (qb2 l i l[i] j 2) l[i].ops[j].v : Nat) : Int) = (zU (names (zH l)) l[i].ops[j].v : Nat) := by rw [← zT4 hg hgo hv, jq5]
   have hidx : zU (qb2 l i l[i] j 2) l[i].ops[j].v ≤ 1000000 := by
    have h1 := qJ1 hg j
    have h2 : zU (qb2 l i l[i] j 2) l[i].ops[j].v ≤ (qb2 l i l[i] j 2).length := List.findIdx_le_length
    omega
   refine Ev.step (f := fun k => (T.jB.f k (qb2 l i l[i] j 1) l[i].ops[j].k).bind fun bt => (T.jB.f k (qb2 l i l[i] j 2) l[i].ops[j].v).bind fun bu => T.qM.l1 k (h.map ofT) out (l.map ofT) (qb2 l i l[i] j 0) bt.1 bu.1 (i : Int) ((j + 1 : Nat) : Int) s' b' c' (((l[i].ops.take j).map (qA5 (names (jV l)) (names (zH l)))).map ofO ++ [(⟨l[i].ops[j].w, bt.2, wrap64 (bu.2 + 1)⟩ : S51)])) (fun k => ?_) ?_
   ·simp only [T.qM.l1]
    rw [if_pos (by omega), if_pos (by rw [List.length_map]; omega), qk0 l i hi]
    rw [show (ofT l[i]).f3 = l[i].ops.map ofO from rfl, if_pos (by rw [List.length_map]; omega), if_pos (by omega), jh5 _ j h1, qb4 (x := j) (by omega)]
    congr 1
    funext bt
    rw [if_neg (show ¬ (ofO l[i].ops[j]).f2 = 0 from hv)]
    congr 1
    funext bu
    rw [if_pos hlt]
    rfl
   ·refine Ev.bind e1 (Ev.bind e2 ?_)
    have eo : (⟨l[i].ops[j].w, ((zU (qb2 l i l[i] j 1) l[i].ops[j].k : Nat) : Int), wrap64 (((zU (qb2 l i l[i] j 2) l[i].ops[j].v : Nat) : Int) + 1)⟩ : S51) = ofO (qA5 (names (jV l)) (names (zH l)) l[i].ops[j]) := by
     rw [qb4 (by omega), Int.natCast_add, ek, ev]; unfold qA5 ofO; simp [hv]; omega
    show Ev (fun k => T.qM.l1 k _ _ _ (qb2 l i l[i] j 0) (zG (qb2 l i l[i] j 1) l[i].ops[j].k) (zG (qb2 l i l[i] j 2) l[i].ops[j].v) _ _ _ _ _ (_ ++ [(⟨l[i].ops[j].w, ((zU (qb2 l i l[i] j 1) l[i].ops[j].k : Nat) : Int), wrap64 (((zU (qb2 l i l[i] j 2) l[i].ops[j].v : Nat) : Int) + 1)⟩ : S51)])) r
    rw [eo, L0, L1, L2]
    exact hih
theorem Qn6 (h l : List T4) (hp : l.length = h.length) (hm : l.length ≤ 1000) (hc : jI l ≤ 100000) : ∀ (d i : Nat), i + d = l.length →
  Ev (fun k => T.qM.l0 k (h.map ofT) (((l.take i).map (qU3 (names (zT l)) (names (jV l)) (names (zH l)) (qt0 h))).map ofT) (l.map ofT) (Lst l i 0) (Lst l i 1) (Lst l i 2) (i : Int)) ((qB8 (qt0 h) l).map ofT) := by
 intro d
 induction d with
 | zero =>
  intro i hi
  refine Ev.step (f := fun _ => some ((qB8 (qt0 h) l).map ofT)) (fun k => ?_) (Ev.now _)
  simp only [T.qM.l0]
  rw [if_neg (by rw [List.length_map]; omega), List.take_of_length_le (by omega)]
  rfl
 | succ d ih =>
  intro i hi
  have h1 : i < l.length := by omega
  have hg : l[i]? = some l[i] := List.getElem?_eq_getElem h1
  have hL := zT3 hg
  have L0 : zG (Lst l i 0) l[i].s = qb2 l i l[i] 0 0 := by have := congrFun hL 0; simpa using this
  have L1 : Lst l i 1 = qb2 l i l[i] 0 1 := by have := congrFun hL 1; simpa using this
  have L2 : Lst l i 2 = qb2 l i l[i] 0 2 := by have := congrFun hL 2; simpa using this
  have es : ((zU (Lst l i 0) l[i].s : Nat) : Int) = (zU (names (zT l)) l[i].s : Nat) := by rw [← zw4 hg, jq5]
  have hsl : (Lst l i 0).length ≤ 1000000 := by
   have : (Lst l i 0) = names (zT (l.take i)) := rfl
   rw [this]
   have h1 := qj5 (zT (l.take i))
   have h2 : (zT (l.take i)).length ≤ l.length := by unfold zT; rw [List.length_map, List.length_take]; omega
   omega
  have R1 := zB1 h l[i].b (by omega)
  have R2 := zB1 h l[i].c (by omega)
  have N1 := zd0 (Lst l i 0) l[i].s hsl
  have ih2 := ih (i + 1) (by omega)
  rw [← zj0 hg] at ih2
  have et : ((l.take (i + 1)).map (qU3 (names (zT l)) (names (jV l)) (names (zH l)) (qt0 h))).map ofT = ((l.take i).map (qU3 (names (zT l)) (names (jV l)) (names (zH l)) (qt0 h))).map ofT ++ [ofT (qU3 (names (zT l)) (names (jV l)) (names (zH l)) (qt0 h) l[i])] := by
   rw [qi1 hg, List.map_append, List.map_append]; rfl
  rw [et] at ih2
  have B := Qn5 h l hm hc i h1 (((l.take i).map (qU3 (names (zT l)) (names (jV l)) (names (zH l)) (qt0 h))).map ofT) (by simp only [List.length_map, List.length_take]; omega) (zU (names (zT l)) l[i].s : Nat) (qt0 h l[i].b) (qt0 h l[i].c) _ ih2 l[i].ops.length 0 (by omega)
  refine Ev.step (f := fun k => (T.j6.f k (h.map ofT) l[i].b).bind fun t1 => (T.j6.f k (h.map ofT) l[i].c).bind fun t2 => (T.jB.f k (Lst l i 0) l[i].s).bind fun bt => T.qM.l1 k (h.map ofT) (((l.take i).map (qU3 (names (zT l)) (names (jV l)) (names (zH l)) (qt0 h))).map ofT) (l.map ofT) bt.1 (Lst l i 1) (Lst l i 2) (i : Int) 0 bt.2 t1 t2 ([] : List S51)) (fun k => ?_) ?_
  ·simp only [T.qM.l0]
   rw [if_pos (by rw [List.length_map]; omega), if_pos (by omega), qk0 l i h1]
   rfl
  ·refine Ev.bind R1 (Ev.bind R2 (Ev.bind N1 ?_))
   show Ev (fun k => T.qM.l1 k _ _ _ (zG (Lst l i 0) l[i].s) (Lst l i 1) (Lst l i 2) _ _ ((zU (Lst l i 0) l[i].s : Nat) : Int) _ _ _) _
   rw [es, L0, L1, L2]
   exact B
theorem zM7 {h : List T4} (hm : qy8 h) (hl : h.length ≤ 1000) (hc : jI h ≤ 100000) : Ev (fun k => T.qM.f k (h.map ofT)) ((zJ h).map ofT) := by
 unfold T.qM.f
 refine Ev.bind (zB2 hm (by omega)) ?_
 have e1 : (qc0 h).length = h.length := (zP h).length_eq
 have := Qn6 h (qc0 h) e1 (by omega) (by rw [qU5 (zP h)]; exact hc) (qc0 h).length 0 (by omega)
 exact this
end Go.Proofs.Ytngkneknopenmaa.Hist
end
section
namespace Go.Proofs.Ytngkneknopenmaa.Hist
open Go Go.RowKit Go.Proofs.Ytngkneknopenmaa Go.Proofs.Ytngkneknopenmaa.qb8 Go.Proofs.YtngkneknopenmaaW.PrintWords
open Go.Proofs.Ytngkneknopenmaa.K (S55 S51 qD qG k55 jT8)
def CT (w : World) (A : Option Addr) (h : List T4) : Prop := Kd.C k55 w A h.length (h.map ofT)
theorem CT.len {w : World} {A : Option Addr} {h : List T4} (k : CT w A h) : Kd.C k55 w A (h.map ofT).length (h.map ofT) := by rw [List.length_map]; exact k
def Sm (h : List T4) : Prop := h.length ≤ 1000 ∧ jI h ≤ 100000
variable {A B : Option Addr} {c d : Nat} {a b h : List T4} {w : World}
theorem zM8 (k : CT w A h) (hc : h.length ≤ c) (s : Sm h) (hm : qy8 h) :
  Calls Try.prog 17 #[.slice A h.length c] w fun e w' => ∃ (A' : Option Addr) (c' : Nat), e = .returned (.slice A' (zJ h).length c') ∧ ((zJ h).length ≤ c' ∧ CT w' A' (zJ h)) ∧ Below w.heap.size w w' := by
 obtain ⟨n, hn⟩ := (zM7 hm s.1 s.2).rounds
 have := T.qM.calls n (fun k => k < w.heap.size) A c (h.map ofT) _ w (Kd.qS6 (by rw [List.length_map]; exact hc) (Kd.C_F jT8 k.len)) hn
 rw [List.length_map] at this
 refine this.mono ?_
 rintro e w' ⟨v, rfl, hS, hb⟩
 obtain ⟨A', c', rfl⟩ := Kd.qR6 hS
 have q := Kd.zZ hS
 rw [List.length_map] at q ⊢
 exact ⟨A', c', rfl, ⟨q.2.1, q.2.2⟩, hb⟩
end Go.Proofs.Ytngkneknopenmaa.Hist
end
