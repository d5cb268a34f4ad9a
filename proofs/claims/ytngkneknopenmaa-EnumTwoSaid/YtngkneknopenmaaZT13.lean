/- qr3 of this claim, joined by a program of this session: the zS that its theorem uses. -/
import Derived.Test.YtngkneknopenmaaZT1
import Derived.Test.YtngkneknopenmaaZT5
import Derived.Test.YtngkneknopenmaaZT8
import Derived.Test.YtngkneknopenmaaZT12
import Derived.Lib.Hide
set_option linter.unusedVariables false
set_option linter.unusedSimpArgs false
namespace Go.Proofs.Ytngkneknopenmaa.jX3
end Go.Proofs.Ytngkneknopenmaa.jX3
section
namespace Go.Proofs.Ytngkneknopenmaa.T
open Go.Proofs.Ytngkneknopenmaa Go.Proofs.Ytngkneknopenmaa.jX3 Go.Proofs.Ytngkneknopenmaa.K
open Go.RowKit Go.Proofs.YtngkneknopenmaaW.jH Go.Proofs.YtngkneknopenmaaW.qh6 Go.Proofs.YtngkneknopenmaaW.qk1
attribute [local go_sem] qq1 qq2 qv6 qv7 qm9 qn0 qq3 qq4   -- for this text's walks alone
set_option linter.unusedVariables false
set_option linter.unusedSimpArgs false
mutual
def qL.l0 : Nat → List (S55) → List (S55) → List (S55) → List Int → List Int → List Int → Int → Option ((List (S55)))
 | 0, _, _, _, _, _, _, _ => none
 | k + 1, x0, x3, x4, x5, x6, x7, x8 => if x8 < (x4.length : Int) then (if 0 ≤ x8 then ((j6.f k x0 ((qD x4 x8).f1)).bind fun t213 => ((j6.f k x0 ((qD x4 x8).f2)).bind fun t215 => ((jA.f k x5 ((qD x4 x8).f0)).bind fun jh4 => (qL.l1 k x0 x3 x4 jh4.1 x6 x7 x8 0 jh4.2 t213 t215 ([] : List (S51)))))) else (none)) else (some x3)
def qL.l1 : Nat → List (S55) → List (S55) → List (S55) → List Int → List Int → List Int → Int → Int → Int → Int → Int → List (S51) → Option ((List (S55)))
 | 0, _, _, _, _, _, _, _, _, _, _, _, _ => none
 | k + 1, x0, x3, x4, x5, x6, x7, x8, x10, x217000, x217001, x217002, x217003 => if 0 ≤ x8 then (if x8 < (x4.length : Int) then (if x10 < (((qD x4 x8).f3).length : Int) then (if 0 ≤ x10 then ((jA.f k x6 ((qG ((qD x4 x8).f3) x10).f1)).bind fun zh7 => (if ((qG ((qD x4 x8).f3) x10).f2) = 0 then (if x217003.length < 5864062014805 then (qL.l1 k x0 x3 x4 x5 zh7.1 x7 x8 (wrap64 (x10 + 1)) x217000 x217001 x217002 (x217003 ++ [(⟨(qG ((qD x4 x8).f3) x10).f0, zh7.2, (qG ((qD x4 x8).f3) x10).f2⟩ : S51)])) else (none)) else ((jA.f k x7 ((qG ((qD x4 x8).f3) x10).f2)).bind fun jO9 => (if x217003.length < 5864062014805 then (qL.l1 k x0 x3 x4 x5 zh7.1 jO9.1 x8 (wrap64 (x10 + 1)) x217000 x217001 x217002 (x217003 ++ [(⟨(qG ((qD x4 x8).f3) x10).f0, zh7.2, wrap64 (jO9.2 + 1)⟩ : S51)])) else (none))))) else (none)) else (if x3.length < 2932031007402 then (qL.l0 k x0 (x3 ++ [(⟨x217000, x217001, x217002, x217003⟩ : S55)]) x4 x5 x6 x7 (wrap64 (x8 + 1))) else (none))) else (none)) else (none)
end
def qL.f (k : Nat) (l0 : List (S55)) : Option ((List (S55))) := (qF.f k l0).bind fun t200 => (qL.l0 k l0 (([] : List (S55))) t200 (([] : List Int)) (([] : List Int)) (([] : List Int)) 0)
def qL.T9 : Bool × List (List Nat × List Nat) := (true, [([], []), ([], []), ([], []), ([1, 2], [1, 2]), ([3], [3]), ([4], [4]), ([0, 5], [0, 5]), ([], []), ([], []), ([], []), ([8, 9], [8, 9]), ([10], [10]), ([11], [11]), ([7, 12, 6], [7, 12]), ([6, 13], [6, 13]), ([], []), ([15, 14, 13, 0, 1, 2, 3, 4, 5, 6, 7, 8, 9, 10, 11, 12, 13, 14, 15], [14, 15])])
def qL.B9 : List Nat := [0, 0, 0, 6, 14, 30, 63, 0, 0, 0, 768, 1792, 3840, 8191, 16383, 0, 65535]
theorem qL.tab9 : qy8 .any (opsOf Try.f17 9) = qL.T9 := by kernel_rfl
theorem qL.Qk2 : qG5 qL.T9.2 qL.B9 = true := by kernel_rfl
set_option maxHeartbeats 8000000 in
set_option maxRecDepth 100000 in
theorem qL.calls (k : Nat) (P0_ : Nat → Prop) (A0 : Option Addr) (c0 : Nat) (l0 : List (S55)) (r : List (S55)) (w : World) (hs0 : Kd.V k55 55 w w.heap.size (fun k_ => P0_ k_) (.slice A0 l0.length c0) l0) (h : qL.f k l0 = some r) :
  Calls Try.prog 17 #[.slice A0 l0.length c0] w fun e w' => ∃ v0_ : Value, e = .returned (v0_) ∧ Kd.N k55 55 w' w.heap.size (fun k_ => (P0_ k_ ∨ w.heap.size ≤ k_)) v0_ r ∧ Below w.heap.size w w' := by
 have zG2 := Try.underlying55
 have zw0 := Try.underlying51
 have HO0 := q8.mk (show Kd.V k55 55 w w.heap.size (fun k_ => (P0_ k_ ∨ w.heap.size ≤ k_)) (.slice A0 l0.length c0) l0 from Kd.zJ hs0 (fun k_ hk => .inl hk))
 have HB := q8.mk (Below.refl w.heap.size w)
 have H : ((qF.f k l0).bind fun t200 => (qL.l0 k l0 (([] : List (S55))) t200 (([] : List Int)) (([] : List Int)) (([] : List Int)) 0)) = some r := h
 clear h
 obtain ⟨y197, jP0⟩ : ∃ y_ : List (S55), y_ = (([] : List (S55))) := ⟨_, rfl⟩
 replace H : ((qF.f k l0).bind fun t200 => (qL.l0 k l0 y197 t200 (([] : List Int)) (([] : List Int)) (([] : List Int)) 0)) = some r := by first | (rw [jP0]; with_reducible exact H) | (have H2_ := (Option.bind_some _ _).symm.trans H; rw [jP0]; with_reducible exact H2_) | (have H2_ := (Option.bind_some _ _).symm.trans H; with_reducible exact H2_) | with_reducible exact H | (rw [jP0]; exact H) | exact H
 have zT7 := q8.mk jP0
 clear jP0
 replace H := Option.bind_eq_some_iff.mp H
 obtain ⟨t200, A20, H⟩ := H
 replace H : (qL.l0 k l0 y197 t200 (([] : List Int)) (([] : List Int)) (([] : List Int)) 0) = some r := H
 have A2 := q8.mk A20
 clear A20
 obtain ⟨y203, jP1⟩ : ∃ y_ : List Int, y_ = (([] : List Int)) := ⟨_, rfl⟩
 replace H : (qL.l0 k l0 y197 t200 y203 (([] : List Int)) (([] : List Int)) 0) = some r := by first | (rw [jP1]; with_reducible exact H) | (have H2_ := (Option.bind_some _ _).symm.trans H; rw [jP1]; with_reducible exact H2_) | (have H2_ := (Option.bind_some _ _).symm.trans H; with_reducible exact H2_) | with_reducible exact H | (rw [jP1]; exact H) | exact H
 have zT8 := q8.mk jP1
 clear jP1
 obtain ⟨y206, jP2⟩ : ∃ y_ : List Int, y_ = (([] : List Int)) := ⟨_, rfl⟩
 replace H : (qL.l0 k l0 y197 t200 y203 y206 (([] : List Int)) 0) = some r := by first | (rw [jP2]; with_reducible exact H) | (have H2_ := (Option.bind_some _ _).symm.trans H; rw [jP2]; with_reducible exact H2_) | (have H2_ := (Option.bind_some _ _).symm.trans H; with_reducible exact H2_) | with_reducible exact H | (rw [jP2]; exact H) | exact H
 have zT9 := q8.mk jP2
 clear jP2
 obtain ⟨y209, jP3⟩ : ∃ y_ : List Int, y_ = (([] : List Int)) := ⟨_, rfl⟩
 replace H : (qL.l0 k l0 y197 t200 y203 y206 y209 0) = some r := by first | (rw [jP3]; with_reducible exact H) | (have H2_ := (Option.bind_some _ _).symm.trans H; rw [jP3]; with_reducible exact H2_) | (have H2_ := (Option.bind_some _ _).symm.trans H; with_reducible exact H2_) | with_reducible exact H | (rw [jP3]; exact H) | exact H
 have zU0 := q8.mk jP3
 clear jP3
 have H' := q8.mk H
 clear H
 go_enter Try.func17, Try.ntmps17
 go_wp2_with (first | ((with_reducible refine qa0 (N := 12) rfl ?_); refine Kd.zu8 k55 _ 55 ?hg (N' := 12) ?hd (xs := ([] : List (S55))) (inner := []) (ok := (fun k_ => (P0_ k_ ∨ w.heap.size ≤ k_))) (okp := (fun k_ => (P0_ k_ ∨ w.heap.size ≤ k_))) ?hr ?hp (fun _ hk => hk) ((show ∀ k_, w.heap.size ≤ k_ → (fun k_ => (P0_ k_ ∨ w.heap.size ≤ k_)) k_ from fun k_ hk => (.inr (Nat.le_trans (qM (by repeat (first | (with_reducible first | exact HB.out | apply qA | apply q9 | apply qB) | exact HB.out))) hk))) _ (Nat.le_refl _)) (Below.refl _ _) (Nat.le_refl _) (by simp) ?_; (case hd => rfl); (case hg => rfl); (case hr => first | (go_simp; done) | (go_simp; rfl)); (case hp => exact (qd6.none _ _)); intro v198 w3 ho4 hb hg_ qA3; clear hg_ qA3; (first | rw [← zT7.out] at ho4 | (simp only [Int.reduceToNat] at ho4; rw [← zT7.out] at ho4)); have n0_ := q8.mk (Kd.qq5 (by (with_reducible repeat (first | apply Kd.jO | apply Kd.jP | apply Kd.z8)); exact HO0.out) (Kd.qA4 ho4) hb); have n1_ := q8.mk (Kd.qW2 ho4 (qM (by repeat (first | (with_reducible first | exact HB.out | apply qA | apply q9 | apply qB) | exact HB.out)))); have n2_ := q8.mk (jM (by repeat (first | (with_reducible first | exact HB.out | apply qA | apply q9 | apply qB) | exact HB.out)) hb); clear HO0; clear HB; have HO0 := n0_; have qC0 := n1_; have HB := n2_; clear n0_ n1_ n2_; clear hb ho4) | ((with_reducible refine qj0 (f := 43) rfl ?_); refine qH3 (some 14) rfl rfl Try.func43 (by kernel_rfl) rfl #[.slice A0 l0.length c0] rfl (by (try simp only [List.map_toArray, List.map_cons, List.map_nil]); first | done | rfl | (simp only [List.length_drop, List.length_take]; rfl)) ?_; (with_reducible refine (qF.calls k (fun k_ => ((P0_ k_ ∨ w.heap.size ≤ k_) ∧ some k_ ≠ (v198 : Value).ownBlock)) _ _ l0 t200 _ ?qt1 A2.out).mono ?_); (case qt1 => exact HO0.out); rintro e w5 ⟨v201, rfl, ho0, hb⟩; refine ⟨_, rfl, ?_⟩; have n0_ := q8.mk (Kd.qq5 (by (with_reducible repeat (first | apply Kd.jO | apply Kd.jP | apply Kd.z8)); exact HO0.out) (Kd.qA4 ho0) hb); have n1_ := q8.mk (Kd.qq6 (by (with_reducible repeat (first | apply Kd.jC | apply Kd.jD | apply Kd.jG)); exact qC0.out) (Kd.qA4 ho0) hb); have n2_ := q8.mk (Kd.qW2 (Kd.jZ (ok' := fun k_ => (P0_ k_ ∨ w.heap.size ≤ k_) ∧ some k_ ≠ (v198 : Value).ownBlock) ho0 (fun k_ hk_ => ⟨Or.elim hk_ (fun hs_ => hs_.1) (fun hn_ => (.inr (Nat.le_trans (qM (by repeat (first | (with_reducible first | exact HB.out | apply qA | apply q9 | apply qB) | exact HB.out))) hn_))), Or.elim hk_ (fun hs_ => hs_.2) (fun hn_ => (Kd.fresh' (Kd.jw0 (by (with_reducible repeat (first | apply Kd.jC | apply Kd.jD | apply Kd.jG)); exact qC0.out)) k_ hn_))⟩)) (qM (by repeat (first | (with_reducible first | exact HB.out | apply qA | apply q9 | apply qB) | exact HB.out)))); have n3_ := q8.mk (jM (by repeat (first | (with_reducible first | exact HB.out | apply qA | apply q9 | apply qB) | exact HB.out)) hb); clear HO0; clear qC0; clear HB; have HO0 := n0_; have qC0 := n1_; have qQ0 := n2_; have HB := n3_; clear n0_ n1_ n2_ n3_; (try clear hb); (try clear hb2); (try clear hk); (try clear hi); (try clear ho0)) | ((with_reducible refine qa0 (N := 15) rfl ?_); refine Kd.jO8 (Kd.int .i64) _ 3 ?hg (N := 15) ?hd (xs := ([] : List Int)) (inner := []) (ok := fun _ => True) (okp := fun _ => True) ?hr ?hp (fun _ hk => hk) trivial (Below.refl _ _) (Nat.le_refl _) (by simp) ?_; (case hd => rfl); (case hg => rfl); (case hr => first | (go_simp; done) | (go_simp; rfl)); (case hp => exact (qd6.none _ _)); intro v204 w6 ho7 hb hg_ qA3; clear hg_ qA3; (first | rw [← zT8.out] at ho7 | (simp only [Int.reduceToNat] at ho7; rw [← zT8.out] at ho7)); have n0_ := q8.mk (Kd.qq5 (by (with_reducible repeat (first | apply Kd.jO | apply Kd.jP | apply Kd.z8)); exact HO0.out) (Kd.qt0 ho7) hb); have n1_ := q8.mk (Kd.qq6 (by (with_reducible repeat (first | apply Kd.jC | apply Kd.jD | apply Kd.jG)); exact qC0.out) (Kd.qt0 ho7) hb); have n2_ := q8.mk (Kd.qq6 (by (with_reducible repeat (first | apply Kd.jC | apply Kd.jD | apply Kd.jG)); exact qQ0.out) (Kd.qt0 ho7) hb); have n3_ := q8.mk (Kd.qO5 (Kd.jF1 (M := fun k_ => (w.heap.size ≤ k_)) ho7 (qM (by repeat (first | (with_reducible first | exact HB.out | apply qA | apply q9 | apply qB) | exact HB.out))) (fun k_ h_ => h_)) (qM (by repeat (first | (with_reducible first | exact HB.out | apply qA | apply q9 | apply qB) | exact HB.out)))); have n4_ := q8.mk (jM (by repeat (first | (with_reducible first | exact HB.out | apply qA | apply q9 | apply qB) | exact HB.out)) hb); clear HO0; clear qC0; clear qQ0; clear HB; have HO0 := n0_; have qC0 := n1_; have qQ0 := n2_; have qY1 := n3_; have HB := n4_; clear n0_ n1_ n2_ n3_ n4_; clear hb ho7) | ((with_reducible refine qa0 (N := 16) rfl ?_); refine Kd.jO8 (Kd.int .i64) _ 3 ?hg (N := 16) ?hd (xs := ([] : List Int)) (inner := []) (ok := fun _ => True) (okp := fun _ => True) ?hr ?hp (fun _ hk => hk) trivial (Below.refl _ _) (Nat.le_refl _) (by simp) ?_; (case hd => rfl); (case hg => rfl); (case hr => first | (go_simp; done) | (go_simp; rfl)); (case hp => exact (qd6.none _ _)); intro v207 w8 ho9 hb hg_ qA3; clear hg_ qA3; (first | rw [← zT9.out] at ho9 | (simp only [Int.reduceToNat] at ho9; rw [← zT9.out] at ho9)); have n0_ := q8.mk (Kd.qq5 (by (with_reducible repeat (first | apply Kd.jO | apply Kd.jP | apply Kd.z8)); exact HO0.out) (Kd.qt0 ho9) hb); have n1_ := q8.mk (Kd.qq6 (by (with_reducible repeat (first | apply Kd.jC | apply Kd.jD | apply Kd.jG)); exact qC0.out) (Kd.qt0 ho9) hb); have n2_ := q8.mk (Kd.qq6 (by (with_reducible repeat (first | apply Kd.jC | apply Kd.jD | apply Kd.jG)); exact qQ0.out) (Kd.qt0 ho9) hb); have n3_ := q8.mk (Kd.qX9 (by (with_reducible repeat (first | apply Kd.qW | apply Kd.qX | apply Kd.jB)); exact qY1.out) (Kd.qt0 ho9) hb); have n4_ := q8.mk (Kd.qO5 (Kd.jF0 (Kd.jF1 (M := fun k_ => (w.heap.size ≤ k_)) ho9 (qM (by repeat (first | (with_reducible first | exact HB.out | apply qA | apply q9 | apply qB) | exact HB.out))) (fun k_ h_ => h_)) (Kd.qK9 (by (with_reducible repeat (first | apply Kd.qW | apply Kd.qX | apply Kd.jB)); exact qY1.out))) (qM (by repeat (first | (with_reducible first | exact HB.out | apply qA | apply q9 | apply qB) | exact HB.out)))); have n5_ := q8.mk (jM (by repeat (first | (with_reducible first | exact HB.out | apply qA | apply q9 | apply qB) | exact HB.out)) hb); clear HO0; clear qC0; clear qQ0; clear qY1; clear HB; have HO0 := n0_; have qC0 := n1_; have qQ0 := n2_; have qY1 := n3_; have jP4 := n4_; have HB := n5_; clear n0_ n1_ n2_ n3_ n4_ n5_; clear hb ho9) | ((with_reducible refine qa0 (N := 17) rfl ?_); refine Kd.jO8 (Kd.int .i64) _ 3 ?hg (N := 17) ?hd (xs := ([] : List Int)) (inner := []) (ok := fun _ => True) (okp := fun _ => True) ?hr ?hp (fun _ hk => hk) trivial (Below.refl _ _) (Nat.le_refl _) (by simp) ?_; (case hd => rfl); (case hg => rfl); (case hr => first | (go_simp; done) | (go_simp; rfl)); (case hp => exact (qd6.none _ _)); intro v210 w10 jw3 hb hg_ qA3; clear hg_ qA3; (first | rw [← zU0.out] at jw3 | (simp only [Int.reduceToNat] at jw3; rw [← zU0.out] at jw3)); have n0_ := q8.mk (Kd.qq5 (by (with_reducible repeat (first | apply Kd.jO | apply Kd.jP | apply Kd.z8)); exact HO0.out) (Kd.qt0 jw3) hb); have n1_ := q8.mk (Kd.qq6 (by (with_reducible repeat (first | apply Kd.jC | apply Kd.jD | apply Kd.jG)); exact qC0.out) (Kd.qt0 jw3) hb); have n2_ := q8.mk (Kd.qq6 (by (with_reducible repeat (first | apply Kd.jC | apply Kd.jD | apply Kd.jG)); exact qQ0.out) (Kd.qt0 jw3) hb); have n3_ := q8.mk (Kd.qX9 (by (with_reducible repeat (first | apply Kd.qW | apply Kd.qX | apply Kd.jB)); exact qY1.out) (Kd.qt0 jw3) hb); have n4_ := q8.mk (Kd.qX9 (by (with_reducible repeat (first | apply Kd.qW | apply Kd.qX | apply Kd.jB)); exact jP4.out) (Kd.qt0 jw3) hb); have n5_ := q8.mk (Kd.qO5 (Kd.jF0 (Kd.jF0 (Kd.jF1 (M := fun k_ => (w.heap.size ≤ k_)) jw3 (qM (by repeat (first | (with_reducible first | exact HB.out | apply qA | apply q9 | apply qB) | exact HB.out))) (fun k_ h_ => h_)) (Kd.qK9 (by (with_reducible repeat (first | apply Kd.qW | apply Kd.qX | apply Kd.jB)); exact qY1.out))) (Kd.qK9 (by (with_reducible repeat (first | apply Kd.qW | apply Kd.qX | apply Kd.jB)); exact jP4.out))) (qM (by repeat (first | (with_reducible first | exact HB.out | apply qA | apply q9 | apply qB) | exact HB.out)))); have n6_ := q8.mk (jM (by repeat (first | (with_reducible first | exact HB.out | apply qA | apply q9 | apply qB) | exact HB.out)) hb); clear HO0; clear qC0; clear qQ0; clear qY1; clear jP4; clear HB; have HO0 := n0_; have qC0 := n1_; have qQ0 := n2_; have qY1 := n3_; have jP4 := n4_; have Qk3 := n5_; have HB := n6_; clear n0_ n1_ n2_ n3_ n4_ n5_ n6_; clear hb jw3))
 go_loopg [3, 5, 6, 7, 8] k (fun kq v3 v5 v6 v7 v8 w' => ∃ (qk2 : List (S55)) (qx5 : List Int) (jW : List Int) (qb1 : List Int) (qO : Int), v8 = .int .i64 qO ∧ q8 (qL.l0 kq l0 qk2 t200 qx5 jW qb1 qO = some r) ∧ q8 (kq ≤ k) ∧ q8 (Kd.V k55 55 w' w.heap.size (fun k_ => (P0_ k_ ∨ w.heap.size ≤ k_) ∧ some k_ ≠ (v3 : Value).ownBlock ∧ some k_ ≠ (v201 : Value).ownBlock ∧ some k_ ≠ (v5 : Value).ownBlock ∧ some k_ ≠ (v6 : Value).ownBlock ∧ some k_ ≠ (v7 : Value).ownBlock) (.slice A0 l0.length c0) l0) ∧ q8 (Kd.N k55 55 w' w.heap.size (fun k_ => (P0_ k_ ∨ w.heap.size ≤ k_) ∧ some k_ ≠ (v201 : Value).ownBlock ∧ some k_ ≠ (v5 : Value).ownBlock ∧ some k_ ≠ (v6 : Value).ownBlock ∧ some k_ ≠ (v7 : Value).ownBlock) v3 qk2) ∧ q8 (Kd.N k55 55 w' w.heap.size (fun k_ => (P0_ k_ ∨ w.heap.size ≤ k_) ∧ some k_ ≠ (v3 : Value).ownBlock ∧ some k_ ≠ (v5 : Value).ownBlock ∧ some k_ ≠ (v6 : Value).ownBlock ∧ some k_ ≠ (v7 : Value).ownBlock) v201 t200) ∧ q8 (Kd.R (Kd.int .i64) 3 w' w.heap.size (fun k_ => (w.heap.size ≤ k_) ∧ some k_ ≠ (v6 : Value).ownBlock ∧ some k_ ≠ (v7 : Value).ownBlock) v5 qx5) ∧ q8 (Kd.R (Kd.int .i64) 3 w' w.heap.size (fun k_ => (w.heap.size ≤ k_) ∧ some k_ ≠ (v5 : Value).ownBlock ∧ some k_ ≠ (v7 : Value).ownBlock) v6 jW) ∧ q8 (Kd.R (Kd.int .i64) 3 w' w.heap.size (fun k_ => (w.heap.size ≤ k_) ∧ some k_ ≠ (v5 : Value).ownBlock ∧ some k_ ≠ (v6 : Value).ownBlock) v7 qb1) ∧ q8 (Below w.heap.size w w'))
 case atStart => exact ⟨(y197), (y203), (y206), (y209), (0), (by first | rfl | (simp; done) | (simp [*]; done)), H', ⟨Nat.le_refl _⟩, ⟨by (with_reducible repeat (first | apply Kd.jO | apply Kd.jP | apply Kd.z8)); exact Kd.zJ HO0.out (fun _ hk => ⟨hk.1.1.1.1.1, ⟨hk.1.1.1.1.2, ⟨hk.1.1.1.2, ⟨hk.1.1.2, ⟨hk.1.2, hk.2⟩⟩⟩⟩⟩)⟩, ⟨by (with_reducible repeat (first | apply Kd.jC | apply Kd.jD | apply Kd.jG)); exact Kd.jZ qC0.out (fun _ hk => ⟨hk.1.1.1.1, ⟨hk.1.1.1.2, ⟨hk.1.1.2, ⟨hk.1.2, hk.2⟩⟩⟩⟩)⟩, ⟨by (with_reducible repeat (first | apply Kd.jC | apply Kd.jD | apply Kd.jG)); exact Kd.jZ qQ0.out (fun _ hk => ⟨hk.1.1.1.1, ⟨hk.1.1.1.2, ⟨hk.1.1.2, ⟨hk.1.2, hk.2⟩⟩⟩⟩)⟩, ⟨by (with_reducible repeat (first | apply Kd.qW | apply Kd.qX | apply Kd.jB)); exact Kd.jK qY1.out (fun _ hk => ⟨hk.1.1.1, ⟨hk.1.2, hk.2⟩⟩)⟩, ⟨by (with_reducible repeat (first | apply Kd.qW | apply Kd.qX | apply Kd.jB)); exact Kd.jK jP4.out (fun _ hk => ⟨hk.1.1.1, ⟨hk.1.2, hk.2⟩⟩)⟩, ⟨by (with_reducible repeat (first | apply Kd.qW | apply Kd.qX | apply Kd.jB)); exact Kd.jK Qk3.out (fun _ hk => ⟨hk.1.1.1, ⟨hk.1.2, hk.2⟩⟩)⟩, ⟨by repeat (first | (with_reducible first | exact HB.out | apply qA | apply q9 | apply qB) | exact HB.out)⟩⟩
 case round =>
  clear H'
  try clear c1
  try clear p2
  try clear c4
  obtain ⟨qk2, qx5, jW, qb1, qO, rfl, HA, HK1, zZ, qa5, qV, qc0, qe7, qc8, HB⟩ := hrel
  cases gk with
  | zero => exact absurd HA.out (by simp [qL.l0])
  | succ k1 =>
   have H := HA.out
   clear HA
   simp only [qL.l0] at H
   by_cases c12 : qO < (t200.length : Int)
   ·rw [if_pos c12] at H
    have qE7 : decide (qO < (t200.length : Int)) = true := decide_eq_true c12
    clear c12
    by_cases c13 : 0 ≤ qO
    ·rw [if_pos c13] at H
     have zS6 : decide (0 ≤ qO) = true := decide_eq_true c13
     clear c13
     replace H := Option.bind_eq_some_iff.mp H
     obtain ⟨t213, A140, H⟩ := H
     replace H : ((j6.f k1 l0 ((qD t200 qO).f2)).bind fun t215 => ((jA.f k1 qx5 ((qD t200 qO).f0)).bind fun jh4 => (qL.l1 k1 l0 qk2 t200 jh4.1 jW qb1 qO 0 jh4.2 t213 t215 ([] : List (S51))))) = some r := H
     have A14 := q8.mk A140
     clear A140
     replace H := Option.bind_eq_some_iff.mp H
     obtain ⟨t215, A150, H⟩ := H
     replace H : ((jA.f k1 qx5 ((qD t200 qO).f0)).bind fun jh4 => (qL.l1 k1 l0 qk2 t200 jh4.1 jW qb1 qO 0 jh4.2 t213 t215 ([] : List (S51)))) = some r := H
     have A15 := q8.mk A150
     clear A150
     replace H := Option.bind_eq_some_iff.mp H
     obtain ⟨⟨t218, t221⟩, A160, H⟩ := H
     replace H : (qL.l1 k1 l0 qk2 t200 t218 jW qb1 qO 0 t221 t213 t215 ([] : List (S51))) = some r := H
     have A16 := q8.mk A160
     clear A160
     have H' := q8.mk H
     clear H
     obtain ⟨Ao17, qg8, eo17⟩ := Kd.qO3 qV.out
     subst eo17
     try go_wp2
     have n0_ := q8.mk (Kd.z8 zZ.out)
     have n1_ := q8.mk (Kd.jG qa5.out)
     have n2_ := q8.mk (Kd.jG qV.out)
     have n3_ := q8.mk (Kd.jB qc0.out)
     have n4_ := q8.mk (Kd.jB qe7.out)
     have n5_ := q8.mk (Kd.jB qc8.out)
     have n6_ := q8.mk (qB HB.out)
     clear zZ
     clear qa5
     clear qV
     clear qc0
     clear qe7
     clear qc8
     clear HB
     have zZ := n0_
     have qa5 := n1_
     have qV := n2_
     have qc0 := n3_
     have qe7 := n4_
     have qc8 := n5_
     have HB := n6_
     clear n0_ n1_ n2_ n3_ n4_ n5_ n6_
     have zw1 : 0 ≤ (qO : Int) := of_decide_eq_true (by first | (with_reducible assumption) | assumption)
     have zw2 : qO < (t200.length : Int) := of_decide_eq_true (by first | (with_reducible assumption) | assumption)
     obtain ⟨jS, qx6, qx7, e212, jF2, jF3, jF4, qY2, zh8, zh9⟩ := qa6 (Kd.zW qV.out).2.2 qO zw1 zw2
     cases e212
     obtain ⟨ce212, zZ1, zZ2, zw3⟩ := Kd.qE8 qV.out z55 qO zw1 (by first | exact zw2 | exact of_decide_eq_true (by first | (with_reducible assumption) | assumption) | (have e_ := (Kd.zW qV.out).1; omega))
     obtain ⟨Qr3, Qr4, rfl, jF5, jF6⟩ := qh7 zZ2
     have jk3 := zw3 3 _ rfl
     rw [zO _ _ 3 (by omega)] at jk3
     replace jk3 := Option.some.inj (jk3.symm.trans qY2)
     injection jk3 with qm7 qx4 qm8
     rw [qm7] at jF6
     rw [qm8] at jF5
     have qi4 := q8.mk (show Kd.V k51 51 _ w.heap.size _ _ ((qD t200 qO).f3) from Kd.qP7 jF5 jF6)
     clear qm7 qx4 qm8 jF6 jF5
     clear zw3 zZ1
     have qp0 := q8.mk zh9
     have Qr5 := q8.mk zh8
     clear zh9 zh8
     replace zw1 := eq_true zw1
     replace zw2 := eq_true zw2
     have zw4 : 0 ≤ (qO : Int) := of_decide_eq_true (by first | (with_reducible assumption) | assumption)
     have zw5 : qO < (t200.length : Int) := of_decide_eq_true (by first | (with_reducible assumption) | assumption)
     obtain ⟨Qk4, A214_3, c214_3, e214, jF7, jF8, jF9, qY3, zi0, zi1⟩ := qa6 (Kd.zW qV.out).2.2 qO zw4 zw5
     obtain rfl : jS = Qk4 := (by injection e214)
     obtain ⟨ce214, zZ3, zZ4, zw6⟩ := Kd.qE8 qV.out z55 qO zw4 (by first | exact zw5 | exact of_decide_eq_true (by first | (with_reducible assumption) | assumption) | (have e_ := (Kd.zW qV.out).1; omega))
     obtain ⟨Qr6, Qr7, rfl, jG0, jG1⟩ := qh7 zZ4
     have jk4 := zw6 3 _ rfl
     rw [zO _ _ 3 (by omega)] at jk4
     replace jk4 := Option.some.inj (jk4.symm.trans qY3)
     injection jk4 with qm7 qx4 qm8
     rw [qm7] at jG1
     rw [qm8] at jG0
     have qi5 := q8.mk (show Kd.V k51 51 _ w.heap.size _ _ ((qD t200 qO).f3) from Kd.qP7 jG0 jG1)
     clear qm7 qx4 qm8 jG1 jG0
     clear zw6 zZ3
     have qp1 := q8.mk zi1
     have Qr8 := q8.mk zi0
     clear zi1 zi0
     replace zw4 := eq_true zw4
     replace zw5 := eq_true zw5
     have ea_ := Option.some.inj (qY2.symm.trans qY3)
     injection ea_ with ea_ en_ ec_
     subst ea_
     subst ec_
     clear en_
     refine jD8 (n := 17) (S := fun w' => w'.cell? (jS.add ((qO).toNat * 4)) = some (.int .i64 ((qD t200 qO).f0)) ∧ w'.cell? ⟨(jS.add ((qO).toNat * 4)).block, (jS.add ((qO).toNat * 4)).off + 1, none⟩ = some (.int .i64 ((qD t200 qO).f1)) ∧ w'.cell? ⟨(jS.add ((qO).toNat * 4)).block, (jS.add ((qO).toNat * 4)).off + 2, none⟩ = some (.int .i64 ((qD t200 qO).f2)) ∧ w'.cell? ⟨(jS.add ((qO).toNat * 4)).block, (jS.add ((qO).toNat * 4)).off + 3, none⟩ = some (.slice qx6 ((qD t200 qO).f3).length qx7) ∧ w'.cell? (jS.add ((qO).toNat * 4)) = some (.int .i64 ((qD t200 qO).f0)) ∧ w'.cell? ⟨(jS.add ((qO).toNat * 4)).block, (jS.add ((qO).toNat * 4)).off + 1, none⟩ = some (.int .i64 ((qD t200 qO).f1)) ∧ w'.cell? ⟨(jS.add ((qO).toNat * 4)).block, (jS.add ((qO).toNat * 4)).off + 2, none⟩ = some (.int .i64 ((qD t200 qO).f2)) ∧ w'.cell? ⟨(jS.add ((qO).toNat * 4)).block, (jS.add ((qO).toNat * 4)).off + 3, none⟩ = some (.slice qx6 ((qD t200 qO).f3).length qx7)) (ds := []) #[false, false, false, false, false, false, false, false, false, false, false, false, false, false, false, false, false] (by kernel_rfl) rfl rfl ⟨jF2, jF3, jF4, qY2, jF7, jF8, jF9, qY3⟩ (fun hHeld => ?_); refine qO4 qL.tab9 qL.Qk2 (fun HT_ HW_ => ?_)
     generalize wr.drew = w18 at zZ qa5 qV qc0 qe7 qc8 HB qi4 qi5 qp0 qp1 jF2 jF3 jF4 qY2 jF7 jF8 jF9 qY3 hHeld ⊢
     refine qf0 (i := 0) (N := some 24) (v := ?_) (a' := ?_) #[true, false, false, false, false, false, false, false, false, false, false, false, false, false, false, false, false] rfl rfl (qb3 HT_.out (by kernel_rfl)) (fun _ _ _ h => h) (Or.inl ⟨by rfl, ?_⟩) ?_ ?_
     rotate_left
     ·intro w'
      go_simp
      with_reducible rfl
     rotate_left
     ·simp only [Act.put, List.setIfInBounds_toArray, List.set_cons_zero, List.set_cons_succ, qa1, qa3]
      rfl
     refine qf0 (i := 1) (N := some 25) (v := ?_) (a' := ?_) #[true, true, false, false, false, false, false, false, false, false, false, false, false, false, false, false, false] rfl rfl (qb3 HT_.out (by kernel_rfl)) (fun _ _ _ h => h) (Or.inl ⟨by rfl, ?_⟩) ?_ ?_
     rotate_left
     ·intro w'
      go_simp
      with_reducible rfl
     rotate_left
     ·simp only [Act.put, List.setIfInBounds_toArray, List.set_cons_zero, List.set_cons_succ, qa1, qa3]
      rfl
     refine qf0 (i := 2) (N := some 26) (v := ?_) (a' := ?_) #[true, true, true, false, false, false, false, false, false, false, false, false, false, false, false, false, false] rfl rfl (qb3 HT_.out (by kernel_rfl)) (fun _ _ _ h => h) (Or.inl ⟨by rfl, ?_⟩) ?_ ?_
     rotate_left
     ·intro w'
      go_simp
      with_reducible rfl
     rotate_left
     ·simp only [Act.put, List.setIfInBounds_toArray, List.set_cons_zero, List.set_cons_succ, qa1, qa3]
      rfl
     refine qf0 (i := 3) (N := some 27) (v := ?_) (a' := ?_) #[true, true, true, true, false, false, false, false, false, false, false, false, false, false, false, false, false] rfl rfl (qb3 HT_.out (by kernel_rfl)) (fun _ _ _ h => h) (Or.inl ⟨by rfl, ?_⟩) ?_ ?_
     rotate_left
     ·intro w'
      go_simp
      with_reducible rfl
     rotate_left
     ·simp only [Act.put, List.setIfInBounds_toArray, List.set_cons_zero, List.set_cons_succ, qa1, qa3]
      rfl
     refine qf0 (i := 4) (N := some 28) (v := ?_) (a' := ?_) #[true, true, true, true, true, false, false, false, false, false, false, false, false, false, false, false, false] rfl rfl (qb3 HT_.out (by kernel_rfl)) (fun _ _ _ h => h) (Or.inl ⟨by rfl, ?_⟩) ?_ ?_
     rotate_left
     ·intro w'
      go_simp
      with_reducible rfl
     rotate_left
     ·simp only [Act.put, List.setIfInBounds_toArray, List.set_cons_zero, List.set_cons_succ, qa1, qa3]
      rfl
     refine qf0 (i := 7) (N := some 31) (v := ?_) (a' := ?_) #[true, true, true, true, true, false, false, true, false, false, false, false, false, false, false, false, false] rfl rfl (qb3 HT_.out (by kernel_rfl)) (fun _ _ _ h => h) (Or.inl ⟨by rfl, ?_⟩) ?_ ?_
     rotate_left
     ·intro w'
      go_simp
      with_reducible rfl
     rotate_left
     ·simp only [Act.put, List.setIfInBounds_toArray, List.set_cons_zero, List.set_cons_succ, qa1, qa3]
      rfl
     refine qf0 (i := 8) (N := some 32) (v := ?_) (a' := ?_) #[true, true, true, true, true, false, false, true, true, false, false, false, false, false, false, false, false] rfl rfl (qb3 HT_.out (by kernel_rfl)) (fun _ _ _ h => h) (Or.inl ⟨by rfl, ?_⟩) ?_ ?_
     rotate_left
     ·intro w'
      go_simp
      with_reducible rfl
     rotate_left
     ·simp only [Act.put, List.setIfInBounds_toArray, List.set_cons_zero, List.set_cons_succ, qa1, qa3]
      rfl
     refine qf0 (i := 9) (N := some 33) (v := ?_) (a' := ?_) #[true, true, true, true, true, false, false, true, true, true, false, false, false, false, false, false, false] rfl rfl (qb3 HT_.out (by kernel_rfl)) (fun _ _ _ h => h) (Or.inl ⟨by rfl, ?_⟩) ?_ ?_
     rotate_left
     ·intro w'
      go_simp
      with_reducible rfl
     rotate_left
     ·simp only [Act.put, List.setIfInBounds_toArray, List.set_cons_zero, List.set_cons_succ, qa1, qa3]
      rfl
     refine qf0 (i := 10) (N := some 34) (v := ?_) (a' := ?_) #[true, true, true, true, true, false, false, true, true, true, true, false, false, false, false, false, false] rfl rfl (qb3 HT_.out (by kernel_rfl)) (fun _ _ _ h => h) (Or.inl ⟨by rfl, ?_⟩) ?_ ?_
     rotate_left
     ·intro w'
      go_simp
      with_reducible rfl
     rotate_left
     ·simp only [Act.put, List.setIfInBounds_toArray, List.set_cons_zero, List.set_cons_succ, qa1, qa3]
      rfl
     refine qf0 (i := 11) (N := some 35) (v := ?_) (a' := ?_) #[true, true, true, true, true, false, false, true, true, true, true, true, false, false, false, false, false] rfl rfl (qb3 HT_.out (by kernel_rfl)) (fun _ _ _ h => h) (Or.inl ⟨by rfl, ?_⟩) ?_ ?_
     rotate_left
     ·intro w'
      go_simp
      with_reducible rfl
     rotate_left
     ·simp only [Act.put, List.setIfInBounds_toArray, List.set_cons_zero, List.set_cons_succ, qa1, qa3]
      rfl
     refine jy6 (i := 5) (N := some 29) (v := ?_) (a' := ?_) #[true, true, true, true, true, true, false, true, true, true, true, true, false, false, false, false, false] rfl rfl (qE9 HT_.out HW_.out (by kernel_rfl)) (fun _ _ _ h => h) (Or.inl ⟨by rfl, ?_⟩) hHeld ?_ ?_
     rotate_left
     ·rintro w' ⟨s0, s1, s2, s3, s4, s5, s6, s7⟩
      go_simp
      with_reducible rfl
     rotate_left
     ·simp only [Act.put, List.setIfInBounds_toArray, List.set_cons_zero, List.set_cons_succ, qa1, qa3]
      rfl
     refine jy6 (i := 12) (N := some 36) (v := ?_) (a' := ?_) #[true, true, true, true, true, true, false, true, true, true, true, true, true, false, false, false, false] rfl rfl (qE9 HT_.out HW_.out (by kernel_rfl)) (fun _ _ _ h => h) (Or.inl ⟨by rfl, ?_⟩) hHeld ?_ ?_
     rotate_left
     ·rintro w' ⟨s0, s1, s2, s3, s4, s5, s6, s7⟩
      go_simp
      with_reducible rfl
     rotate_left
     ·simp only [Act.put, List.setIfInBounds_toArray, List.set_cons_zero, List.set_cons_succ, qa1, qa3]
      rfl
     refine Qk5 (σ := Nat) 1 #[true, true, true, true, true, true, true, true, true, true, true, true, true, true, true, true, false] (fun s_ => [(30, .int .i64 t213), (37, .int .i64 t215), (9, .pointer (some ⟨s_, 0, none⟩)), (38, .agg #[.int .i64 0, .int .i64 t213, .int .i64 t215, .slice none 0 0])]) (fun s_ w' => (w'.cell? (jS.add ((qO).toNat * 4)) = some (.int .i64 ((qD t200 qO).f0)) ∧ w'.cell? ⟨(jS.add ((qO).toNat * 4)).block, (jS.add ((qO).toNat * 4)).off + 1, none⟩ = some (.int .i64 ((qD t200 qO).f1)) ∧ w'.cell? ⟨(jS.add ((qO).toNat * 4)).block, (jS.add ((qO).toNat * 4)).off + 2, none⟩ = some (.int .i64 ((qD t200 qO).f2)) ∧ w'.cell? ⟨(jS.add ((qO).toNat * 4)).block, (jS.add ((qO).toNat * 4)).off + 3, none⟩ = some (.slice qx6 ((qD t200 qO).f3).length qx7) ∧ w'.cell? (jS.add ((qO).toNat * 4)) = some (.int .i64 ((qD t200 qO).f0)) ∧ w'.cell? ⟨(jS.add ((qO).toNat * 4)).block, (jS.add ((qO).toNat * 4)).off + 1, none⟩ = some (.int .i64 ((qD t200 qO).f1)) ∧ w'.cell? ⟨(jS.add ((qO).toNat * 4)).block, (jS.add ((qO).toNat * 4)).off + 2, none⟩ = some (.int .i64 ((qD t200 qO).f2)) ∧ w'.cell? ⟨(jS.add ((qO).toNat * 4)).block, (jS.add ((qO).toNat * 4)).off + 3, none⟩ = some (.slice qx6 ((qD t200 qO).f3).length qx7)) ∧ (Kd.V k51 51 w' w.heap.size (fun k_ => (P0_ k_ ∨ w.heap.size ≤ k_) ∧ some k_ ≠ (u3 : Value).ownBlock ∧ some k_ ≠ (.slice (some jS) t200.length qg8 : Value).ownBlock ∧ some k_ ≠ (u5 : Value).ownBlock ∧ some k_ ≠ (u6 : Value).ownBlock ∧ some k_ ≠ (u7 : Value).ownBlock ∧ k_ ≠ s_) (.slice qx6 ((qD t200 qO).f3).length qx7) ((qD t200 qO).f3)) ∧ (Kd.V k51 51 w' w.heap.size (fun k_ => (P0_ k_ ∨ w.heap.size ≤ k_) ∧ some k_ ≠ (u3 : Value).ownBlock ∧ some k_ ≠ (.slice (some jS) t200.length qg8 : Value).ownBlock ∧ some k_ ≠ (u5 : Value).ownBlock ∧ some k_ ≠ (u6 : Value).ownBlock ∧ some k_ ≠ (u7 : Value).ownBlock ∧ k_ ≠ s_) (.slice qx6 ((qD t200 qO).f3).length qx7) ((qD t200 qO).f3)) ∧ (Kd.V k55 55 w' w.heap.size (fun k_ => (P0_ k_ ∨ w.heap.size ≤ k_) ∧ some k_ ≠ (u3 : Value).ownBlock ∧ some k_ ≠ (.slice (some jS) t200.length qg8 : Value).ownBlock ∧ some k_ ≠ (u5 : Value).ownBlock ∧ some k_ ≠ (u6 : Value).ownBlock ∧ some k_ ≠ (u7 : Value).ownBlock ∧ k_ ≠ s_) (.slice A0 l0.length c0) l0) ∧ (Kd.N k55 55 w' w.heap.size (fun k_ => (P0_ k_ ∨ w.heap.size ≤ k_) ∧ some k_ ≠ (.slice (some jS) t200.length qg8 : Value).ownBlock ∧ some k_ ≠ (u5 : Value).ownBlock ∧ some k_ ≠ (u6 : Value).ownBlock ∧ some k_ ≠ (u7 : Value).ownBlock ∧ k_ ≠ s_) u3 qk2) ∧ (Kd.N k55 55 w' w.heap.size (fun k_ => (P0_ k_ ∨ w.heap.size ≤ k_) ∧ some k_ ≠ (u3 : Value).ownBlock ∧ some k_ ≠ (u5 : Value).ownBlock ∧ some k_ ≠ (u6 : Value).ownBlock ∧ some k_ ≠ (u7 : Value).ownBlock ∧ k_ ≠ s_) (.slice (some jS) t200.length qg8) t200) ∧ (Kd.R (Kd.int .i64) 3 w' w.heap.size (fun k_ => (w.heap.size ≤ k_) ∧ some k_ ≠ (u6 : Value).ownBlock ∧ some k_ ≠ (u7 : Value).ownBlock) u5 qx5) ∧ (Kd.R (Kd.int .i64) 3 w' w.heap.size (fun k_ => (w.heap.size ≤ k_) ∧ some k_ ≠ (u5 : Value).ownBlock ∧ some k_ ≠ (u7 : Value).ownBlock) u6 jW) ∧ (Kd.R (Kd.int .i64) 3 w' w.heap.size (fun k_ => (w.heap.size ≤ k_) ∧ some k_ ≠ (u5 : Value).ownBlock ∧ some k_ ≠ (u6 : Value).ownBlock) u7 qb1) ∧ (w'.heap[s_]? = some (.cells #[.int .i64 0, .int .i64 0, .int .i64 0, .slice none 0 0] 55 (0, 0))) ∧ (w.heap.size ≤ s_) ∧ (w.heap.size ≤ s_) ∧ (Below w.heap.size w w')) ?_ ?_
     rotate_left
     ·intro zw7
      refine two_ (i := 6) (j := 15) (Ni := some 30) (Nj := some 9) #[true, true, true, true, true, true, true, true, true, true, true, true, true, false, false, false, false] #[true, true, true, true, true, true, false, true, true, true, true, true, true, false, false, true, false] rfl rfl rfl rfl (zw8 HT_.out (by kernel_rfl)) (by decide) (by decide) (fun K hK => ?_) (fun K hK => ?_)
      ·skip
       refine jP5 Try.func44 (by kernel_rfl) rfl #[.slice A0 l0.length c0, .int .i64 ((qD t200 qO).f1)] (by rfl) rfl rfl (by (try simp only [List.map_toArray, List.map_cons, List.map_nil]); first | done | rfl | (simp only [List.length_drop, List.length_take]; rfl)) ?_
       with_reducible refine (j6.calls k1 _ _ l0 ((qD t200 qO).f1) t213 _ ?qt1 ?qw3 A14.out).mono ?_
       (case qt1 => repeat (first | exact (Kd.qo6 zZ.out).2.2 | (with_reducible refine Kd.qi2 ?_ _) | (with_reducible refine Kd.qi3 ?_ _) | (with_reducible refine Kd.qn2 ?_)))
       (case qw3 => exact (Kd.qo6 zZ.out).2.1)
       rintro e w' ⟨rfl, ⟨nd, rfl⟩⟩
       refine ⟨_, rfl, ?_⟩
       refine hK.out _ _ ⟨hHeld.1, hHeld.2.1, hHeld.2.2.1, hHeld.2.2.2.1, hHeld.2.2.2.2.1, hHeld.2.2.2.2.2.1, hHeld.2.2.2.2.2.2.1, hHeld.2.2.2.2.2.2.2⟩ (fun hHeld => ?_)
       clear hK K
       refine qA5 (a' := ?_) ?_ ?_
       rotate_left
       ·show Act.put _ (some 30) _ = _
        simp only [Act.put, List.setIfInBounds_toArray, List.set_cons_zero, List.set_cons_succ, qa1, qa3]
        rfl
       refine two_ (i := 13) (j := 15) (Ni := some 37) (Nj := some 9) #[true, true, true, true, true, true, true, true, true, true, true, true, true, true, false, false, false] #[true, true, true, true, true, true, true, true, true, true, true, true, true, false, false, true, false] rfl rfl rfl rfl (zw8 HT_.out (by kernel_rfl)) (by decide) (by decide) (fun K hK => ?_) (fun K hK => ?_)
       ·skip
        refine jP5 Try.func44 (by kernel_rfl) rfl #[.slice A0 l0.length c0, .int .i64 ((qD t200 qO).f2)] (by rfl) rfl rfl (by (try simp only [List.map_toArray, List.map_cons, List.map_nil]); first | done | rfl | (simp only [List.length_drop, List.length_take]; rfl)) ?_
        with_reducible refine (j6.calls k1 _ _ l0 ((qD t200 qO).f2) t215 _ ?qt1 ?qw3 A15.out).mono ?_
        (case qt1 => repeat (first | exact (Kd.qo6 zZ.out).2.2 | (with_reducible refine Kd.qi2 ?_ _) | (with_reducible refine Kd.qi3 ?_ _) | (with_reducible refine Kd.qn2 ?_)))
        (case qw3 => exact (Kd.qo6 zZ.out).2.1)
        rintro e w' ⟨rfl, ⟨nd, rfl⟩⟩
        refine ⟨_, rfl, ?_⟩
        refine hK.out _ _ ⟨hHeld.1, hHeld.2.1, hHeld.2.2.1, hHeld.2.2.2.1, hHeld.2.2.2.2.1, hHeld.2.2.2.2.2.1, hHeld.2.2.2.2.2.2.1, hHeld.2.2.2.2.2.2.2⟩ (fun hHeld => ?_)
        clear hK K
        refine qA5 (a' := ?_) ?_ ?_
        rotate_left
        ·show Act.put _ (some 37) _ = _
         simp only [Act.put, List.setIfInBounds_toArray, List.set_cons_zero, List.set_cons_succ, qa1, qa3]
         rfl
        refine qf0 (i := 14) (N := some 38) (v := ?_) (a' := ?_) #[true, true, true, true, true, true, true, true, true, true, true, true, true, true, true, false, false] rfl rfl (qb3 HT_.out (by kernel_rfl)) (fun _ _ _ h => h) (Or.inl ⟨by rfl, ?_⟩) ?_ ?_
        rotate_left
        ·intro w'
         go_simp
         with_reducible rfl
        rotate_left
        ·simp only [Act.put, List.setIfInBounds_toArray, List.set_cons_zero, List.set_cons_succ, qa1, qa3]
         rfl
        refine jO3 (i := 15) (N := some 9) #[true, true, true, true, true, true, true, true, true, true, true, true, true, true, true, true, false] rfl rfl (qM2 HT_.out (by kernel_rfl)) (by decide) (fun K hK => ?_)
        refine jn9 ?hg (N := 9) ?hd (cs := #[.int .i64 0, .int .i64 0, .int .i64 0, .slice none 0 0]) (t := 55) ?hr ?_; (case hd => rfl); (case hg => rfl); (case hr => first | (go_simp; done) | (go_simp; rfl))
        intro qH hg w19 qb5 hb
        have zw9 := (hb.cell (World.block_lt_of_cell? _ _ (hHeld.1))).trans (hHeld.1)
        have zx0 := (hb.cell (World.block_lt_of_cell? _ _ (hHeld.2.1))).trans (hHeld.2.1)
        have zx1 := (hb.cell (World.block_lt_of_cell? _ _ (hHeld.2.2.1))).trans (hHeld.2.2.1)
        have zx2 := (hb.cell (World.block_lt_of_cell? _ _ (hHeld.2.2.2.1))).trans (hHeld.2.2.2.1)
        have zx3 := (hb.cell (World.block_lt_of_cell? _ _ (hHeld.2.2.2.2.1))).trans (hHeld.2.2.2.2.1)
        have zx4 := (hb.cell (World.block_lt_of_cell? _ _ (hHeld.2.2.2.2.2.1))).trans (hHeld.2.2.2.2.2.1)
        have zx5 := (hb.cell (World.block_lt_of_cell? _ _ (hHeld.2.2.2.2.2.2.1))).trans (hHeld.2.2.2.2.2.2.1)
        have zx6 := (hb.cell (World.block_lt_of_cell? _ _ (hHeld.2.2.2.2.2.2.2))).trans (hHeld.2.2.2.2.2.2.2)
        have n0_ := q8.mk (Kd.ql2 (Kd.qi0 (by (with_reducible repeat (first | apply Kd.jO | apply Kd.jP | apply Kd.z8)); exact zZ.out) qH (Nat.le_of_eq hg.symm)) hb)
        have n1_ := q8.mk (Kd.qn4 (Kd.qq7 (by (with_reducible repeat (first | apply Kd.jC | apply Kd.jD | apply Kd.jG)); exact qa5.out) qH (Nat.le_of_eq hg.symm)) hb)
        have n2_ := q8.mk (Kd.qn4 (Kd.qq7 (by (with_reducible repeat (first | apply Kd.jC | apply Kd.jD | apply Kd.jG)); exact qV.out) qH (Nat.le_of_eq hg.symm)) hb)
        have n3_ := q8.mk (Kd.qg2 (by (with_reducible repeat (first | apply Kd.qW | apply Kd.qX | apply Kd.jB)); exact qc0.out) hb)
        have n4_ := q8.mk (Kd.qg2 (by (with_reducible repeat (first | apply Kd.qW | apply Kd.qX | apply Kd.jB)); exact qe7.out) hb)
        have n5_ := q8.mk (Kd.qg2 (by (with_reducible repeat (first | apply Kd.qW | apply Kd.qX | apply Kd.jB)); exact qc8.out) hb)
        have n6_ := q8.mk (Kd.ql2 (Kd.qi0 (by (with_reducible repeat (first | apply Kd.jO | apply Kd.jP | apply Kd.z8)); exact qi4.out) qH (Nat.le_of_eq hg.symm)) hb)
        have n7_ := q8.mk (Kd.ql2 (Kd.qi0 (by (with_reducible repeat (first | apply Kd.jO | apply Kd.jP | apply Kd.z8)); exact qi5.out) qH (Nat.le_of_eq hg.symm)) hb)
        have n8_ := q8.mk (Kd.ql3 (by repeat (first | (with_reducible exact qp0.out) | (with_reducible refine Kd.qi2 ?_ _) | (with_reducible refine Kd.qi3 ?_ _) | (with_reducible refine Kd.qn2 ?_) | exact qp0.out)) hb)
        have n9_ := q8.mk (Kd.ql3 (by repeat (first | (with_reducible exact qp1.out) | (with_reducible refine Kd.qi2 ?_ _) | (with_reducible refine Kd.qi3 ?_ _) | (with_reducible refine Kd.qn2 ?_) | exact qp1.out)) hb)
        have qA7 := q8.mk (jM (by repeat (first | (with_reducible first | exact HB.out | apply qA | apply q9 | apply qB) | exact HB.out)) hb)
        have qA8 := q8.mk (qb5)
        have qY4 := q8.mk ((by rw [hg]; exact (qM (by repeat (first | (with_reducible first | exact HB.out | apply qA | apply q9 | apply qB) | exact HB.out))) : w.heap.size ≤ qH))
        have qY5 := q8.mk ((by rw [hg]; exact (qM (by repeat (first | (with_reducible first | exact HB.out | apply qA | apply q9 | apply qB) | exact HB.out))) : w.heap.size ≤ qH))
        clear zZ
        clear qa5
        clear qV
        clear qc0
        clear qe7
        clear qc8
        clear qi4
        clear qi5
        clear qp0
        clear qp1
        clear HB
        have zZ := n0_
        have qa5 := n1_
        have qV := n2_
        have qc0 := n3_
        have qe7 := n4_
        have qc8 := n5_
        have qi4 := n6_
        have qi5 := n7_
        have qp0 := n8_
        have qp1 := n9_
        have HB := qA7
        have jE := qA8
        have jy7 := qY4
        have qe8 := qY5
        clear n0_ n1_ n2_ n3_ n4_ n5_ n6_ n7_ n8_ n9_ qA7 qA8 qY4 qY5
        clear hb qb5 hg
        refine hK.out _ _ ⟨zw9, zx0, zx1, zx2, zx3, zx4, zx5, zx6⟩ (fun hHeld => ?_)
        clear hK K
        refine qA5 (a' := ?_) ?_ ?_
        rotate_left
        ·show Act.put _ (some 9) _ = _
         simp only [Act.put, List.setIfInBounds_toArray, List.set_cons_zero, List.set_cons_succ, qa1, qa3]
         rfl
        exact qA5 (by simp only [qS6, Act.put, List.setIfInBounds_toArray, List.set_cons_zero, List.set_cons_succ]) (zw7 (qH) _ ⟨hHeld, (by (with_reducible repeat (first | apply Kd.jO | apply Kd.jP | apply Kd.z8)); exact Kd.zJ qi4.out (fun _ hk => ⟨hk.1.1.1, ⟨hk.1.1.2.1, ⟨hk.1.2, ⟨hk.1.1.2.2.1, ⟨hk.1.1.2.2.2.1, ⟨hk.1.1.2.2.2.2, hk.2⟩⟩⟩⟩⟩⟩)), (by (with_reducible repeat (first | apply Kd.jO | apply Kd.jP | apply Kd.z8)); exact Kd.zJ qi5.out (fun _ hk => ⟨hk.1.1.1, ⟨hk.1.1.2.1, ⟨hk.1.2, ⟨hk.1.1.2.2.1, ⟨hk.1.1.2.2.2.1, ⟨hk.1.1.2.2.2.2, hk.2⟩⟩⟩⟩⟩⟩)), (by (with_reducible repeat (first | apply Kd.jO | apply Kd.jP | apply Kd.z8)); exact Kd.zJ zZ.out (fun _ hk => ⟨hk.1.1, ⟨hk.1.2.1, ⟨hk.1.2.2.1, ⟨hk.1.2.2.2.1, ⟨hk.1.2.2.2.2.1, ⟨hk.1.2.2.2.2.2, hk.2⟩⟩⟩⟩⟩⟩)), (by (with_reducible repeat (first | apply Kd.jC | apply Kd.jD | apply Kd.jG)); exact Kd.jZ qa5.out (fun _ hk => ⟨hk.1.1, ⟨hk.1.2.1, ⟨hk.1.2.2.1, ⟨hk.1.2.2.2.1, ⟨hk.1.2.2.2.2, hk.2⟩⟩⟩⟩⟩)), (by (with_reducible repeat (first | apply Kd.jC | apply Kd.jD | apply Kd.jG)); exact Kd.jZ qV.out (fun _ hk => ⟨hk.1.1, ⟨hk.1.2.1, ⟨hk.1.2.2.1, ⟨hk.1.2.2.2.1, ⟨hk.1.2.2.2.2, hk.2⟩⟩⟩⟩⟩)), (by (with_reducible repeat (first | apply Kd.qW | apply Kd.qX | apply Kd.jB)); exact qc0.out), (by (with_reducible repeat (first | apply Kd.qW | apply Kd.qX | apply Kd.jB)); exact qe7.out), (by (with_reducible repeat (first | apply Kd.qW | apply Kd.qX | apply Kd.jB)); exact qc8.out), (by (with_reducible repeat (first | refine qI ?_ _ | refine qR ?_ | refine qJ ?_ _)); exact jE.out), jy7.out, qe8.out, (by repeat (first | (with_reducible first | exact HB.out | apply qA | apply q9 | apply qB | refine qK ?_ qe8.out) | exact HB.out))⟩)
       ·skip
        refine jn9 ?hg (N := 9) ?hd (cs := #[.int .i64 0, .int .i64 0, .int .i64 0, .slice none 0 0]) (t := 55) ?hr ?_; (case hd => rfl); (case hg => rfl); (case hr => first | (go_simp; done) | (go_simp; rfl))
        intro qH hg w19 qb5 hb
        have zw9 := (hb.cell (World.block_lt_of_cell? _ _ (hHeld.1))).trans (hHeld.1)
        have zx0 := (hb.cell (World.block_lt_of_cell? _ _ (hHeld.2.1))).trans (hHeld.2.1)
        have zx1 := (hb.cell (World.block_lt_of_cell? _ _ (hHeld.2.2.1))).trans (hHeld.2.2.1)
        have zx2 := (hb.cell (World.block_lt_of_cell? _ _ (hHeld.2.2.2.1))).trans (hHeld.2.2.2.1)
        have zx3 := (hb.cell (World.block_lt_of_cell? _ _ (hHeld.2.2.2.2.1))).trans (hHeld.2.2.2.2.1)
        have zx4 := (hb.cell (World.block_lt_of_cell? _ _ (hHeld.2.2.2.2.2.1))).trans (hHeld.2.2.2.2.2.1)
        have zx5 := (hb.cell (World.block_lt_of_cell? _ _ (hHeld.2.2.2.2.2.2.1))).trans (hHeld.2.2.2.2.2.2.1)
        have zx6 := (hb.cell (World.block_lt_of_cell? _ _ (hHeld.2.2.2.2.2.2.2))).trans (hHeld.2.2.2.2.2.2.2)
        have n0_ := q8.mk (Kd.ql2 (Kd.qi0 (by (with_reducible repeat (first | apply Kd.jO | apply Kd.jP | apply Kd.z8)); exact zZ.out) qH (Nat.le_of_eq hg.symm)) hb)
        have n1_ := q8.mk (Kd.qn4 (Kd.qq7 (by (with_reducible repeat (first | apply Kd.jC | apply Kd.jD | apply Kd.jG)); exact qa5.out) qH (Nat.le_of_eq hg.symm)) hb)
        have n2_ := q8.mk (Kd.qn4 (Kd.qq7 (by (with_reducible repeat (first | apply Kd.jC | apply Kd.jD | apply Kd.jG)); exact qV.out) qH (Nat.le_of_eq hg.symm)) hb)
        have n3_ := q8.mk (Kd.qg2 (by (with_reducible repeat (first | apply Kd.qW | apply Kd.qX | apply Kd.jB)); exact qc0.out) hb)
        have n4_ := q8.mk (Kd.qg2 (by (with_reducible repeat (first | apply Kd.qW | apply Kd.qX | apply Kd.jB)); exact qe7.out) hb)
        have n5_ := q8.mk (Kd.qg2 (by (with_reducible repeat (first | apply Kd.qW | apply Kd.qX | apply Kd.jB)); exact qc8.out) hb)
        have n6_ := q8.mk (Kd.ql2 (Kd.qi0 (by (with_reducible repeat (first | apply Kd.jO | apply Kd.jP | apply Kd.z8)); exact qi4.out) qH (Nat.le_of_eq hg.symm)) hb)
        have n7_ := q8.mk (Kd.ql2 (Kd.qi0 (by (with_reducible repeat (first | apply Kd.jO | apply Kd.jP | apply Kd.z8)); exact qi5.out) qH (Nat.le_of_eq hg.symm)) hb)
        have n8_ := q8.mk (Kd.ql3 (by repeat (first | (with_reducible exact qp0.out) | (with_reducible refine Kd.qi2 ?_ _) | (with_reducible refine Kd.qi3 ?_ _) | (with_reducible refine Kd.qn2 ?_) | exact qp0.out)) hb)
        have n9_ := q8.mk (Kd.ql3 (by repeat (first | (with_reducible exact qp1.out) | (with_reducible refine Kd.qi2 ?_ _) | (with_reducible refine Kd.qi3 ?_ _) | (with_reducible refine Kd.qn2 ?_) | exact qp1.out)) hb)
        have qA7 := q8.mk (jM (by repeat (first | (with_reducible first | exact HB.out | apply qA | apply q9 | apply qB) | exact HB.out)) hb)
        have qA8 := q8.mk (qb5)
        have qY4 := q8.mk ((by rw [hg]; exact (qM (by repeat (first | (with_reducible first | exact HB.out | apply qA | apply q9 | apply qB) | exact HB.out))) : w.heap.size ≤ qH))
        have qY5 := q8.mk ((by rw [hg]; exact (qM (by repeat (first | (with_reducible first | exact HB.out | apply qA | apply q9 | apply qB) | exact HB.out))) : w.heap.size ≤ qH))
        clear zZ
        clear qa5
        clear qV
        clear qc0
        clear qe7
        clear qc8
        clear qi4
        clear qi5
        clear qp0
        clear qp1
        clear HB
        have zZ := n0_
        have qa5 := n1_
        have qV := n2_
        have qc0 := n3_
        have qe7 := n4_
        have qc8 := n5_
        have qi4 := n6_
        have qi5 := n7_
        have qp0 := n8_
        have qp1 := n9_
        have HB := qA7
        have jE := qA8
        have jy7 := qY4
        have qe8 := qY5
        clear n0_ n1_ n2_ n3_ n4_ n5_ n6_ n7_ n8_ n9_ qA7 qA8 qY4 qY5
        clear hb qb5 hg
        refine hK.out _ _ ⟨zw9, zx0, zx1, zx2, zx3, zx4, zx5, zx6⟩ (fun hHeld => ?_)
        clear hK K
        refine qA5 (a' := ?_) ?_ ?_
        rotate_left
        ·show Act.put _ (some 9) _ = _
         simp only [Act.put, List.setIfInBounds_toArray, List.set_cons_zero, List.set_cons_succ, qa1, qa3]
         rfl
        refine jO3 (i := 13) (N := some 37) #[true, true, true, true, true, true, true, true, true, true, true, true, true, true, false, true, false] rfl rfl (qM2 HT_.out (by kernel_rfl)) (by decide) (fun K hK => ?_)
        refine jP5 Try.func44 (by kernel_rfl) rfl #[.slice A0 l0.length c0, .int .i64 ((qD t200 qO).f2)] (by rfl) rfl rfl (by (try simp only [List.map_toArray, List.map_cons, List.map_nil]); first | done | rfl | (simp only [List.length_drop, List.length_take]; rfl)) ?_
        with_reducible refine (j6.calls k1 _ _ l0 ((qD t200 qO).f2) t215 _ ?qt1 ?qw3 A15.out).mono ?_
        (case qt1 => repeat (first | exact (Kd.qo6 zZ.out).2.2 | (with_reducible refine Kd.qi2 ?_ _) | (with_reducible refine Kd.qi3 ?_ _) | (with_reducible refine Kd.qn2 ?_)))
        (case qw3 => exact (Kd.qo6 zZ.out).2.1)
        rintro e w' ⟨rfl, ⟨nd, rfl⟩⟩
        refine ⟨_, rfl, ?_⟩
        refine hK.out _ _ ⟨hHeld.1, hHeld.2.1, hHeld.2.2.1, hHeld.2.2.2.1, hHeld.2.2.2.2.1, hHeld.2.2.2.2.2.1, hHeld.2.2.2.2.2.2.1, hHeld.2.2.2.2.2.2.2⟩ (fun hHeld => ?_)
        clear hK K
        refine qA5 (a' := ?_) ?_ ?_
        rotate_left
        ·show Act.put _ (some 37) _ = _
         simp only [Act.put, List.setIfInBounds_toArray, List.set_cons_zero, List.set_cons_succ, qa1, qa3]
         rfl
        refine qf0 (i := 14) (N := some 38) (v := ?_) (a' := ?_) #[true, true, true, true, true, true, true, true, true, true, true, true, true, true, true, true, false] rfl rfl (qb3 HT_.out (by kernel_rfl)) (fun _ _ _ h => h) (Or.inl ⟨by rfl, ?_⟩) ?_ ?_
        rotate_left
        ·intro w'
         go_simp
         with_reducible rfl
        rotate_left
        ·simp only [Act.put, List.setIfInBounds_toArray, List.set_cons_zero, List.set_cons_succ, qa1, qa3]
         rfl
        exact qA5 (by simp only [qS6, Act.put, List.setIfInBounds_toArray, List.set_cons_zero, List.set_cons_succ]) (zw7 (qH) _ ⟨hHeld, (by (with_reducible repeat (first | apply Kd.jO | apply Kd.jP | apply Kd.z8)); exact Kd.zJ qi4.out (fun _ hk => ⟨hk.1.1.1, ⟨hk.1.1.2.1, ⟨hk.1.2, ⟨hk.1.1.2.2.1, ⟨hk.1.1.2.2.2.1, ⟨hk.1.1.2.2.2.2, hk.2⟩⟩⟩⟩⟩⟩)), (by (with_reducible repeat (first | apply Kd.jO | apply Kd.jP | apply Kd.z8)); exact Kd.zJ qi5.out (fun _ hk => ⟨hk.1.1.1, ⟨hk.1.1.2.1, ⟨hk.1.2, ⟨hk.1.1.2.2.1, ⟨hk.1.1.2.2.2.1, ⟨hk.1.1.2.2.2.2, hk.2⟩⟩⟩⟩⟩⟩)), (by (with_reducible repeat (first | apply Kd.jO | apply Kd.jP | apply Kd.z8)); exact Kd.zJ zZ.out (fun _ hk => ⟨hk.1.1, ⟨hk.1.2.1, ⟨hk.1.2.2.1, ⟨hk.1.2.2.2.1, ⟨hk.1.2.2.2.2.1, ⟨hk.1.2.2.2.2.2, hk.2⟩⟩⟩⟩⟩⟩)), (by (with_reducible repeat (first | apply Kd.jC | apply Kd.jD | apply Kd.jG)); exact Kd.jZ qa5.out (fun _ hk => ⟨hk.1.1, ⟨hk.1.2.1, ⟨hk.1.2.2.1, ⟨hk.1.2.2.2.1, ⟨hk.1.2.2.2.2, hk.2⟩⟩⟩⟩⟩)), (by (with_reducible repeat (first | apply Kd.jC | apply Kd.jD | apply Kd.jG)); exact Kd.jZ qV.out (fun _ hk => ⟨hk.1.1, ⟨hk.1.2.1, ⟨hk.1.2.2.1, ⟨hk.1.2.2.2.1, ⟨hk.1.2.2.2.2, hk.2⟩⟩⟩⟩⟩)), (by (with_reducible repeat (first | apply Kd.qW | apply Kd.qX | apply Kd.jB)); exact qc0.out), (by (with_reducible repeat (first | apply Kd.qW | apply Kd.qX | apply Kd.jB)); exact qe7.out), (by (with_reducible repeat (first | apply Kd.qW | apply Kd.qX | apply Kd.jB)); exact qc8.out), (by (with_reducible repeat (first | refine qI ?_ _ | refine qR ?_ | refine qJ ?_ _)); exact jE.out), jy7.out, qe8.out, (by repeat (first | (with_reducible first | exact HB.out | apply qA | apply q9 | apply qB | refine qK ?_ qe8.out) | exact HB.out))⟩)
      ·skip
       refine jn9 ?hg (N := 9) ?hd (cs := #[.int .i64 0, .int .i64 0, .int .i64 0, .slice none 0 0]) (t := 55) ?hr ?_; (case hd => rfl); (case hg => rfl); (case hr => first | (go_simp; done) | (go_simp; rfl))
       intro qH hg w19 qb5 hb
       have zw9 := (hb.cell (World.block_lt_of_cell? _ _ (hHeld.1))).trans (hHeld.1)
       have zx0 := (hb.cell (World.block_lt_of_cell? _ _ (hHeld.2.1))).trans (hHeld.2.1)
       have zx1 := (hb.cell (World.block_lt_of_cell? _ _ (hHeld.2.2.1))).trans (hHeld.2.2.1)
       have zx2 := (hb.cell (World.block_lt_of_cell? _ _ (hHeld.2.2.2.1))).trans (hHeld.2.2.2.1)
       have zx3 := (hb.cell (World.block_lt_of_cell? _ _ (hHeld.2.2.2.2.1))).trans (hHeld.2.2.2.2.1)
       have zx4 := (hb.cell (World.block_lt_of_cell? _ _ (hHeld.2.2.2.2.2.1))).trans (hHeld.2.2.2.2.2.1)
       have zx5 := (hb.cell (World.block_lt_of_cell? _ _ (hHeld.2.2.2.2.2.2.1))).trans (hHeld.2.2.2.2.2.2.1)
       have zx6 := (hb.cell (World.block_lt_of_cell? _ _ (hHeld.2.2.2.2.2.2.2))).trans (hHeld.2.2.2.2.2.2.2)
       have n0_ := q8.mk (Kd.ql2 (Kd.qi0 (by (with_reducible repeat (first | apply Kd.jO | apply Kd.jP | apply Kd.z8)); exact zZ.out) qH (Nat.le_of_eq hg.symm)) hb)
       have n1_ := q8.mk (Kd.qn4 (Kd.qq7 (by (with_reducible repeat (first | apply Kd.jC | apply Kd.jD | apply Kd.jG)); exact qa5.out) qH (Nat.le_of_eq hg.symm)) hb)
       have n2_ := q8.mk (Kd.qn4 (Kd.qq7 (by (with_reducible repeat (first | apply Kd.jC | apply Kd.jD | apply Kd.jG)); exact qV.out) qH (Nat.le_of_eq hg.symm)) hb)
       have n3_ := q8.mk (Kd.qg2 (by (with_reducible repeat (first | apply Kd.qW | apply Kd.qX | apply Kd.jB)); exact qc0.out) hb)
       have n4_ := q8.mk (Kd.qg2 (by (with_reducible repeat (first | apply Kd.qW | apply Kd.qX | apply Kd.jB)); exact qe7.out) hb)
       have n5_ := q8.mk (Kd.qg2 (by (with_reducible repeat (first | apply Kd.qW | apply Kd.qX | apply Kd.jB)); exact qc8.out) hb)
       have n6_ := q8.mk (Kd.ql2 (Kd.qi0 (by (with_reducible repeat (first | apply Kd.jO | apply Kd.jP | apply Kd.z8)); exact qi4.out) qH (Nat.le_of_eq hg.symm)) hb)
       have n7_ := q8.mk (Kd.ql2 (Kd.qi0 (by (with_reducible repeat (first | apply Kd.jO | apply Kd.jP | apply Kd.z8)); exact qi5.out) qH (Nat.le_of_eq hg.symm)) hb)
       have n8_ := q8.mk (Kd.ql3 (by repeat (first | (with_reducible exact qp0.out) | (with_reducible refine Kd.qi2 ?_ _) | (with_reducible refine Kd.qi3 ?_ _) | (with_reducible refine Kd.qn2 ?_) | exact qp0.out)) hb)
       have n9_ := q8.mk (Kd.ql3 (by repeat (first | (with_reducible exact qp1.out) | (with_reducible refine Kd.qi2 ?_ _) | (with_reducible refine Kd.qi3 ?_ _) | (with_reducible refine Kd.qn2 ?_) | exact qp1.out)) hb)
       have qA7 := q8.mk (jM (by repeat (first | (with_reducible first | exact HB.out | apply qA | apply q9 | apply qB) | exact HB.out)) hb)
       have qA8 := q8.mk (qb5)
       have qY4 := q8.mk ((by rw [hg]; exact (qM (by repeat (first | (with_reducible first | exact HB.out | apply qA | apply q9 | apply qB) | exact HB.out))) : w.heap.size ≤ qH))
       have qY5 := q8.mk ((by rw [hg]; exact (qM (by repeat (first | (with_reducible first | exact HB.out | apply qA | apply q9 | apply qB) | exact HB.out))) : w.heap.size ≤ qH))
       clear zZ
       clear qa5
       clear qV
       clear qc0
       clear qe7
       clear qc8
       clear qi4
       clear qi5
       clear qp0
       clear qp1
       clear HB
       have zZ := n0_
       have qa5 := n1_
       have qV := n2_
       have qc0 := n3_
       have qe7 := n4_
       have qc8 := n5_
       have qi4 := n6_
       have qi5 := n7_
       have qp0 := n8_
       have qp1 := n9_
       have HB := qA7
       have jE := qA8
       have jy7 := qY4
       have qe8 := qY5
       clear n0_ n1_ n2_ n3_ n4_ n5_ n6_ n7_ n8_ n9_ qA7 qA8 qY4 qY5
       clear hb qb5 hg
       refine hK.out _ _ ⟨zw9, zx0, zx1, zx2, zx3, zx4, zx5, zx6⟩ (fun hHeld => ?_)
       clear hK K
       refine qA5 (a' := ?_) ?_ ?_
       rotate_left
       ·show Act.put _ (some 9) _ = _
        simp only [Act.put, List.setIfInBounds_toArray, List.set_cons_zero, List.set_cons_succ, qa1, qa3]
        rfl
       refine jO3 (i := 6) (N := some 30) #[true, true, true, true, true, true, true, true, true, true, true, true, true, false, false, true, false] rfl rfl (qM2 HT_.out (by kernel_rfl)) (by decide) (fun K hK => ?_)
       refine jP5 Try.func44 (by kernel_rfl) rfl #[.slice A0 l0.length c0, .int .i64 ((qD t200 qO).f1)] (by rfl) rfl rfl (by (try simp only [List.map_toArray, List.map_cons, List.map_nil]); first | done | rfl | (simp only [List.length_drop, List.length_take]; rfl)) ?_
       with_reducible refine (j6.calls k1 _ _ l0 ((qD t200 qO).f1) t213 _ ?qt1 ?qw3 A14.out).mono ?_
       (case qt1 => repeat (first | exact (Kd.qo6 zZ.out).2.2 | (with_reducible refine Kd.qi2 ?_ _) | (with_reducible refine Kd.qi3 ?_ _) | (with_reducible refine Kd.qn2 ?_)))
       (case qw3 => exact (Kd.qo6 zZ.out).2.1)
       rintro e w' ⟨rfl, ⟨nd, rfl⟩⟩
       refine ⟨_, rfl, ?_⟩
       refine hK.out _ _ ⟨hHeld.1, hHeld.2.1, hHeld.2.2.1, hHeld.2.2.2.1, hHeld.2.2.2.2.1, hHeld.2.2.2.2.2.1, hHeld.2.2.2.2.2.2.1, hHeld.2.2.2.2.2.2.2⟩ (fun hHeld => ?_)
       clear hK K
       refine qA5 (a' := ?_) ?_ ?_
       rotate_left
       ·show Act.put _ (some 30) _ = _
        simp only [Act.put, List.setIfInBounds_toArray, List.set_cons_zero, List.set_cons_succ, qa1, qa3]
        rfl
       refine jO3 (i := 13) (N := some 37) #[true, true, true, true, true, true, true, true, true, true, true, true, true, true, false, true, false] rfl rfl (qM2 HT_.out (by kernel_rfl)) (by decide) (fun K hK => ?_)
       refine jP5 Try.func44 (by kernel_rfl) rfl #[.slice A0 l0.length c0, .int .i64 ((qD t200 qO).f2)] (by rfl) rfl rfl (by (try simp only [List.map_toArray, List.map_cons, List.map_nil]); first | done | rfl | (simp only [List.length_drop, List.length_take]; rfl)) ?_
       with_reducible refine (j6.calls k1 _ _ l0 ((qD t200 qO).f2) t215 _ ?qt1 ?qw3 A15.out).mono ?_
       (case qt1 => repeat (first | exact (Kd.qo6 zZ.out).2.2 | (with_reducible refine Kd.qi2 ?_ _) | (with_reducible refine Kd.qi3 ?_ _) | (with_reducible refine Kd.qn2 ?_)))
       (case qw3 => exact (Kd.qo6 zZ.out).2.1)
       rintro e w' ⟨rfl, ⟨nd, rfl⟩⟩
       refine ⟨_, rfl, ?_⟩
       refine hK.out _ _ ⟨hHeld.1, hHeld.2.1, hHeld.2.2.1, hHeld.2.2.2.1, hHeld.2.2.2.2.1, hHeld.2.2.2.2.2.1, hHeld.2.2.2.2.2.2.1, hHeld.2.2.2.2.2.2.2⟩ (fun hHeld => ?_)
       clear hK K
       refine qA5 (a' := ?_) ?_ ?_
       rotate_left
       ·show Act.put _ (some 37) _ = _
        simp only [Act.put, List.setIfInBounds_toArray, List.set_cons_zero, List.set_cons_succ, qa1, qa3]
        rfl
       refine qf0 (i := 14) (N := some 38) (v := ?_) (a' := ?_) #[true, true, true, true, true, true, true, true, true, true, true, true, true, true, true, true, false] rfl rfl (qb3 HT_.out (by kernel_rfl)) (fun _ _ _ h => h) (Or.inl ⟨by rfl, ?_⟩) ?_ ?_
       rotate_left
       ·intro w'
        go_simp
        with_reducible rfl
       rotate_left
       ·simp only [Act.put, List.setIfInBounds_toArray, List.set_cons_zero, List.set_cons_succ, qa1, qa3]
        rfl
       exact qA5 (by simp only [qS6, Act.put, List.setIfInBounds_toArray, List.set_cons_zero, List.set_cons_succ]) (zw7 (qH) _ ⟨hHeld, (by (with_reducible repeat (first | apply Kd.jO | apply Kd.jP | apply Kd.z8)); exact Kd.zJ qi4.out (fun _ hk => ⟨hk.1.1.1, ⟨hk.1.1.2.1, ⟨hk.1.2, ⟨hk.1.1.2.2.1, ⟨hk.1.1.2.2.2.1, ⟨hk.1.1.2.2.2.2, hk.2⟩⟩⟩⟩⟩⟩)), (by (with_reducible repeat (first | apply Kd.jO | apply Kd.jP | apply Kd.z8)); exact Kd.zJ qi5.out (fun _ hk => ⟨hk.1.1.1, ⟨hk.1.1.2.1, ⟨hk.1.2, ⟨hk.1.1.2.2.1, ⟨hk.1.1.2.2.2.1, ⟨hk.1.1.2.2.2.2, hk.2⟩⟩⟩⟩⟩⟩)), (by (with_reducible repeat (first | apply Kd.jO | apply Kd.jP | apply Kd.z8)); exact Kd.zJ zZ.out (fun _ hk => ⟨hk.1.1, ⟨hk.1.2.1, ⟨hk.1.2.2.1, ⟨hk.1.2.2.2.1, ⟨hk.1.2.2.2.2.1, ⟨hk.1.2.2.2.2.2, hk.2⟩⟩⟩⟩⟩⟩)), (by (with_reducible repeat (first | apply Kd.jC | apply Kd.jD | apply Kd.jG)); exact Kd.jZ qa5.out (fun _ hk => ⟨hk.1.1, ⟨hk.1.2.1, ⟨hk.1.2.2.1, ⟨hk.1.2.2.2.1, ⟨hk.1.2.2.2.2, hk.2⟩⟩⟩⟩⟩)), (by (with_reducible repeat (first | apply Kd.jC | apply Kd.jD | apply Kd.jG)); exact Kd.jZ qV.out (fun _ hk => ⟨hk.1.1, ⟨hk.1.2.1, ⟨hk.1.2.2.1, ⟨hk.1.2.2.2.1, ⟨hk.1.2.2.2.2, hk.2⟩⟩⟩⟩⟩)), (by (with_reducible repeat (first | apply Kd.qW | apply Kd.qX | apply Kd.jB)); exact qc0.out), (by (with_reducible repeat (first | apply Kd.qW | apply Kd.qX | apply Kd.jB)); exact qe7.out), (by (with_reducible repeat (first | apply Kd.qW | apply Kd.qX | apply Kd.jB)); exact qc8.out), (by (with_reducible repeat (first | refine qI ?_ _ | refine qR ?_ | refine qJ ?_ _)); exact jE.out), jy7.out, qe8.out, (by repeat (first | (with_reducible first | exact HB.out | apply qA | apply q9 | apply qB | refine qK ?_ qe8.out) | exact HB.out))⟩)
     rintro qH w20 ⟨hS_, h0_, h1_, h2_, h3_, h4_, h5_, h6_, h7_, h8_, h9_, h10_, h11_⟩
     have n0_ : q8 (Kd.V k51 51 w20 w.heap.size (fun k_ => (P0_ k_ ∨ w.heap.size ≤ k_) ∧ some k_ ≠ (u3 : Value).ownBlock ∧ some k_ ≠ (.slice (some jS) t200.length qg8 : Value).ownBlock ∧ some k_ ≠ (u5 : Value).ownBlock ∧ some k_ ≠ (u6 : Value).ownBlock ∧ some k_ ≠ (u7 : Value).ownBlock ∧ k_ ≠ qH) (.slice qx6 ((qD t200 qO).f3).length qx7) ((qD t200 qO).f3)) := ⟨h0_⟩
     have n1_ : q8 (Kd.V k51 51 w20 w.heap.size (fun k_ => (P0_ k_ ∨ w.heap.size ≤ k_) ∧ some k_ ≠ (u3 : Value).ownBlock ∧ some k_ ≠ (.slice (some jS) t200.length qg8 : Value).ownBlock ∧ some k_ ≠ (u5 : Value).ownBlock ∧ some k_ ≠ (u6 : Value).ownBlock ∧ some k_ ≠ (u7 : Value).ownBlock ∧ k_ ≠ qH) (.slice qx6 ((qD t200 qO).f3).length qx7) ((qD t200 qO).f3)) := ⟨h1_⟩
     have n2_ : q8 (Kd.V k55 55 w20 w.heap.size (fun k_ => (P0_ k_ ∨ w.heap.size ≤ k_) ∧ some k_ ≠ (u3 : Value).ownBlock ∧ some k_ ≠ (.slice (some jS) t200.length qg8 : Value).ownBlock ∧ some k_ ≠ (u5 : Value).ownBlock ∧ some k_ ≠ (u6 : Value).ownBlock ∧ some k_ ≠ (u7 : Value).ownBlock ∧ k_ ≠ qH) (.slice A0 l0.length c0) l0) := ⟨h2_⟩
     have n3_ : q8 (Kd.N k55 55 w20 w.heap.size (fun k_ => (P0_ k_ ∨ w.heap.size ≤ k_) ∧ some k_ ≠ (.slice (some jS) t200.length qg8 : Value).ownBlock ∧ some k_ ≠ (u5 : Value).ownBlock ∧ some k_ ≠ (u6 : Value).ownBlock ∧ some k_ ≠ (u7 : Value).ownBlock ∧ k_ ≠ qH) u3 qk2) := ⟨h3_⟩
     have n4_ : q8 (Kd.N k55 55 w20 w.heap.size (fun k_ => (P0_ k_ ∨ w.heap.size ≤ k_) ∧ some k_ ≠ (u3 : Value).ownBlock ∧ some k_ ≠ (u5 : Value).ownBlock ∧ some k_ ≠ (u6 : Value).ownBlock ∧ some k_ ≠ (u7 : Value).ownBlock ∧ k_ ≠ qH) (.slice (some jS) t200.length qg8) t200) := ⟨h4_⟩
     have n5_ : q8 (Kd.R (Kd.int .i64) 3 w20 w.heap.size (fun k_ => (w.heap.size ≤ k_) ∧ some k_ ≠ (u6 : Value).ownBlock ∧ some k_ ≠ (u7 : Value).ownBlock) u5 qx5) := ⟨h5_⟩
     have n6_ : q8 (Kd.R (Kd.int .i64) 3 w20 w.heap.size (fun k_ => (w.heap.size ≤ k_) ∧ some k_ ≠ (u5 : Value).ownBlock ∧ some k_ ≠ (u7 : Value).ownBlock) u6 jW) := ⟨h6_⟩
     have n7_ : q8 (Kd.R (Kd.int .i64) 3 w20 w.heap.size (fun k_ => (w.heap.size ≤ k_) ∧ some k_ ≠ (u5 : Value).ownBlock ∧ some k_ ≠ (u6 : Value).ownBlock) u7 qb1) := ⟨h7_⟩
     have n8_ : q8 (w20.heap[qH]? = some (.cells #[.int .i64 0, .int .i64 0, .int .i64 0, .slice none 0 0] 55 (0, 0))) := ⟨h8_⟩
     have n9_ : q8 (w.heap.size ≤ qH) := ⟨h9_⟩
     have qA7 : q8 (w.heap.size ≤ qH) := ⟨h10_⟩
     have qA8 : q8 (Below w.heap.size w w20) := ⟨h11_⟩
     clear zZ
     clear qa5
     clear qV
     clear qc0
     clear qe7
     clear qc8
     clear HB
     clear h0_ h1_ h2_ h3_ h4_ h5_ h6_ h7_ h8_ h9_ h10_ h11_
     have qi4 := n0_
     have qi5 := n1_
     have zZ := n2_
     have qa5 := n3_
     have qV := n4_
     have qc0 := n5_
     have qe7 := n6_
     have qc8 := n7_
     have jE := n8_
     have jy7 := n9_
     have qe8 := qA7
     have HB := qA8
     clear n0_ n1_ n2_ n3_ n4_ n5_ n6_ n7_ n8_ n9_ qA7 qA8
     have hHeld : w20.cell? (jS.add ((qO).toNat * 4)) = some (.int .i64 ((qD t200 qO).f0)) ∧ w20.cell? ⟨(jS.add ((qO).toNat * 4)).block, (jS.add ((qO).toNat * 4)).off + 1, none⟩ = some (.int .i64 ((qD t200 qO).f1)) ∧ w20.cell? ⟨(jS.add ((qO).toNat * 4)).block, (jS.add ((qO).toNat * 4)).off + 2, none⟩ = some (.int .i64 ((qD t200 qO).f2)) ∧ w20.cell? ⟨(jS.add ((qO).toNat * 4)).block, (jS.add ((qO).toNat * 4)).off + 3, none⟩ = some (.slice qx6 ((qD t200 qO).f3).length qx7) ∧ w20.cell? (jS.add ((qO).toNat * 4)) = some (.int .i64 ((qD t200 qO).f0)) ∧ w20.cell? ⟨(jS.add ((qO).toNat * 4)).block, (jS.add ((qO).toNat * 4)).off + 1, none⟩ = some (.int .i64 ((qD t200 qO).f1)) ∧ w20.cell? ⟨(jS.add ((qO).toNat * 4)).block, (jS.add ((qO).toNat * 4)).off + 2, none⟩ = some (.int .i64 ((qD t200 qO).f2)) ∧ w20.cell? ⟨(jS.add ((qO).toNat * 4)).block, (jS.add ((qO).toNat * 4)).off + 3, none⟩ = some (.slice qx6 ((qD t200 qO).f3).length qx7) := hS_
     refine qA5 (a' := ?_) ?_ ?_
     rotate_left
     ·simp only [qS6, Act.put, List.setIfInBounds_toArray, List.set_cons_zero, List.set_cons_succ]
      rfl
     refine jO3 (i := 16) (N := none) #[true, true, true, true, true, true, true, true, true, true, true, true, true, true, true, true, true] rfl rfl (qM2 HT_.out (by kernel_rfl)) (by decide) (fun K hK => ?_)
     have hs21 : w20.cell? ⟨qH, 0, none⟩ = some (.int .i64 0) := (qE jE.out 0).trans rfl
     have hfs21 := qC jE.out 0
     have hs22 : w20.cell? ⟨qH, 1, none⟩ = some (.int .i64 0) := (qE jE.out 1).trans rfl
     have hfs22 := qC jE.out 1
     have hs23 : w20.cell? ⟨qH, 2, none⟩ = some (.int .i64 0) := (qE jE.out 2).trans rfl
     have hfs23 := qC jE.out 2
     have hs24 : w20.cell? ⟨qH, 3, none⟩ = some (.slice none 0 0) := (qE jE.out 3).trans rfl
     have hfs24 := qC jE.out 3
     refine Qk6 (w1 := ?_) (by rfl) rfl ?_ ?_
     rotate_left
     ·go_simp
      rfl
     refine hK.out _ _ ⟨((cell_far (p := ⟨qH, _, none⟩) (by first | exact Kd.qQ (Kd.qY qV.out (fun _ hk => hk.2.2.2.2.2)) | (rw [add_block]; exact Kd.qQ (Kd.qY qV.out (fun _ hk => hk.2.2.2.2.2))) | (show (Addr.add _ _).block ≠ _; rw [add_block]; exact Kd.qQ (Kd.qY qV.out (fun _ hk => hk.2.2.2.2.2))) | (dsimp only; exact Kd.qQ (Kd.qY qV.out (fun _ hk => hk.2.2.2.2.2)))) _).trans (((cell_far (p := ⟨qH, _, none⟩) (by first | exact Kd.qQ (Kd.qY qV.out (fun _ hk => hk.2.2.2.2.2)) | (rw [add_block]; exact Kd.qQ (Kd.qY qV.out (fun _ hk => hk.2.2.2.2.2))) | (show (Addr.add _ _).block ≠ _; rw [add_block]; exact Kd.qQ (Kd.qY qV.out (fun _ hk => hk.2.2.2.2.2))) | (dsimp only; exact Kd.qQ (Kd.qY qV.out (fun _ hk => hk.2.2.2.2.2)))) _).trans (((cell_far (p := ⟨qH, _, none⟩) (by first | exact Kd.qQ (Kd.qY qV.out (fun _ hk => hk.2.2.2.2.2)) | (rw [add_block]; exact Kd.qQ (Kd.qY qV.out (fun _ hk => hk.2.2.2.2.2))) | (show (Addr.add _ _).block ≠ _; rw [add_block]; exact Kd.qQ (Kd.qY qV.out (fun _ hk => hk.2.2.2.2.2))) | (dsimp only; exact Kd.qQ (Kd.qY qV.out (fun _ hk => hk.2.2.2.2.2)))) _).trans (((cell_far (p := ⟨qH, _, none⟩) (by first | exact Kd.qQ (Kd.qY qV.out (fun _ hk => hk.2.2.2.2.2)) | (rw [add_block]; exact Kd.qQ (Kd.qY qV.out (fun _ hk => hk.2.2.2.2.2))) | (show (Addr.add _ _).block ≠ _; rw [add_block]; exact Kd.qQ (Kd.qY qV.out (fun _ hk => hk.2.2.2.2.2))) | (dsimp only; exact Kd.qQ (Kd.qY qV.out (fun _ hk => hk.2.2.2.2.2)))) _).trans (hHeld.1)))))))), ((cell_far (p := ⟨qH, _, none⟩) (by first | exact Kd.qQ (Kd.qY qV.out (fun _ hk => hk.2.2.2.2.2)) | (rw [add_block]; exact Kd.qQ (Kd.qY qV.out (fun _ hk => hk.2.2.2.2.2))) | (show (Addr.add _ _).block ≠ _; rw [add_block]; exact Kd.qQ (Kd.qY qV.out (fun _ hk => hk.2.2.2.2.2))) | (dsimp only; exact Kd.qQ (Kd.qY qV.out (fun _ hk => hk.2.2.2.2.2)))) _).trans (((cell_far (p := ⟨qH, _, none⟩) (by first | exact Kd.qQ (Kd.qY qV.out (fun _ hk => hk.2.2.2.2.2)) | (rw [add_block]; exact Kd.qQ (Kd.qY qV.out (fun _ hk => hk.2.2.2.2.2))) | (show (Addr.add _ _).block ≠ _; rw [add_block]; exact Kd.qQ (Kd.qY qV.out (fun _ hk => hk.2.2.2.2.2))) | (dsimp only; exact Kd.qQ (Kd.qY qV.out (fun _ hk => hk.2.2.2.2.2)))) _).trans (((cell_far (p := ⟨qH, _, none⟩) (by first | exact Kd.qQ (Kd.qY qV.out (fun _ hk => hk.2.2.2.2.2)) | (rw [add_block]; exact Kd.qQ (Kd.qY qV.out (fun _ hk => hk.2.2.2.2.2))) | (show (Addr.add _ _).block ≠ _; rw [add_block]; exact Kd.qQ (Kd.qY qV.out (fun _ hk => hk.2.2.2.2.2))) | (dsimp only; exact Kd.qQ (Kd.qY qV.out (fun _ hk => hk.2.2.2.2.2)))) _).trans (((cell_far (p := ⟨qH, _, none⟩) (by first | exact Kd.qQ (Kd.qY qV.out (fun _ hk => hk.2.2.2.2.2)) | (rw [add_block]; exact Kd.qQ (Kd.qY qV.out (fun _ hk => hk.2.2.2.2.2))) | (show (Addr.add _ _).block ≠ _; rw [add_block]; exact Kd.qQ (Kd.qY qV.out (fun _ hk => hk.2.2.2.2.2))) | (dsimp only; exact Kd.qQ (Kd.qY qV.out (fun _ hk => hk.2.2.2.2.2)))) _).trans (hHeld.2.1)))))))), ((cell_far (p := ⟨qH, _, none⟩) (by first | exact Kd.qQ (Kd.qY qV.out (fun _ hk => hk.2.2.2.2.2)) | (rw [add_block]; exact Kd.qQ (Kd.qY qV.out (fun _ hk => hk.2.2.2.2.2))) | (show (Addr.add _ _).block ≠ _; rw [add_block]; exact Kd.qQ (Kd.qY qV.out (fun _ hk => hk.2.2.2.2.2))) | (dsimp only; exact Kd.qQ (Kd.qY qV.out (fun _ hk => hk.2.2.2.2.2)))) _).trans (((cell_far (p := ⟨qH, _, none⟩) (by first | exact Kd.qQ (Kd.qY qV.out (fun _ hk => hk.2.2.2.2.2)) | (rw [add_block]; exact Kd.qQ (Kd.qY qV.out (fun _ hk => hk.2.2.2.2.2))) | (show (Addr.add _ _).block ≠ _; rw [add_block]; exact Kd.qQ (Kd.qY qV.out (fun _ hk => hk.2.2.2.2.2))) | (dsimp only; exact Kd.qQ (Kd.qY qV.out (fun _ hk => hk.2.2.2.2.2)))) _).trans (((cell_far (p := ⟨qH, _, none⟩) (by first | exact Kd.qQ (Kd.qY qV.out (fun _ hk => hk.2.2.2.2.2)) | (rw [add_block]; exact Kd.qQ (Kd.qY qV.out (fun _ hk => hk.2.2.2.2.2))) | (show (Addr.add _ _).block ≠ _; rw [add_block]; exact Kd.qQ (Kd.qY qV.out (fun _ hk => hk.2.2.2.2.2))) | (dsimp only; exact Kd.qQ (Kd.qY qV.out (fun _ hk => hk.2.2.2.2.2)))) _).trans (((cell_far (p := ⟨qH, _, none⟩) (by first | exact Kd.qQ (Kd.qY qV.out (fun _ hk => hk.2.2.2.2.2)) | (rw [add_block]; exact Kd.qQ (Kd.qY qV.out (fun _ hk => hk.2.2.2.2.2))) | (show (Addr.add _ _).block ≠ _; rw [add_block]; exact Kd.qQ (Kd.qY qV.out (fun _ hk => hk.2.2.2.2.2))) | (dsimp only; exact Kd.qQ (Kd.qY qV.out (fun _ hk => hk.2.2.2.2.2)))) _).trans (hHeld.2.2.1)))))))), ((cell_far (p := ⟨qH, _, none⟩) (by first | exact Kd.qQ (Kd.qY qV.out (fun _ hk => hk.2.2.2.2.2)) | (rw [add_block]; exact Kd.qQ (Kd.qY qV.out (fun _ hk => hk.2.2.2.2.2))) | (show (Addr.add _ _).block ≠ _; rw [add_block]; exact Kd.qQ (Kd.qY qV.out (fun _ hk => hk.2.2.2.2.2))) | (dsimp only; exact Kd.qQ (Kd.qY qV.out (fun _ hk => hk.2.2.2.2.2)))) _).trans (((cell_far (p := ⟨qH, _, none⟩) (by first | exact Kd.qQ (Kd.qY qV.out (fun _ hk => hk.2.2.2.2.2)) | (rw [add_block]; exact Kd.qQ (Kd.qY qV.out (fun _ hk => hk.2.2.2.2.2))) | (show (Addr.add _ _).block ≠ _; rw [add_block]; exact Kd.qQ (Kd.qY qV.out (fun _ hk => hk.2.2.2.2.2))) | (dsimp only; exact Kd.qQ (Kd.qY qV.out (fun _ hk => hk.2.2.2.2.2)))) _).trans (((cell_far (p := ⟨qH, _, none⟩) (by first | exact Kd.qQ (Kd.qY qV.out (fun _ hk => hk.2.2.2.2.2)) | (rw [add_block]; exact Kd.qQ (Kd.qY qV.out (fun _ hk => hk.2.2.2.2.2))) | (show (Addr.add _ _).block ≠ _; rw [add_block]; exact Kd.qQ (Kd.qY qV.out (fun _ hk => hk.2.2.2.2.2))) | (dsimp only; exact Kd.qQ (Kd.qY qV.out (fun _ hk => hk.2.2.2.2.2)))) _).trans (((cell_far (p := ⟨qH, _, none⟩) (by first | exact Kd.qQ (Kd.qY qV.out (fun _ hk => hk.2.2.2.2.2)) | (rw [add_block]; exact Kd.qQ (Kd.qY qV.out (fun _ hk => hk.2.2.2.2.2))) | (show (Addr.add _ _).block ≠ _; rw [add_block]; exact Kd.qQ (Kd.qY qV.out (fun _ hk => hk.2.2.2.2.2))) | (dsimp only; exact Kd.qQ (Kd.qY qV.out (fun _ hk => hk.2.2.2.2.2)))) _).trans (hHeld.2.2.2.1)))))))), ((cell_far (p := ⟨qH, _, none⟩) (by first | exact Kd.qQ (Kd.qY qV.out (fun _ hk => hk.2.2.2.2.2)) | (rw [add_block]; exact Kd.qQ (Kd.qY qV.out (fun _ hk => hk.2.2.2.2.2))) | (show (Addr.add _ _).block ≠ _; rw [add_block]; exact Kd.qQ (Kd.qY qV.out (fun _ hk => hk.2.2.2.2.2))) | (dsimp only; exact Kd.qQ (Kd.qY qV.out (fun _ hk => hk.2.2.2.2.2)))) _).trans (((cell_far (p := ⟨qH, _, none⟩) (by first | exact Kd.qQ (Kd.qY qV.out (fun _ hk => hk.2.2.2.2.2)) | (rw [add_block]; exact Kd.qQ (Kd.qY qV.out (fun _ hk => hk.2.2.2.2.2))) | (show (Addr.add _ _).block ≠ _; rw [add_block]; exact Kd.qQ (Kd.qY qV.out (fun _ hk => hk.2.2.2.2.2))) | (dsimp only; exact Kd.qQ (Kd.qY qV.out (fun _ hk => hk.2.2.2.2.2)))) _).trans (((cell_far (p := ⟨qH, _, none⟩) (by first | exact Kd.qQ (Kd.qY qV.out (fun _ hk => hk.2.2.2.2.2)) | (rw [add_block]; exact Kd.qQ (Kd.qY qV.out (fun _ hk => hk.2.2.2.2.2))) | (show (Addr.add _ _).block ≠ _; rw [add_block]; exact Kd.qQ (Kd.qY qV.out (fun _ hk => hk.2.2.2.2.2))) | (dsimp only; exact Kd.qQ (Kd.qY qV.out (fun _ hk => hk.2.2.2.2.2)))) _).trans (((cell_far (p := ⟨qH, _, none⟩) (by first | exact Kd.qQ (Kd.qY qV.out (fun _ hk => hk.2.2.2.2.2)) | (rw [add_block]; exact Kd.qQ (Kd.qY qV.out (fun _ hk => hk.2.2.2.2.2))) | (show (Addr.add _ _).block ≠ _; rw [add_block]; exact Kd.qQ (Kd.qY qV.out (fun _ hk => hk.2.2.2.2.2))) | (dsimp only; exact Kd.qQ (Kd.qY qV.out (fun _ hk => hk.2.2.2.2.2)))) _).trans (hHeld.2.2.2.2.1)))))))), ((cell_far (p := ⟨qH, _, none⟩) (by first | exact Kd.qQ (Kd.qY qV.out (fun _ hk => hk.2.2.2.2.2)) | (rw [add_block]; exact Kd.qQ (Kd.qY qV.out (fun _ hk => hk.2.2.2.2.2))) | (show (Addr.add _ _).block ≠ _; rw [add_block]; exact Kd.qQ (Kd.qY qV.out (fun _ hk => hk.2.2.2.2.2))) | (dsimp only; exact Kd.qQ (Kd.qY qV.out (fun _ hk => hk.2.2.2.2.2)))) _).trans (((cell_far (p := ⟨qH, _, none⟩) (by first | exact Kd.qQ (Kd.qY qV.out (fun _ hk => hk.2.2.2.2.2)) | (rw [add_block]; exact Kd.qQ (Kd.qY qV.out (fun _ hk => hk.2.2.2.2.2))) | (show (Addr.add _ _).block ≠ _; rw [add_block]; exact Kd.qQ (Kd.qY qV.out (fun _ hk => hk.2.2.2.2.2))) | (dsimp only; exact Kd.qQ (Kd.qY qV.out (fun _ hk => hk.2.2.2.2.2)))) _).trans (((cell_far (p := ⟨qH, _, none⟩) (by first | exact Kd.qQ (Kd.qY qV.out (fun _ hk => hk.2.2.2.2.2)) | (rw [add_block]; exact Kd.qQ (Kd.qY qV.out (fun _ hk => hk.2.2.2.2.2))) | (show (Addr.add _ _).block ≠ _; rw [add_block]; exact Kd.qQ (Kd.qY qV.out (fun _ hk => hk.2.2.2.2.2))) | (dsimp only; exact Kd.qQ (Kd.qY qV.out (fun _ hk => hk.2.2.2.2.2)))) _).trans (((cell_far (p := ⟨qH, _, none⟩) (by first | exact Kd.qQ (Kd.qY qV.out (fun _ hk => hk.2.2.2.2.2)) | (rw [add_block]; exact Kd.qQ (Kd.qY qV.out (fun _ hk => hk.2.2.2.2.2))) | (show (Addr.add _ _).block ≠ _; rw [add_block]; exact Kd.qQ (Kd.qY qV.out (fun _ hk => hk.2.2.2.2.2))) | (dsimp only; exact Kd.qQ (Kd.qY qV.out (fun _ hk => hk.2.2.2.2.2)))) _).trans (hHeld.2.2.2.2.2.1)))))))), ((cell_far (p := ⟨qH, _, none⟩) (by first | exact Kd.qQ (Kd.qY qV.out (fun _ hk => hk.2.2.2.2.2)) | (rw [add_block]; exact Kd.qQ (Kd.qY qV.out (fun _ hk => hk.2.2.2.2.2))) | (show (Addr.add _ _).block ≠ _; rw [add_block]; exact Kd.qQ (Kd.qY qV.out (fun _ hk => hk.2.2.2.2.2))) | (dsimp only; exact Kd.qQ (Kd.qY qV.out (fun _ hk => hk.2.2.2.2.2)))) _).trans (((cell_far (p := ⟨qH, _, none⟩) (by first | exact Kd.qQ (Kd.qY qV.out (fun _ hk => hk.2.2.2.2.2)) | (rw [add_block]; exact Kd.qQ (Kd.qY qV.out (fun _ hk => hk.2.2.2.2.2))) | (show (Addr.add _ _).block ≠ _; rw [add_block]; exact Kd.qQ (Kd.qY qV.out (fun _ hk => hk.2.2.2.2.2))) | (dsimp only; exact Kd.qQ (Kd.qY qV.out (fun _ hk => hk.2.2.2.2.2)))) _).trans (((cell_far (p := ⟨qH, _, none⟩) (by first | exact Kd.qQ (Kd.qY qV.out (fun _ hk => hk.2.2.2.2.2)) | (rw [add_block]; exact Kd.qQ (Kd.qY qV.out (fun _ hk => hk.2.2.2.2.2))) | (show (Addr.add _ _).block ≠ _; rw [add_block]; exact Kd.qQ (Kd.qY qV.out (fun _ hk => hk.2.2.2.2.2))) | (dsimp only; exact Kd.qQ (Kd.qY qV.out (fun _ hk => hk.2.2.2.2.2)))) _).trans (((cell_far (p := ⟨qH, _, none⟩) (by first | exact Kd.qQ (Kd.qY qV.out (fun _ hk => hk.2.2.2.2.2)) | (rw [add_block]; exact Kd.qQ (Kd.qY qV.out (fun _ hk => hk.2.2.2.2.2))) | (show (Addr.add _ _).block ≠ _; rw [add_block]; exact Kd.qQ (Kd.qY qV.out (fun _ hk => hk.2.2.2.2.2))) | (dsimp only; exact Kd.qQ (Kd.qY qV.out (fun _ hk => hk.2.2.2.2.2)))) _).trans (hHeld.2.2.2.2.2.2.1)))))))), ((cell_far (p := ⟨qH, _, none⟩) (by first | exact Kd.qQ (Kd.qY qV.out (fun _ hk => hk.2.2.2.2.2)) | (rw [add_block]; exact Kd.qQ (Kd.qY qV.out (fun _ hk => hk.2.2.2.2.2))) | (show (Addr.add _ _).block ≠ _; rw [add_block]; exact Kd.qQ (Kd.qY qV.out (fun _ hk => hk.2.2.2.2.2))) | (dsimp only; exact Kd.qQ (Kd.qY qV.out (fun _ hk => hk.2.2.2.2.2)))) _).trans (((cell_far (p := ⟨qH, _, none⟩) (by first | exact Kd.qQ (Kd.qY qV.out (fun _ hk => hk.2.2.2.2.2)) | (rw [add_block]; exact Kd.qQ (Kd.qY qV.out (fun _ hk => hk.2.2.2.2.2))) | (show (Addr.add _ _).block ≠ _; rw [add_block]; exact Kd.qQ (Kd.qY qV.out (fun _ hk => hk.2.2.2.2.2))) | (dsimp only; exact Kd.qQ (Kd.qY qV.out (fun _ hk => hk.2.2.2.2.2)))) _).trans (((cell_far (p := ⟨qH, _, none⟩) (by first | exact Kd.qQ (Kd.qY qV.out (fun _ hk => hk.2.2.2.2.2)) | (rw [add_block]; exact Kd.qQ (Kd.qY qV.out (fun _ hk => hk.2.2.2.2.2))) | (show (Addr.add _ _).block ≠ _; rw [add_block]; exact Kd.qQ (Kd.qY qV.out (fun _ hk => hk.2.2.2.2.2))) | (dsimp only; exact Kd.qQ (Kd.qY qV.out (fun _ hk => hk.2.2.2.2.2)))) _).trans (((cell_far (p := ⟨qH, _, none⟩) (by first | exact Kd.qQ (Kd.qY qV.out (fun _ hk => hk.2.2.2.2.2)) | (rw [add_block]; exact Kd.qQ (Kd.qY qV.out (fun _ hk => hk.2.2.2.2.2))) | (show (Addr.add _ _).block ≠ _; rw [add_block]; exact Kd.qQ (Kd.qY qV.out (fun _ hk => hk.2.2.2.2.2))) | (dsimp only; exact Kd.qQ (Kd.qY qV.out (fun _ hk => hk.2.2.2.2.2)))) _).trans (hHeld.2.2.2.2.2.2.2))))))))⟩ (fun hHeld => ?_)
     clear hK K
     refine zh1 (jk0 HT_.out (by kernel_rfl)) ?_
     have n0_ : q8 (Kd.V k55 55 ((((w20.setCell ⟨qH, 0, none⟩ (.int .i64 0)).setCell ⟨qH, 1, none⟩ (.int .i64 t213)).setCell ⟨qH, 2, none⟩ (.int .i64 t215)).setCell ⟨qH, 3, none⟩ (.slice none 0 0)) w.heap.size (fun k_ => (P0_ k_ ∨ w.heap.size ≤ k_) ∧ some k_ ≠ (u3 : Value).ownBlock ∧ some k_ ≠ (.slice (some jS) t200.length qg8 : Value).ownBlock ∧ some k_ ≠ (u5 : Value).ownBlock ∧ some k_ ≠ (u6 : Value).ownBlock ∧ some k_ ≠ (u7 : Value).ownBlock ∧ k_ ≠ qH) (.slice A0 l0.length c0) l0) := ⟨by (with_reducible repeat (first | apply Kd.jO | apply Kd.jP | apply Kd.z8)); exact Kd.zJ (Kd.qf5 (p := ⟨qH, 3, none⟩) (Kd.qf5 (p := ⟨qH, 2, none⟩) (Kd.qf5 (p := ⟨qH, 1, none⟩) (Kd.qf5 (p := ⟨qH, 0, none⟩) (Kd.zJ zZ.out (fun k_ hk => (⟨hk, hk.2.2.2.2.2.2⟩ : _ ∧ k_ ≠ qH))) (fun _ hk => hk.2) (.int .i64 0)) (fun _ hk => hk.2) (.int .i64 t213)) (fun _ hk => hk.2) (.int .i64 t215)) (fun _ hk => hk.2) (.slice none 0 0)) (fun _ hk => ⟨hk.1.1, ⟨hk.1.2.1, ⟨hk.1.2.2.1, ⟨hk.1.2.2.2.1, ⟨hk.1.2.2.2.2.1, ⟨hk.1.2.2.2.2.2.1, hk.1.2.2.2.2.2.2⟩⟩⟩⟩⟩⟩)⟩
     have n1_ : q8 (Kd.N k55 55 ((((w20.setCell ⟨qH, 0, none⟩ (.int .i64 0)).setCell ⟨qH, 1, none⟩ (.int .i64 t213)).setCell ⟨qH, 2, none⟩ (.int .i64 t215)).setCell ⟨qH, 3, none⟩ (.slice none 0 0)) w.heap.size (fun k_ => (P0_ k_ ∨ w.heap.size ≤ k_) ∧ some k_ ≠ (.slice (some jS) t200.length qg8 : Value).ownBlock ∧ some k_ ≠ (u5 : Value).ownBlock ∧ some k_ ≠ (u6 : Value).ownBlock ∧ some k_ ≠ (u7 : Value).ownBlock ∧ k_ ≠ qH) u3 qk2) := ⟨by (with_reducible repeat (first | apply Kd.jC | apply Kd.jD | apply Kd.jG)); exact Kd.jZ (Kd.qg3 (p := ⟨qH, 3, none⟩) (Kd.qg3 (p := ⟨qH, 2, none⟩) (Kd.qg3 (p := ⟨qH, 1, none⟩) (Kd.qg3 (p := ⟨qH, 0, none⟩) (Kd.jZ qa5.out (fun k_ hk => (⟨hk, hk.2.2.2.2.2⟩ : _ ∧ k_ ≠ qH))) (fun _ hk => hk.2) (.int .i64 0)) (fun _ hk => hk.2) (.int .i64 t213)) (fun _ hk => hk.2) (.int .i64 t215)) (fun _ hk => hk.2) (.slice none 0 0)) (fun _ hk => ⟨hk.1.1, ⟨hk.1.2.1, ⟨hk.1.2.2.1, ⟨hk.1.2.2.2.1, ⟨hk.1.2.2.2.2.1, hk.1.2.2.2.2.2⟩⟩⟩⟩⟩)⟩
     have n2_ : q8 (Kd.N k55 55 ((((w20.setCell ⟨qH, 0, none⟩ (.int .i64 0)).setCell ⟨qH, 1, none⟩ (.int .i64 t213)).setCell ⟨qH, 2, none⟩ (.int .i64 t215)).setCell ⟨qH, 3, none⟩ (.slice none 0 0)) w.heap.size (fun k_ => (P0_ k_ ∨ w.heap.size ≤ k_) ∧ some k_ ≠ (u3 : Value).ownBlock ∧ some k_ ≠ (u5 : Value).ownBlock ∧ some k_ ≠ (u6 : Value).ownBlock ∧ some k_ ≠ (u7 : Value).ownBlock ∧ k_ ≠ qH) (.slice (some jS) t200.length qg8) t200) := ⟨by (with_reducible repeat (first | apply Kd.jC | apply Kd.jD | apply Kd.jG)); exact Kd.jZ (Kd.qg3 (p := ⟨qH, 3, none⟩) (Kd.qg3 (p := ⟨qH, 2, none⟩) (Kd.qg3 (p := ⟨qH, 1, none⟩) (Kd.qg3 (p := ⟨qH, 0, none⟩) (Kd.jZ qV.out (fun k_ hk => (⟨hk, hk.2.2.2.2.2⟩ : _ ∧ k_ ≠ qH))) (fun _ hk => hk.2) (.int .i64 0)) (fun _ hk => hk.2) (.int .i64 t213)) (fun _ hk => hk.2) (.int .i64 t215)) (fun _ hk => hk.2) (.slice none 0 0)) (fun _ hk => ⟨hk.1.1, ⟨hk.1.2.1, ⟨hk.1.2.2.1, ⟨hk.1.2.2.2.1, ⟨hk.1.2.2.2.2.1, hk.1.2.2.2.2.2⟩⟩⟩⟩⟩)⟩
     have n3_ : q8 (Kd.R (Kd.int .i64) 3 ((((w20.setCell ⟨qH, 0, none⟩ (.int .i64 0)).setCell ⟨qH, 1, none⟩ (.int .i64 t213)).setCell ⟨qH, 2, none⟩ (.int .i64 t215)).setCell ⟨qH, 3, none⟩ (.slice none 0 0)) w.heap.size (fun k_ => (w.heap.size ≤ k_) ∧ some k_ ≠ (u6 : Value).ownBlock ∧ some k_ ≠ (u7 : Value).ownBlock) u5 qx5) := ⟨by (with_reducible repeat (first | apply Kd.qW | apply Kd.qX | apply Kd.jB)); exact Kd.jK (Kd.zK (p := ⟨qH, 3, none⟩) (Kd.zK (p := ⟨qH, 2, none⟩) (Kd.zK (p := ⟨qH, 1, none⟩) (Kd.zK (p := ⟨qH, 0, none⟩) (Kd.qb4 qc0.out jE.out (by decide)) (fun _ hk => hk.2) (.int .i64 0)) (fun _ hk => hk.2) (.int .i64 t213)) (fun _ hk => hk.2) (.int .i64 t215)) (fun _ hk => hk.2) (.slice none 0 0)) (fun _ hk => ⟨hk.1.1, ⟨hk.1.2.1, hk.1.2.2⟩⟩)⟩
     have n4_ : q8 (Kd.R (Kd.int .i64) 3 ((((w20.setCell ⟨qH, 0, none⟩ (.int .i64 0)).setCell ⟨qH, 1, none⟩ (.int .i64 t213)).setCell ⟨qH, 2, none⟩ (.int .i64 t215)).setCell ⟨qH, 3, none⟩ (.slice none 0 0)) w.heap.size (fun k_ => (w.heap.size ≤ k_) ∧ some k_ ≠ (u5 : Value).ownBlock ∧ some k_ ≠ (u7 : Value).ownBlock) u6 jW) := ⟨by (with_reducible repeat (first | apply Kd.qW | apply Kd.qX | apply Kd.jB)); exact Kd.jK (Kd.zK (p := ⟨qH, 3, none⟩) (Kd.zK (p := ⟨qH, 2, none⟩) (Kd.zK (p := ⟨qH, 1, none⟩) (Kd.zK (p := ⟨qH, 0, none⟩) (Kd.qb4 qe7.out jE.out (by decide)) (fun _ hk => hk.2) (.int .i64 0)) (fun _ hk => hk.2) (.int .i64 t213)) (fun _ hk => hk.2) (.int .i64 t215)) (fun _ hk => hk.2) (.slice none 0 0)) (fun _ hk => ⟨hk.1.1, ⟨hk.1.2.1, hk.1.2.2⟩⟩)⟩
     have n5_ : q8 (Kd.R (Kd.int .i64) 3 ((((w20.setCell ⟨qH, 0, none⟩ (.int .i64 0)).setCell ⟨qH, 1, none⟩ (.int .i64 t213)).setCell ⟨qH, 2, none⟩ (.int .i64 t215)).setCell ⟨qH, 3, none⟩ (.slice none 0 0)) w.heap.size (fun k_ => (w.heap.size ≤ k_) ∧ some k_ ≠ (u5 : Value).ownBlock ∧ some k_ ≠ (u6 : Value).ownBlock) u7 qb1) := ⟨by (with_reducible repeat (first | apply Kd.qW | apply Kd.qX | apply Kd.jB)); exact Kd.jK (Kd.zK (p := ⟨qH, 3, none⟩) (Kd.zK (p := ⟨qH, 2, none⟩) (Kd.zK (p := ⟨qH, 1, none⟩) (Kd.zK (p := ⟨qH, 0, none⟩) (Kd.qb4 qc8.out jE.out (by decide)) (fun _ hk => hk.2) (.int .i64 0)) (fun _ hk => hk.2) (.int .i64 t213)) (fun _ hk => hk.2) (.int .i64 t215)) (fun _ hk => hk.2) (.slice none 0 0)) (fun _ hk => ⟨hk.1.1, ⟨hk.1.2.1, hk.1.2.2⟩⟩)⟩
     have n6_ : q8 (Kd.V k51 51 ((((w20.setCell ⟨qH, 0, none⟩ (.int .i64 0)).setCell ⟨qH, 1, none⟩ (.int .i64 t213)).setCell ⟨qH, 2, none⟩ (.int .i64 t215)).setCell ⟨qH, 3, none⟩ (.slice none 0 0)) w.heap.size (fun k_ => (P0_ k_ ∨ w.heap.size ≤ k_) ∧ some k_ ≠ (u3 : Value).ownBlock ∧ some k_ ≠ (.slice (some jS) t200.length qg8 : Value).ownBlock ∧ some k_ ≠ (u5 : Value).ownBlock ∧ some k_ ≠ (u6 : Value).ownBlock ∧ some k_ ≠ (u7 : Value).ownBlock ∧ k_ ≠ qH) (.slice qx6 ((qD t200 qO).f3).length qx7) ((qD t200 qO).f3)) := ⟨by (with_reducible repeat (first | apply Kd.jO | apply Kd.jP | apply Kd.z8)); exact Kd.zJ (Kd.qf5 (p := ⟨qH, 3, none⟩) (Kd.qf5 (p := ⟨qH, 2, none⟩) (Kd.qf5 (p := ⟨qH, 1, none⟩) (Kd.qf5 (p := ⟨qH, 0, none⟩) (Kd.zJ qi4.out (fun k_ hk => (⟨hk, hk.2.2.2.2.2.2⟩ : _ ∧ k_ ≠ qH))) (fun _ hk => hk.2) (.int .i64 0)) (fun _ hk => hk.2) (.int .i64 t213)) (fun _ hk => hk.2) (.int .i64 t215)) (fun _ hk => hk.2) (.slice none 0 0)) (fun _ hk => ⟨hk.1.1, ⟨hk.1.2.1, ⟨hk.1.2.2.1, ⟨hk.1.2.2.2.1, ⟨hk.1.2.2.2.2.1, ⟨hk.1.2.2.2.2.2.1, hk.1.2.2.2.2.2.2⟩⟩⟩⟩⟩⟩)⟩
     have n7_ : q8 (Kd.V k51 51 ((((w20.setCell ⟨qH, 0, none⟩ (.int .i64 0)).setCell ⟨qH, 1, none⟩ (.int .i64 t213)).setCell ⟨qH, 2, none⟩ (.int .i64 t215)).setCell ⟨qH, 3, none⟩ (.slice none 0 0)) w.heap.size (fun k_ => (P0_ k_ ∨ w.heap.size ≤ k_) ∧ some k_ ≠ (u3 : Value).ownBlock ∧ some k_ ≠ (.slice (some jS) t200.length qg8 : Value).ownBlock ∧ some k_ ≠ (u5 : Value).ownBlock ∧ some k_ ≠ (u6 : Value).ownBlock ∧ some k_ ≠ (u7 : Value).ownBlock ∧ k_ ≠ qH) (.slice qx6 ((qD t200 qO).f3).length qx7) ((qD t200 qO).f3)) := ⟨by (with_reducible repeat (first | apply Kd.jO | apply Kd.jP | apply Kd.z8)); exact Kd.zJ (Kd.qf5 (p := ⟨qH, 3, none⟩) (Kd.qf5 (p := ⟨qH, 2, none⟩) (Kd.qf5 (p := ⟨qH, 1, none⟩) (Kd.qf5 (p := ⟨qH, 0, none⟩) (Kd.zJ qi5.out (fun k_ hk => (⟨hk, hk.2.2.2.2.2.2⟩ : _ ∧ k_ ≠ qH))) (fun _ hk => hk.2) (.int .i64 0)) (fun _ hk => hk.2) (.int .i64 t213)) (fun _ hk => hk.2) (.int .i64 t215)) (fun _ hk => hk.2) (.slice none 0 0)) (fun _ hk => ⟨hk.1.1, ⟨hk.1.2.1, ⟨hk.1.2.2.1, ⟨hk.1.2.2.2.1, ⟨hk.1.2.2.2.2.1, ⟨hk.1.2.2.2.2.2.1, hk.1.2.2.2.2.2.2⟩⟩⟩⟩⟩⟩)⟩
     have n8_ : q8 (((((w20.setCell ⟨qH, 0, none⟩ (.int .i64 0)).setCell ⟨qH, 1, none⟩ (.int .i64 t213)).setCell ⟨qH, 2, none⟩ (.int .i64 t215)).setCell ⟨qH, 3, none⟩ (.slice none 0 0)).heap[qH]? = some (.cells #[.int .i64 0, .int .i64 t213, .int .i64 t215, .slice none 0 0] 55 (0, 0))) := ⟨by (with_reducible repeat (first | refine qI ?_ _ | refine qR ?_ | refine qJ ?_ _)); refine qd4 (cs := #[.int .i64 0, .int .i64 t213, .int .i64 t215, .slice none 0 0]) ?_ 3 _ rfl; (with_reducible repeat (first | refine qI ?_ _ | refine qR ?_ | refine qJ ?_ _)); refine qd4 (cs := #[.int .i64 0, .int .i64 t213, .int .i64 0, .slice none 0 0]) ?_ 2 _ rfl; (with_reducible repeat (first | refine qI ?_ _ | refine qR ?_ | refine qJ ?_ _)); refine qd4 (cs := #[.int .i64 0, .int .i64 0, .int .i64 0, .slice none 0 0]) ?_ 1 _ rfl; (with_reducible repeat (first | refine qI ?_ _ | refine qR ?_ | refine qJ ?_ _)); refine qd4 (cs := #[.int .i64 0, .int .i64 0, .int .i64 0, .slice none 0 0]) ?_ 0 _ rfl; (with_reducible repeat (first | refine qI ?_ _ | refine qR ?_ | refine qJ ?_ _)); exact jE.out⟩
     have n9_ : q8 (Below w.heap.size w ((((w20.setCell ⟨qH, 0, none⟩ (.int .i64 0)).setCell ⟨qH, 1, none⟩ (.int .i64 t213)).setCell ⟨qH, 2, none⟩ (.int .i64 t215)).setCell ⟨qH, 3, none⟩ (.slice none 0 0))) := ⟨by repeat (first | (with_reducible first | exact HB.out | apply qA | apply q9 | apply qB | refine qK ?_ qe8.out) | exact HB.out)⟩
     (try clear zZ)
     (try clear qa5)
     (try clear qV)
     (try clear qc0)
     (try clear qe7)
     (try clear qc8)
     (try clear qi4)
     (try clear qi5)
     (try clear jE)
     (try clear HB)
     generalize ((((w20.setCell ⟨qH, 0, none⟩ (.int .i64 0)).setCell ⟨qH, 1, none⟩ (.int .i64 t213)).setCell ⟨qH, 2, none⟩ (.int .i64 t215)).setCell ⟨qH, 3, none⟩ (.slice none 0 0)) = w25 at n0_ n1_ n2_ n3_ n4_ n5_ n6_ n7_ n8_ n9_ ⊢
     have zZ := n0_
     have qa5 := n1_
     have qV := n2_
     have qc0 := n3_
     have qe7 := n4_
     have qc8 := n5_
     have qi4 := n6_
     have qi5 := n7_
     have jE := n8_
     have HB := n9_
     clear n0_ n1_ n2_ n3_ n4_ n5_ n6_ n7_ n8_ n9_
     have zx7 : 0 ≤ (qO : Int) := of_decide_eq_true (by first | (with_reducible assumption) | assumption)
     have zx8 : qO < (t200.length : Int) := of_decide_eq_true (by first | (with_reducible assumption) | assumption)
     obtain ⟨Qk7, A217_3, c217_3, e217, zI6, zI7, zI8, zi2, zi3, zi4⟩ := qa6 (Kd.zW qV.out).2.2 qO zx7 zx8
     obtain rfl : jS = Qk7 := (by injection e217)
     obtain ⟨ce217, zZ5, zZ6, zx9⟩ := Kd.qE8 qV.out z55 qO zx7 (by first | exact zx8 | exact of_decide_eq_true (by first | (with_reducible assumption) | assumption) | (have e_ := (Kd.zW qV.out).1; omega))
     obtain ⟨Qr9, Qs0, rfl, jG2, jG3⟩ := qh7 zZ6
     have jk5 := zx9 3 _ rfl
     rw [zO _ _ 3 (by omega)] at jk5
     replace jk5 := Option.some.inj (jk5.symm.trans zi2)
     injection jk5 with qm7 qx4 qm8
     rw [qm7] at jG3
     rw [qm8] at jG2
     have zI9 := q8.mk (show Kd.V k51 51 _ w.heap.size _ _ ((qD t200 qO).f3) from Kd.qP7 jG2 jG3)
     clear qm7 qx4 qm8 jG3 jG2
     clear zx9 zZ5
     have Qs1 := q8.mk zi4
     have Qs2 := q8.mk zi3
     clear zi4 zi3
     replace zx7 := eq_true zx7
     replace zx8 := eq_true zx8
     obtain ⟨zZ7, zZ8, eo26⟩ := Kd.qs9 qc0.out
     subst eo26
     try go_wp2_with (first | ((with_reducible refine qj0 (f := 45) rfl ?_); refine qH3 (some 46) rfl rfl Try.func45 (by kernel_rfl) rfl #[.slice zZ7 qx5.length zZ8, .int .i64 ((qD t200 qO).f0)] rfl (by (try simp only [List.map_toArray, List.map_cons, List.map_nil]); first | done | rfl | (simp only [List.length_drop, List.length_take]; rfl)) ?_; (with_reducible refine (jA.calls k1 (fun k_ => some k_ = (.slice zZ7 qx5.length zZ8 : Value).ownBlock) (.slice zZ7 qx5.length zZ8) qx5 ((qD t200 qO).f0) t218 t221 w _ ?qt1 ?qw3 A16.out).mono ?_); (case qt1 => repeat (first | (with_reducible first | exact HB.out | apply qA | apply q9 | apply qB | refine qK ?_ qe8.out) | exact HB.out)); (case qw3 => exact Kd.qY6 rfl qc0.out); rintro e w27 ⟨v219, rfl, ho0, hb, hkp⟩; refine ⟨_, rfl, ?_⟩; have n0_ := q8.mk (Kd.zJ (ok' := fun k_ => (P0_ k_ ∨ w.heap.size ≤ k_) ∧ some k_ ≠ (u3 : Value).ownBlock ∧ some k_ ≠ (.slice (some jS) t200.length qg8 : Value).ownBlock ∧ some k_ ≠ (u6 : Value).ownBlock ∧ some k_ ≠ (u7 : Value).ownBlock ∧ k_ ≠ qH ∧ some k_ ≠ (v219 : Value).ownBlock) (Kd.jk6 (zZ.out) hkp (fun k_ hk_ hs_ => (hk_.2.2.2.1) hs_)) (fun k_ hk_ => ⟨hk_.1.1, hk_.1.2.1, hk_.1.2.2.1, hk_.1.2.2.2.2.1, hk_.1.2.2.2.2.2.1, hk_.1.2.2.2.2.2.2, fun e_ => Or.elim (ho0.1 k_ e_.symm) (fun hs_ => hk_.2.1 hs_) (fun hn_ => Nat.not_le.2 hk_.2.2 hn_)⟩)); have n1_ := q8.mk (Kd.jZ (ok' := fun k_ => (P0_ k_ ∨ w.heap.size ≤ k_) ∧ some k_ ≠ (.slice (some jS) t200.length qg8 : Value).ownBlock ∧ some k_ ≠ (u6 : Value).ownBlock ∧ some k_ ≠ (u7 : Value).ownBlock ∧ k_ ≠ qH ∧ some k_ ≠ (v219 : Value).ownBlock) (Kd.qC1 (qa5.out) hkp (fun k_ hk_ hs_ => (hk_.2.2.1) hs_)) (fun k_ hk_ => ⟨hk_.1.1, hk_.1.2.1, hk_.1.2.2.2.1, hk_.1.2.2.2.2.1, hk_.1.2.2.2.2.2, fun e_ => Or.elim (ho0.1 k_ e_.symm) (fun hs_ => hk_.2.1 hs_) (fun hn_ => Nat.not_le.2 hk_.2.2 hn_)⟩)); have n2_ := q8.mk (Kd.jZ (ok' := fun k_ => (P0_ k_ ∨ w.heap.size ≤ k_) ∧ some k_ ≠ (u3 : Value).ownBlock ∧ some k_ ≠ (u6 : Value).ownBlock ∧ some k_ ≠ (u7 : Value).ownBlock ∧ k_ ≠ qH ∧ some k_ ≠ (v219 : Value).ownBlock) (Kd.qC1 (qV.out) hkp (fun k_ hk_ hs_ => (hk_.2.2.1) hs_)) (fun k_ hk_ => ⟨hk_.1.1, hk_.1.2.1, hk_.1.2.2.2.1, hk_.1.2.2.2.2.1, hk_.1.2.2.2.2.2, fun e_ => Or.elim (ho0.1 k_ e_.symm) (fun hs_ => hk_.2.1 hs_) (fun hn_ => Nat.not_le.2 hk_.2.2 hn_)⟩)); have n3_ := q8.mk (Kd.jK (ok' := fun k_ => (w.heap.size ≤ k_) ∧ some k_ ≠ (u7 : Value).ownBlock ∧ some k_ ≠ (v219 : Value).ownBlock) (Kd.qt2 (qe7.out) hkp (fun k_ hk_ hs_ => (hk_.2.1) hs_)) (fun k_ hk_ => ⟨hk_.1.1, hk_.1.2.2, fun e_ => Or.elim (ho0.1 k_ e_.symm) (fun hs_ => hk_.2.1 hs_) (fun hn_ => Nat.not_le.2 hk_.2.2 hn_)⟩)); have n4_ := q8.mk (Kd.jK (ok' := fun k_ => (w.heap.size ≤ k_) ∧ some k_ ≠ (u6 : Value).ownBlock ∧ some k_ ≠ (v219 : Value).ownBlock) (Kd.qt2 (qc8.out) hkp (fun k_ hk_ hs_ => (hk_.2.1) hs_)) (fun k_ hk_ => ⟨hk_.1.1, hk_.1.2.2, fun e_ => Or.elim (ho0.1 k_ e_.symm) (fun hs_ => hk_.2.1 hs_) (fun hn_ => Nat.not_le.2 hk_.2.2 hn_)⟩)); have n5_ := q8.mk (qA9 (by (with_reducible repeat (first | refine qI ?_ _ | refine qR ?_ | refine qJ ?_ _)); exact jE.out) hkp (fun hs_ => (fun e_ => (Kd.jG4 qc0.out jE.out (by decide)) e_) hs_)); have n6_ := q8.mk (Kd.jK (ok' := fun k_ => (w.heap.size ≤ k_) ∧ some k_ ≠ (u6 : Value).ownBlock ∧ some k_ ≠ (u7 : Value).ownBlock) ho0 (fun k_ hk_ => ⟨Or.elim hk_ (fun hs_ => (qc0.out.1 k_ (hs_).symm).1) (fun hn_ => (Nat.le_trans (qM (by repeat (first | (with_reducible first | exact HB.out | apply qA | apply q9 | apply qB | refine qK ?_ qe8.out) | exact HB.out))) hn_)), Or.elim hk_ (fun hs_ => fun e_ => (((qe7.out).1 k_ e_.symm).2.1) hs_) (fun hn_ => (Kd.fresh' (Kd.qK9 (by (with_reducible repeat (first | apply Kd.qW | apply Kd.qX | apply Kd.jB)); exact qe7.out)) k_ hn_)), Or.elim hk_ (fun hs_ => fun e_ => (((qc8.out).1 k_ e_.symm).2.1) hs_) (fun hn_ => (Kd.fresh' (Kd.qK9 (by (with_reducible repeat (first | apply Kd.qW | apply Kd.qX | apply Kd.jB)); exact qc8.out)) k_ hn_))⟩)); have n7_ := q8.mk (hb); clear zZ; clear qa5; clear qV; clear qe7; clear qc8; clear jE; clear HB; clear qc0; clear qi4; clear qi5; clear zI9; have zZ := n0_; have qa5 := n1_; have qV := n2_; have qe7 := n3_; have qc8 := n4_; have jE := n5_; have Qk8 := n6_; have HB := n7_; clear n0_ n1_ n2_ n3_ n4_ n5_ n6_ n7_; (try clear hb); (try clear hkp); (try clear ho0); have zJ0 : w27.cell? ⟨qH, 0, none⟩ = some (.int .i64 0) := (qE jE.out 0).trans rfl; have zJ1 : w27.cell? ⟨qH, 1, none⟩ = some (.int .i64 t213) := (qE jE.out 1).trans rfl; have zJ2 : w27.cell? ⟨qH, 2, none⟩ = some (.int .i64 t215) := (qE jE.out 2).trans rfl; have zJ3 : w27.cell? ⟨qH, 3, none⟩ = some (.slice none 0 0) := (qE jE.out 3).trans rfl; have zJ4 := qC jE.out 0; have zJ5 := qC jE.out 1; have zJ6 := qC jE.out 2; have zJ7 := qC jE.out 3))
     go_loopg [6, 7, 10] k1 (fun kq v6 v7 v10 w' => ∃ (qe3 : List Int) (qf4 : List Int) (j4 : Int) (zV : List (S51)) (u217003 : Value), v10 = .int .i64 j4 ∧ q8 (qL.l1 kq l0 qk2 t200 t218 qe3 qf4 qO j4 t221 t213 t215 zV = some r) ∧ q8 (kq ≤ k1) ∧ q8 (Kd.V k55 55 w' w.heap.size (fun k_ => (P0_ k_ ∨ w.heap.size ≤ k_) ∧ some k_ ≠ (u3 : Value).ownBlock ∧ some k_ ≠ ((.slice (some jS) t200.length qg8) : Value).ownBlock ∧ some k_ ≠ (v219 : Value).ownBlock ∧ some k_ ≠ (v6 : Value).ownBlock ∧ some k_ ≠ (v7 : Value).ownBlock ∧ some k_ ≠ (u217003 : Value).ownBlock ∧ k_ ≠ qH) (.slice A0 l0.length c0) l0) ∧ q8 (Kd.N k55 55 w' w.heap.size (fun k_ => (P0_ k_ ∨ w.heap.size ≤ k_) ∧ some k_ ≠ ((.slice (some jS) t200.length qg8) : Value).ownBlock ∧ some k_ ≠ (v219 : Value).ownBlock ∧ some k_ ≠ (v6 : Value).ownBlock ∧ some k_ ≠ (v7 : Value).ownBlock ∧ some k_ ≠ (u217003 : Value).ownBlock ∧ k_ ≠ qH) u3 qk2) ∧ q8 (Kd.N k55 55 w' w.heap.size (fun k_ => (P0_ k_ ∨ w.heap.size ≤ k_) ∧ some k_ ≠ (u3 : Value).ownBlock ∧ some k_ ≠ (v219 : Value).ownBlock ∧ some k_ ≠ (v6 : Value).ownBlock ∧ some k_ ≠ (v7 : Value).ownBlock ∧ some k_ ≠ (u217003 : Value).ownBlock ∧ k_ ≠ qH) (.slice (some jS) t200.length qg8) t200) ∧ q8 (Kd.R (Kd.int .i64) 3 w' w.heap.size (fun k_ => (w.heap.size ≤ k_) ∧ some k_ ≠ (v6 : Value).ownBlock ∧ some k_ ≠ (v7 : Value).ownBlock) v219 t218) ∧ q8 (Kd.R (Kd.int .i64) 3 w' w.heap.size (fun k_ => (w.heap.size ≤ k_) ∧ some k_ ≠ (v219 : Value).ownBlock ∧ some k_ ≠ (v7 : Value).ownBlock) v6 qe3) ∧ q8 (Kd.R (Kd.int .i64) 3 w' w.heap.size (fun k_ => (w.heap.size ≤ k_) ∧ some k_ ≠ (v219 : Value).ownBlock ∧ some k_ ≠ (v6 : Value).ownBlock) v7 qf4) ∧ q8 (Kd.R k51 51 w' w.heap.size (fun k_ => (w.heap.size ≤ k_)) u217003 zV) ∧ q8 (w'.heap[qH]? = some (.cells #[.int .i64 t221, .int .i64 t213, .int .i64 t215, u217003] 55 (0, 0))) ∧ q8 (Below w.heap.size w w'))
     case atStart => exact ⟨(jW), (qb1), (0), (([] : List (S51))), (.slice none 0 0), (by first | rfl | (simp; done) | (simp [*]; done)), H', ⟨Nat.le_refl _⟩, ⟨by (with_reducible repeat (first | apply Kd.jO | apply Kd.jP | apply Kd.z8)); exact Kd.zJ (Kd.qf5 (p := ⟨qH, 0, none⟩) (Kd.zJ zZ.out (fun k_ hk => (⟨hk, hk.2.2.2.2.2.1⟩ : _ ∧ k_ ≠ qH))) (fun _ hk => hk.2) (.int .i64 t221)) (fun _ hk => ⟨hk.1.1, ⟨hk.1.2.1, ⟨hk.1.2.2.1, ⟨hk.1.2.2.2.2.2.2, ⟨hk.1.2.2.2.1, ⟨hk.1.2.2.2.2.1, ⟨(by simp [Value.ownBlock]), hk.1.2.2.2.2.2.1⟩⟩⟩⟩⟩⟩⟩)⟩, ⟨by (with_reducible repeat (first | apply Kd.jC | apply Kd.jD | apply Kd.jG)); exact Kd.jZ (Kd.qg3 (p := ⟨qH, 0, none⟩) (Kd.jZ qa5.out (fun k_ hk => (⟨hk, hk.2.2.2.2.1⟩ : _ ∧ k_ ≠ qH))) (fun _ hk => hk.2) (.int .i64 t221)) (fun _ hk => ⟨hk.1.1, ⟨hk.1.2.1, ⟨hk.1.2.2.2.2.2, ⟨hk.1.2.2.1, ⟨hk.1.2.2.2.1, ⟨(by simp [Value.ownBlock]), hk.1.2.2.2.2.1⟩⟩⟩⟩⟩⟩)⟩, ⟨by (with_reducible repeat (first | apply Kd.jC | apply Kd.jD | apply Kd.jG)); exact Kd.jZ (Kd.qg3 (p := ⟨qH, 0, none⟩) (Kd.jZ qV.out (fun k_ hk => (⟨hk, hk.2.2.2.2.1⟩ : _ ∧ k_ ≠ qH))) (fun _ hk => hk.2) (.int .i64 t221)) (fun _ hk => ⟨hk.1.1, ⟨hk.1.2.1, ⟨hk.1.2.2.2.2.2, ⟨hk.1.2.2.1, ⟨hk.1.2.2.2.1, ⟨(by simp [Value.ownBlock]), hk.1.2.2.2.2.1⟩⟩⟩⟩⟩⟩)⟩, ⟨by (with_reducible repeat (first | apply Kd.qW | apply Kd.qX | apply Kd.jB)); exact Kd.jK (Kd.zK (p := ⟨qH, 0, none⟩) (Kd.qb4 Qk8.out jE.out (by decide)) (fun _ hk => hk.2) (.int .i64 t221)) (fun _ hk => ⟨hk.1.1, ⟨hk.1.2.1, hk.1.2.2⟩⟩)⟩, ⟨by (with_reducible repeat (first | apply Kd.qW | apply Kd.qX | apply Kd.jB)); exact Kd.jK (Kd.zK (p := ⟨qH, 0, none⟩) (Kd.qb4 qe7.out jE.out (by decide)) (fun _ hk => hk.2) (.int .i64 t221)) (fun _ hk => ⟨hk.1.1, ⟨hk.1.2.2, hk.1.2.1⟩⟩)⟩, ⟨by (with_reducible repeat (first | apply Kd.qW | apply Kd.qX | apply Kd.jB)); exact Kd.jK (Kd.zK (p := ⟨qH, 0, none⟩) (Kd.qb4 qc8.out jE.out (by decide)) (fun _ hk => hk.2) (.int .i64 t221)) (fun _ hk => ⟨hk.1.1, ⟨hk.1.2.2, hk.1.2.1⟩⟩)⟩, ⟨by first | exact Kd.zi5 _ _ _ _ _ | exact Kd.Qk9 _ _ _ _ _ | exact Kd.Ql0 _ _ _ _ _ | exact Kd.Ql1 _ _ _ _ _ | exact Kd.Ql2 _ _ _ _ _⟩, ⟨by (with_reducible repeat (first | refine qI ?_ _ | refine qR ?_ | refine qJ ?_ _)); refine qd4 (cs := #[.int .i64 0, .int .i64 t213, .int .i64 t215, .slice none 0 0]) ?_ 0 _ rfl; (with_reducible repeat (first | refine qI ?_ _ | refine qR ?_ | refine qJ ?_ _)); exact jE.out⟩, ⟨by repeat (first | (with_reducible first | exact HB.out | apply qA | apply q9 | apply qB | refine qK ?_ qe8.out) | exact HB.out)⟩⟩
     case round =>
      clear H'
      try clear c1
      try clear c2
      try clear p2
      try clear q2
      try clear hx2
      try clear c4
      try clear c12
      try clear qE7
      try clear c13
      try clear zS6
      try clear c21
      try clear p21
      try clear q21
      try clear hx21
      try clear zJ0
      try clear zJ1
      try clear zJ2
      try clear zJ3
      try clear zJ4
      try clear zJ5
      try clear zJ6
      try clear zJ7
      try clear jF2
      try clear jF3
      try clear jF4
      try clear qY2
      try clear jF7
      try clear jF8
      try clear jF9
      try clear qY3
      try clear zI6
      try clear zI7
      try clear zI8
      try clear zi2
      try clear p2
      try clear zw1
      try clear zw4
      try clear zx7
      try clear zw2
      try clear zw5
      try clear zx8
      obtain ⟨qe3, qf4, j4, zV, u217003, rfl, HA, HK2, zZ, qa5, qV, qc0, qe7, qc8, jR, jE, HB⟩ := hrel
      cases gk with
      | zero => exact absurd HA.out (by simp [qL.l1])
      | succ k2 =>
       have H := HA.out
       clear HA
       simp only [qL.l1] at H
       by_cases c29 : 0 ≤ qO
       ·rw [if_pos c29] at H
        have c29b0 : decide (0 ≤ qO) = true := decide_eq_true c29
        clear c29
        by_cases c30 : qO < (t200.length : Int)
        ·rw [if_pos c30] at H
         have c30b0 : decide (qO < (t200.length : Int)) = true := decide_eq_true c30
         clear c30
         by_cases c31 : j4 < (((qD t200 qO).f3).length : Int)
         ·rw [if_pos c31] at H
          have Ql3 : decide (j4 < (((qD t200 qO).f3).length : Int)) = true := decide_eq_true c31
          clear c31
          by_cases c32 : 0 ≤ j4
          ·rw [if_pos c32] at H
           have c32b0 : decide (0 ≤ j4) = true := decide_eq_true c32
           clear c32
           replace H := Option.bind_eq_some_iff.mp H
           obtain ⟨⟨t229, t232⟩, A330, H⟩ := H
           replace H : (if ((qG ((qD t200 qO).f3) j4).f2) = 0 then (if zV.length < 5864062014805 then (qL.l1 k2 l0 qk2 t200 t218 t229 qf4 qO (wrap64 (j4 + 1)) t221 t213 t215 (zV ++ [(⟨(qG ((qD t200 qO).f3) j4).f0, t232, (qG ((qD t200 qO).f3) j4).f2⟩ : S51)])) else (none)) else ((jA.f k2 qf4 ((qG ((qD t200 qO).f3) j4).f2)).bind fun jO9 => (if zV.length < 5864062014805 then (qL.l1 k2 l0 qk2 t200 t218 t229 jO9.1 qO (wrap64 (j4 + 1)) t221 t213 t215 (zV ++ [(⟨(qG ((qD t200 qO).f3) j4).f0, t232, wrap64 (jO9.2 + 1)⟩ : S51)])) else (none)))) = some r := H
           have A33 := q8.mk A330
           clear A330
           by_cases c34 : ((qG ((qD t200 qO).f3) j4).f2) = 0
           ·rw [if_pos c34] at H
            have Ql4 : (((qG ((qD t200 qO).f3) j4).f2) == 0) = true := beq_iff_eq.mpr c34
            have Ql5 : (((qG ((qD t200 qO).f3) j4).f2) != 0) = false := bne_eq_false_iff_eq.mpr c34
            clear c34
            by_cases c35 : zV.length < 5864062014805
            ·rw [if_pos c35] at H
             have Ql6 := q8.mk c35
             clear c35
             obtain ⟨y233, jP6⟩ : ∃ y_ : List (S51), y_ = (zV ++ [(⟨(qG ((qD t200 qO).f3) j4).f0, t232, (qG ((qD t200 qO).f3) j4).f2⟩ : S51)]) := ⟨_, rfl⟩
             replace H : (qL.l1 k2 l0 qk2 t200 t218 t229 qf4 qO (wrap64 (j4 + 1)) t221 t213 t215 y233) = some r := by first | (rw [jP6]; with_reducible exact H) | (have H2_ := (Option.bind_some _ _).symm.trans H; rw [jP6]; with_reducible exact H2_) | (have H2_ := (Option.bind_some _ _).symm.trans H; with_reducible exact H2_) | with_reducible exact H | (rw [jP6]; exact H) | exact H
             have Ql7 := q8.mk jP6
             clear jP6
             have H' := q8.mk H
             clear H
             have qY7 : 0 ≤ (qO : Int) := of_decide_eq_true (by first | (with_reducible assumption) | assumption)
             have qY8 : qO < (t200.length : Int) := of_decide_eq_true (by first | (with_reducible assumption) | assumption)
             obtain ⟨jP7, zy0, jf1, e222, zi6, zi7, zi8, qH4, qC2, qC3⟩ := qa6 (Kd.zW qV.out).2.2 qO qY7 qY8
             obtain rfl : jS = jP7 := (by injection e222)
             obtain ⟨zU1, jo0, jo1, qM3⟩ := Kd.qE8 qV.out z55 qO qY7 (by first | exact qY8 | exact of_decide_eq_true (by first | (with_reducible assumption) | assumption) | (have e_ := (Kd.zW qV.out).1; omega))
             obtain ⟨zi9, zj0, rfl, qt3, qt4⟩ := qh7 jo1
             have qn5 := qM3 3 _ rfl
             rw [zO _ _ 3 (by omega)] at qn5
             replace qn5 := Option.some.inj (qn5.symm.trans qH4)
             injection qn5 with qm7 qx4 qm8
             rw [qm7] at qt4
             rw [qm8] at qt3
             have qg9 := q8.mk (show Kd.V k51 51 _ w.heap.size _ _ ((qD t200 qO).f3) from Kd.qP7 qt3 qt4)
             clear qm7 qx4 qm8 qt4 qt3
             clear qM3 jo0
             have qv8 := q8.mk qC3
             have zj1 := q8.mk qC2
             clear qC3 qC2
             replace qY7 := eq_true qY7
             replace qY8 := eq_true qY8
             have jG5 : 0 ≤ (qO : Int) := of_decide_eq_true (by first | (with_reducible assumption) | assumption)
             have jG6 : qO < (t200.length : Int) := of_decide_eq_true (by first | (with_reducible assumption) | assumption)
             obtain ⟨zy1, zZ9, Qa0, e226, zJ8, zJ9, zK0, qY9, qZ0, qZ1⟩ := qa6 (Kd.zW qV.out).2.2 qO jG5 jG6
             obtain rfl : jS = zy1 := (by injection e226)
             obtain ⟨Ql8, jZ7, jZ8, jo2⟩ := Kd.qE8 qV.out z55 qO jG5 (by first | exact jG6 | exact of_decide_eq_true (by first | (with_reducible assumption) | assumption) | (have e_ := (Kd.zW qV.out).1; omega))
             obtain ⟨zK1, zK2, rfl, qH5, qH6⟩ := qh7 jZ8
             have qz1 := jo2 3 _ rfl
             rw [zO _ _ 3 (by omega)] at qz1
             replace qz1 := Option.some.inj (qz1.symm.trans qY9)
             injection qz1 with qm7 qx4 qm8
             rw [qm7] at qH6
             rw [qm8] at qH5
             have ql4 := q8.mk (show Kd.V k51 51 _ w.heap.size _ _ ((qD t200 qO).f3) from Kd.qP7 qH5 qH6)
             clear qm7 qx4 qm8 qH6 qH5
             clear jo2 jZ7
             have qp2 := q8.mk qZ1
             have zK3 := q8.mk qZ0
             clear qZ1 qZ0
             replace jG5 := eq_true jG5
             replace jG6 := eq_true jG6
             have ea_ := Option.some.inj (qH4.symm.trans qY9)
             injection ea_ with ea_ en_ ec_
             subst ea_
             subst ec_
             clear en_
             have jZ9 : 0 ≤ (j4 : Int) := of_decide_eq_true (by first | (with_reducible assumption) | assumption)
             have za0 : j4 < (((qD t200 qO).f3).length : Int) := of_decide_eq_true (by first | (with_reducible assumption) | assumption)
             obtain ⟨jP8, e227, zK4, zK5, zK6⟩ := qr2 (by repeat (first | (with_reducible exact qp2.out) | (with_reducible refine Kd.qi2 ?_ _) | (with_reducible refine Kd.qi3 ?_ _) | (with_reducible refine Kd.qn2 ?_) | exact qp2.out)) j4 jZ9 za0
             cases e227
             replace jZ9 := eq_true jZ9
             replace za0 := eq_true za0
             go_wp2_with (first | ((with_reducible refine qa0 (N := 11) rfl ?_); refine qa7 ?hg (N := 11) ?hd (cs := #[.bool false, .int .i64 0, .int .i64 0]) (t := 51) ?hr ?_; (case hd => rfl); (case hg => rfl); (case hr => first | (go_simp; done) | (go_simp; rfl)); intro qP hg w36 qb5 hb; have n0_ := q8.mk (Kd.ql2 (Kd.qi0 (by (with_reducible repeat (first | apply Kd.jO | apply Kd.jP | apply Kd.z8)); exact zZ.out) qP (Nat.le_of_eq hg.symm)) hb); have n1_ := q8.mk (Kd.qn4 (Kd.qq7 (by (with_reducible repeat (first | apply Kd.jC | apply Kd.jD | apply Kd.jG)); exact qa5.out) qP (Nat.le_of_eq hg.symm)) hb); have n2_ := q8.mk (Kd.qn4 (Kd.qq7 (by (with_reducible repeat (first | apply Kd.jC | apply Kd.jD | apply Kd.jG)); exact qV.out) qP (Nat.le_of_eq hg.symm)) hb); have n3_ := q8.mk (Kd.qg2 (by (with_reducible repeat (first | apply Kd.qW | apply Kd.qX | apply Kd.jB)); exact qc0.out) hb); have n4_ := q8.mk (Kd.qg2 (by (with_reducible repeat (first | apply Kd.qW | apply Kd.qX | apply Kd.jB)); exact qe7.out) hb); have n5_ := q8.mk (Kd.qg2 (by (with_reducible repeat (first | apply Kd.qW | apply Kd.qX | apply Kd.jB)); exact qc8.out) hb); have n6_ := q8.mk (Kd.qg2 (Kd.jP9 (by (with_reducible repeat (first | apply Kd.qW | apply Kd.qX | apply Kd.jB)); exact jR.out) qP (Nat.le_of_eq hg.symm)) hb); have n7_ := q8.mk (Kd.ql2 (Kd.qi0 (by (with_reducible repeat (first | apply Kd.jO | apply Kd.jP | apply Kd.z8)); exact qg9.out) qP (Nat.le_of_eq hg.symm)) hb); have n8_ := q8.mk (Kd.ql2 (Kd.qi0 (by (with_reducible repeat (first | apply Kd.jO | apply Kd.jP | apply Kd.z8)); exact ql4.out) qP (Nat.le_of_eq hg.symm)) hb); have n9_ := q8.mk (qn1 (g := qH) (o := .cells #[.int .i64 t221, .int .i64 t213, .int .i64 t215, u217003] 55 (0, 0)) (by (with_reducible repeat (first | refine qI ?_ _ | refine qR ?_ | refine qJ ?_ _)); exact jE.out) hb); have qA7 := q8.mk (Kd.ql3 (by repeat (first | (with_reducible exact qv8.out) | (with_reducible refine Kd.qi2 ?_ _) | (with_reducible refine Kd.qi3 ?_ _) | (with_reducible refine Kd.qn2 ?_) | exact qv8.out)) hb); have qA8 := q8.mk (Kd.ql3 (by repeat (first | (with_reducible exact qp2.out) | (with_reducible refine Kd.qi2 ?_ _) | (with_reducible refine Kd.qi3 ?_ _) | (with_reducible refine Kd.qn2 ?_) | exact qp2.out)) hb); have qY4 := q8.mk (jM (by repeat (first | (with_reducible first | exact HB.out | apply qA | apply q9 | apply qB | refine qK ?_ qe8.out) | exact HB.out)) hb); have qY5 := q8.mk (qb5); have zy2 := q8.mk ((by rw [hg]; exact (qM (by repeat (first | (with_reducible first | exact HB.out | apply qA | apply q9 | apply qB | refine qK ?_ qe8.out) | exact HB.out))) : w.heap.size ≤ qP)); have zy3 := q8.mk ((by rw [hg]; exact (qM (by repeat (first | (with_reducible first | exact HB.out | apply qA | apply q9 | apply qB | refine qK ?_ qe8.out) | exact HB.out))) : w.heap.size ≤ qP)); have zy4 := q8.mk ((by rw [hg]; exact Nat.ne_of_lt (qt5 (g := qH) (o := .cells #[.int .i64 t221, .int .i64 t213, .int .i64 t215, u217003] 55 (0, 0)) (by (with_reducible repeat (first | refine qI ?_ _ | refine qR ?_ | refine qJ ?_ _)); exact jE.out)) : qH ≠ qP)); have zy5 := q8.mk ((by rw [hg]; exact Nat.ne_of_gt (qt5 (g := qH) (o := .cells #[.int .i64 t221, .int .i64 t213, .int .i64 t215, u217003] 55 (0, 0)) (by (with_reducible repeat (first | refine qI ?_ _ | refine qR ?_ | refine qJ ?_ _)); exact jE.out)) : qP ≠ qH)); clear zZ; clear qa5; clear qV; clear qc0; clear qe7; clear qc8; clear jR; clear qg9; clear ql4; clear jE; clear qv8; clear qp2; clear HB; have zZ := n0_; have qa5 := n1_; have qV := n2_; have qc0 := n3_; have qe7 := n4_; have qc8 := n5_; have jR := n6_; have qg9 := n7_; have ql4 := n8_; have jE := n9_; have qv8 := qA7; have qp2 := qA8; have HB := qY4; have jV := qY5; have Ql9 := zy2; have qu8 := zy3; have qh8 := zy4; have jf2 := zy5; clear n0_ n1_ n2_ n3_ n4_ n5_ n6_ n7_ n8_ n9_ qA7 qA8 qY4 qY5 zy2 zy3 zy4 zy5; clear hb qb5 hg; have hnb37 := jf2.out; have hnc37 := qh8.out; have Qs3 : w36.cell? ⟨qP, 0, none⟩ = some (.bool false) := (qE jV.out 0).trans rfl; have Qs4 : w36.cell? ⟨qP, 1, none⟩ = some (.int .i64 0) := (qE jV.out 1).trans rfl; have Qs5 : w36.cell? ⟨qP, 2, none⟩ = some (.int .i64 0) := (qE jV.out 2).trans rfl; have Qs6 := qC jV.out 0; have Qs7 := qC jV.out 1; have Qs8 := qC jV.out 2) | ((with_reducible refine qS7 (t := 51) (p := 11) rfl ?_); refine qM4 (t := 51) (p := 11) (v := ?vo_w39) (w1 := (((w36.setCell ⟨qP, 0, none⟩ (.bool ((qG ((qD t200 qO).f3) j4).f0))).setCell ⟨qP, 1, none⟩ (.int .i64 ((qG ((qD t200 qO).f3) j4).f1))).setCell ⟨qP, 2, none⟩ (.int .i64 ((qG ((qD t200 qO).f3) j4).f2)))) ?hg ?ho ?hn ?hr ?_; (case ho => rfl); (case hg => rfl); (case hn => rfl); (case hr => first | (go_simp; done) | (go_simp; rfl)); intro w39 hw; have n0_ : q8 (Kd.V k55 55 w39 w.heap.size (fun k_ => (P0_ k_ ∨ w.heap.size ≤ k_) ∧ some k_ ≠ (u3 : Value).ownBlock ∧ some k_ ≠ (.slice (some jS) t200.length qg8 : Value).ownBlock ∧ some k_ ≠ (v219 : Value).ownBlock ∧ some k_ ≠ (u6 : Value).ownBlock ∧ some k_ ≠ (u7 : Value).ownBlock ∧ some k_ ≠ (u217003 : Value).ownBlock ∧ k_ ≠ qH ∧ k_ ≠ qP) (.slice A0 l0.length c0) l0) := ⟨(by rw [hw]; exact (by (with_reducible repeat (first | apply Kd.jO | apply Kd.jP | apply Kd.z8)); exact Kd.zJ (Kd.qf5 (p := ⟨qP, 2, none⟩) (Kd.qf5 (p := ⟨qP, 1, none⟩) (Kd.qf5 (p := ⟨qP, 0, none⟩) (Kd.zJ zZ.out (fun k_ hk => (⟨hk, hk.2⟩ : _ ∧ k_ ≠ qP))) (fun _ hk => hk.2) (.bool ((qG ((qD t200 qO).f3) j4).f0))) (fun _ hk => hk.2) (.int .i64 ((qG ((qD t200 qO).f3) j4).f1))) (fun _ hk => hk.2) (.int .i64 ((qG ((qD t200 qO).f3) j4).f2))) (fun _ hk => ⟨hk.1.1.1, ⟨hk.1.1.2.1, ⟨hk.1.1.2.2.1, ⟨hk.1.1.2.2.2.1, ⟨hk.1.1.2.2.2.2.1, ⟨hk.1.1.2.2.2.2.2.1, ⟨hk.1.1.2.2.2.2.2.2.1, ⟨hk.1.1.2.2.2.2.2.2.2, hk.1.2⟩⟩⟩⟩⟩⟩⟩⟩)))⟩; have n1_ : q8 (Kd.N k55 55 w39 w.heap.size (fun k_ => (P0_ k_ ∨ w.heap.size ≤ k_) ∧ some k_ ≠ (.slice (some jS) t200.length qg8 : Value).ownBlock ∧ some k_ ≠ (v219 : Value).ownBlock ∧ some k_ ≠ (u6 : Value).ownBlock ∧ some k_ ≠ (u7 : Value).ownBlock ∧ some k_ ≠ (u217003 : Value).ownBlock ∧ k_ ≠ qH ∧ k_ ≠ qP) u3 qk2) := ⟨(by rw [hw]; exact (by (with_reducible repeat (first | apply Kd.jC | apply Kd.jD | apply Kd.jG)); exact Kd.jZ (Kd.qg3 (p := ⟨qP, 2, none⟩) (Kd.qg3 (p := ⟨qP, 1, none⟩) (Kd.qg3 (p := ⟨qP, 0, none⟩) (Kd.jZ qa5.out (fun k_ hk => (⟨hk, hk.2⟩ : _ ∧ k_ ≠ qP))) (fun _ hk => hk.2) (.bool ((qG ((qD t200 qO).f3) j4).f0))) (fun _ hk => hk.2) (.int .i64 ((qG ((qD t200 qO).f3) j4).f1))) (fun _ hk => hk.2) (.int .i64 ((qG ((qD t200 qO).f3) j4).f2))) (fun _ hk => ⟨hk.1.1.1, ⟨hk.1.1.2.1, ⟨hk.1.1.2.2.1, ⟨hk.1.1.2.2.2.1, ⟨hk.1.1.2.2.2.2.1, ⟨hk.1.1.2.2.2.2.2.1, ⟨hk.1.1.2.2.2.2.2.2, hk.1.2⟩⟩⟩⟩⟩⟩⟩)))⟩; have n2_ : q8 (Kd.N k55 55 w39 w.heap.size (fun k_ => (P0_ k_ ∨ w.heap.size ≤ k_) ∧ some k_ ≠ (u3 : Value).ownBlock ∧ some k_ ≠ (v219 : Value).ownBlock ∧ some k_ ≠ (u6 : Value).ownBlock ∧ some k_ ≠ (u7 : Value).ownBlock ∧ some k_ ≠ (u217003 : Value).ownBlock ∧ k_ ≠ qH ∧ k_ ≠ qP) (.slice (some jS) t200.length qg8) t200) := ⟨(by rw [hw]; exact (by (with_reducible repeat (first | apply Kd.jC | apply Kd.jD | apply Kd.jG)); exact Kd.jZ (Kd.qg3 (p := ⟨qP, 2, none⟩) (Kd.qg3 (p := ⟨qP, 1, none⟩) (Kd.qg3 (p := ⟨qP, 0, none⟩) (Kd.jZ qV.out (fun k_ hk => (⟨hk, hk.2⟩ : _ ∧ k_ ≠ qP))) (fun _ hk => hk.2) (.bool ((qG ((qD t200 qO).f3) j4).f0))) (fun _ hk => hk.2) (.int .i64 ((qG ((qD t200 qO).f3) j4).f1))) (fun _ hk => hk.2) (.int .i64 ((qG ((qD t200 qO).f3) j4).f2))) (fun _ hk => ⟨hk.1.1.1, ⟨hk.1.1.2.1, ⟨hk.1.1.2.2.1, ⟨hk.1.1.2.2.2.1, ⟨hk.1.1.2.2.2.2.1, ⟨hk.1.1.2.2.2.2.2.1, ⟨hk.1.1.2.2.2.2.2.2, hk.1.2⟩⟩⟩⟩⟩⟩⟩)))⟩; have n3_ : q8 (Kd.R (Kd.int .i64) 3 w39 w.heap.size (fun k_ => (w.heap.size ≤ k_) ∧ some k_ ≠ (u6 : Value).ownBlock ∧ some k_ ≠ (u7 : Value).ownBlock) v219 t218) := ⟨(by rw [hw]; exact (by (with_reducible repeat (first | apply Kd.qW | apply Kd.qX | apply Kd.jB)); exact Kd.jK (Kd.zK (p := ⟨qP, 2, none⟩) (Kd.zK (p := ⟨qP, 1, none⟩) (Kd.zK (p := ⟨qP, 0, none⟩) (Kd.qb4 qc0.out jV.out (by decide)) (fun _ hk => hk.2) (.bool ((qG ((qD t200 qO).f3) j4).f0))) (fun _ hk => hk.2) (.int .i64 ((qG ((qD t200 qO).f3) j4).f1))) (fun _ hk => hk.2) (.int .i64 ((qG ((qD t200 qO).f3) j4).f2))) (fun _ hk => ⟨hk.1.1, ⟨hk.1.2.1, hk.1.2.2⟩⟩)))⟩; have n4_ : q8 (Kd.R (Kd.int .i64) 3 w39 w.heap.size (fun k_ => (w.heap.size ≤ k_) ∧ some k_ ≠ (v219 : Value).ownBlock ∧ some k_ ≠ (u7 : Value).ownBlock) u6 qe3) := ⟨(by rw [hw]; exact (by (with_reducible repeat (first | apply Kd.qW | apply Kd.qX | apply Kd.jB)); exact Kd.jK (Kd.zK (p := ⟨qP, 2, none⟩) (Kd.zK (p := ⟨qP, 1, none⟩) (Kd.zK (p := ⟨qP, 0, none⟩) (Kd.qb4 qe7.out jV.out (by decide)) (fun _ hk => hk.2) (.bool ((qG ((qD t200 qO).f3) j4).f0))) (fun _ hk => hk.2) (.int .i64 ((qG ((qD t200 qO).f3) j4).f1))) (fun _ hk => hk.2) (.int .i64 ((qG ((qD t200 qO).f3) j4).f2))) (fun _ hk => ⟨hk.1.1, ⟨hk.1.2.1, hk.1.2.2⟩⟩)))⟩; have n5_ : q8 (Kd.R (Kd.int .i64) 3 w39 w.heap.size (fun k_ => (w.heap.size ≤ k_) ∧ some k_ ≠ (v219 : Value).ownBlock ∧ some k_ ≠ (u6 : Value).ownBlock) u7 qf4) := ⟨(by rw [hw]; exact (by (with_reducible repeat (first | apply Kd.qW | apply Kd.qX | apply Kd.jB)); exact Kd.jK (Kd.zK (p := ⟨qP, 2, none⟩) (Kd.zK (p := ⟨qP, 1, none⟩) (Kd.zK (p := ⟨qP, 0, none⟩) (Kd.qb4 qc8.out jV.out (by decide)) (fun _ hk => hk.2) (.bool ((qG ((qD t200 qO).f3) j4).f0))) (fun _ hk => hk.2) (.int .i64 ((qG ((qD t200 qO).f3) j4).f1))) (fun _ hk => hk.2) (.int .i64 ((qG ((qD t200 qO).f3) j4).f2))) (fun _ hk => ⟨hk.1.1, ⟨hk.1.2.1, hk.1.2.2⟩⟩)))⟩; have n6_ : q8 (Kd.R k51 51 w39 w.heap.size (fun k_ => (w.heap.size ≤ k_) ∧ k_ ≠ qP) u217003 zV) := ⟨(by rw [hw]; exact (by (with_reducible repeat (first | apply Kd.qW | apply Kd.qX | apply Kd.jB)); exact Kd.jK (Kd.zK (p := ⟨qP, 2, none⟩) (Kd.zK (p := ⟨qP, 1, none⟩) (Kd.zK (p := ⟨qP, 0, none⟩) (Kd.jK jR.out (fun k_ hk => (⟨hk, hk.2⟩ : _ ∧ k_ ≠ qP))) (fun _ hk => hk.2) (.bool ((qG ((qD t200 qO).f3) j4).f0))) (fun _ hk => hk.2) (.int .i64 ((qG ((qD t200 qO).f3) j4).f1))) (fun _ hk => hk.2) (.int .i64 ((qG ((qD t200 qO).f3) j4).f2))) (fun _ hk => ⟨hk.1.1, hk.1.2⟩)))⟩; have n7_ : q8 (Kd.V k51 51 w39 w.heap.size (fun k_ => (P0_ k_ ∨ w.heap.size ≤ k_) ∧ some k_ ≠ (u3 : Value).ownBlock ∧ some k_ ≠ (.slice (some jS) t200.length qg8 : Value).ownBlock ∧ some k_ ≠ (v219 : Value).ownBlock ∧ some k_ ≠ (u6 : Value).ownBlock ∧ some k_ ≠ (u7 : Value).ownBlock ∧ some k_ ≠ (u217003 : Value).ownBlock ∧ k_ ≠ qH ∧ k_ ≠ qP) (.slice (some jP8) ((qD t200 qO).f3).length jf1) ((qD t200 qO).f3)) := ⟨(by rw [hw]; exact (by (with_reducible repeat (first | apply Kd.jO | apply Kd.jP | apply Kd.z8)); exact Kd.zJ (Kd.qf5 (p := ⟨qP, 2, none⟩) (Kd.qf5 (p := ⟨qP, 1, none⟩) (Kd.qf5 (p := ⟨qP, 0, none⟩) (Kd.zJ qg9.out (fun k_ hk => (⟨hk, hk.2⟩ : _ ∧ k_ ≠ qP))) (fun _ hk => hk.2) (.bool ((qG ((qD t200 qO).f3) j4).f0))) (fun _ hk => hk.2) (.int .i64 ((qG ((qD t200 qO).f3) j4).f1))) (fun _ hk => hk.2) (.int .i64 ((qG ((qD t200 qO).f3) j4).f2))) (fun _ hk => ⟨hk.1.1.1.1, ⟨hk.1.1.1.2.1, ⟨hk.1.1.2, ⟨hk.1.1.1.2.2.1, ⟨hk.1.1.1.2.2.2.1, ⟨hk.1.1.1.2.2.2.2.1, ⟨hk.1.1.1.2.2.2.2.2.1, ⟨hk.1.1.1.2.2.2.2.2.2, hk.1.2⟩⟩⟩⟩⟩⟩⟩⟩)))⟩; have n8_ : q8 (Kd.V k51 51 w39 w.heap.size (fun k_ => (P0_ k_ ∨ w.heap.size ≤ k_) ∧ some k_ ≠ (u3 : Value).ownBlock ∧ some k_ ≠ (.slice (some jS) t200.length qg8 : Value).ownBlock ∧ some k_ ≠ (v219 : Value).ownBlock ∧ some k_ ≠ (u6 : Value).ownBlock ∧ some k_ ≠ (u7 : Value).ownBlock ∧ some k_ ≠ (u217003 : Value).ownBlock ∧ k_ ≠ qH ∧ k_ ≠ qP) (.slice (some jP8) ((qD t200 qO).f3).length jf1) ((qD t200 qO).f3)) := ⟨(by rw [hw]; exact (by (with_reducible repeat (first | apply Kd.jO | apply Kd.jP | apply Kd.z8)); exact Kd.zJ (Kd.qf5 (p := ⟨qP, 2, none⟩) (Kd.qf5 (p := ⟨qP, 1, none⟩) (Kd.qf5 (p := ⟨qP, 0, none⟩) (Kd.zJ ql4.out (fun k_ hk => (⟨hk, hk.2⟩ : _ ∧ k_ ≠ qP))) (fun _ hk => hk.2) (.bool ((qG ((qD t200 qO).f3) j4).f0))) (fun _ hk => hk.2) (.int .i64 ((qG ((qD t200 qO).f3) j4).f1))) (fun _ hk => hk.2) (.int .i64 ((qG ((qD t200 qO).f3) j4).f2))) (fun _ hk => ⟨hk.1.1.1.1, ⟨hk.1.1.1.2.1, ⟨hk.1.1.2, ⟨hk.1.1.1.2.2.1, ⟨hk.1.1.1.2.2.2.1, ⟨hk.1.1.1.2.2.2.2.1, ⟨hk.1.1.1.2.2.2.2.2.1, ⟨hk.1.1.1.2.2.2.2.2.2, hk.1.2⟩⟩⟩⟩⟩⟩⟩⟩)))⟩; have n9_ : q8 (w39.heap[qH]? = some (.cells #[.int .i64 t221, .int .i64 t213, .int .i64 t215, u217003] 55 (0, 0))) := ⟨(by rw [hw]; exact (by (with_reducible repeat (first | refine qI ?_ _ | refine qR ?_ | refine qJ ?_ _)); refine qj4 ?_ qh8.out _; (with_reducible repeat (first | refine qI ?_ _ | refine qR ?_ | refine qJ ?_ _)); refine qj4 ?_ qh8.out _; (with_reducible repeat (first | refine qI ?_ _ | refine qR ?_ | refine qJ ?_ _)); refine qj4 ?_ qh8.out _; (with_reducible repeat (first | refine qI ?_ _ | refine qR ?_ | refine qJ ?_ _)); exact jE.out))⟩; have qA7 : q8 (w39.heap[qP]? = some (.cells #[.bool ((qG ((qD t200 qO).f3) j4).f0), .int .i64 ((qG ((qD t200 qO).f3) j4).f1), .int .i64 ((qG ((qD t200 qO).f3) j4).f2)] 51 (0, 0))) := ⟨(by rw [hw]; exact (by (with_reducible repeat (first | refine qI ?_ _ | refine qR ?_ | refine qJ ?_ _)); refine qd4 (cs := #[.bool ((qG ((qD t200 qO).f3) j4).f0), .int .i64 ((qG ((qD t200 qO).f3) j4).f1), .int .i64 0]) ?_ 2 _ rfl; (with_reducible repeat (first | refine qI ?_ _ | refine qR ?_ | refine qJ ?_ _)); refine qd4 (cs := #[.bool ((qG ((qD t200 qO).f3) j4).f0), .int .i64 0, .int .i64 0]) ?_ 1 _ rfl; (with_reducible repeat (first | refine qI ?_ _ | refine qR ?_ | refine qJ ?_ _)); refine qd4 (cs := #[.bool false, .int .i64 0, .int .i64 0]) ?_ 0 _ rfl; (with_reducible repeat (first | refine qI ?_ _ | refine qR ?_ | refine qJ ?_ _)); exact jV.out))⟩; have qA8 : q8 (Below w.heap.size w w39) := ⟨(by rw [hw]; exact (by repeat (first | (with_reducible first | exact HB.out | apply qA | apply q9 | apply qB | refine qK ?_ qe8.out | refine qK ?_ qu8.out) | exact HB.out)))⟩; clear hw; clear zZ; clear qa5; clear qV; clear qc0; clear qe7; clear qc8; clear jR; clear qg9; clear ql4; clear jE; clear jV; clear HB; have zZ := n0_; have qa5 := n1_; have qV := n2_; have qc0 := n3_; have qe7 := n4_; have qc8 := n5_; have jR := n6_; have qg9 := n7_; have ql4 := n8_; have jE := n9_; have jV := qA7; have HB := qA8; clear n0_ n1_ n2_ n3_ n4_ n5_ n6_ n7_ n8_ n9_ qA7 qA8; have Qs9 : w39.cell? ⟨qP, 0, none⟩ = some (.bool ((qG ((qD t200 qO).f3) j4).f0)) := (qE jV.out 0).trans rfl; have Qt0 : w39.cell? ⟨qP, 1, none⟩ = some (.int .i64 ((qG ((qD t200 qO).f3) j4).f1)) := (qE jV.out 1).trans rfl; have Qt1 : w39.cell? ⟨qP, 2, none⟩ = some (.int .i64 ((qG ((qD t200 qO).f3) j4).f2)) := (qE jV.out 2).trans rfl; have Qt2 := qC jV.out 0; have Qt3 := qC jV.out 1; have Qt4 := qC jV.out 2; obtain ⟨Qa1, Qa2, eo41⟩ := Kd.qs9 qe7.out; subst eo41) | ((with_reducible refine qj0 (f := 45) rfl ?_); refine qH3 (some 72) rfl rfl Try.func45 (by kernel_rfl) rfl #[.slice Qa1 qe3.length Qa2, .int .i64 ((qG ((qD t200 qO).f3) j4).f1)] rfl (by (try simp only [List.map_toArray, List.map_cons, List.map_nil]); first | done | rfl | (simp only [List.length_drop, List.length_take]; rfl)) ?_; (with_reducible refine (jA.calls k2 (fun k_ => some k_ = (.slice Qa1 qe3.length Qa2 : Value).ownBlock) (.slice Qa1 qe3.length Qa2) qe3 ((qG ((qD t200 qO).f3) j4).f1) t229 t232 w _ ?qt1 ?qw3 A33.out).mono ?_); (case qt1 => repeat (first | (with_reducible first | exact HB.out | apply qA | apply q9 | apply qB | refine qK ?_ qe8.out | refine qK ?_ qu8.out) | exact HB.out)); (case qw3 => exact Kd.qY6 rfl qe7.out); rintro e w42 ⟨v230, rfl, ho0, hb, hkp⟩; refine ⟨_, rfl, ?_⟩; have n0_ := q8.mk (Kd.zJ (ok' := fun k_ => (P0_ k_ ∨ w.heap.size ≤ k_) ∧ some k_ ≠ (u3 : Value).ownBlock ∧ some k_ ≠ (.slice (some jS) t200.length qg8 : Value).ownBlock ∧ some k_ ≠ (v219 : Value).ownBlock ∧ some k_ ≠ (u7 : Value).ownBlock ∧ some k_ ≠ (u217003 : Value).ownBlock ∧ k_ ≠ qH ∧ k_ ≠ qP ∧ some k_ ≠ (v230 : Value).ownBlock) (Kd.jk6 (zZ.out) hkp (fun k_ hk_ hs_ => (hk_.2.2.2.2.1) hs_)) (fun k_ hk_ => ⟨hk_.1.1, hk_.1.2.1, hk_.1.2.2.1, hk_.1.2.2.2.1, hk_.1.2.2.2.2.2.1, hk_.1.2.2.2.2.2.2.1, hk_.1.2.2.2.2.2.2.2.1, hk_.1.2.2.2.2.2.2.2.2, fun e_ => Or.elim (ho0.1 k_ e_.symm) (fun hs_ => hk_.2.1 hs_) (fun hn_ => Nat.not_le.2 hk_.2.2 hn_)⟩)); have n1_ := q8.mk (Kd.jZ (ok' := fun k_ => (P0_ k_ ∨ w.heap.size ≤ k_) ∧ some k_ ≠ (.slice (some jS) t200.length qg8 : Value).ownBlock ∧ some k_ ≠ (v219 : Value).ownBlock ∧ some k_ ≠ (u7 : Value).ownBlock ∧ some k_ ≠ (u217003 : Value).ownBlock ∧ k_ ≠ qH ∧ k_ ≠ qP ∧ some k_ ≠ (v230 : Value).ownBlock) (Kd.qC1 (qa5.out) hkp (fun k_ hk_ hs_ => (hk_.2.2.2.1) hs_)) (fun k_ hk_ => ⟨hk_.1.1, hk_.1.2.1, hk_.1.2.2.1, hk_.1.2.2.2.2.1, hk_.1.2.2.2.2.2.1, hk_.1.2.2.2.2.2.2.1, hk_.1.2.2.2.2.2.2.2, fun e_ => Or.elim (ho0.1 k_ e_.symm) (fun hs_ => hk_.2.1 hs_) (fun hn_ => Nat.not_le.2 hk_.2.2 hn_)⟩)); have n2_ := q8.mk (Kd.jZ (ok' := fun k_ => (P0_ k_ ∨ w.heap.size ≤ k_) ∧ some k_ ≠ (u3 : Value).ownBlock ∧ some k_ ≠ (v219 : Value).ownBlock ∧ some k_ ≠ (u7 : Value).ownBlock ∧ some k_ ≠ (u217003 : Value).ownBlock ∧ k_ ≠ qH ∧ k_ ≠ qP ∧ some k_ ≠ (v230 : Value).ownBlock) (Kd.qC1 (qV.out) hkp (fun k_ hk_ hs_ => (hk_.2.2.2.1) hs_)) (fun k_ hk_ => ⟨hk_.1.1, hk_.1.2.1, hk_.1.2.2.1, hk_.1.2.2.2.2.1, hk_.1.2.2.2.2.2.1, hk_.1.2.2.2.2.2.2.1, hk_.1.2.2.2.2.2.2.2, fun e_ => Or.elim (ho0.1 k_ e_.symm) (fun hs_ => hk_.2.1 hs_) (fun hn_ => Nat.not_le.2 hk_.2.2 hn_)⟩)); have n3_ := q8.mk (Kd.jK (ok' := fun k_ => (w.heap.size ≤ k_) ∧ some k_ ≠ (u7 : Value).ownBlock ∧ some k_ ≠ (v230 : Value).ownBlock) (Kd.qt2 (qc0.out) hkp (fun k_ hk_ hs_ => (hk_.2.1) hs_)) (fun k_ hk_ => ⟨hk_.1.1, hk_.1.2.2, fun e_ => Or.elim (ho0.1 k_ e_.symm) (fun hs_ => hk_.2.1 hs_) (fun hn_ => Nat.not_le.2 hk_.2.2 hn_)⟩)); have n4_ := q8.mk (Kd.jK (ok' := fun k_ => (w.heap.size ≤ k_) ∧ some k_ ≠ (v219 : Value).ownBlock ∧ some k_ ≠ (v230 : Value).ownBlock) (Kd.qt2 (qc8.out) hkp (fun k_ hk_ hs_ => (hk_.2.2) hs_)) (fun k_ hk_ => ⟨hk_.1.1, hk_.1.2.1, fun e_ => Or.elim (ho0.1 k_ e_.symm) (fun hs_ => hk_.2.1 hs_) (fun hn_ => Nat.not_le.2 hk_.2.2 hn_)⟩)); have n5_ := q8.mk (Kd.jK (ok' := fun k_ => (w.heap.size ≤ k_) ∧ k_ ≠ qP) (Kd.qt2 ((Kd.qk3 jR.out (Kd.qj5 qe7.out) (by decide))) hkp (fun k_ hk_ hs_ => (hk_.2) hs_)) (fun k_ hk_ => ⟨hk_.1.1.1, hk_.1.1.2⟩)); have n6_ := q8.mk (qA9 (by (with_reducible repeat (first | refine qI ?_ _ | refine qR ?_ | refine qJ ?_ _)); exact jE.out) hkp (fun hs_ => (fun e_ => (Kd.jG4 qe7.out jE.out (by decide)) e_) hs_)); have n7_ := q8.mk (qA9 (by (with_reducible repeat (first | refine qI ?_ _ | refine qR ?_ | refine qJ ?_ _)); exact jV.out) hkp (fun hs_ => (fun e_ => (Kd.jG4 qe7.out jV.out (by decide)) e_) hs_)); have n8_ := q8.mk (Kd.jK (ok' := fun k_ => (w.heap.size ≤ k_) ∧ some k_ ≠ (v219 : Value).ownBlock ∧ some k_ ≠ (u7 : Value).ownBlock) ho0 (fun k_ hk_ => ⟨Or.elim hk_ (fun hs_ => (qe7.out.1 k_ (hs_).symm).1) (fun hn_ => (Nat.le_trans (qM (by repeat (first | (with_reducible first | exact HB.out | apply qA | apply q9 | apply qB | refine qK ?_ qe8.out | refine qK ?_ qu8.out) | exact HB.out))) hn_)), Or.elim hk_ (fun hs_ => fun e_ => (((qc0.out).1 k_ e_.symm).2.1) hs_) (fun hn_ => (Kd.fresh' (Kd.qK9 (by (with_reducible repeat (first | apply Kd.qW | apply Kd.qX | apply Kd.jB)); exact qc0.out)) k_ hn_)), Or.elim hk_ (fun hs_ => fun e_ => (((qc8.out).1 k_ e_.symm).2.2) hs_) (fun hn_ => (Kd.fresh' (Kd.qK9 (by (with_reducible repeat (first | apply Kd.qW | apply Kd.qX | apply Kd.jB)); exact qc8.out)) k_ hn_))⟩)); have n9_ := q8.mk (hb); clear zZ; clear qa5; clear qV; clear qc0; clear qc8; clear jR; clear jE; clear jV; clear HB; clear qe7; clear qg9; clear ql4; have zZ := n0_; have qa5 := n1_; have qV := n2_; have qc0 := n3_; have qc8 := n4_; have jR := n5_; have jE := n6_; have jV := n7_; have qw4 := n8_; have HB := n9_; clear n0_ n1_ n2_ n3_ n4_ n5_ n6_ n7_ n8_ n9_; (try clear hb); (try clear hkp); (try clear ho0); have Qt5 : w42.cell? ⟨qP, 0, none⟩ = some (.bool ((qG ((qD t200 qO).f3) j4).f0)) := (qE jV.out 0).trans rfl; have Qt6 : w42.cell? ⟨qP, 1, none⟩ = some (.int .i64 ((qG ((qD t200 qO).f3) j4).f1)) := (qE jV.out 1).trans rfl; have Qt7 : w42.cell? ⟨qP, 2, none⟩ = some (.int .i64 ((qG ((qD t200 qO).f3) j4).f2)) := (qE jV.out 2).trans rfl; have Qt8 := qC jV.out 0; have Qt9 := qC jV.out 1; have Qu0 := qC jV.out 2; have Qu1 : w42.cell? ⟨qH, 0, none⟩ = some (.int .i64 t221) := (qE jE.out 0).trans rfl; have Qu2 : w42.cell? ⟨qH, 1, none⟩ = some (.int .i64 t213) := (qE jE.out 1).trans rfl; have Qu3 : w42.cell? ⟨qH, 2, none⟩ = some (.int .i64 t215) := (qE jE.out 2).trans rfl; have Qu4 : w42.cell? ⟨qH, 3, none⟩ = some (u217003) := (qE jE.out 3).trans rfl; have Qu5 := qC jE.out 0; have Qu6 := qC jE.out 1; have Qu7 := qC jE.out 2; have Qu8 := qC jE.out 3) | ((with_reducible refine ql1 (b := .append) (xs := #[.tmp 92, .tmp 94]) rfl ?_); at_builtin; refine Kd.qY0 k51 (w0 := w) w.heap.size rfl (.tmp 92) (.tmp 94) 53 51 (.agg #[(.bool false), (.int .i64 0), (.int .i64 0)]) 24 rfl Try.underlying53 zu7 rfl (by decide) (by omega) u217003 zV (⟨(qG ((qD t200 qO).f3) j4).f0, t232, (qG ((qD t200 qO).f3) j4).f2⟩ : S51) [.bool ((qG ((qD t200 qO).f3) j4).f0), .int .i64 t232, .int .i64 ((qG ((qD t200 qO).f3) j4).f2)] (fun k_ => (w.heap.size ≤ k_) ∧ k_ ≠ qP) (fun _ => False) rfl (by first | (go_simp; done) | (go_simp; rfl)) ?aP (fun _ hk => hk.elim) ?aF ?aO ?aB ?aS ?aL ?_; (case aP => exact zj2 _ _ _ (⟨(qG ((qD t200 qO).f3) j4).f0, t232, (qG ((qD t200 qO).f3) j4).f2⟩ : S51)); (case aB => exact (by repeat (first | (with_reducible first | exact HB.out | apply qA | apply q9 | apply qB | refine qK ?_ qe8.out | refine qK ?_ qu8.out) | exact HB.out))); (case aF => exact (fun k_ hk => ⟨(Nat.le_trans (qM (by repeat (first | (with_reducible first | exact HB.out | apply qA | apply q9 | apply qB | refine qK ?_ qe8.out | refine qK ?_ qu8.out) | exact HB.out))) hk), Kd.za1 (g := qP) (o := .cells #[.bool ((qG ((qD t200 qO).f3) j4).f0), .int .i64 t232, .int .i64 ((qG ((qD t200 qO).f3) j4).f2)] 51 (0, 0)) (by (with_reducible repeat (first | refine qI ?_ _ | refine qR ?_ | refine qJ ?_ _)); refine qd4 (cs := #[.bool ((qG ((qD t200 qO).f3) j4).f0), .int .i64 ((qG ((qD t200 qO).f3) j4).f1), .int .i64 ((qG ((qD t200 qO).f3) j4).f2)]) ?_ 1 _ rfl; (with_reducible repeat (first | refine qI ?_ _ | refine qR ?_ | refine qJ ?_ _)); exact jV.out) k_ hk⟩)); (case aO => exact (by (with_reducible repeat (first | apply Kd.qW | apply Kd.qX | apply Kd.jB)); exact Kd.jK (Kd.zK (p := ⟨qP, 1, none⟩) (Kd.jK jR.out (fun k_ hk => (⟨hk, hk.2⟩ : _ ∧ k_ ≠ qP))) (fun _ hk => hk.2) (.int .i64 t232)) (fun _ hk => ⟨hk.1.1, hk.1.2⟩))); (case aS => exact (qM (by repeat (first | (with_reducible first | exact HB.out | apply qA | apply q9 | apply qB | refine qK ?_ qe8.out | refine qK ?_ qu8.out) | exact HB.out)))); (case aL => have := Ql6.out; omega); intro v234 w45 ho hb hg hat; rw [← Ql7.out] at ho; have n0_ := q8.mk (Kd.qm6 (ok := (fun k_ => (P0_ k_ ∨ w.heap.size ≤ k_) ∧ some k_ ≠ (u3 : Value).ownBlock ∧ some k_ ≠ (.slice (some jS) t200.length qg8 : Value).ownBlock ∧ some k_ ≠ (v219 : Value).ownBlock ∧ some k_ ≠ (u7 : Value).ownBlock ∧ some k_ ≠ (v230 : Value).ownBlock ∧ k_ ≠ qH ∧ k_ ≠ qP)) (by (with_reducible repeat (first | apply Kd.jO | apply Kd.jP | apply Kd.z8)); exact Kd.zJ (Kd.qf5 (p := ⟨qP, 1, none⟩) (Kd.zJ zZ.out (fun k_ hk => (⟨hk, hk.2.2.2.2.2.2.2.1⟩ : _ ∧ k_ ≠ qP))) (fun _ hk => hk.2) (.int .i64 t232)) (fun _ hk => ⟨⟨hk.1.1, ⟨hk.1.2.1, ⟨hk.1.2.2.1, ⟨hk.1.2.2.2.1, ⟨hk.1.2.2.2.2.1, ⟨hk.1.2.2.2.2.2.2.2.2, ⟨hk.1.2.2.2.2.2.2.1, hk.1.2.2.2.2.2.2.2.1⟩⟩⟩⟩⟩⟩⟩, hk.1.2.2.2.2.2.1⟩)) hg hat); have n1_ := q8.mk (Kd.qo5 (ok := (fun k_ => (P0_ k_ ∨ w.heap.size ≤ k_) ∧ some k_ ≠ (.slice (some jS) t200.length qg8 : Value).ownBlock ∧ some k_ ≠ (v219 : Value).ownBlock ∧ some k_ ≠ (u7 : Value).ownBlock ∧ some k_ ≠ (v230 : Value).ownBlock ∧ k_ ≠ qH ∧ k_ ≠ qP)) (by (with_reducible repeat (first | apply Kd.jC | apply Kd.jD | apply Kd.jG)); exact Kd.jZ (Kd.qg3 (p := ⟨qP, 1, none⟩) (Kd.jZ qa5.out (fun k_ hk => (⟨hk, hk.2.2.2.2.2.2.1⟩ : _ ∧ k_ ≠ qP))) (fun _ hk => hk.2) (.int .i64 t232)) (fun _ hk => ⟨⟨hk.1.1, ⟨hk.1.2.1, ⟨hk.1.2.2.1, ⟨hk.1.2.2.2.1, ⟨hk.1.2.2.2.2.2.2.2, ⟨hk.1.2.2.2.2.2.1, hk.1.2.2.2.2.2.2.1⟩⟩⟩⟩⟩⟩, hk.1.2.2.2.2.1⟩)) hg hat); have n2_ := q8.mk (Kd.qo5 (ok := (fun k_ => (P0_ k_ ∨ w.heap.size ≤ k_) ∧ some k_ ≠ (u3 : Value).ownBlock ∧ some k_ ≠ (v219 : Value).ownBlock ∧ some k_ ≠ (u7 : Value).ownBlock ∧ some k_ ≠ (v230 : Value).ownBlock ∧ k_ ≠ qH ∧ k_ ≠ qP)) (by (with_reducible repeat (first | apply Kd.jC | apply Kd.jD | apply Kd.jG)); exact Kd.jZ (Kd.qg3 (p := ⟨qP, 1, none⟩) (Kd.jZ qV.out (fun k_ hk => (⟨hk, hk.2.2.2.2.2.2.1⟩ : _ ∧ k_ ≠ qP))) (fun _ hk => hk.2) (.int .i64 t232)) (fun _ hk => ⟨⟨hk.1.1, ⟨hk.1.2.1, ⟨hk.1.2.2.1, ⟨hk.1.2.2.2.1, ⟨hk.1.2.2.2.2.2.2.2, ⟨hk.1.2.2.2.2.2.1, hk.1.2.2.2.2.2.2.1⟩⟩⟩⟩⟩⟩, hk.1.2.2.2.2.1⟩)) hg hat); have n3_ := q8.mk (Kd.qz2 (by (with_reducible repeat (first | apply Kd.qW | apply Kd.qX | apply Kd.jB)); exact (Kd.jK (Kd.zK (p := ⟨qP, 1, none⟩) (Kd.qb4 qc0.out jV.out (by decide)) (fun _ hk => hk.2) (.int .i64 t232)) (fun _ h_ => h_.1))) (Kd.qj5 (by (with_reducible repeat (first | apply Kd.qW | apply Kd.qX | apply Kd.jB)); exact (Kd.jK (Kd.zK (p := ⟨qP, 1, none⟩) (Kd.jK jR.out (fun k_ hk => (⟨hk, hk.2⟩ : _ ∧ k_ ≠ qP))) (fun _ hk => hk.2) (.int .i64 t232)) (fun _ h_ => h_.1)))) (by decide) hg); have n4_ := q8.mk (Kd.qz2 (by (with_reducible repeat (first | apply Kd.qW | apply Kd.qX | apply Kd.jB)); exact (Kd.jK (Kd.zK (p := ⟨qP, 1, none⟩) (Kd.qb4 qc8.out jV.out (by decide)) (fun _ hk => hk.2) (.int .i64 t232)) (fun _ h_ => h_.1))) (Kd.qj5 (by (with_reducible repeat (first | apply Kd.qW | apply Kd.qX | apply Kd.jB)); exact (Kd.jK (Kd.zK (p := ⟨qP, 1, none⟩) (Kd.jK jR.out (fun k_ hk => (⟨hk, hk.2⟩ : _ ∧ k_ ≠ qP))) (fun _ hk => hk.2) (.int .i64 t232)) (fun _ h_ => h_.1)))) (by decide) hg); have n5_ := q8.mk (qF0 (g := qH) (o := .cells #[.int .i64 t221, .int .i64 t213, .int .i64 t215, u217003] 55 (0, 0)) (by (with_reducible repeat (first | refine qI ?_ _ | refine qR ?_ | refine qJ ?_ _)); refine qj4 ?_ qh8.out _; (with_reducible repeat (first | refine qI ?_ _ | refine qR ?_ | refine qJ ?_ _)); exact jE.out) hg (Kd.jG4 jR.out jE.out (by decide))); have n6_ := q8.mk (qF0 (g := qP) (o := .cells #[.bool ((qG ((qD t200 qO).f3) j4).f0), .int .i64 t232, .int .i64 ((qG ((qD t200 qO).f3) j4).f2)] 51 (0, 0)) (by (with_reducible repeat (first | refine qI ?_ _ | refine qR ?_ | refine qJ ?_ _)); refine qd4 (cs := #[.bool ((qG ((qD t200 qO).f3) j4).f0), .int .i64 ((qG ((qD t200 qO).f3) j4).f1), .int .i64 ((qG ((qD t200 qO).f3) j4).f2)]) ?_ 1 _ rfl; (with_reducible repeat (first | refine qI ?_ _ | refine qR ?_ | refine qJ ?_ _)); exact jV.out) hg (Kd.zy6 jR.out (fun _ hk => hk.2))); have n7_ := q8.mk (Kd.qz2 (by (with_reducible repeat (first | apply Kd.qW | apply Kd.qX | apply Kd.jB)); exact (Kd.jK (Kd.zK (p := ⟨qP, 1, none⟩) (Kd.qb4 qw4.out jV.out (by decide)) (fun _ hk => hk.2) (.int .i64 t232)) (fun _ h_ => h_.1))) (Kd.qj5 (by (with_reducible repeat (first | apply Kd.qW | apply Kd.qX | apply Kd.jB)); exact (Kd.jK (Kd.zK (p := ⟨qP, 1, none⟩) (Kd.jK jR.out (fun k_ hk => (⟨hk, hk.2⟩ : _ ∧ k_ ≠ qP))) (fun _ hk => hk.2) (.int .i64 t232)) (fun _ h_ => h_.1)))) (by decide) hg); have n8_ := q8.mk (hb); have n9_ := q8.mk (ho); clear zZ; clear qa5; clear qV; clear qc0; clear qc8; clear jE; clear jV; clear qw4; clear HB; clear jR; have zZ := n0_; have qa5 := n1_; have qV := n2_; have qc0 := n3_; have qc8 := n4_; have jE := n5_; have jV := n6_; have qw4 := n7_; have HB := n8_; have zU2 := n9_; clear n0_ n1_ n2_ n3_ n4_ n5_ n6_ n7_ n8_ n9_; clear ho hb hg hat; obtain ⟨jQ0, jQ1, eo46⟩ := Kd.qs9 zU2.out; subst eo46; have Qu9 : w45.cell? ⟨qH, 0, none⟩ = some (.int .i64 t221) := (qE jE.out 0).trans rfl; have Qv0 : w45.cell? ⟨qH, 1, none⟩ = some (.int .i64 t213) := (qE jE.out 1).trans rfl; have Qv1 : w45.cell? ⟨qH, 2, none⟩ = some (.int .i64 t215) := (qE jE.out 2).trans rfl; have Qv2 : w45.cell? ⟨qH, 3, none⟩ = some (u217003) := (qE jE.out 3).trans rfl; have Qv3 := qC jE.out 0; have Qv4 := qC jE.out 1; have Qv5 := qC jE.out 2; have Qv6 := qC jE.out 3))
             go_roundg k2
             case measure => have := HK1.out; have := HK2.out; omega
             case rel => exact ⟨(t229), (qf4), (wrap64 (j4 + 1)), (y233), (.slice jQ0 y233.length jQ1), (by first | rfl | (simp; done) | (simp [*]; done)), H', ⟨by have := HK1.out; have := HK2.out; omega⟩, ⟨by (with_reducible repeat (first | apply Kd.jO | apply Kd.jP | apply Kd.z8)); exact Kd.zJ (Kd.qf5 (p := ⟨qH, 3, none⟩) (Kd.zJ zZ.out (fun k_ hk => (⟨hk, hk.1.2.2.2.2.2.2.1⟩ : _ ∧ k_ ≠ qH))) (fun _ hk => hk.2) (.slice jQ0 y233.length jQ1)) (fun _ hk => ⟨hk.1.1.1, ⟨hk.1.1.2.1, ⟨hk.1.1.2.2.1, ⟨hk.1.1.2.2.2.1, ⟨hk.1.1.2.2.2.2.2.1, ⟨hk.1.1.2.2.2.2.1, ⟨hk.1.2, hk.1.1.2.2.2.2.2.2.1⟩⟩⟩⟩⟩⟩⟩)⟩, ⟨by (with_reducible repeat (first | apply Kd.jC | apply Kd.jD | apply Kd.jG)); exact Kd.jZ (Kd.qg3 (p := ⟨qH, 3, none⟩) (Kd.jZ qa5.out (fun k_ hk => (⟨hk, hk.1.2.2.2.2.2.1⟩ : _ ∧ k_ ≠ qH))) (fun _ hk => hk.2) (.slice jQ0 y233.length jQ1)) (fun _ hk => ⟨hk.1.1.1, ⟨hk.1.1.2.1, ⟨hk.1.1.2.2.1, ⟨hk.1.1.2.2.2.2.1, ⟨hk.1.1.2.2.2.1, ⟨hk.1.2, hk.1.1.2.2.2.2.2.1⟩⟩⟩⟩⟩⟩)⟩, ⟨by (with_reducible repeat (first | apply Kd.jC | apply Kd.jD | apply Kd.jG)); exact Kd.jZ (Kd.qg3 (p := ⟨qH, 3, none⟩) (Kd.jZ qV.out (fun k_ hk => (⟨hk, hk.1.2.2.2.2.2.1⟩ : _ ∧ k_ ≠ qH))) (fun _ hk => hk.2) (.slice jQ0 y233.length jQ1)) (fun _ hk => ⟨hk.1.1.1, ⟨hk.1.1.2.1, ⟨hk.1.1.2.2.1, ⟨hk.1.1.2.2.2.2.1, ⟨hk.1.1.2.2.2.1, ⟨hk.1.2, hk.1.1.2.2.2.2.2.1⟩⟩⟩⟩⟩⟩)⟩, ⟨by (with_reducible repeat (first | apply Kd.qW | apply Kd.qX | apply Kd.jB)); exact Kd.jK (Kd.zK (p := ⟨qH, 3, none⟩) (Kd.qb4 qc0.out jE.out (by decide)) (fun _ hk => hk.2) (.slice jQ0 y233.length jQ1)) (fun _ hk => ⟨hk.1.1, ⟨hk.1.2.2, hk.1.2.1⟩⟩)⟩, ⟨by (with_reducible repeat (first | apply Kd.qW | apply Kd.qX | apply Kd.jB)); exact Kd.jK (Kd.zK (p := ⟨qH, 3, none⟩) (Kd.qb4 qw4.out jE.out (by decide)) (fun _ hk => hk.2) (.slice jQ0 y233.length jQ1)) (fun _ hk => ⟨hk.1.1, ⟨hk.1.2.1, hk.1.2.2⟩⟩)⟩, ⟨by (with_reducible repeat (first | apply Kd.qW | apply Kd.qX | apply Kd.jB)); exact Kd.jK (Kd.zK (p := ⟨qH, 3, none⟩) (Kd.qb4 qc8.out jE.out (by decide)) (fun _ hk => hk.2) (.slice jQ0 y233.length jQ1)) (fun _ hk => ⟨hk.1.1, ⟨hk.1.2.1, hk.1.2.2⟩⟩)⟩, ⟨by (with_reducible repeat (first | apply Kd.qW | apply Kd.qX | apply Kd.jB)); exact Kd.jK (Kd.zK (p := ⟨qH, 3, none⟩) (Kd.qb4 zU2.out jE.out (by decide)) (fun _ hk => hk.2) (.slice jQ0 y233.length jQ1)) (fun _ hk => hk.1.1)⟩, ⟨by (with_reducible repeat (first | refine qI ?_ _ | refine qR ?_ | refine qJ ?_ _)); refine qd4 (cs := #[.int .i64 t221, .int .i64 t213, .int .i64 t215, u217003]) ?_ 3 _ rfl; (with_reducible repeat (first | refine qI ?_ _ | refine qR ?_ | refine qJ ?_ _)); exact jE.out⟩, ⟨by repeat (first | (with_reducible first | exact HB.out | apply qA | apply q9 | apply qB | refine qK ?_ qe8.out | refine qK ?_ qu8.out) | exact HB.out)⟩⟩
            ·rw [if_neg c35] at H
             exact absurd H (by simp)
           ·rw [if_neg c34] at H
            have Ql4 : (((qG ((qD t200 qO).f3) j4).f2) == 0) = false := beq_eq_false_iff_ne.mpr c34
            have Ql5 : (((qG ((qD t200 qO).f3) j4).f2) != 0) = true := bne_iff_ne.mpr c34
            replace H := Option.bind_eq_some_iff.mp H
            obtain ⟨⟨t236, t239⟩, A480, H⟩ := H
            replace H : (if zV.length < 5864062014805 then (qL.l1 k2 l0 qk2 t200 t218 t229 t236 qO (wrap64 (j4 + 1)) t221 t213 t215 (zV ++ [(⟨(qG ((qD t200 qO).f3) j4).f0, t232, wrap64 (t239 + 1)⟩ : S51)])) else (none)) = some r := H
            have A48 := q8.mk A480
            clear A480
            by_cases c49 : zV.length < 5864062014805
            ·rw [if_pos c49] at H
             have Qm0 := q8.mk c49
             clear c49
             obtain ⟨y240, jQ2⟩ : ∃ y_ : List (S51), y_ = (zV ++ [(⟨(qG ((qD t200 qO).f3) j4).f0, t232, wrap64 (t239 + 1)⟩ : S51)]) := ⟨_, rfl⟩
             replace H : (qL.l1 k2 l0 qk2 t200 t218 t229 t236 qO (wrap64 (j4 + 1)) t221 t213 t215 y240) = some r := by first | (rw [jQ2]; with_reducible exact H) | (have H2_ := (Option.bind_some _ _).symm.trans H; rw [jQ2]; with_reducible exact H2_) | (have H2_ := (Option.bind_some _ _).symm.trans H; with_reducible exact H2_) | with_reducible exact H | (rw [jQ2]; exact H) | exact H
             have Qm1 := q8.mk jQ2
             clear jQ2
             have H' := q8.mk H
             clear H
             have qY7 : 0 ≤ (qO : Int) := of_decide_eq_true (by first | (with_reducible assumption) | assumption)
             have qY8 : qO < (t200.length : Int) := of_decide_eq_true (by first | (with_reducible assumption) | assumption)
             obtain ⟨jP7, zy0, jf1, e222, zi6, zi7, zi8, qH4, qC2, qC3⟩ := qa6 (Kd.zW qV.out).2.2 qO qY7 qY8
             obtain rfl : jS = jP7 := (by injection e222)
             obtain ⟨zU1, jo0, jo1, qM3⟩ := Kd.qE8 qV.out z55 qO qY7 (by first | exact qY8 | exact of_decide_eq_true (by first | (with_reducible assumption) | assumption) | (have e_ := (Kd.zW qV.out).1; omega))
             obtain ⟨zi9, zj0, rfl, qt3, qt4⟩ := qh7 jo1
             have qn5 := qM3 3 _ rfl
             rw [zO _ _ 3 (by omega)] at qn5
             replace qn5 := Option.some.inj (qn5.symm.trans qH4)
             injection qn5 with qm7 qx4 qm8
             rw [qm7] at qt4
             rw [qm8] at qt3
             have qg9 := q8.mk (show Kd.V k51 51 _ w.heap.size _ _ ((qD t200 qO).f3) from Kd.qP7 qt3 qt4)
             clear qm7 qx4 qm8 qt4 qt3
             clear qM3 jo0
             have qv8 := q8.mk qC3
             have zj1 := q8.mk qC2
             clear qC3 qC2
             replace qY7 := eq_true qY7
             replace qY8 := eq_true qY8
             have jG5 : 0 ≤ (qO : Int) := of_decide_eq_true (by first | (with_reducible assumption) | assumption)
             have jG6 : qO < (t200.length : Int) := of_decide_eq_true (by first | (with_reducible assumption) | assumption)
             obtain ⟨zy1, zZ9, Qa0, e226, zJ8, zJ9, zK0, qY9, qZ0, qZ1⟩ := qa6 (Kd.zW qV.out).2.2 qO jG5 jG6
             obtain rfl : jS = zy1 := (by injection e226)
             obtain ⟨Ql8, jZ7, jZ8, jo2⟩ := Kd.qE8 qV.out z55 qO jG5 (by first | exact jG6 | exact of_decide_eq_true (by first | (with_reducible assumption) | assumption) | (have e_ := (Kd.zW qV.out).1; omega))
             obtain ⟨zK1, zK2, rfl, qH5, qH6⟩ := qh7 jZ8
             have qz1 := jo2 3 _ rfl
             rw [zO _ _ 3 (by omega)] at qz1
             replace qz1 := Option.some.inj (qz1.symm.trans qY9)
             injection qz1 with qm7 qx4 qm8
             rw [qm7] at qH6
             rw [qm8] at qH5
             have ql4 := q8.mk (show Kd.V k51 51 _ w.heap.size _ _ ((qD t200 qO).f3) from Kd.qP7 qH5 qH6)
             clear qm7 qx4 qm8 qH6 qH5
             clear jo2 jZ7
             have qp2 := q8.mk qZ1
             have zK3 := q8.mk qZ0
             clear qZ1 qZ0
             replace jG5 := eq_true jG5
             replace jG6 := eq_true jG6
             have ea_ := Option.some.inj (qH4.symm.trans qY9)
             injection ea_ with ea_ en_ ec_
             subst ea_
             subst ec_
             clear en_
             have jZ9 : 0 ≤ (j4 : Int) := of_decide_eq_true (by first | (with_reducible assumption) | assumption)
             have za0 : j4 < (((qD t200 qO).f3).length : Int) := of_decide_eq_true (by first | (with_reducible assumption) | assumption)
             obtain ⟨jP8, e227, zK4, zK5, zK6⟩ := qr2 (by repeat (first | (with_reducible exact qp2.out) | (with_reducible refine Kd.qi2 ?_ _) | (with_reducible refine Kd.qi3 ?_ _) | (with_reducible refine Kd.qn2 ?_) | exact qp2.out)) j4 jZ9 za0
             cases e227
             replace jZ9 := eq_true jZ9
             replace za0 := eq_true za0
             go_wp2_with (first | ((with_reducible refine qa0 (N := 11) rfl ?_); refine qa7 ?hg (N := 11) ?hd (cs := #[.bool false, .int .i64 0, .int .i64 0]) (t := 51) ?hr ?_; (case hd => rfl); (case hg => rfl); (case hr => first | (go_simp; done) | (go_simp; rfl)); intro qP hg w50 qb5 hb; have n0_ := q8.mk (Kd.ql2 (Kd.qi0 (by (with_reducible repeat (first | apply Kd.jO | apply Kd.jP | apply Kd.z8)); exact zZ.out) qP (Nat.le_of_eq hg.symm)) hb); have n1_ := q8.mk (Kd.qn4 (Kd.qq7 (by (with_reducible repeat (first | apply Kd.jC | apply Kd.jD | apply Kd.jG)); exact qa5.out) qP (Nat.le_of_eq hg.symm)) hb); have n2_ := q8.mk (Kd.qn4 (Kd.qq7 (by (with_reducible repeat (first | apply Kd.jC | apply Kd.jD | apply Kd.jG)); exact qV.out) qP (Nat.le_of_eq hg.symm)) hb); have n3_ := q8.mk (Kd.qg2 (by (with_reducible repeat (first | apply Kd.qW | apply Kd.qX | apply Kd.jB)); exact qc0.out) hb); have n4_ := q8.mk (Kd.qg2 (by (with_reducible repeat (first | apply Kd.qW | apply Kd.qX | apply Kd.jB)); exact qe7.out) hb); have n5_ := q8.mk (Kd.qg2 (by (with_reducible repeat (first | apply Kd.qW | apply Kd.qX | apply Kd.jB)); exact qc8.out) hb); have n6_ := q8.mk (Kd.qg2 (Kd.jP9 (by (with_reducible repeat (first | apply Kd.qW | apply Kd.qX | apply Kd.jB)); exact jR.out) qP (Nat.le_of_eq hg.symm)) hb); have n7_ := q8.mk (Kd.ql2 (Kd.qi0 (by (with_reducible repeat (first | apply Kd.jO | apply Kd.jP | apply Kd.z8)); exact qg9.out) qP (Nat.le_of_eq hg.symm)) hb); have n8_ := q8.mk (Kd.ql2 (Kd.qi0 (by (with_reducible repeat (first | apply Kd.jO | apply Kd.jP | apply Kd.z8)); exact ql4.out) qP (Nat.le_of_eq hg.symm)) hb); have n9_ := q8.mk (qn1 (g := qH) (o := .cells #[.int .i64 t221, .int .i64 t213, .int .i64 t215, u217003] 55 (0, 0)) (by (with_reducible repeat (first | refine qI ?_ _ | refine qR ?_ | refine qJ ?_ _)); exact jE.out) hb); have qA7 := q8.mk (Kd.ql3 (by repeat (first | (with_reducible exact qv8.out) | (with_reducible refine Kd.qi2 ?_ _) | (with_reducible refine Kd.qi3 ?_ _) | (with_reducible refine Kd.qn2 ?_) | exact qv8.out)) hb); have qA8 := q8.mk (Kd.ql3 (by repeat (first | (with_reducible exact qp2.out) | (with_reducible refine Kd.qi2 ?_ _) | (with_reducible refine Kd.qi3 ?_ _) | (with_reducible refine Kd.qn2 ?_) | exact qp2.out)) hb); have qY4 := q8.mk (jM (by repeat (first | (with_reducible first | exact HB.out | apply qA | apply q9 | apply qB | refine qK ?_ qe8.out) | exact HB.out)) hb); have qY5 := q8.mk (qb5); have zy2 := q8.mk ((by rw [hg]; exact (qM (by repeat (first | (with_reducible first | exact HB.out | apply qA | apply q9 | apply qB | refine qK ?_ qe8.out) | exact HB.out))) : w.heap.size ≤ qP)); have zy3 := q8.mk ((by rw [hg]; exact (qM (by repeat (first | (with_reducible first | exact HB.out | apply qA | apply q9 | apply qB | refine qK ?_ qe8.out) | exact HB.out))) : w.heap.size ≤ qP)); have zy4 := q8.mk ((by rw [hg]; exact Nat.ne_of_lt (qt5 (g := qH) (o := .cells #[.int .i64 t221, .int .i64 t213, .int .i64 t215, u217003] 55 (0, 0)) (by (with_reducible repeat (first | refine qI ?_ _ | refine qR ?_ | refine qJ ?_ _)); exact jE.out)) : qH ≠ qP)); have zy5 := q8.mk ((by rw [hg]; exact Nat.ne_of_gt (qt5 (g := qH) (o := .cells #[.int .i64 t221, .int .i64 t213, .int .i64 t215, u217003] 55 (0, 0)) (by (with_reducible repeat (first | refine qI ?_ _ | refine qR ?_ | refine qJ ?_ _)); exact jE.out)) : qP ≠ qH)); clear zZ; clear qa5; clear qV; clear qc0; clear qe7; clear qc8; clear jR; clear qg9; clear ql4; clear jE; clear qv8; clear qp2; clear HB; have zZ := n0_; have qa5 := n1_; have qV := n2_; have qc0 := n3_; have qe7 := n4_; have qc8 := n5_; have jR := n6_; have qg9 := n7_; have ql4 := n8_; have jE := n9_; have qv8 := qA7; have qp2 := qA8; have HB := qY4; have jV := qY5; have Ql9 := zy2; have qu8 := zy3; have qh8 := zy4; have jf2 := zy5; clear n0_ n1_ n2_ n3_ n4_ n5_ n6_ n7_ n8_ n9_ qA7 qA8 qY4 qY5 zy2 zy3 zy4 zy5; clear hb qb5 hg; have hnb51 := jf2.out; have hnc51 := qh8.out; have Qv7 : w50.cell? ⟨qP, 0, none⟩ = some (.bool false) := (qE jV.out 0).trans rfl; have Qv8 : w50.cell? ⟨qP, 1, none⟩ = some (.int .i64 0) := (qE jV.out 1).trans rfl; have Qv9 : w50.cell? ⟨qP, 2, none⟩ = some (.int .i64 0) := (qE jV.out 2).trans rfl; have Qw0 := qC jV.out 0; have Qw1 := qC jV.out 1; have Qw2 := qC jV.out 2) | ((with_reducible refine qS7 (t := 51) (p := 11) rfl ?_); refine qM4 (t := 51) (p := 11) (v := ?vo_w53) (w1 := (((w50.setCell ⟨qP, 0, none⟩ (.bool ((qG ((qD t200 qO).f3) j4).f0))).setCell ⟨qP, 1, none⟩ (.int .i64 ((qG ((qD t200 qO).f3) j4).f1))).setCell ⟨qP, 2, none⟩ (.int .i64 ((qG ((qD t200 qO).f3) j4).f2)))) ?hg ?ho ?hn ?hr ?_; (case ho => rfl); (case hg => rfl); (case hn => rfl); (case hr => first | (go_simp; done) | (go_simp; rfl)); intro w53 hw; have n0_ : q8 (Kd.V k55 55 w53 w.heap.size (fun k_ => (P0_ k_ ∨ w.heap.size ≤ k_) ∧ some k_ ≠ (u3 : Value).ownBlock ∧ some k_ ≠ (.slice (some jS) t200.length qg8 : Value).ownBlock ∧ some k_ ≠ (v219 : Value).ownBlock ∧ some k_ ≠ (u6 : Value).ownBlock ∧ some k_ ≠ (u7 : Value).ownBlock ∧ some k_ ≠ (u217003 : Value).ownBlock ∧ k_ ≠ qH ∧ k_ ≠ qP) (.slice A0 l0.length c0) l0) := ⟨(by rw [hw]; exact (by (with_reducible repeat (first | apply Kd.jO | apply Kd.jP | apply Kd.z8)); exact Kd.zJ (Kd.qf5 (p := ⟨qP, 2, none⟩) (Kd.qf5 (p := ⟨qP, 1, none⟩) (Kd.qf5 (p := ⟨qP, 0, none⟩) (Kd.zJ zZ.out (fun k_ hk => (⟨hk, hk.2⟩ : _ ∧ k_ ≠ qP))) (fun _ hk => hk.2) (.bool ((qG ((qD t200 qO).f3) j4).f0))) (fun _ hk => hk.2) (.int .i64 ((qG ((qD t200 qO).f3) j4).f1))) (fun _ hk => hk.2) (.int .i64 ((qG ((qD t200 qO).f3) j4).f2))) (fun _ hk => ⟨hk.1.1.1, ⟨hk.1.1.2.1, ⟨hk.1.1.2.2.1, ⟨hk.1.1.2.2.2.1, ⟨hk.1.1.2.2.2.2.1, ⟨hk.1.1.2.2.2.2.2.1, ⟨hk.1.1.2.2.2.2.2.2.1, ⟨hk.1.1.2.2.2.2.2.2.2, hk.1.2⟩⟩⟩⟩⟩⟩⟩⟩)))⟩; have n1_ : q8 (Kd.N k55 55 w53 w.heap.size (fun k_ => (P0_ k_ ∨ w.heap.size ≤ k_) ∧ some k_ ≠ (.slice (some jS) t200.length qg8 : Value).ownBlock ∧ some k_ ≠ (v219 : Value).ownBlock ∧ some k_ ≠ (u6 : Value).ownBlock ∧ some k_ ≠ (u7 : Value).ownBlock ∧ some k_ ≠ (u217003 : Value).ownBlock ∧ k_ ≠ qH ∧ k_ ≠ qP) u3 qk2) := ⟨(by rw [hw]; exact (by (with_reducible repeat (first | apply Kd.jC | apply Kd.jD | apply Kd.jG)); exact Kd.jZ (Kd.qg3 (p := ⟨qP, 2, none⟩) (Kd.qg3 (p := ⟨qP, 1, none⟩) (Kd.qg3 (p := ⟨qP, 0, none⟩) (Kd.jZ qa5.out (fun k_ hk => (⟨hk, hk.2⟩ : _ ∧ k_ ≠ qP))) (fun _ hk => hk.2) (.bool ((qG ((qD t200 qO).f3) j4).f0))) (fun _ hk => hk.2) (.int .i64 ((qG ((qD t200 qO).f3) j4).f1))) (fun _ hk => hk.2) (.int .i64 ((qG ((qD t200 qO).f3) j4).f2))) (fun _ hk => ⟨hk.1.1.1, ⟨hk.1.1.2.1, ⟨hk.1.1.2.2.1, ⟨hk.1.1.2.2.2.1, ⟨hk.1.1.2.2.2.2.1, ⟨hk.1.1.2.2.2.2.2.1, ⟨hk.1.1.2.2.2.2.2.2, hk.1.2⟩⟩⟩⟩⟩⟩⟩)))⟩; have n2_ : q8 (Kd.N k55 55 w53 w.heap.size (fun k_ => (P0_ k_ ∨ w.heap.size ≤ k_) ∧ some k_ ≠ (u3 : Value).ownBlock ∧ some k_ ≠ (v219 : Value).ownBlock ∧ some k_ ≠ (u6 : Value).ownBlock ∧ some k_ ≠ (u7 : Value).ownBlock ∧ some k_ ≠ (u217003 : Value).ownBlock ∧ k_ ≠ qH ∧ k_ ≠ qP) (.slice (some jS) t200.length qg8) t200) := ⟨(by rw [hw]; exact (by (with_reducible repeat (first | apply Kd.jC | apply Kd.jD | apply Kd.jG)); exact Kd.jZ (Kd.qg3 (p := ⟨qP, 2, none⟩) (Kd.qg3 (p := ⟨qP, 1, none⟩) (Kd.qg3 (p := ⟨qP, 0, none⟩) (Kd.jZ qV.out (fun k_ hk => (⟨hk, hk.2⟩ : _ ∧ k_ ≠ qP))) (fun _ hk => hk.2) (.bool ((qG ((qD t200 qO).f3) j4).f0))) (fun _ hk => hk.2) (.int .i64 ((qG ((qD t200 qO).f3) j4).f1))) (fun _ hk => hk.2) (.int .i64 ((qG ((qD t200 qO).f3) j4).f2))) (fun _ hk => ⟨hk.1.1.1, ⟨hk.1.1.2.1, ⟨hk.1.1.2.2.1, ⟨hk.1.1.2.2.2.1, ⟨hk.1.1.2.2.2.2.1, ⟨hk.1.1.2.2.2.2.2.1, ⟨hk.1.1.2.2.2.2.2.2, hk.1.2⟩⟩⟩⟩⟩⟩⟩)))⟩; have n3_ : q8 (Kd.R (Kd.int .i64) 3 w53 w.heap.size (fun k_ => (w.heap.size ≤ k_) ∧ some k_ ≠ (u6 : Value).ownBlock ∧ some k_ ≠ (u7 : Value).ownBlock) v219 t218) := ⟨(by rw [hw]; exact (by (with_reducible repeat (first | apply Kd.qW | apply Kd.qX | apply Kd.jB)); exact Kd.jK (Kd.zK (p := ⟨qP, 2, none⟩) (Kd.zK (p := ⟨qP, 1, none⟩) (Kd.zK (p := ⟨qP, 0, none⟩) (Kd.qb4 qc0.out jV.out (by decide)) (fun _ hk => hk.2) (.bool ((qG ((qD t200 qO).f3) j4).f0))) (fun _ hk => hk.2) (.int .i64 ((qG ((qD t200 qO).f3) j4).f1))) (fun _ hk => hk.2) (.int .i64 ((qG ((qD t200 qO).f3) j4).f2))) (fun _ hk => ⟨hk.1.1, ⟨hk.1.2.1, hk.1.2.2⟩⟩)))⟩; have n4_ : q8 (Kd.R (Kd.int .i64) 3 w53 w.heap.size (fun k_ => (w.heap.size ≤ k_) ∧ some k_ ≠ (v219 : Value).ownBlock ∧ some k_ ≠ (u7 : Value).ownBlock) u6 qe3) := ⟨(by rw [hw]; exact (by (with_reducible repeat (first | apply Kd.qW | apply Kd.qX | apply Kd.jB)); exact Kd.jK (Kd.zK (p := ⟨qP, 2, none⟩) (Kd.zK (p := ⟨qP, 1, none⟩) (Kd.zK (p := ⟨qP, 0, none⟩) (Kd.qb4 qe7.out jV.out (by decide)) (fun _ hk => hk.2) (.bool ((qG ((qD t200 qO).f3) j4).f0))) (fun _ hk => hk.2) (.int .i64 ((qG ((qD t200 qO).f3) j4).f1))) (fun _ hk => hk.2) (.int .i64 ((qG ((qD t200 qO).f3) j4).f2))) (fun _ hk => ⟨hk.1.1, ⟨hk.1.2.1, hk.1.2.2⟩⟩)))⟩; have n5_ : q8 (Kd.R (Kd.int .i64) 3 w53 w.heap.size (fun k_ => (w.heap.size ≤ k_) ∧ some k_ ≠ (v219 : Value).ownBlock ∧ some k_ ≠ (u6 : Value).ownBlock) u7 qf4) := ⟨(by rw [hw]; exact (by (with_reducible repeat (first | apply Kd.qW | apply Kd.qX | apply Kd.jB)); exact Kd.jK (Kd.zK (p := ⟨qP, 2, none⟩) (Kd.zK (p := ⟨qP, 1, none⟩) (Kd.zK (p := ⟨qP, 0, none⟩) (Kd.qb4 qc8.out jV.out (by decide)) (fun _ hk => hk.2) (.bool ((qG ((qD t200 qO).f3) j4).f0))) (fun _ hk => hk.2) (.int .i64 ((qG ((qD t200 qO).f3) j4).f1))) (fun _ hk => hk.2) (.int .i64 ((qG ((qD t200 qO).f3) j4).f2))) (fun _ hk => ⟨hk.1.1, ⟨hk.1.2.1, hk.1.2.2⟩⟩)))⟩; have n6_ : q8 (Kd.R k51 51 w53 w.heap.size (fun k_ => (w.heap.size ≤ k_) ∧ k_ ≠ qP) u217003 zV) := ⟨(by rw [hw]; exact (by (with_reducible repeat (first | apply Kd.qW | apply Kd.qX | apply Kd.jB)); exact Kd.jK (Kd.zK (p := ⟨qP, 2, none⟩) (Kd.zK (p := ⟨qP, 1, none⟩) (Kd.zK (p := ⟨qP, 0, none⟩) (Kd.jK jR.out (fun k_ hk => (⟨hk, hk.2⟩ : _ ∧ k_ ≠ qP))) (fun _ hk => hk.2) (.bool ((qG ((qD t200 qO).f3) j4).f0))) (fun _ hk => hk.2) (.int .i64 ((qG ((qD t200 qO).f3) j4).f1))) (fun _ hk => hk.2) (.int .i64 ((qG ((qD t200 qO).f3) j4).f2))) (fun _ hk => ⟨hk.1.1, hk.1.2⟩)))⟩; have n7_ : q8 (Kd.V k51 51 w53 w.heap.size (fun k_ => (P0_ k_ ∨ w.heap.size ≤ k_) ∧ some k_ ≠ (u3 : Value).ownBlock ∧ some k_ ≠ (.slice (some jS) t200.length qg8 : Value).ownBlock ∧ some k_ ≠ (v219 : Value).ownBlock ∧ some k_ ≠ (u6 : Value).ownBlock ∧ some k_ ≠ (u7 : Value).ownBlock ∧ some k_ ≠ (u217003 : Value).ownBlock ∧ k_ ≠ qH ∧ k_ ≠ qP) (.slice (some jP8) ((qD t200 qO).f3).length jf1) ((qD t200 qO).f3)) := ⟨(by rw [hw]; exact (by (with_reducible repeat (first | apply Kd.jO | apply Kd.jP | apply Kd.z8)); exact Kd.zJ (Kd.qf5 (p := ⟨qP, 2, none⟩) (Kd.qf5 (p := ⟨qP, 1, none⟩) (Kd.qf5 (p := ⟨qP, 0, none⟩) (Kd.zJ qg9.out (fun k_ hk => (⟨hk, hk.2⟩ : _ ∧ k_ ≠ qP))) (fun _ hk => hk.2) (.bool ((qG ((qD t200 qO).f3) j4).f0))) (fun _ hk => hk.2) (.int .i64 ((qG ((qD t200 qO).f3) j4).f1))) (fun _ hk => hk.2) (.int .i64 ((qG ((qD t200 qO).f3) j4).f2))) (fun _ hk => ⟨hk.1.1.1.1, ⟨hk.1.1.1.2.1, ⟨hk.1.1.2, ⟨hk.1.1.1.2.2.1, ⟨hk.1.1.1.2.2.2.1, ⟨hk.1.1.1.2.2.2.2.1, ⟨hk.1.1.1.2.2.2.2.2.1, ⟨hk.1.1.1.2.2.2.2.2.2, hk.1.2⟩⟩⟩⟩⟩⟩⟩⟩)))⟩; have n8_ : q8 (Kd.V k51 51 w53 w.heap.size (fun k_ => (P0_ k_ ∨ w.heap.size ≤ k_) ∧ some k_ ≠ (u3 : Value).ownBlock ∧ some k_ ≠ (.slice (some jS) t200.length qg8 : Value).ownBlock ∧ some k_ ≠ (v219 : Value).ownBlock ∧ some k_ ≠ (u6 : Value).ownBlock ∧ some k_ ≠ (u7 : Value).ownBlock ∧ some k_ ≠ (u217003 : Value).ownBlock ∧ k_ ≠ qH ∧ k_ ≠ qP) (.slice (some jP8) ((qD t200 qO).f3).length jf1) ((qD t200 qO).f3)) := ⟨(by rw [hw]; exact (by (with_reducible repeat (first | apply Kd.jO | apply Kd.jP | apply Kd.z8)); exact Kd.zJ (Kd.qf5 (p := ⟨qP, 2, none⟩) (Kd.qf5 (p := ⟨qP, 1, none⟩) (Kd.qf5 (p := ⟨qP, 0, none⟩) (Kd.zJ ql4.out (fun k_ hk => (⟨hk, hk.2⟩ : _ ∧ k_ ≠ qP))) (fun _ hk => hk.2) (.bool ((qG ((qD t200 qO).f3) j4).f0))) (fun _ hk => hk.2) (.int .i64 ((qG ((qD t200 qO).f3) j4).f1))) (fun _ hk => hk.2) (.int .i64 ((qG ((qD t200 qO).f3) j4).f2))) (fun _ hk => ⟨hk.1.1.1.1, ⟨hk.1.1.1.2.1, ⟨hk.1.1.2, ⟨hk.1.1.1.2.2.1, ⟨hk.1.1.1.2.2.2.1, ⟨hk.1.1.1.2.2.2.2.1, ⟨hk.1.1.1.2.2.2.2.2.1, ⟨hk.1.1.1.2.2.2.2.2.2, hk.1.2⟩⟩⟩⟩⟩⟩⟩⟩)))⟩; have n9_ : q8 (w53.heap[qH]? = some (.cells #[.int .i64 t221, .int .i64 t213, .int .i64 t215, u217003] 55 (0, 0))) := ⟨(by rw [hw]; exact (by (with_reducible repeat (first | refine qI ?_ _ | refine qR ?_ | refine qJ ?_ _)); refine qj4 ?_ qh8.out _; (with_reducible repeat (first | refine qI ?_ _ | refine qR ?_ | refine qJ ?_ _)); refine qj4 ?_ qh8.out _; (with_reducible repeat (first | refine qI ?_ _ | refine qR ?_ | refine qJ ?_ _)); refine qj4 ?_ qh8.out _; (with_reducible repeat (first | refine qI ?_ _ | refine qR ?_ | refine qJ ?_ _)); exact jE.out))⟩; have qA7 : q8 (w53.heap[qP]? = some (.cells #[.bool ((qG ((qD t200 qO).f3) j4).f0), .int .i64 ((qG ((qD t200 qO).f3) j4).f1), .int .i64 ((qG ((qD t200 qO).f3) j4).f2)] 51 (0, 0))) := ⟨(by rw [hw]; exact (by (with_reducible repeat (first | refine qI ?_ _ | refine qR ?_ | refine qJ ?_ _)); refine qd4 (cs := #[.bool ((qG ((qD t200 qO).f3) j4).f0), .int .i64 ((qG ((qD t200 qO).f3) j4).f1), .int .i64 0]) ?_ 2 _ rfl; (with_reducible repeat (first | refine qI ?_ _ | refine qR ?_ | refine qJ ?_ _)); refine qd4 (cs := #[.bool ((qG ((qD t200 qO).f3) j4).f0), .int .i64 0, .int .i64 0]) ?_ 1 _ rfl; (with_reducible repeat (first | refine qI ?_ _ | refine qR ?_ | refine qJ ?_ _)); refine qd4 (cs := #[.bool false, .int .i64 0, .int .i64 0]) ?_ 0 _ rfl; (with_reducible repeat (first | refine qI ?_ _ | refine qR ?_ | refine qJ ?_ _)); exact jV.out))⟩; have qA8 : q8 (Below w.heap.size w w53) := ⟨(by rw [hw]; exact (by repeat (first | (with_reducible first | exact HB.out | apply qA | apply q9 | apply qB | refine qK ?_ qe8.out | refine qK ?_ qu8.out) | exact HB.out)))⟩; clear hw; clear zZ; clear qa5; clear qV; clear qc0; clear qe7; clear qc8; clear jR; clear qg9; clear ql4; clear jE; clear jV; clear HB; have zZ := n0_; have qa5 := n1_; have qV := n2_; have qc0 := n3_; have qe7 := n4_; have qc8 := n5_; have jR := n6_; have qg9 := n7_; have ql4 := n8_; have jE := n9_; have jV := qA7; have HB := qA8; clear n0_ n1_ n2_ n3_ n4_ n5_ n6_ n7_ n8_ n9_ qA7 qA8; have Qw3 : w53.cell? ⟨qP, 0, none⟩ = some (.bool ((qG ((qD t200 qO).f3) j4).f0)) := (qE jV.out 0).trans rfl; have Qw4 : w53.cell? ⟨qP, 1, none⟩ = some (.int .i64 ((qG ((qD t200 qO).f3) j4).f1)) := (qE jV.out 1).trans rfl; have Qw5 : w53.cell? ⟨qP, 2, none⟩ = some (.int .i64 ((qG ((qD t200 qO).f3) j4).f2)) := (qE jV.out 2).trans rfl; have Qw6 := qC jV.out 0; have Qw7 := qC jV.out 1; have Qw8 := qC jV.out 2; obtain ⟨Qa3, Qa4, eo55⟩ := Kd.qs9 qe7.out; subst eo55) | ((with_reducible refine qj0 (f := 45) rfl ?_); refine qH3 (some 72) rfl rfl Try.func45 (by kernel_rfl) rfl #[.slice Qa3 qe3.length Qa4, .int .i64 ((qG ((qD t200 qO).f3) j4).f1)] rfl (by (try simp only [List.map_toArray, List.map_cons, List.map_nil]); first | done | rfl | (simp only [List.length_drop, List.length_take]; rfl)) ?_; (with_reducible refine (jA.calls k2 (fun k_ => some k_ = (.slice Qa3 qe3.length Qa4 : Value).ownBlock) (.slice Qa3 qe3.length Qa4) qe3 ((qG ((qD t200 qO).f3) j4).f1) t229 t232 w _ ?qt1 ?qw3 A33.out).mono ?_); (case qt1 => repeat (first | (with_reducible first | exact HB.out | apply qA | apply q9 | apply qB | refine qK ?_ qe8.out | refine qK ?_ qu8.out) | exact HB.out)); (case qw3 => exact Kd.qY6 rfl qe7.out); rintro e w56 ⟨v230, rfl, ho0, hb, hkp⟩; refine ⟨_, rfl, ?_⟩; have n0_ := q8.mk (Kd.zJ (ok' := fun k_ => (P0_ k_ ∨ w.heap.size ≤ k_) ∧ some k_ ≠ (u3 : Value).ownBlock ∧ some k_ ≠ (.slice (some jS) t200.length qg8 : Value).ownBlock ∧ some k_ ≠ (v219 : Value).ownBlock ∧ some k_ ≠ (u7 : Value).ownBlock ∧ some k_ ≠ (u217003 : Value).ownBlock ∧ k_ ≠ qH ∧ k_ ≠ qP ∧ some k_ ≠ (v230 : Value).ownBlock) (Kd.jk6 (zZ.out) hkp (fun k_ hk_ hs_ => (hk_.2.2.2.2.1) hs_)) (fun k_ hk_ => ⟨hk_.1.1, hk_.1.2.1, hk_.1.2.2.1, hk_.1.2.2.2.1, hk_.1.2.2.2.2.2.1, hk_.1.2.2.2.2.2.2.1, hk_.1.2.2.2.2.2.2.2.1, hk_.1.2.2.2.2.2.2.2.2, fun e_ => Or.elim (ho0.1 k_ e_.symm) (fun hs_ => hk_.2.1 hs_) (fun hn_ => Nat.not_le.2 hk_.2.2 hn_)⟩)); have n1_ := q8.mk (Kd.jZ (ok' := fun k_ => (P0_ k_ ∨ w.heap.size ≤ k_) ∧ some k_ ≠ (.slice (some jS) t200.length qg8 : Value).ownBlock ∧ some k_ ≠ (v219 : Value).ownBlock ∧ some k_ ≠ (u7 : Value).ownBlock ∧ some k_ ≠ (u217003 : Value).ownBlock ∧ k_ ≠ qH ∧ k_ ≠ qP ∧ some k_ ≠ (v230 : Value).ownBlock) (Kd.qC1 (qa5.out) hkp (fun k_ hk_ hs_ => (hk_.2.2.2.1) hs_)) (fun k_ hk_ => ⟨hk_.1.1, hk_.1.2.1, hk_.1.2.2.1, hk_.1.2.2.2.2.1, hk_.1.2.2.2.2.2.1, hk_.1.2.2.2.2.2.2.1, hk_.1.2.2.2.2.2.2.2, fun e_ => Or.elim (ho0.1 k_ e_.symm) (fun hs_ => hk_.2.1 hs_) (fun hn_ => Nat.not_le.2 hk_.2.2 hn_)⟩)); have n2_ := q8.mk (Kd.jZ (ok' := fun k_ => (P0_ k_ ∨ w.heap.size ≤ k_) ∧ some k_ ≠ (u3 : Value).ownBlock ∧ some k_ ≠ (v219 : Value).ownBlock ∧ some k_ ≠ (u7 : Value).ownBlock ∧ some k_ ≠ (u217003 : Value).ownBlock ∧ k_ ≠ qH ∧ k_ ≠ qP ∧ some k_ ≠ (v230 : Value).ownBlock) (Kd.qC1 (qV.out) hkp (fun k_ hk_ hs_ => (hk_.2.2.2.1) hs_)) (fun k_ hk_ => ⟨hk_.1.1, hk_.1.2.1, hk_.1.2.2.1, hk_.1.2.2.2.2.1, hk_.1.2.2.2.2.2.1, hk_.1.2.2.2.2.2.2.1, hk_.1.2.2.2.2.2.2.2, fun e_ => Or.elim (ho0.1 k_ e_.symm) (fun hs_ => hk_.2.1 hs_) (fun hn_ => Nat.not_le.2 hk_.2.2 hn_)⟩)); have n3_ := q8.mk (Kd.jK (ok' := fun k_ => (w.heap.size ≤ k_) ∧ some k_ ≠ (u7 : Value).ownBlock ∧ some k_ ≠ (v230 : Value).ownBlock) (Kd.qt2 (qc0.out) hkp (fun k_ hk_ hs_ => (hk_.2.1) hs_)) (fun k_ hk_ => ⟨hk_.1.1, hk_.1.2.2, fun e_ => Or.elim (ho0.1 k_ e_.symm) (fun hs_ => hk_.2.1 hs_) (fun hn_ => Nat.not_le.2 hk_.2.2 hn_)⟩)); have n4_ := q8.mk (Kd.jK (ok' := fun k_ => (w.heap.size ≤ k_) ∧ some k_ ≠ (v219 : Value).ownBlock ∧ some k_ ≠ (v230 : Value).ownBlock) (Kd.qt2 (qc8.out) hkp (fun k_ hk_ hs_ => (hk_.2.2) hs_)) (fun k_ hk_ => ⟨hk_.1.1, hk_.1.2.1, fun e_ => Or.elim (ho0.1 k_ e_.symm) (fun hs_ => hk_.2.1 hs_) (fun hn_ => Nat.not_le.2 hk_.2.2 hn_)⟩)); have n5_ := q8.mk (Kd.jK (ok' := fun k_ => (w.heap.size ≤ k_) ∧ k_ ≠ qP) (Kd.qt2 ((Kd.qk3 jR.out (Kd.qj5 qe7.out) (by decide))) hkp (fun k_ hk_ hs_ => (hk_.2) hs_)) (fun k_ hk_ => ⟨hk_.1.1.1, hk_.1.1.2⟩)); have n6_ := q8.mk (qA9 (by (with_reducible repeat (first | refine qI ?_ _ | refine qR ?_ | refine qJ ?_ _)); exact jE.out) hkp (fun hs_ => (fun e_ => (Kd.jG4 qe7.out jE.out (by decide)) e_) hs_)); have n7_ := q8.mk (qA9 (by (with_reducible repeat (first | refine qI ?_ _ | refine qR ?_ | refine qJ ?_ _)); exact jV.out) hkp (fun hs_ => (fun e_ => (Kd.jG4 qe7.out jV.out (by decide)) e_) hs_)); have n8_ := q8.mk (Kd.jK (ok' := fun k_ => (w.heap.size ≤ k_) ∧ some k_ ≠ (v219 : Value).ownBlock ∧ some k_ ≠ (u7 : Value).ownBlock) ho0 (fun k_ hk_ => ⟨Or.elim hk_ (fun hs_ => (qe7.out.1 k_ (hs_).symm).1) (fun hn_ => (Nat.le_trans (qM (by repeat (first | (with_reducible first | exact HB.out | apply qA | apply q9 | apply qB | refine qK ?_ qe8.out | refine qK ?_ qu8.out) | exact HB.out))) hn_)), Or.elim hk_ (fun hs_ => fun e_ => (((qc0.out).1 k_ e_.symm).2.1) hs_) (fun hn_ => (Kd.fresh' (Kd.qK9 (by (with_reducible repeat (first | apply Kd.qW | apply Kd.qX | apply Kd.jB)); exact qc0.out)) k_ hn_)), Or.elim hk_ (fun hs_ => fun e_ => (((qc8.out).1 k_ e_.symm).2.2) hs_) (fun hn_ => (Kd.fresh' (Kd.qK9 (by (with_reducible repeat (first | apply Kd.qW | apply Kd.qX | apply Kd.jB)); exact qc8.out)) k_ hn_))⟩)); have n9_ := q8.mk (hb); clear zZ; clear qa5; clear qV; clear qc0; clear qc8; clear jR; clear jE; clear jV; clear HB; clear qe7; clear qg9; clear ql4; have zZ := n0_; have qa5 := n1_; have qV := n2_; have qc0 := n3_; have qc8 := n4_; have jR := n5_; have jE := n6_; have jV := n7_; have qw4 := n8_; have HB := n9_; clear n0_ n1_ n2_ n3_ n4_ n5_ n6_ n7_ n8_ n9_; (try clear hb); (try clear hkp); (try clear ho0); have Qw9 : w56.cell? ⟨qP, 0, none⟩ = some (.bool ((qG ((qD t200 qO).f3) j4).f0)) := (qE jV.out 0).trans rfl; have Qx0 : w56.cell? ⟨qP, 1, none⟩ = some (.int .i64 ((qG ((qD t200 qO).f3) j4).f1)) := (qE jV.out 1).trans rfl; have Qx1 : w56.cell? ⟨qP, 2, none⟩ = some (.int .i64 ((qG ((qD t200 qO).f3) j4).f2)) := (qE jV.out 2).trans rfl; have Qx2 := qC jV.out 0; have Qx3 := qC jV.out 1; have Qx4 := qC jV.out 2) | ((with_reducible refine qS7 (t := 3) (p := 75) rfl ?_); refine qM4 (t := 3) (p := 75) (v := ?vo_w58) (w1 := (w56.setCell ⟨qP, 1, none⟩ (.int .i64 t232))) ?hg ?ho ?hn ?hr ?_; (case ho => rfl); (case hg => rfl); (case hn => rfl); (case hr => first | (go_simp; done) | (go_simp; rfl)); intro w58 hw; have n0_ : q8 (Kd.V k55 55 w58 w.heap.size (fun k_ => (P0_ k_ ∨ w.heap.size ≤ k_) ∧ some k_ ≠ (u3 : Value).ownBlock ∧ some k_ ≠ (.slice (some jS) t200.length qg8 : Value).ownBlock ∧ some k_ ≠ (v219 : Value).ownBlock ∧ some k_ ≠ (u7 : Value).ownBlock ∧ some k_ ≠ (u217003 : Value).ownBlock ∧ some k_ ≠ (v230 : Value).ownBlock ∧ k_ ≠ qH ∧ k_ ≠ qP) (.slice A0 l0.length c0) l0) := ⟨(by rw [hw]; exact (by (with_reducible repeat (first | apply Kd.jO | apply Kd.jP | apply Kd.z8)); exact Kd.zJ (Kd.qf5 (p := ⟨qP, 1, none⟩) (Kd.zJ zZ.out (fun k_ hk => (⟨hk, hk.2.2.2.2.2.2.2.1⟩ : _ ∧ k_ ≠ qP))) (fun _ hk => hk.2) (.int .i64 t232)) (fun _ hk => ⟨hk.1.1, ⟨hk.1.2.1, ⟨hk.1.2.2.1, ⟨hk.1.2.2.2.1, ⟨hk.1.2.2.2.2.1, ⟨hk.1.2.2.2.2.2.1, ⟨hk.1.2.2.2.2.2.2.2.2, ⟨hk.1.2.2.2.2.2.2.1, hk.1.2.2.2.2.2.2.2.1⟩⟩⟩⟩⟩⟩⟩⟩)))⟩; have n1_ : q8 (Kd.N k55 55 w58 w.heap.size (fun k_ => (P0_ k_ ∨ w.heap.size ≤ k_) ∧ some k_ ≠ (.slice (some jS) t200.length qg8 : Value).ownBlock ∧ some k_ ≠ (v219 : Value).ownBlock ∧ some k_ ≠ (u7 : Value).ownBlock ∧ some k_ ≠ (u217003 : Value).ownBlock ∧ some k_ ≠ (v230 : Value).ownBlock ∧ k_ ≠ qH ∧ k_ ≠ qP) u3 qk2) := ⟨(by rw [hw]; exact (by (with_reducible repeat (first | apply Kd.jC | apply Kd.jD | apply Kd.jG)); exact Kd.jZ (Kd.qg3 (p := ⟨qP, 1, none⟩) (Kd.jZ qa5.out (fun k_ hk => (⟨hk, hk.2.2.2.2.2.2.1⟩ : _ ∧ k_ ≠ qP))) (fun _ hk => hk.2) (.int .i64 t232)) (fun _ hk => ⟨hk.1.1, ⟨hk.1.2.1, ⟨hk.1.2.2.1, ⟨hk.1.2.2.2.1, ⟨hk.1.2.2.2.2.1, ⟨hk.1.2.2.2.2.2.2.2, ⟨hk.1.2.2.2.2.2.1, hk.1.2.2.2.2.2.2.1⟩⟩⟩⟩⟩⟩⟩)))⟩; have n2_ : q8 (Kd.N k55 55 w58 w.heap.size (fun k_ => (P0_ k_ ∨ w.heap.size ≤ k_) ∧ some k_ ≠ (u3 : Value).ownBlock ∧ some k_ ≠ (v219 : Value).ownBlock ∧ some k_ ≠ (u7 : Value).ownBlock ∧ some k_ ≠ (u217003 : Value).ownBlock ∧ some k_ ≠ (v230 : Value).ownBlock ∧ k_ ≠ qH ∧ k_ ≠ qP) (.slice (some jS) t200.length qg8) t200) := ⟨(by rw [hw]; exact (by (with_reducible repeat (first | apply Kd.jC | apply Kd.jD | apply Kd.jG)); exact Kd.jZ (Kd.qg3 (p := ⟨qP, 1, none⟩) (Kd.jZ qV.out (fun k_ hk => (⟨hk, hk.2.2.2.2.2.2.1⟩ : _ ∧ k_ ≠ qP))) (fun _ hk => hk.2) (.int .i64 t232)) (fun _ hk => ⟨hk.1.1, ⟨hk.1.2.1, ⟨hk.1.2.2.1, ⟨hk.1.2.2.2.1, ⟨hk.1.2.2.2.2.1, ⟨hk.1.2.2.2.2.2.2.2, ⟨hk.1.2.2.2.2.2.1, hk.1.2.2.2.2.2.2.1⟩⟩⟩⟩⟩⟩⟩)))⟩; have n3_ : q8 (Kd.R (Kd.int .i64) 3 w58 w.heap.size (fun k_ => (w.heap.size ≤ k_) ∧ some k_ ≠ (u7 : Value).ownBlock ∧ some k_ ≠ (v230 : Value).ownBlock) v219 t218) := ⟨(by rw [hw]; exact (by (with_reducible repeat (first | apply Kd.qW | apply Kd.qX | apply Kd.jB)); exact Kd.jK (Kd.zK (p := ⟨qP, 1, none⟩) (Kd.qb4 qc0.out jV.out (by decide)) (fun _ hk => hk.2) (.int .i64 t232)) (fun _ hk => ⟨hk.1.1, ⟨hk.1.2.1, hk.1.2.2⟩⟩)))⟩; have n4_ : q8 (Kd.R (Kd.int .i64) 3 w58 w.heap.size (fun k_ => (w.heap.size ≤ k_) ∧ some k_ ≠ (v219 : Value).ownBlock ∧ some k_ ≠ (v230 : Value).ownBlock) u7 qf4) := ⟨(by rw [hw]; exact (by (with_reducible repeat (first | apply Kd.qW | apply Kd.qX | apply Kd.jB)); exact Kd.jK (Kd.zK (p := ⟨qP, 1, none⟩) (Kd.qb4 qc8.out jV.out (by decide)) (fun _ hk => hk.2) (.int .i64 t232)) (fun _ hk => ⟨hk.1.1, ⟨hk.1.2.1, hk.1.2.2⟩⟩)))⟩; have n5_ : q8 (Kd.R k51 51 w58 w.heap.size (fun k_ => (w.heap.size ≤ k_) ∧ k_ ≠ qP) u217003 zV) := ⟨(by rw [hw]; exact (by (with_reducible repeat (first | apply Kd.qW | apply Kd.qX | apply Kd.jB)); exact Kd.jK (Kd.zK (p := ⟨qP, 1, none⟩) (Kd.jK jR.out (fun k_ hk => (⟨hk, hk.2⟩ : _ ∧ k_ ≠ qP))) (fun _ hk => hk.2) (.int .i64 t232)) (fun _ hk => ⟨hk.1.1, hk.1.2⟩)))⟩; have n6_ : q8 (Kd.R (Kd.int .i64) 3 w58 w.heap.size (fun k_ => (w.heap.size ≤ k_) ∧ some k_ ≠ (v219 : Value).ownBlock ∧ some k_ ≠ (u7 : Value).ownBlock) v230 t229) := ⟨(by rw [hw]; exact (by (with_reducible repeat (first | apply Kd.qW | apply Kd.qX | apply Kd.jB)); exact Kd.jK (Kd.zK (p := ⟨qP, 1, none⟩) (Kd.qb4 qw4.out jV.out (by decide)) (fun _ hk => hk.2) (.int .i64 t232)) (fun _ hk => ⟨hk.1.1, ⟨hk.1.2.1, hk.1.2.2⟩⟩)))⟩; have n7_ : q8 (w58.heap[qH]? = some (.cells #[.int .i64 t221, .int .i64 t213, .int .i64 t215, u217003] 55 (0, 0))) := ⟨(by rw [hw]; exact (by (with_reducible repeat (first | refine qI ?_ _ | refine qR ?_ | refine qJ ?_ _)); refine qj4 ?_ qh8.out _; (with_reducible repeat (first | refine qI ?_ _ | refine qR ?_ | refine qJ ?_ _)); exact jE.out))⟩; have n8_ : q8 (w58.heap[qP]? = some (.cells #[.bool ((qG ((qD t200 qO).f3) j4).f0), .int .i64 t232, .int .i64 ((qG ((qD t200 qO).f3) j4).f2)] 51 (0, 0))) := ⟨(by rw [hw]; exact (by (with_reducible repeat (first | refine qI ?_ _ | refine qR ?_ | refine qJ ?_ _)); refine qd4 (cs := #[.bool ((qG ((qD t200 qO).f3) j4).f0), .int .i64 ((qG ((qD t200 qO).f3) j4).f1), .int .i64 ((qG ((qD t200 qO).f3) j4).f2)]) ?_ 1 _ rfl; (with_reducible repeat (first | refine qI ?_ _ | refine qR ?_ | refine qJ ?_ _)); exact jV.out))⟩; have n9_ : q8 (Below w.heap.size w w58) := ⟨(by rw [hw]; exact (by repeat (first | (with_reducible first | exact HB.out | apply qA | apply q9 | apply qB | refine qK ?_ qe8.out | refine qK ?_ qu8.out) | exact HB.out)))⟩; clear hw; clear zZ; clear qa5; clear qV; clear qc0; clear qc8; clear jR; clear qw4; clear jE; clear jV; clear HB; have zZ := n0_; have qa5 := n1_; have qV := n2_; have qc0 := n3_; have qc8 := n4_; have jR := n5_; have qw4 := n6_; have jE := n7_; have jV := n8_; have HB := n9_; clear n0_ n1_ n2_ n3_ n4_ n5_ n6_ n7_ n8_ n9_; have Qx5 : w58.cell? ⟨qP, 0, none⟩ = some (.bool ((qG ((qD t200 qO).f3) j4).f0)) := (qE jV.out 0).trans rfl; have Qx6 : w58.cell? ⟨qP, 1, none⟩ = some (.int .i64 t232) := (qE jV.out 1).trans rfl; have Qx7 : w58.cell? ⟨qP, 2, none⟩ = some (.int .i64 ((qG ((qD t200 qO).f3) j4).f2)) := (qE jV.out 2).trans rfl; have Qx8 := qC jV.out 0; have Qx9 := qC jV.out 1; have Qy0 := qC jV.out 2; obtain ⟨Qa5, Qa6, eo60⟩ := Kd.qs9 qc8.out; subst eo60) | ((with_reducible refine qj0 (f := 45) rfl ?_); refine qH3 (some 83) rfl rfl Try.func45 (by kernel_rfl) rfl #[.slice Qa5 qf4.length Qa6, .int .i64 ((qG ((qD t200 qO).f3) j4).f2)] rfl (by (try simp only [List.map_toArray, List.map_cons, List.map_nil]); first | done | rfl | (simp only [List.length_drop, List.length_take]; rfl)) ?_; (with_reducible refine (jA.calls k2 (fun k_ => some k_ = (.slice Qa5 qf4.length Qa6 : Value).ownBlock) (.slice Qa5 qf4.length Qa6) qf4 ((qG ((qD t200 qO).f3) j4).f2) t236 t239 w _ ?qt1 ?qw3 A48.out).mono ?_); (case qt1 => repeat (first | (with_reducible first | exact HB.out | apply qA | apply q9 | apply qB | refine qK ?_ qe8.out | refine qK ?_ qu8.out) | exact HB.out)); (case qw3 => exact Kd.qY6 rfl qc8.out); rintro e w61 ⟨v237, rfl, ho0, hb, hkp⟩; refine ⟨_, rfl, ?_⟩; have n0_ := q8.mk (Kd.zJ (ok' := fun k_ => (P0_ k_ ∨ w.heap.size ≤ k_) ∧ some k_ ≠ (u3 : Value).ownBlock ∧ some k_ ≠ (.slice (some jS) t200.length qg8 : Value).ownBlock ∧ some k_ ≠ (v219 : Value).ownBlock ∧ some k_ ≠ (u217003 : Value).ownBlock ∧ some k_ ≠ (v230 : Value).ownBlock ∧ k_ ≠ qH ∧ k_ ≠ qP ∧ some k_ ≠ (v237 : Value).ownBlock) (Kd.jk6 (zZ.out) hkp (fun k_ hk_ hs_ => (hk_.2.2.2.2.1) hs_)) (fun k_ hk_ => ⟨hk_.1.1, hk_.1.2.1, hk_.1.2.2.1, hk_.1.2.2.2.1, hk_.1.2.2.2.2.2.1, hk_.1.2.2.2.2.2.2.1, hk_.1.2.2.2.2.2.2.2.1, hk_.1.2.2.2.2.2.2.2.2, fun e_ => Or.elim (ho0.1 k_ e_.symm) (fun hs_ => hk_.2.1 hs_) (fun hn_ => Nat.not_le.2 hk_.2.2 hn_)⟩)); have n1_ := q8.mk (Kd.jZ (ok' := fun k_ => (P0_ k_ ∨ w.heap.size ≤ k_) ∧ some k_ ≠ (.slice (some jS) t200.length qg8 : Value).ownBlock ∧ some k_ ≠ (v219 : Value).ownBlock ∧ some k_ ≠ (u217003 : Value).ownBlock ∧ some k_ ≠ (v230 : Value).ownBlock ∧ k_ ≠ qH ∧ k_ ≠ qP ∧ some k_ ≠ (v237 : Value).ownBlock) (Kd.qC1 (qa5.out) hkp (fun k_ hk_ hs_ => (hk_.2.2.2.1) hs_)) (fun k_ hk_ => ⟨hk_.1.1, hk_.1.2.1, hk_.1.2.2.1, hk_.1.2.2.2.2.1, hk_.1.2.2.2.2.2.1, hk_.1.2.2.2.2.2.2.1, hk_.1.2.2.2.2.2.2.2, fun e_ => Or.elim (ho0.1 k_ e_.symm) (fun hs_ => hk_.2.1 hs_) (fun hn_ => Nat.not_le.2 hk_.2.2 hn_)⟩)); have n2_ := q8.mk (Kd.jZ (ok' := fun k_ => (P0_ k_ ∨ w.heap.size ≤ k_) ∧ some k_ ≠ (u3 : Value).ownBlock ∧ some k_ ≠ (v219 : Value).ownBlock ∧ some k_ ≠ (u217003 : Value).ownBlock ∧ some k_ ≠ (v230 : Value).ownBlock ∧ k_ ≠ qH ∧ k_ ≠ qP ∧ some k_ ≠ (v237 : Value).ownBlock) (Kd.qC1 (qV.out) hkp (fun k_ hk_ hs_ => (hk_.2.2.2.1) hs_)) (fun k_ hk_ => ⟨hk_.1.1, hk_.1.2.1, hk_.1.2.2.1, hk_.1.2.2.2.2.1, hk_.1.2.2.2.2.2.1, hk_.1.2.2.2.2.2.2.1, hk_.1.2.2.2.2.2.2.2, fun e_ => Or.elim (ho0.1 k_ e_.symm) (fun hs_ => hk_.2.1 hs_) (fun hn_ => Nat.not_le.2 hk_.2.2 hn_)⟩)); have n3_ := q8.mk (Kd.jK (ok' := fun k_ => (w.heap.size ≤ k_) ∧ some k_ ≠ (v230 : Value).ownBlock ∧ some k_ ≠ (v237 : Value).ownBlock) (Kd.qt2 (qc0.out) hkp (fun k_ hk_ hs_ => (hk_.2.1) hs_)) (fun k_ hk_ => ⟨hk_.1.1, hk_.1.2.2, fun e_ => Or.elim (ho0.1 k_ e_.symm) (fun hs_ => hk_.2.1 hs_) (fun hn_ => Nat.not_le.2 hk_.2.2 hn_)⟩)); have n4_ := q8.mk (Kd.jK (ok' := fun k_ => (w.heap.size ≤ k_) ∧ k_ ≠ qP) (Kd.qt2 ((Kd.qk3 jR.out (Kd.qj5 qc8.out) (by decide))) hkp (fun k_ hk_ hs_ => (hk_.2) hs_)) (fun k_ hk_ => ⟨hk_.1.1.1, hk_.1.1.2⟩)); have n5_ := q8.mk (qA9 (by (with_reducible repeat (first | refine qI ?_ _ | refine qR ?_ | refine qJ ?_ _)); exact jE.out) hkp (fun hs_ => (fun e_ => (Kd.jG4 qc8.out jE.out (by decide)) e_) hs_)); have n6_ := q8.mk (qA9 (by (with_reducible repeat (first | refine qI ?_ _ | refine qR ?_ | refine qJ ?_ _)); exact jV.out) hkp (fun hs_ => (fun e_ => (Kd.jG4 qc8.out jV.out (by decide)) e_) hs_)); have n7_ := q8.mk (Kd.jK (ok' := fun k_ => (w.heap.size ≤ k_) ∧ some k_ ≠ (v219 : Value).ownBlock ∧ some k_ ≠ (v237 : Value).ownBlock) (Kd.qt2 (qw4.out) hkp (fun k_ hk_ hs_ => (hk_.2.2) hs_)) (fun k_ hk_ => ⟨hk_.1.1, hk_.1.2.1, fun e_ => Or.elim (ho0.1 k_ e_.symm) (fun hs_ => hk_.2.1 hs_) (fun hn_ => Nat.not_le.2 hk_.2.2 hn_)⟩)); have n8_ := q8.mk (Kd.jK (ok' := fun k_ => (w.heap.size ≤ k_) ∧ some k_ ≠ (v219 : Value).ownBlock ∧ some k_ ≠ (v230 : Value).ownBlock) ho0 (fun k_ hk_ => ⟨Or.elim hk_ (fun hs_ => (qc8.out.1 k_ (hs_).symm).1) (fun hn_ => (Nat.le_trans (qM (by repeat (first | (with_reducible first | exact HB.out | apply qA | apply q9 | apply qB | refine qK ?_ qe8.out | refine qK ?_ qu8.out) | exact HB.out))) hn_)), Or.elim hk_ (fun hs_ => fun e_ => (((qc0.out).1 k_ e_.symm).2.1) hs_) (fun hn_ => (Kd.fresh' (Kd.qK9 (by (with_reducible repeat (first | apply Kd.qW | apply Kd.qX | apply Kd.jB)); exact qc0.out)) k_ hn_)), Or.elim hk_ (fun hs_ => fun e_ => (((qw4.out).1 k_ e_.symm).2.2) hs_) (fun hn_ => (Kd.fresh' (Kd.qK9 (by (with_reducible repeat (first | apply Kd.qW | apply Kd.qX | apply Kd.jB)); exact qw4.out)) k_ hn_))⟩)); have n9_ := q8.mk (hb); clear zZ; clear qa5; clear qV; clear qc0; clear jR; clear jE; clear jV; clear qw4; clear HB; clear qc8; have zZ := n0_; have qa5 := n1_; have qV := n2_; have qc0 := n3_; have jR := n4_; have jE := n5_; have jV := n6_; have qw4 := n7_; have zj3 := n8_; have HB := n9_; clear n0_ n1_ n2_ n3_ n4_ n5_ n6_ n7_ n8_ n9_; (try clear hb); (try clear hkp); (try clear ho0); have Qy1 : w61.cell? ⟨qP, 0, none⟩ = some (.bool ((qG ((qD t200 qO).f3) j4).f0)) := (qE jV.out 0).trans rfl; have Qy2 : w61.cell? ⟨qP, 1, none⟩ = some (.int .i64 t232) := (qE jV.out 1).trans rfl; have Qy3 : w61.cell? ⟨qP, 2, none⟩ = some (.int .i64 ((qG ((qD t200 qO).f3) j4).f2)) := (qE jV.out 2).trans rfl; have Qy4 := qC jV.out 0; have Qy5 := qC jV.out 1; have Qy6 := qC jV.out 2; have Qy7 : w61.cell? ⟨qH, 0, none⟩ = some (.int .i64 t221) := (qE jE.out 0).trans rfl; have Qy8 : w61.cell? ⟨qH, 1, none⟩ = some (.int .i64 t213) := (qE jE.out 1).trans rfl; have Qy9 : w61.cell? ⟨qH, 2, none⟩ = some (.int .i64 t215) := (qE jE.out 2).trans rfl; have Qz0 : w61.cell? ⟨qH, 3, none⟩ = some (u217003) := (qE jE.out 3).trans rfl; have Qz1 := qC jE.out 0; have Qz2 := qC jE.out 1; have Qz3 := qC jE.out 2; have Qz4 := qC jE.out 3) | ((with_reducible refine ql1 (b := .append) (xs := #[.tmp 92, .tmp 94]) rfl ?_); at_builtin; refine Kd.qY0 k51 (w0 := w) w.heap.size rfl (.tmp 92) (.tmp 94) 53 51 (.agg #[(.bool false), (.int .i64 0), (.int .i64 0)]) 24 rfl Try.underlying53 zu7 rfl (by decide) (by omega) u217003 zV (⟨(qG ((qD t200 qO).f3) j4).f0, t232, wrap64 (t239 + 1)⟩ : S51) [.bool ((qG ((qD t200 qO).f3) j4).f0), .int .i64 t232, .int .i64 (wrap64 (t239 + 1))] (fun k_ => (w.heap.size ≤ k_) ∧ k_ ≠ qP) (fun _ => False) rfl (by first | (go_simp; done) | (go_simp; rfl)) ?aP (fun _ hk => hk.elim) ?aF ?aO ?aB ?aS ?aL ?_; (case aP => exact zj2 _ _ _ (⟨(qG ((qD t200 qO).f3) j4).f0, t232, wrap64 (t239 + 1)⟩ : S51)); (case aB => exact (by repeat (first | (with_reducible first | exact HB.out | apply qA | apply q9 | apply qB | refine qK ?_ qe8.out | refine qK ?_ qu8.out) | exact HB.out))); (case aF => exact (fun k_ hk => ⟨(Nat.le_trans (qM (by repeat (first | (with_reducible first | exact HB.out | apply qA | apply q9 | apply qB | refine qK ?_ qe8.out | refine qK ?_ qu8.out) | exact HB.out))) hk), Kd.za1 (g := qP) (o := .cells #[.bool ((qG ((qD t200 qO).f3) j4).f0), .int .i64 t232, .int .i64 (wrap64 (t239 + 1))] 51 (0, 0)) (by (with_reducible repeat (first | refine qI ?_ _ | refine qR ?_ | refine qJ ?_ _)); refine qd4 (cs := #[.bool ((qG ((qD t200 qO).f3) j4).f0), .int .i64 t232, .int .i64 t239]) ?_ 2 _ rfl; (with_reducible repeat (first | refine qI ?_ _ | refine qR ?_ | refine qJ ?_ _)); refine qd4 (cs := #[.bool ((qG ((qD t200 qO).f3) j4).f0), .int .i64 t232, .int .i64 ((qG ((qD t200 qO).f3) j4).f2)]) ?_ 2 _ rfl; (with_reducible repeat (first | refine qI ?_ _ | refine qR ?_ | refine qJ ?_ _)); exact jV.out) k_ hk⟩)); (case aO => exact (by (with_reducible repeat (first | apply Kd.qW | apply Kd.qX | apply Kd.jB)); exact Kd.jK (Kd.zK (p := ⟨qP, 2, none⟩) (Kd.zK (p := ⟨qP, 2, none⟩) (Kd.jK jR.out (fun k_ hk => (⟨hk, hk.2⟩ : _ ∧ k_ ≠ qP))) (fun _ hk => hk.2) (.int .i64 t239)) (fun _ hk => hk.2) (.int .i64 (wrap64 (t239 + 1)))) (fun _ hk => ⟨hk.1.1, hk.1.2⟩))); (case aS => exact (qM (by repeat (first | (with_reducible first | exact HB.out | apply qA | apply q9 | apply qB | refine qK ?_ qe8.out | refine qK ?_ qu8.out) | exact HB.out)))); (case aL => have := Qm0.out; omega); intro v241 w64 ho hb hg hat; rw [← Qm1.out] at ho; have n0_ := q8.mk (Kd.qm6 (ok := (fun k_ => (P0_ k_ ∨ w.heap.size ≤ k_) ∧ some k_ ≠ (u3 : Value).ownBlock ∧ some k_ ≠ (.slice (some jS) t200.length qg8 : Value).ownBlock ∧ some k_ ≠ (v219 : Value).ownBlock ∧ some k_ ≠ (v230 : Value).ownBlock ∧ some k_ ≠ (v237 : Value).ownBlock ∧ k_ ≠ qH ∧ k_ ≠ qP)) (by (with_reducible repeat (first | apply Kd.jO | apply Kd.jP | apply Kd.z8)); exact Kd.zJ (Kd.qf5 (p := ⟨qP, 2, none⟩) (Kd.qf5 (p := ⟨qP, 2, none⟩) (Kd.zJ zZ.out (fun k_ hk => (⟨hk, hk.2.2.2.2.2.2.2.1⟩ : _ ∧ k_ ≠ qP))) (fun _ hk => hk.2) (.int .i64 t239)) (fun _ hk => hk.2) (.int .i64 (wrap64 (t239 + 1)))) (fun _ hk => ⟨⟨hk.1.1, ⟨hk.1.2.1, ⟨hk.1.2.2.1, ⟨hk.1.2.2.2.1, ⟨hk.1.2.2.2.2.2.1, ⟨hk.1.2.2.2.2.2.2.2.2, ⟨hk.1.2.2.2.2.2.2.1, hk.1.2.2.2.2.2.2.2.1⟩⟩⟩⟩⟩⟩⟩, hk.1.2.2.2.2.1⟩)) hg hat); have n1_ := q8.mk (Kd.qo5 (ok := (fun k_ => (P0_ k_ ∨ w.heap.size ≤ k_) ∧ some k_ ≠ (.slice (some jS) t200.length qg8 : Value).ownBlock ∧ some k_ ≠ (v219 : Value).ownBlock ∧ some k_ ≠ (v230 : Value).ownBlock ∧ some k_ ≠ (v237 : Value).ownBlock ∧ k_ ≠ qH ∧ k_ ≠ qP)) (by (with_reducible repeat (first | apply Kd.jC | apply Kd.jD | apply Kd.jG)); exact Kd.jZ (Kd.qg3 (p := ⟨qP, 2, none⟩) (Kd.qg3 (p := ⟨qP, 2, none⟩) (Kd.jZ qa5.out (fun k_ hk => (⟨hk, hk.2.2.2.2.2.2.1⟩ : _ ∧ k_ ≠ qP))) (fun _ hk => hk.2) (.int .i64 t239)) (fun _ hk => hk.2) (.int .i64 (wrap64 (t239 + 1)))) (fun _ hk => ⟨⟨hk.1.1, ⟨hk.1.2.1, ⟨hk.1.2.2.1, ⟨hk.1.2.2.2.2.1, ⟨hk.1.2.2.2.2.2.2.2, ⟨hk.1.2.2.2.2.2.1, hk.1.2.2.2.2.2.2.1⟩⟩⟩⟩⟩⟩, hk.1.2.2.2.1⟩)) hg hat); have n2_ := q8.mk (Kd.qo5 (ok := (fun k_ => (P0_ k_ ∨ w.heap.size ≤ k_) ∧ some k_ ≠ (u3 : Value).ownBlock ∧ some k_ ≠ (v219 : Value).ownBlock ∧ some k_ ≠ (v230 : Value).ownBlock ∧ some k_ ≠ (v237 : Value).ownBlock ∧ k_ ≠ qH ∧ k_ ≠ qP)) (by (with_reducible repeat (first | apply Kd.jC | apply Kd.jD | apply Kd.jG)); exact Kd.jZ (Kd.qg3 (p := ⟨qP, 2, none⟩) (Kd.qg3 (p := ⟨qP, 2, none⟩) (Kd.jZ qV.out (fun k_ hk => (⟨hk, hk.2.2.2.2.2.2.1⟩ : _ ∧ k_ ≠ qP))) (fun _ hk => hk.2) (.int .i64 t239)) (fun _ hk => hk.2) (.int .i64 (wrap64 (t239 + 1)))) (fun _ hk => ⟨⟨hk.1.1, ⟨hk.1.2.1, ⟨hk.1.2.2.1, ⟨hk.1.2.2.2.2.1, ⟨hk.1.2.2.2.2.2.2.2, ⟨hk.1.2.2.2.2.2.1, hk.1.2.2.2.2.2.2.1⟩⟩⟩⟩⟩⟩, hk.1.2.2.2.1⟩)) hg hat); have n3_ := q8.mk (Kd.qz2 (by (with_reducible repeat (first | apply Kd.qW | apply Kd.qX | apply Kd.jB)); exact (Kd.jK (Kd.zK (p := ⟨qP, 2, none⟩) (Kd.zK (p := ⟨qP, 2, none⟩) (Kd.qb4 qc0.out jV.out (by decide)) (fun _ hk => hk.2) (.int .i64 t239)) (fun _ hk => hk.2) (.int .i64 (wrap64 (t239 + 1)))) (fun _ h_ => h_.1))) (Kd.qj5 (by (with_reducible repeat (first | apply Kd.qW | apply Kd.qX | apply Kd.jB)); exact (Kd.jK (Kd.zK (p := ⟨qP, 2, none⟩) (Kd.zK (p := ⟨qP, 2, none⟩) (Kd.jK jR.out (fun k_ hk => (⟨hk, hk.2⟩ : _ ∧ k_ ≠ qP))) (fun _ hk => hk.2) (.int .i64 t239)) (fun _ hk => hk.2) (.int .i64 (wrap64 (t239 + 1)))) (fun _ h_ => h_.1)))) (by decide) hg); have n4_ := q8.mk (qF0 (g := qH) (o := .cells #[.int .i64 t221, .int .i64 t213, .int .i64 t215, u217003] 55 (0, 0)) (by (with_reducible repeat (first | refine qI ?_ _ | refine qR ?_ | refine qJ ?_ _)); refine qj4 ?_ qh8.out _; (with_reducible repeat (first | refine qI ?_ _ | refine qR ?_ | refine qJ ?_ _)); refine qj4 ?_ qh8.out _; (with_reducible repeat (first | refine qI ?_ _ | refine qR ?_ | refine qJ ?_ _)); exact jE.out) hg (Kd.jG4 jR.out jE.out (by decide))); have n5_ := q8.mk (qF0 (g := qP) (o := .cells #[.bool ((qG ((qD t200 qO).f3) j4).f0), .int .i64 t232, .int .i64 (wrap64 (t239 + 1))] 51 (0, 0)) (by (with_reducible repeat (first | refine qI ?_ _ | refine qR ?_ | refine qJ ?_ _)); refine qd4 (cs := #[.bool ((qG ((qD t200 qO).f3) j4).f0), .int .i64 t232, .int .i64 t239]) ?_ 2 _ rfl; (with_reducible repeat (first | refine qI ?_ _ | refine qR ?_ | refine qJ ?_ _)); refine qd4 (cs := #[.bool ((qG ((qD t200 qO).f3) j4).f0), .int .i64 t232, .int .i64 ((qG ((qD t200 qO).f3) j4).f2)]) ?_ 2 _ rfl; (with_reducible repeat (first | refine qI ?_ _ | refine qR ?_ | refine qJ ?_ _)); exact jV.out) hg (Kd.zy6 jR.out (fun _ hk => hk.2))); have n6_ := q8.mk (Kd.qz2 (by (with_reducible repeat (first | apply Kd.qW | apply Kd.qX | apply Kd.jB)); exact (Kd.jK (Kd.zK (p := ⟨qP, 2, none⟩) (Kd.zK (p := ⟨qP, 2, none⟩) (Kd.qb4 qw4.out jV.out (by decide)) (fun _ hk => hk.2) (.int .i64 t239)) (fun _ hk => hk.2) (.int .i64 (wrap64 (t239 + 1)))) (fun _ h_ => h_.1))) (Kd.qj5 (by (with_reducible repeat (first | apply Kd.qW | apply Kd.qX | apply Kd.jB)); exact (Kd.jK (Kd.zK (p := ⟨qP, 2, none⟩) (Kd.zK (p := ⟨qP, 2, none⟩) (Kd.jK jR.out (fun k_ hk => (⟨hk, hk.2⟩ : _ ∧ k_ ≠ qP))) (fun _ hk => hk.2) (.int .i64 t239)) (fun _ hk => hk.2) (.int .i64 (wrap64 (t239 + 1)))) (fun _ h_ => h_.1)))) (by decide) hg); have n7_ := q8.mk (Kd.qz2 (by (with_reducible repeat (first | apply Kd.qW | apply Kd.qX | apply Kd.jB)); exact (Kd.jK (Kd.zK (p := ⟨qP, 2, none⟩) (Kd.zK (p := ⟨qP, 2, none⟩) (Kd.qb4 zj3.out jV.out (by decide)) (fun _ hk => hk.2) (.int .i64 t239)) (fun _ hk => hk.2) (.int .i64 (wrap64 (t239 + 1)))) (fun _ h_ => h_.1))) (Kd.qj5 (by (with_reducible repeat (first | apply Kd.qW | apply Kd.qX | apply Kd.jB)); exact (Kd.jK (Kd.zK (p := ⟨qP, 2, none⟩) (Kd.zK (p := ⟨qP, 2, none⟩) (Kd.jK jR.out (fun k_ hk => (⟨hk, hk.2⟩ : _ ∧ k_ ≠ qP))) (fun _ hk => hk.2) (.int .i64 t239)) (fun _ hk => hk.2) (.int .i64 (wrap64 (t239 + 1)))) (fun _ h_ => h_.1)))) (by decide) hg); have n8_ := q8.mk (hb); have n9_ := q8.mk (ho); clear zZ; clear qa5; clear qV; clear qc0; clear jE; clear jV; clear qw4; clear zj3; clear HB; clear jR; have zZ := n0_; have qa5 := n1_; have qV := n2_; have qc0 := n3_; have jE := n4_; have jV := n5_; have qw4 := n6_; have zj3 := n7_; have HB := n8_; have zU3 := n9_; clear n0_ n1_ n2_ n3_ n4_ n5_ n6_ n7_ n8_ n9_; clear ho hb hg hat; obtain ⟨jQ3, jQ4, eo65⟩ := Kd.qs9 zU3.out; subst eo65; have Qz5 : w64.cell? ⟨qH, 0, none⟩ = some (.int .i64 t221) := (qE jE.out 0).trans rfl; have Qz6 : w64.cell? ⟨qH, 1, none⟩ = some (.int .i64 t213) := (qE jE.out 1).trans rfl; have Qz7 : w64.cell? ⟨qH, 2, none⟩ = some (.int .i64 t215) := (qE jE.out 2).trans rfl; have Qz8 : w64.cell? ⟨qH, 3, none⟩ = some (u217003) := (qE jE.out 3).trans rfl; have Qz9 := qC jE.out 0; have QA0 := qC jE.out 1; have QA1 := qC jE.out 2; have QA2 := qC jE.out 3))
             go_roundg k2
             case measure => have := HK1.out; have := HK2.out; omega
             case rel => exact ⟨(t229), (t236), (wrap64 (j4 + 1)), (y240), (.slice jQ3 y240.length jQ4), (by first | rfl | (simp; done) | (simp [*]; done)), H', ⟨by have := HK1.out; have := HK2.out; omega⟩, ⟨by (with_reducible repeat (first | apply Kd.jO | apply Kd.jP | apply Kd.z8)); exact Kd.zJ (Kd.qf5 (p := ⟨qH, 3, none⟩) (Kd.zJ zZ.out (fun k_ hk => (⟨hk, hk.1.2.2.2.2.2.2.1⟩ : _ ∧ k_ ≠ qH))) (fun _ hk => hk.2) (.slice jQ3 y240.length jQ4)) (fun _ hk => ⟨hk.1.1.1, ⟨hk.1.1.2.1, ⟨hk.1.1.2.2.1, ⟨hk.1.1.2.2.2.1, ⟨hk.1.1.2.2.2.2.1, ⟨hk.1.1.2.2.2.2.2.1, ⟨hk.1.2, hk.1.1.2.2.2.2.2.2.1⟩⟩⟩⟩⟩⟩⟩)⟩, ⟨by (with_reducible repeat (first | apply Kd.jC | apply Kd.jD | apply Kd.jG)); exact Kd.jZ (Kd.qg3 (p := ⟨qH, 3, none⟩) (Kd.jZ qa5.out (fun k_ hk => (⟨hk, hk.1.2.2.2.2.2.1⟩ : _ ∧ k_ ≠ qH))) (fun _ hk => hk.2) (.slice jQ3 y240.length jQ4)) (fun _ hk => ⟨hk.1.1.1, ⟨hk.1.1.2.1, ⟨hk.1.1.2.2.1, ⟨hk.1.1.2.2.2.1, ⟨hk.1.1.2.2.2.2.1, ⟨hk.1.2, hk.1.1.2.2.2.2.2.1⟩⟩⟩⟩⟩⟩)⟩, ⟨by (with_reducible repeat (first | apply Kd.jC | apply Kd.jD | apply Kd.jG)); exact Kd.jZ (Kd.qg3 (p := ⟨qH, 3, none⟩) (Kd.jZ qV.out (fun k_ hk => (⟨hk, hk.1.2.2.2.2.2.1⟩ : _ ∧ k_ ≠ qH))) (fun _ hk => hk.2) (.slice jQ3 y240.length jQ4)) (fun _ hk => ⟨hk.1.1.1, ⟨hk.1.1.2.1, ⟨hk.1.1.2.2.1, ⟨hk.1.1.2.2.2.1, ⟨hk.1.1.2.2.2.2.1, ⟨hk.1.2, hk.1.1.2.2.2.2.2.1⟩⟩⟩⟩⟩⟩)⟩, ⟨by (with_reducible repeat (first | apply Kd.qW | apply Kd.qX | apply Kd.jB)); exact Kd.jK (Kd.zK (p := ⟨qH, 3, none⟩) (Kd.qb4 qc0.out jE.out (by decide)) (fun _ hk => hk.2) (.slice jQ3 y240.length jQ4)) (fun _ hk => ⟨hk.1.1, ⟨hk.1.2.1, hk.1.2.2⟩⟩)⟩, ⟨by (with_reducible repeat (first | apply Kd.qW | apply Kd.qX | apply Kd.jB)); exact Kd.jK (Kd.zK (p := ⟨qH, 3, none⟩) (Kd.qb4 qw4.out jE.out (by decide)) (fun _ hk => hk.2) (.slice jQ3 y240.length jQ4)) (fun _ hk => ⟨hk.1.1, ⟨hk.1.2.1, hk.1.2.2⟩⟩)⟩, ⟨by (with_reducible repeat (first | apply Kd.qW | apply Kd.qX | apply Kd.jB)); exact Kd.jK (Kd.zK (p := ⟨qH, 3, none⟩) (Kd.qb4 zj3.out jE.out (by decide)) (fun _ hk => hk.2) (.slice jQ3 y240.length jQ4)) (fun _ hk => ⟨hk.1.1, ⟨hk.1.2.1, hk.1.2.2⟩⟩)⟩, ⟨by (with_reducible repeat (first | apply Kd.qW | apply Kd.qX | apply Kd.jB)); exact Kd.jK (Kd.zK (p := ⟨qH, 3, none⟩) (Kd.qb4 zU3.out jE.out (by decide)) (fun _ hk => hk.2) (.slice jQ3 y240.length jQ4)) (fun _ hk => hk.1.1)⟩, ⟨by (with_reducible repeat (first | refine qI ?_ _ | refine qR ?_ | refine qJ ?_ _)); refine qd4 (cs := #[.int .i64 t221, .int .i64 t213, .int .i64 t215, u217003]) ?_ 3 _ rfl; (with_reducible repeat (first | refine qI ?_ _ | refine qR ?_ | refine qJ ?_ _)); exact jE.out⟩, ⟨by repeat (first | (with_reducible first | exact HB.out | apply qA | apply q9 | apply qB | refine qK ?_ qe8.out | refine qK ?_ qu8.out) | exact HB.out)⟩⟩
            ·rw [if_neg c49] at H
             exact absurd H (by simp)
          ·rw [if_neg c32] at H
           exact absurd H (by simp)
         ·rw [if_neg c31] at H
          have Ql3 : decide (j4 < (((qD t200 qO).f3).length : Int)) = false := decide_eq_false c31
          clear c31
          by_cases c67 : qk2.length < 2932031007402
          ·rw [if_pos c67] at H
           have Qm2 := q8.mk c67
           clear c67
           obtain ⟨y223, jQ5⟩ : ∃ y_ : List (S55), y_ = (qk2 ++ [(⟨t221, t213, t215, zV⟩ : S55)]) := ⟨_, rfl⟩
           replace H : (qL.l0 k2 l0 y223 t200 t218 qe3 qf4 (wrap64 (qO + 1))) = some r := by first | (rw [jQ5]; with_reducible exact H) | (have H2_ := (Option.bind_some _ _).symm.trans H; rw [jQ5]; with_reducible exact H2_) | (have H2_ := (Option.bind_some _ _).symm.trans H; with_reducible exact H2_) | with_reducible exact H | (rw [jQ5]; exact H) | exact H
           have Qm3 := q8.mk jQ5
           clear jQ5
           have H' := q8.mk H
           clear H
           have qY7 : 0 ≤ (qO : Int) := of_decide_eq_true (by first | (with_reducible assumption) | assumption)
           have qY8 : qO < (t200.length : Int) := of_decide_eq_true (by first | (with_reducible assumption) | assumption)
           obtain ⟨jP7, zy0, jf1, e222, zi6, zi7, zi8, qH4, qC2, qC3⟩ := qa6 (Kd.zW qV.out).2.2 qO qY7 qY8
           obtain rfl : jS = jP7 := (by injection e222)
           obtain ⟨zU1, jo0, jo1, qM3⟩ := Kd.qE8 qV.out z55 qO qY7 (by first | exact qY8 | exact of_decide_eq_true (by first | (with_reducible assumption) | assumption) | (have e_ := (Kd.zW qV.out).1; omega))
           obtain ⟨zi9, zj0, rfl, qt3, qt4⟩ := qh7 jo1
           have qn5 := qM3 3 _ rfl
           rw [zO _ _ 3 (by omega)] at qn5
           replace qn5 := Option.some.inj (qn5.symm.trans qH4)
           injection qn5 with qm7 qx4 qm8
           rw [qm7] at qt4
           rw [qm8] at qt3
           have qg9 := q8.mk (show Kd.V k51 51 _ w.heap.size _ _ ((qD t200 qO).f3) from Kd.qP7 qt3 qt4)
           clear qm7 qx4 qm8 qt4 qt3
           clear qM3 jo0
           have qv8 := q8.mk qC3
           have zj1 := q8.mk qC2
           clear qC3 qC2
           replace qY7 := eq_true qY7
           replace qY8 := eq_true qY8
           have QA3 : wr.cell? ⟨qH, 0, none⟩ = some (.int .i64 t221) := (qE jE.out 0).trans rfl
           have QA4 : wr.cell? ⟨qH, 1, none⟩ = some (.int .i64 t213) := (qE jE.out 1).trans rfl
           have QA5 : wr.cell? ⟨qH, 2, none⟩ = some (.int .i64 t215) := (qE jE.out 2).trans rfl
           have QA6 : wr.cell? ⟨qH, 3, none⟩ = some (u217003) := (qE jE.out 3).trans rfl
           have QA7 := qC jE.out 0
           have QA8 := qC jE.out 1
           have QA9 := qC jE.out 2
           have QB0 := qC jE.out 3
           obtain ⟨zn8, zn9, eo70⟩ := Kd.qs9 jR.out
           subst eo70
           go_wp2_with (first | ((with_reducible refine ql1 (b := .append) (xs := #[.tmp 97, .tmp 99]) rfl ?_); at_builtin; refine Kd.jO2 k55 (w0 := w) w.heap.size rfl (.tmp 97) (.tmp 99) 22 55 (.agg #[(.int .i64 0), (.int .i64 0), (.int .i64 0), (.slice none 0 0)]) 48 rfl Try.underlying22 qS2 rfl (by decide) (by omega) u3 qk2 (⟨t221, t213, t215, zV⟩ : S55) [.int .i64 t221, .int .i64 t213, .int .i64 t215, .slice zn8 zV.length zn9] (fun k_ => (P0_ k_ ∨ w.heap.size ≤ k_) ∧ some k_ ≠ (.slice (some jS) t200.length qg8 : Value).ownBlock ∧ some k_ ≠ (v219 : Value).ownBlock ∧ some k_ ≠ (u6 : Value).ownBlock ∧ some k_ ≠ (u7 : Value).ownBlock ∧ k_ ≠ qH) (fun k_ => ((fun k_ => (P0_ k_ ∨ w.heap.size ≤ k_) ∧ some k_ ≠ (.slice (some jS) t200.length qg8 : Value).ownBlock ∧ some k_ ≠ (v219 : Value).ownBlock ∧ some k_ ≠ (u6 : Value).ownBlock ∧ some k_ ≠ (u7 : Value).ownBlock ∧ k_ ≠ qH)) k_ ∧ some k_ ≠ (u3 : Value).ownBlock) rfl rfl ?aP (fun _ hk => hk) ?aF ?aO ?aB ?aS ?aL ?_; (case aP => exact (zh4 _ _ (⟨t221, t213, t215, zV⟩ : S55) (Kd.qw2 (Kd.jK (ok' := (fun k_ => ((fun k_ => (P0_ k_ ∨ w.heap.size ≤ k_) ∧ some k_ ≠ (.slice (some jS) t200.length qg8 : Value).ownBlock ∧ some k_ ≠ (v219 : Value).ownBlock ∧ some k_ ≠ (u6 : Value).ownBlock ∧ some k_ ≠ (u7 : Value).ownBlock ∧ k_ ≠ qH)) k_ ∧ some k_ ≠ (u3 : Value).ownBlock)) (Kd.qb4 (Kd.qk3 (Kd.qk3 (Kd.qk3 (Kd.qk3 (Kd.qk3 (jR.out) (Kd.qH7 qV.out) (by decide)) (Kd.qj5 qc0.out) (by decide)) (Kd.qj5 qe7.out) (by decide)) (Kd.qj5 qc8.out) (by decide)) (Kd.qH7 qa5.out) (by decide)) jE.out (by decide)) (fun k_ hk => ⟨⟨(.inr (hk.1.1.1.1.1.1)), ⟨hk.1.1.1.1.1.2, ⟨hk.1.1.1.1.2, ⟨hk.1.1.1.2, ⟨hk.1.1.2, hk.2⟩⟩⟩⟩⟩, hk.1.2⟩))).2.1 (Kd.R_F (Kd.jK (ok' := (fun k_ => ((fun k_ => (P0_ k_ ∨ w.heap.size ≤ k_) ∧ some k_ ≠ (.slice (some jS) t200.length qg8 : Value).ownBlock ∧ some k_ ≠ (v219 : Value).ownBlock ∧ some k_ ≠ (u6 : Value).ownBlock ∧ some k_ ≠ (u7 : Value).ownBlock ∧ k_ ≠ qH)) k_ ∧ some k_ ≠ (u3 : Value).ownBlock)) (Kd.qb4 (Kd.qk3 (Kd.qk3 (Kd.qk3 (Kd.qk3 (Kd.qk3 (jR.out) (Kd.qH7 qV.out) (by decide)) (Kd.qj5 qc0.out) (by decide)) (Kd.qj5 qe7.out) (by decide)) (Kd.qj5 qc8.out) (by decide)) (Kd.qH7 qa5.out) (by decide)) jE.out (by decide)) (fun k_ hk => ⟨⟨(.inr (hk.1.1.1.1.1.1)), ⟨hk.1.1.1.1.1.2, ⟨hk.1.1.1.1.2, ⟨hk.1.1.1.2, ⟨hk.1.1.2, hk.2⟩⟩⟩⟩⟩, hk.1.2⟩))))); (case aB => exact (by repeat (first | (with_reducible first | exact HB.out | apply qA | apply q9 | apply qB | refine qK ?_ qe8.out) | exact HB.out))); (case aF => exact (fun k_ hk => ⟨(.inr (Nat.le_trans (qM (by repeat (first | (with_reducible first | exact HB.out | apply qA | apply q9 | apply qB | refine qK ?_ qe8.out) | exact HB.out))) hk)), Kd.fresh' (Kd.jw0 (by (with_reducible repeat (first | apply Kd.jC | apply Kd.jD | apply Kd.jG)); exact qV.out)) k_ hk, Kd.fresh' (Kd.qK9 (by (with_reducible repeat (first | apply Kd.qW | apply Kd.qX | apply Kd.jB)); exact qc0.out)) k_ hk, Kd.fresh' (Kd.qK9 (by (with_reducible repeat (first | apply Kd.qW | apply Kd.qX | apply Kd.jB)); exact qe7.out)) k_ hk, Kd.fresh' (Kd.qK9 (by (with_reducible repeat (first | apply Kd.qW | apply Kd.qX | apply Kd.jB)); exact qc8.out)) k_ hk, Kd.za1 (g := qH) (o := .cells #[.int .i64 t221, .int .i64 t213, .int .i64 t215, .slice zn8 zV.length zn9] 55 (0, 0)) (by (with_reducible repeat (first | refine qI ?_ _ | refine qR ?_ | refine qJ ?_ _)); exact jE.out) k_ hk⟩)); (case aO => exact (by (with_reducible repeat (first | apply Kd.jC | apply Kd.jD | apply Kd.jG)); exact Kd.jZ qa5.out (fun _ hk => ⟨hk.1, ⟨hk.2.1, ⟨hk.2.2.1, ⟨hk.2.2.2.1, ⟨hk.2.2.2.2.1, hk.2.2.2.2.2.2⟩⟩⟩⟩⟩))); (case aS => exact (qM (by repeat (first | (with_reducible first | exact HB.out | apply qA | apply q9 | apply qB | refine qK ?_ qe8.out) | exact HB.out)))); (case aL => have := Qm2.out; omega); intro v224 w69 ho hb hg hat; rw [← Qm3.out] at ho; have n0_ := q8.mk (Kd.qm6 (ok := (fun k_ => (P0_ k_ ∨ w.heap.size ≤ k_) ∧ some k_ ≠ (.slice (some jS) t200.length qg8 : Value).ownBlock ∧ some k_ ≠ (v219 : Value).ownBlock ∧ some k_ ≠ (u6 : Value).ownBlock ∧ some k_ ≠ (u7 : Value).ownBlock ∧ some k_ ≠ (.slice zn8 zV.length zn9 : Value).ownBlock ∧ k_ ≠ qH)) (by (with_reducible repeat (first | apply Kd.jO | apply Kd.jP | apply Kd.z8)); exact Kd.zJ zZ.out (fun _ hk => ⟨⟨hk.1, ⟨hk.2.2.1, ⟨hk.2.2.2.1, ⟨hk.2.2.2.2.1, ⟨hk.2.2.2.2.2.1, ⟨hk.2.2.2.2.2.2.1, hk.2.2.2.2.2.2.2⟩⟩⟩⟩⟩⟩, hk.2.1⟩)) hg hat); have n1_ := q8.mk (Kd.qo5 (ok := (fun k_ => (P0_ k_ ∨ w.heap.size ≤ k_) ∧ some k_ ≠ (v219 : Value).ownBlock ∧ some k_ ≠ (u6 : Value).ownBlock ∧ some k_ ≠ (u7 : Value).ownBlock ∧ some k_ ≠ (.slice zn8 zV.length zn9 : Value).ownBlock ∧ k_ ≠ qH)) (by (with_reducible repeat (first | apply Kd.jC | apply Kd.jD | apply Kd.jG)); exact Kd.jZ qV.out (fun _ hk => ⟨⟨hk.1, ⟨hk.2.2.1, ⟨hk.2.2.2.1, ⟨hk.2.2.2.2.1, ⟨hk.2.2.2.2.2.1, hk.2.2.2.2.2.2⟩⟩⟩⟩⟩, hk.2.1⟩)) hg hat); have n2_ := q8.mk (Kd.qz2 (by (with_reducible repeat (first | apply Kd.qW | apply Kd.qX | apply Kd.jB)); exact qc0.out) (Kd.qH7 (by (with_reducible repeat (first | apply Kd.jC | apply Kd.jD | apply Kd.jG)); exact qa5.out)) (by decide) hg); have n3_ := q8.mk (Kd.qz2 (by (with_reducible repeat (first | apply Kd.qW | apply Kd.qX | apply Kd.jB)); exact qe7.out) (Kd.qH7 (by (with_reducible repeat (first | apply Kd.jC | apply Kd.jD | apply Kd.jG)); exact qa5.out)) (by decide) hg); have n4_ := q8.mk (Kd.qz2 (by (with_reducible repeat (first | apply Kd.qW | apply Kd.qX | apply Kd.jB)); exact qc8.out) (Kd.qH7 (by (with_reducible repeat (first | apply Kd.jC | apply Kd.jD | apply Kd.jG)); exact qa5.out)) (by decide) hg); have n5_ := q8.mk (qF0 (g := qH) (o := .cells #[.int .i64 t221, .int .i64 t213, .int .i64 t215, .slice zn8 zV.length zn9] 55 (0, 0)) (by (with_reducible repeat (first | refine qI ?_ _ | refine qR ?_ | refine qJ ?_ _)); exact jE.out) hg (Kd.qY qa5.out (fun _ hk => hk.2.2.2.2.2.2))); have n6_ := q8.mk (Kd.qm6 (ok := (fun k_ => (P0_ k_ ∨ w.heap.size ≤ k_) ∧ some k_ ≠ (.slice (some jS) t200.length qg8 : Value).ownBlock ∧ some k_ ≠ (v219 : Value).ownBlock ∧ some k_ ≠ (u6 : Value).ownBlock ∧ some k_ ≠ (u7 : Value).ownBlock ∧ some k_ ≠ (.slice zn8 zV.length zn9 : Value).ownBlock ∧ k_ ≠ qH)) (by (with_reducible repeat (first | apply Kd.jO | apply Kd.jP | apply Kd.z8)); exact Kd.zJ qg9.out (fun _ hk => ⟨⟨hk.1.1, ⟨hk.2, ⟨hk.1.2.2.1, ⟨hk.1.2.2.2.1, ⟨hk.1.2.2.2.2.1, ⟨hk.1.2.2.2.2.2.1, hk.1.2.2.2.2.2.2⟩⟩⟩⟩⟩⟩, hk.1.2.1⟩)) hg hat); have n7_ := q8.mk (hb); have n8_ := q8.mk (ho); clear zZ; clear qV; clear qc0; clear qe7; clear qc8; clear jE; clear qg9; clear HB; clear qa5; clear jR; have zZ := n0_; have qV := n1_; have qc0 := n2_; have qe7 := n3_; have qc8 := n4_; have jE := n5_; have qg9 := n6_; have HB := n7_; have Qm4 := n8_; clear n0_ n1_ n2_ n3_ n4_ n5_ n6_ n7_ n8_; clear ho hb hg hat))
           go_roundg k2
           case measure => have := HK1.out; have := HK2.out; omega
           case rel => exact ⟨(y223), (t218), (qe3), (qf4), (wrap64 (qO + 1)), (by first | rfl | (simp; done) | (simp [*]; done)), H', ⟨by have := HK1.out; have := HK2.out; omega⟩, ⟨by (with_reducible repeat (first | apply Kd.jO | apply Kd.jP | apply Kd.z8)); exact Kd.zJ zZ.out (fun _ hk => ⟨hk.1.1, ⟨hk.2, ⟨hk.1.2.1, ⟨hk.1.2.2.1, ⟨hk.1.2.2.2.1, hk.1.2.2.2.2.1⟩⟩⟩⟩⟩)⟩, ⟨by (with_reducible repeat (first | apply Kd.jC | apply Kd.jD | apply Kd.jG)); exact Kd.jZ Qm4.out (fun _ hk => ⟨hk.1, ⟨hk.2.1, ⟨hk.2.2.1, ⟨hk.2.2.2.1, hk.2.2.2.2.1⟩⟩⟩⟩)⟩, ⟨by (with_reducible repeat (first | apply Kd.jC | apply Kd.jD | apply Kd.jG)); exact Kd.jZ qV.out (fun _ hk => ⟨hk.1.1, ⟨hk.2, ⟨hk.1.2.1, ⟨hk.1.2.2.1, hk.1.2.2.2.1⟩⟩⟩⟩)⟩, ⟨by (with_reducible repeat (first | apply Kd.qW | apply Kd.qX | apply Kd.jB)); exact qc0.out⟩, ⟨by (with_reducible repeat (first | apply Kd.qW | apply Kd.qX | apply Kd.jB)); exact qe7.out⟩, ⟨by (with_reducible repeat (first | apply Kd.qW | apply Kd.qX | apply Kd.jB)); exact qc8.out⟩, ⟨by repeat (first | (with_reducible first | exact HB.out | apply qA | apply q9 | apply qB | refine qK ?_ qe8.out) | exact HB.out)⟩⟩
          ·rw [if_neg c67] at H
           exact absurd H (by simp)
        ·rw [if_neg c30] at H
         exact absurd H (by simp)
       ·rw [if_neg c29] at H
        exact absurd H (by simp)
    ·rw [if_neg c13] at H
     exact absurd H (by simp)
   ·rw [if_neg c12] at H
    have qE7 : decide (qO < (t200.length : Int)) = false := decide_eq_false c12
    clear c12
    obtain rfl := Option.some.inj H
    obtain ⟨Ao71, co71, eo71⟩ := Kd.qO3 qV.out
    subst eo71
    go_wp2
    go_ret
    exact ⟨_, by first | rfl | (simp [jI, jJ] <;> rfl) | (simp [*, jI, jJ] <;> rfl), by (with_reducible repeat (first | apply Kd.jC | apply Kd.jD | apply Kd.jG)); exact Kd.jZ qa5.out (fun _ hk => hk.1), by repeat (first | (with_reducible first | exact HB.out | apply qA | apply q9 | apply qB) | exact HB.out)⟩
end Go.Proofs.Ytngkneknopenmaa.T
end
section
namespace Go.Proofs.Ytngkneknopenmaa.zM
open Go Go.RowKit Go.Proofs.Ytngkneknopenmaa Go.Proofs.Ytngkneknopenmaa.qa9 Go.Proofs.YtngkneknopenmaaW.jH
open Go.Proofs.Ytngkneknopenmaa.K (S55 S51 qD qG)
theorem zK7 (h : List T4) (x : Int) (hm : h.length ≤ 1000000) : ∀ (d i n : Nat), i + d = h.length → n ≤ 2 * i →
  Ev (fun k => T.j6.l0 k (h.map ofT) x (n : Int) (i : Int)) ((n + zI (jF (h.drop i)) x : Nat) : Int) := by
 intro d
 induction d with
 | zero =>
  intro i n hi hn
  refine Ev.step (f := fun _ => some (n : Int)) (fun k => by simp only [T.j6.l0]; rw [if_neg (by rw [List.length_map]; omega)]) ?_
  rw [List.drop_of_length_le (by omega)]
  exact Ev.now _
 | succ d ih =>
  intro i n hi hn
  have h1 : i < h.length := by omega
  have e : jF (h.drop i) = [h[i].b, h[i].c] ++ jF (h.drop (i + 1)) := by rw [List.drop_eq_getElem_cons h1]; rfl
  have ec : zI (jF (h.drop i)) x = (if h[i].b < x then 1 else 0) + (if h[i].c < x then 1 else 0) + zI (jF (h.drop (i + 1))) x := by
   rw [e]
   unfold zI
   rw [List.countP_append, List.countP_cons, List.countP_cons, List.countP_nil]
   simp only [decide_eq_true_eq]
   omega
  rw [ec]
  have key : ∀ m : Nat, m ≤ 2 * (i + 1) → Ev (fun k => T.j6.l0 k (h.map ofT) x (m : Int) ((i + 1 : Nat) : Int)) ((m + zI (jF (h.drop (i + 1))) x : Nat) : Int) := fun m hm2 => ih (i + 1) m (by omega) hm2
  by_cases c1 : h[i].b < x <;> by_cases c2 : h[i].c < x
  ·refine Ev.step (fun k => by
    simp only [T.j6.l0]
    rw [if_pos (by rw [List.length_map]; omega), if_pos (by omega), ql5 h i h1, if_pos (show (ofT h[i]).f1 < x from c1), if_pos (show (ofT h[i]).f2 < x from c2), qb6 (x := i) (by omega), qb6 (x := n) (by omega), qb6 (x := n + 1) (by omega)]) ?_
   rw [if_pos c1, if_pos c2, show n + (1 + 1 + zI (jF (h.drop (i + 1))) x) = n + 1 + 1 + zI (jF (h.drop (i + 1))) x by omega]
   exact key _ (by omega)
  ·refine Ev.step (fun k => by
    simp only [T.j6.l0]
    rw [if_pos (by rw [List.length_map]; omega), if_pos (by omega), ql5 h i h1, if_pos (show (ofT h[i]).f1 < x from c1), if_neg (show ¬ (ofT h[i]).f2 < x from c2), qb6 (x := i) (by omega), qb6 (x := n) (by omega)]) ?_
   rw [if_pos c1, if_neg c2, show n + (1 + 0 + zI (jF (h.drop (i + 1))) x) = n + 1 + zI (jF (h.drop (i + 1))) x by omega]
   exact key _ (by omega)
  ·refine Ev.step (fun k => by
    simp only [T.j6.l0]
    rw [if_pos (by rw [List.length_map]; omega), if_pos (by omega), ql5 h i h1, if_neg (show ¬ (ofT h[i]).f1 < x from c1), if_pos (show (ofT h[i]).f2 < x from c2), qb6 (x := i) (by omega), qb6 (x := n) (by omega)]) ?_
   rw [if_neg c1, if_pos c2, show n + (0 + 1 + zI (jF (h.drop (i + 1))) x) = n + 1 + zI (jF (h.drop (i + 1))) x by omega]
   exact key _ (by omega)
  ·refine Ev.step (fun k => by
    simp only [T.j6.l0]
    rw [if_pos (by rw [List.length_map]; omega), if_pos (by omega), ql5 h i h1, if_neg (show ¬ (ofT h[i]).f1 < x from c1), if_neg (show ¬ (ofT h[i]).f2 < x from c2), qb6 (x := i) (by omega)]) ?_
   rw [if_neg c1, if_neg c2, show n + (0 + 0 + zI (jF (h.drop (i + 1))) x) = n + zI (jF (h.drop (i + 1))) x by omega]
   exact key _ (by omega)
theorem zy7 (h : List T4) (x : Int) (hm : h.length ≤ 1000000) : Ev (fun k => T.j6.f k (h.map ofT) x) (qG0 h x) := by
 have := zK7 h x hm h.length 0 0 (by omega) (by omega)
 rw [List.drop_zero, Nat.zero_add] at this
 exact this
theorem jQ6 {l : List Int} {x : Int} (h : x ∉ l) : qa2 l x = l.length := by
 unfold qa2
 rw [List.findIdx_eq_length]
 intro y hy
 simp
 exact fun e => h (e ▸ hy)
theorem jo3 (l : List Int) (x : Int) : qa2 (zQ l x) x = qa2 l x := by
 unfold zQ
 by_cases h : x ∈ l
 ·rw [if_pos h]
 ·rw [if_neg h, qV7 h, jQ6 h]
theorem zK8 (l : List Int) (x : Int) (hm : l.length ≤ 1000000) : ∀ (d i : Nat), i + d = l.length → (∀ j, j < i → ∀ h : j < l.length, l[j] ≠ x) →
  Ev (fun k => T.jA.l0 k l x (i : Int)) (zQ l x, (qa2 l x : Int)) := by
 intro d
 induction d with
 | zero =>
  intro i hi hn
  have hx : x ∉ l := fun hx => by
   obtain ⟨j, hj, e⟩ := List.mem_iff_getElem.1 hx
   exact hn j (by omega) hj e
  have e2 : ((zQ l x, (qa2 l x : Int)) : List Int × Int) = (l ++ [x], (l.length : Int)) := by
   rw [jQ6 hx]
   unfold zQ
   rw [if_neg hx]
  rw [e2]
  refine Ev.step (f := fun _ => some (l ++ [x], (l.length : Int))) (fun k => ?_) (Ev.now _)
  simp only [T.jA.l0]
  rw [if_neg (by omega)]
  simp only [Option.bind_some, List.length_nil, List.nil_append]
  rw [if_pos (by omega), if_pos (by omega)]
 | succ d ih =>
  intro i hi hn
  have h1 : i < l.length := by omega
  have er : rd l (i : Int) = l[i] := by unfold rd; simp [h1]
  by_cases c : l[i] = x
  ·have e2 : ((zQ l x, (qa2 l x : Int)) : List Int × Int) = (l, (i : Int)) := by
    have hx : x ∈ l := c ▸ List.getElem_mem h1
    have : qa2 l x = i := by
     unfold qa2
     rw [List.findIdx_eq h1]
     refine ⟨by simp [c], fun j hj => by simp; exact hn j hj (by omega)⟩
    rw [this]
    unfold zQ
    rw [if_pos hx]
   rw [e2]
   refine Ev.step (f := fun _ => some (l, (i : Int))) (fun k => ?_) (Ev.now _)
   simp only [T.jA.l0]
   rw [if_pos (by omega), if_pos (by omega), er, if_pos c]
  ·refine Ev.step (fun k => by
    simp only [T.jA.l0]
    rw [if_pos (by omega), if_pos (by omega), er, if_neg c, qb6 (by omega)]) ?_
   refine ih (i + 1) (by omega) (fun j hj hjl => ?_)
   by_cases q : j = i
   ·subst q; exact c
   ·exact hn j (by omega) hjl
theorem za2 (l : List Int) (x : Int) (hm : l.length ≤ 1000000) : Ev (fun k => T.jA.f k l x) (zQ l x, (qa2 l x : Int)) :=
 zK8 l x hm l.length 0 (by omega) (fun j hj => by omega)
end Go.Proofs.Ytngkneknopenmaa.zM
end
section
namespace Go.Proofs.Ytngkneknopenmaa.zM
open Go Go.RowKit Go.Proofs.Ytngkneknopenmaa Go.Proofs.Ytngkneknopenmaa.qa9 Go.Proofs.YtngkneknopenmaaW.jH
open Go.Proofs.Ytngkneknopenmaa.K (S55 S51 qD qG)
theorem jo4 {α : Type} (l : List α) (k : Nat) (h : k < l.length) : (l[k] :: (l.take k ++ l.drop (k + 1))).Perm l := by
 have e : l = l.take k ++ l[k] :: l.drop (k + 1) := by rw [← List.drop_eq_getElem_cons h, List.take_append_drop]
 have p : (l.take k ++ l[k] :: l.drop (k + 1)).Perm (l[k] :: (l.take k ++ l.drop (k + 1))) := List.perm_middle
 exact p.symm.trans (List.Perm.of_eq e.symm)
theorem za3 (out left : List T4) (k kk i : Nat) (hi : i = left.length) (hk : kk < left.length) (hm : left.length ≤ 1000000) (hm2 : out.length ≤ 1000000) : T.qF.l1 (k + 1) (out.map ofT) (left.map ofT) (kk : Int) (i : Int) = T.qF.l0 k ((out ++ [left[kk]]).map ofT) ((left.take kk ++ left.drop (kk + 1)).map ofT) := by
 have h1 : ¬ ((i : Int) < ((left.map ofT).length : Int)) := by rw [List.length_map]; omega
 have h2 : (0 : Int) ≤ (kk : Int) := by omega
 have h3 : (kk : Int) < ((left.map ofT).length : Int) := by rw [List.length_map]; omega
 have h4 : (out.map ofT).length < 2932031007402 := by rw [List.length_map]; omega
 have h5 : (kk : Int) ≤ ((left.map ofT).length : Int) := by rw [List.length_map]; omega
 have h6 : ([] : List S55).length + ((left.map ofT).take ((kk : Nat) : Int).toNat).length < 2932031007402 := by simp only [List.length_nil, List.length_take, List.length_map]; omega
 have h7 : wrap64 ((kk : Int) + 1) = ((kk + 1 : Nat) : Int) := qb6 (by omega)
 have h8 : (0 : Int) ≤ wrap64 ((kk : Int) + 1) := by rw [h7]; exact Int.natCast_nonneg _
 have h9 : wrap64 ((kk : Int) + 1) ≤ ((left.map ofT).length : Int) := by rw [h7, List.length_map]; exact Int.ofNat_le.2 hk
 have h10 : (([] : List S55) ++ (left.map ofT).take ((kk : Nat) : Int).toNat).length + ((left.map ofT).drop (wrap64 ((kk : Int) + 1)).toNat).length < 2932031007402 := by
  rw [h7]
  simp only [List.nil_append, List.length_take, List.length_drop, List.length_map]
  clear h7 h8 h9
  omega
 rw [T.qF.l1]
 rw [if_neg h1, if_pos h2, if_pos h3, if_pos h4]
 rw [Option.bind_some]
 rw [if_pos h5]
 rw [Option.bind_some]
 rw [if_pos h6]
 rw [Option.bind_some]
 rw [if_pos h8, if_pos h9]
 rw [Option.bind_some]
 rw [if_pos h10, h7, ql5 left kk hk]
 simp only [List.nil_append, List.map_append, List.map_take, List.map_drop, List.map_cons, List.map_nil, Int.toNat_natCast]
theorem zo0 (out left : List T4) (hm : left.length ≤ 1000000) (hm2 : out.length + left.length ≤ 1000000) : ∀ (d kk i : Nat), i + d = left.length → (hk : kk < left.length) → (∀ j, j < i → ∀ h : j < left.length, left[kk].b ≤ left[j].b) → ∃ k2, ∃ h2 : k2 < left.length, (∀ u ∈ left, left[k2].b ≤ u.b) ∧ ∀ r, Ev (fun k => T.qF.l0 k ((out ++ [left[k2]]).map ofT) ((left.take k2 ++ left.drop (k2 + 1)).map ofT)) r → Ev (fun k => T.qF.l1 k (out.map ofT) (left.map ofT) (kk : Int) (i : Int)) r := by
 intro d
 induction d with
 | zero =>
  intro kk i hi hk hmin
  have Qm5 : ∀ u ∈ left, left[kk].b ≤ u.b := fun u hu => by
   obtain ⟨j, hj, rfl⟩ := List.mem_iff_getElem.1 hu
   exact hmin j (by omega) hj
  refine ⟨kk, hk, Qm5, fun r hr => ?_⟩
  refine Ev.step (fun k => za3 out left k kk i (by omega) hk (by omega) (by omega)) hr
 | succ d ihd =>
  intro kk i hi hk hmin
  have h1 : i < left.length := by omega
  by_cases c : left[i].b < left[kk].b
  ·obtain ⟨k2, h2, hm3, hr⟩ := ihd i (i + 1) (by omega) h1 (fun j hj hjl => by
    by_cases q : j = i
    ·subst q; exact Int.le_refl _
    ·have := hmin j (by omega) hjl; omega)
   refine ⟨k2, h2, hm3, fun r hr2 => Ev.step (fun k => ?_) (hr r hr2)⟩
   simp only [T.qF.l1]
   rw [if_pos (by rw [List.length_map]; omega), if_pos (by omega), if_pos (by omega), if_pos (by rw [List.length_map]; omega), ql5 left i h1, ql5 left kk hk, if_pos (show (ofT left[i]).f1 < (ofT left[kk]).f1 from c), qb6 (x := i) (by omega)]
  ·obtain ⟨k2, h2, hm3, hr⟩ := ihd kk (i + 1) (by omega) hk (fun j hj hjl => by
    by_cases q : j = i
    ·subst q; omega
    ·exact hmin j (by omega) hjl)
   refine ⟨k2, h2, hm3, fun r hr2 => Ev.step (fun k => ?_) (hr r hr2)⟩
   simp only [T.qF.l1]
   rw [if_pos (by rw [List.length_map]; omega), if_pos (by omega), if_pos (by omega), if_pos (by rw [List.length_map]; omega), ql5 left i h1, ql5 left kk hk, if_neg (show ¬ (ofT left[i]).f1 < (ofT left[kk]).f1 from c), qb6 (x := i) (by omega)]
theorem zo1 : ∀ (n : Nat) (out left : List T4), left.length = n → left.length ≤ 1000000 → out.length + left.length ≤ 1000000 → ∃ r : List T4, r.Perm left ∧ r.Pairwise (fun x y => x.b ≤ y.b) ∧ Ev (fun k => T.qF.l0 k (out.map ofT) (left.map ofT)) ((out ++ r).map ofT) := by
 intro n
 induction n with
 | zero =>
  intro out left hl _ _
  obtain rfl := List.eq_nil_of_length_eq_zero hl
  refine ⟨[], List.Perm.refl _, List.Pairwise.nil, ?_⟩
  rw [List.append_nil]
  refine Ev.step (f := fun _ => some (out.map ofT)) (fun k => ?_) (Ev.now _)
  simp only [T.qF.l0]
  rfl
 | succ n ih =>
  intro out left hl hm hm2
  have run := zo0 out left hm hm2 left.length 0 0 (by omega) (by omega) (fun j hj => by omega)
  obtain ⟨k2, h2, hmin, hrun⟩ := run
  have hlen : (left.take k2 ++ left.drop (k2 + 1)).length = n := by simp; omega
  obtain ⟨r, hp, hs, hev⟩ := ih (out ++ [left[k2]]) (left.take k2 ++ left.drop (k2 + 1)) hlen (by omega) (by simp; omega)
  refine ⟨left[k2] :: r, (hp.cons _).trans (jo4 left k2 h2), ?_, ?_⟩
  ·rw [List.pairwise_cons]
   refine ⟨fun u hu => hmin u ?_, hs⟩
   have := hp.mem_iff.1 hu
   rcases List.mem_append.1 this with q | q
   ·exact List.mem_of_mem_take q
   ·exact List.mem_of_mem_drop q
  ·have e : (out ++ [left[k2]]) ++ r = out ++ left[k2] :: r := by simp
   rw [e] at hev
   refine Ev.step (fun k => ?_) (hrun _ hev)
   simp only [T.qF.l0]
   rw [if_pos (by rw [List.length_map]; omega)]
   rfl
theorem zy8 {h : List T4} (hm : qz9 h) (hl : h.length ≤ 1000000) : Ev (fun k => T.qF.f k (h.map ofT)) ((qe2 h).map ofT) := by
 obtain ⟨r, hp, hs, hev⟩ := zo1 h.length [] h rfl hl (by simp; omega)
 have e : r = qe2 h := qv5 (hp.trans (qb2 h).symm) hs (qk8 h) (fun x hx y hy e => qR8 hm x (hp.mem_iff.1 hx) y (hp.mem_iff.1 hy) e)
 subst e
 unfold T.qF.f
 refine Ev.congr (fun k => ?_) hev
 simp only [Option.bind_some, List.length_nil, List.nil_append, List.length_map]
 rw [if_pos (by omega)]
 rfl
theorem Qm6 (h l : List T4) (hm : l.length ≤ 1000) (hc : jL l ≤ 100000) (i : Nat) (hi : i < l.length) (out : List S55) (ho : out.length ≤ 1000) (s' b' c' : Int) (r : List S55)
  (hK : Ev (fun k => T.qL.l0 k (h.map ofT) (out ++ [(⟨s', b', c', (l[i].ops.map (qE6 (names (zR l)) (names (zP l)))).map ofO⟩ : S55)]) (l.map ofT) (qb0 l i l[i] l[i].ops.length 0) (qb0 l i l[i] l[i].ops.length 1) (qb0 l i l[i] l[i].ops.length 2) ((i + 1 : Nat) : Int)) r) :
  ∀ (d j : Nat), j + d = l[i].ops.length →
   Ev (fun k => T.qL.l1 k (h.map ofT) out (l.map ofT) (qb0 l i l[i] j 0) (qb0 l i l[i] j 1) (qb0 l i l[i] j 2) (i : Int) (j : Int) s' b' c' (((l[i].ops.take j).map (qE6 (names (zR l)) (names (zP l)))).map ofO)) r := by
 have hg : l[i]? = some l[i] := List.getElem?_eq_getElem hi
 have hlen : l[i].ops.length ≤ 100000 := Nat.le_trans (qr5 (List.getElem_mem hi)) hc
 intro d
 induction d with
 | zero =>
  intro j hj
  have ej : j = l[i].ops.length := by omega
  subst ej
  refine Ev.step (fun k => ?_) hK
  simp only [T.qL.l1]
  rw [if_pos (by omega), if_pos (by rw [List.length_map]; omega), ql5 l i hi]
  rw [show (ofT l[i]).f3 = l[i].ops.map ofO from rfl, if_neg (by rw [List.length_map]; omega), if_pos (by omega), qb6 (x := i) (by omega), List.take_length]
 | succ d ih =>
  intro j hj
  have h1 : j < l[i].ops.length := by omega
  have hgo : l[i].ops[j]? = some l[i].ops[j] := List.getElem?_eq_getElem h1
  have e1 := za2 (qb0 l i l[i] j 1) (l[i].ops[j].k) (by have := qW1 hg j; omega)
  have ek : ((qa2 (qb0 l i l[i] j 1) l[i].ops[j].k : Nat) : Int) = (qa2 (names (zR l)) l[i].ops[j].k : Nat) := by rw [← zt6 hg hgo, jo3]
  have es : ((l[i].ops.take (j + 1)).map (qE6 (names (zR l)) (names (zP l)))).map ofO = ((l[i].ops.take j).map (qE6 (names (zR l)) (names (zP l)))).map ofO ++ [ofO (qE6 (names (zR l)) (names (zP l)) l[i].ops[j])] := by
   rw [qh5 hgo, List.map_append, List.map_append]; rfl
  have hih := ih (j + 1) (by omega)
  rw [es] at hih
  have hlt : (((l[i].ops.take j).map (qE6 (names (zR l)) (names (zP l)))).map ofO).length < 5864062014805 := by
   simp only [List.length_map, List.length_take]; omega
  by_cases hv : l[i].ops[j].v = 0
  ·have hL := zt3 (l := l) (i := i) hgo hv
   have L0 : qb0 l i l[i] j 0 = qb0 l i l[i] (j + 1) 0 := by have := congrFun hL 0; simpa using this
   have L1 : zQ (qb0 l i l[i] j 1) l[i].ops[j].k = qb0 l i l[i] (j + 1) 1 := by have := congrFun hL 1; simpa using this
   have L2 : qb0 l i l[i] j 2 = qb0 l i l[i] (j + 1) 2 := by have := congrFun hL 2; simpa using this
   refine Ev.step (f := fun k => (T.jA.f k (qb0 l i l[i] j 1) l[i].ops[j].k).bind fun bt => T.qL.l1 k (h.map ofT) out (l.map ofT) (qb0 l i l[i] j 0) bt.1 (qb0 l i l[i] j 2) (i : Int) ((j + 1 : Nat) : Int) s' b' c' (((l[i].ops.take j).map (qE6 (names (zR l)) (names (zP l)))).map ofO ++ [(⟨l[i].ops[j].w, bt.2, l[i].ops[j].v⟩ : S51)])) (fun k => ?_) ?_
   ·simp only [T.qL.l1]
    rw [if_pos (by omega), if_pos (by rw [List.length_map]; omega), ql5 l i hi]
    rw [show (ofT l[i]).f3 = l[i].ops.map ofO from rfl, if_pos (by rw [List.length_map]; omega), if_pos (by omega), jf3 _ j h1, qb6 (x := j) (by omega)]
    congr 1
    funext bt
    rw [if_pos (show (ofO l[i].ops[j]).f2 = 0 from hv), if_pos hlt]
    rfl
   ·refine Ev.bind e1 ?_
    have eo : (⟨l[i].ops[j].w, ((qa2 (qb0 l i l[i] j 1) l[i].ops[j].k : Nat) : Int), l[i].ops[j].v⟩ : S51) = ofO (qE6 (names (zR l)) (names (zP l)) l[i].ops[j]) := by
     rw [ek]; unfold qE6 ofO; simp [hv]
    show Ev (fun k => T.qL.l1 k _ _ _ (qb0 l i l[i] j 0) (zQ (qb0 l i l[i] j 1) l[i].ops[j].k) (qb0 l i l[i] j 2) _ _ _ _ _ (_ ++ [(⟨l[i].ops[j].w, ((qa2 (qb0 l i l[i] j 1) l[i].ops[j].k : Nat) : Int), l[i].ops[j].v⟩ : S51)])) r
    rw [eo, L0, L1, L2]
    exact hih
  ·have hL := zt4 (l := l) (i := i) hgo hv
   have L0 : qb0 l i l[i] j 0 = qb0 l i l[i] (j + 1) 0 := by have := congrFun hL 0; simpa using this
   have L1 : zQ (qb0 l i l[i] j 1) l[i].ops[j].k = qb0 l i l[i] (j + 1) 1 := by have := congrFun hL 1; simpa using this
   have L2 : zQ (qb0 l i l[i] j 2) l[i].ops[j].v = qb0 l i l[i] (j + 1) 2 := by have := congrFun hL 2; simpa using this
   have e2 := za2 (qb0 l i l[i] j 2) (l[i].ops[j].v) (by have := qG2 hg j; omega)
   have ev : ((qa2 (qb0 l i l[i] j 2) l[i].ops[j].v : Nat) : Int) = (qa2 (names (zP l)) l[i].ops[j].v : Nat) := by rw [← zS0 hg hgo hv, jo3]
   have hidx : qa2 (qb0 l i l[i] j 2) l[i].ops[j].v ≤ 1000000 := by
    have h1 := qG2 hg j
    have h2 : qa2 (qb0 l i l[i] j 2) l[i].ops[j].v ≤ (qb0 l i l[i] j 2).length := List.findIdx_le_length
    omega
   refine Ev.step (f := fun k => (T.jA.f k (qb0 l i l[i] j 1) l[i].ops[j].k).bind fun bt => (T.jA.f k (qb0 l i l[i] j 2) l[i].ops[j].v).bind fun bu => T.qL.l1 k (h.map ofT) out (l.map ofT) (qb0 l i l[i] j 0) bt.1 bu.1 (i : Int) ((j + 1 : Nat) : Int) s' b' c' (((l[i].ops.take j).map (qE6 (names (zR l)) (names (zP l)))).map ofO ++ [(⟨l[i].ops[j].w, bt.2, wrap64 (bu.2 + 1)⟩ : S51)])) (fun k => ?_) ?_
   ·simp only [T.qL.l1]
    rw [if_pos (by omega), if_pos (by rw [List.length_map]; omega), ql5 l i hi]
    rw [show (ofT l[i]).f3 = l[i].ops.map ofO from rfl, if_pos (by rw [List.length_map]; omega), if_pos (by omega), jf3 _ j h1, qb6 (x := j) (by omega)]
    congr 1
    funext bt
    rw [if_neg (show ¬ (ofO l[i].ops[j]).f2 = 0 from hv)]
    congr 1
    funext bu
    rw [if_pos hlt]
    rfl
   ·refine Ev.bind e1 (Ev.bind e2 ?_)
    have eo : (⟨l[i].ops[j].w, ((qa2 (qb0 l i l[i] j 1) l[i].ops[j].k : Nat) : Int), wrap64 (((qa2 (qb0 l i l[i] j 2) l[i].ops[j].v : Nat) : Int) + 1)⟩ : S51) = ofO (qE6 (names (zR l)) (names (zP l)) l[i].ops[j]) := by
     rw [qb6 (by omega), Int.natCast_add, ek, ev]; unfold qE6 ofO; simp [hv]; omega
    show Ev (fun k => T.qL.l1 k _ _ _ (qb0 l i l[i] j 0) (zQ (qb0 l i l[i] j 1) l[i].ops[j].k) (zQ (qb0 l i l[i] j 2) l[i].ops[j].v) _ _ _ _ _ (_ ++ [(⟨l[i].ops[j].w, ((qa2 (qb0 l i l[i] j 1) l[i].ops[j].k : Nat) : Int), wrap64 (((qa2 (qb0 l i l[i] j 2) l[i].ops[j].v : Nat) : Int) + 1)⟩ : S51)])) r
    rw [eo, L0, L1, L2]
    exact hih
theorem Qm7 (h l : List T4) (hp : l.length = h.length) (hm : l.length ≤ 1000) (hc : jL l ≤ 100000) : ∀ (d i : Nat), i + d = l.length →
  Ev (fun k => T.qL.l0 k (h.map ofT) (((l.take i).map (jn2 (names (qd7 l)) (names (zR l)) (names (zP l)) (qG0 h))).map ofT) (l.map ofT) (Lst l i 0) (Lst l i 1) (Lst l i 2) (i : Int)) ((qE3 (qG0 h) l).map ofT) := by
 intro d
 induction d with
 | zero =>
  intro i hi
  refine Ev.step (f := fun _ => some ((qE3 (qG0 h) l).map ofT)) (fun k => ?_) (Ev.now _)
  simp only [T.qL.l0]
  rw [if_neg (by rw [List.length_map]; omega), List.take_of_length_le (by omega)]
  rfl
 | succ d ih =>
  intro i hi
  have h1 : i < l.length := by omega
  have hg : l[i]? = some l[i] := List.getElem?_eq_getElem h1
  have hL := zR9 hg
  have L0 : zQ (Lst l i 0) l[i].s = qb0 l i l[i] 0 0 := by have := congrFun hL 0; simpa using this
  have L1 : Lst l i 1 = qb0 l i l[i] 0 1 := by have := congrFun hL 1; simpa using this
  have L2 : Lst l i 2 = qb0 l i l[i] 0 2 := by have := congrFun hL 2; simpa using this
  have es : ((qa2 (Lst l i 0) l[i].s : Nat) : Int) = (qa2 (names (qd7 l)) l[i].s : Nat) := by rw [← zt5 hg, jo3]
  have hsl : (Lst l i 0).length ≤ 1000000 := by
   have : (Lst l i 0) = names (qd7 (l.take i)) := rfl
   rw [this]
   have h1 := qo9 (qd7 (l.take i))
   have h2 : (qd7 (l.take i)).length ≤ l.length := by unfold qd7; rw [List.length_map, List.length_take]; omega
   omega
  have R1 := zy7 h l[i].b (by omega)
  have R2 := zy7 h l[i].c (by omega)
  have N1 := za2 (Lst l i 0) l[i].s hsl
  have ih2 := ih (i + 1) (by omega)
  rw [← zg8 hg] at ih2
  have et : ((l.take (i + 1)).map (jn2 (names (qd7 l)) (names (zR l)) (names (zP l)) (qG0 h))).map ofT = ((l.take i).map (jn2 (names (qd7 l)) (names (zR l)) (names (zP l)) (qG0 h))).map ofT ++ [ofT (jn2 (names (qd7 l)) (names (zR l)) (names (zP l)) (qG0 h) l[i])] := by
   rw [qh5 hg, List.map_append, List.map_append]; rfl
  rw [et] at ih2
  have B := Qm6 h l hm hc i h1 (((l.take i).map (jn2 (names (qd7 l)) (names (zR l)) (names (zP l)) (qG0 h))).map ofT) (by simp only [List.length_map, List.length_take]; omega) (qa2 (names (qd7 l)) l[i].s : Nat) (qG0 h l[i].b) (qG0 h l[i].c) _ ih2 l[i].ops.length 0 (by omega)
  refine Ev.step (f := fun k => (T.j6.f k (h.map ofT) l[i].b).bind fun t1 => (T.j6.f k (h.map ofT) l[i].c).bind fun t2 => (T.jA.f k (Lst l i 0) l[i].s).bind fun bt => T.qL.l1 k (h.map ofT) (((l.take i).map (jn2 (names (qd7 l)) (names (zR l)) (names (zP l)) (qG0 h))).map ofT) (l.map ofT) bt.1 (Lst l i 1) (Lst l i 2) (i : Int) 0 bt.2 t1 t2 ([] : List S51)) (fun k => ?_) ?_
  ·simp only [T.qL.l0]
   rw [if_pos (by rw [List.length_map]; omega), if_pos (by omega), ql5 l i h1]
   rfl
  ·refine Ev.bind R1 (Ev.bind R2 (Ev.bind N1 ?_))
   show Ev (fun k => T.qL.l1 k _ _ _ (zQ (Lst l i 0) l[i].s) (Lst l i 1) (Lst l i 2) _ _ ((qa2 (Lst l i 0) l[i].s : Nat) : Int) _ _ _) _
   rw [es, L0, L1, L2]
   exact B
theorem zK9 {h : List T4} (hm : qz9 h) (hl : h.length ≤ 1000) (hc : jL h ≤ 100000) : Ev (fun k => T.qL.f k (h.map ofT)) ((zU h).map ofT) := by
 unfold T.qL.f
 refine Ev.bind (zy8 hm (by omega)) ?_
 have e1 : (qe2 h).length = h.length := (qb2 h).length_eq
 have := Qm7 h (qe2 h) e1 (by omega) (by rw [qS1 (qb2 h)]; exact hc) (qe2 h).length 0 (by omega)
 exact this
end Go.Proofs.Ytngkneknopenmaa.zM
end
section
namespace Go.Proofs.Ytngkneknopenmaa.zM
open Go Go.RowKit Go.Proofs.Ytngkneknopenmaa Go.Proofs.Ytngkneknopenmaa.qa9 Go.Proofs.YtngkneknopenmaaW.jH
open Go.Proofs.Ytngkneknopenmaa.K (S55 S51 qD qG k55 jQ7)
def CT (w : World) (A : Option Addr) (h : List T4) : Prop := Kd.C k55 w A h.length (h.map ofT)
theorem CT.below {w w' : World} {A : Option Addr} {h : List T4} (k : CT w A h) (hb : Below w.heap.size w w') : CT w' A h := Kd.ql3 k hb
theorem CT.len {w : World} {A : Option Addr} {h : List T4} (k : CT w A h) : Kd.C k55 w A (h.map ofT).length (h.map ofT) := by rw [List.length_map]; exact k
def Sm (h : List T4) : Prop := h.length ≤ 1000 ∧ jL h ≤ 100000
variable {A B : Option Addr} {c d : Nat} {a b h : List T4} {w : World}
theorem zL0 (k : CT w A h) (hc : h.length ≤ c) (s : Sm h) (hm : qz9 h) :
  Calls Try.prog 17 #[.slice A h.length c] w fun e w' => ∃ (A' : Option Addr) (c' : Nat), e = .returned (.slice A' (zU h).length c') ∧ ((zU h).length ≤ c' ∧ CT w' A' (zU h)) ∧ Below w.heap.size w w' := by
 obtain ⟨n, hn⟩ := (zK9 hm s.1 s.2).rounds
 have := T.qL.calls n (fun k => k < w.heap.size) A c (h.map ofT) _ w (Kd.qP7 (by rw [List.length_map]; exact hc) (Kd.C_F jQ7 k.len)) hn
 rw [List.length_map] at this
 refine this.mono ?_
 rintro e w' ⟨v, rfl, hS, hb⟩
 obtain ⟨A', c', rfl⟩ := Kd.qO3 hS
 have q := Kd.zW hS
 rw [List.length_map] at q ⊢
 exact ⟨A', c', rfl, ⟨q.2.1, q.2.2⟩, hb⟩
end Go.Proofs.Ytngkneknopenmaa.zM
end
section
namespace Go.Proofs.Ytngkneknopenmaa.qb8
open Go Go.Proofs.Ytngkneknopenmaa Go.Proofs.Ytngkneknopenmaa.zM Go.Proofs.Ytngkneknopenmaa.qa9
def zy9 : Nat → List Int → Prop
 | _, [] => True
 | k, x :: r => 0 ≤ x ∧ x ≤ (k : Int) ∧ zy9 (max k (x.toNat + 1)) r
def qj3 (k : Nat) : List Int := (List.range k).map fun n : Nat => (n : Int)
theorem qS8 {k : Nat} {x : Int} : x ∈ qj3 k ↔ 0 ≤ x ∧ x < (k : Int) := by
 unfold qj3
 rw [List.mem_map]
 constructor
 ·rintro ⟨n, hn, rfl⟩
  rw [List.mem_range] at hn
  omega
 ·rintro ⟨h1, h2⟩
  exact ⟨x.toNat, List.mem_range.2 (by omega), by omega⟩
theorem jQ8 (k : Nat) : qj3 (k + 1) = qj3 k ++ [(k : Int)] := by unfold qj3; rw [List.range_succ, List.map_append]; rfl
theorem qQ1 (k : Nat) : (qj3 k).length = k := by simp [qj3]
theorem qO1 : ∀ (l acc : List Int) (x : Int), x ∈ acc → qa2 (l.foldl zQ acc) x = qa2 acc x
 | [], _, _, _ => rfl
 | y :: l, acc, x, hx => by
  rw [List.foldl_cons]
  have hm : x ∈ zQ acc y := je5.2 (.inl hx)
  rw [qO1 l _ x hm]
  unfold zQ
  split
  ·rfl
  ·exact jn1 hx
theorem jf4 : ∀ (l : List Int) (k : Nat), (∀ x ∈ l, (qa2 (l.foldl zQ (qj3 k)) x : Int) = x) → zy9 k l
 | [], _, _ => trivial
 | x :: l, k, h => by
  have hx := h x (by simp)
  rw [List.foldl_cons] at hx h
  by_cases hm : x ∈ qj3 k
  ·obtain ⟨h1, h2⟩ := qS8.1 hm
   have e : zQ (qj3 k) x = qj3 k := by unfold zQ; rw [if_pos hm]
   rw [e] at h
   have em : max k (x.toNat + 1) = k := by omega
   exact ⟨h1, by omega, by rw [em]; exact jf4 l k (fun y hy => h y (by simp [hy]))⟩
  ·have e : zQ (qj3 k) x = qj3 k ++ [x] := by unfold zQ; rw [if_neg hm]
   rw [e, qO1 _ _ _ (by simp), qV7 hm, qQ1] at hx
   have e2 : zQ (qj3 k) x = qj3 (k + 1) := by rw [e, jQ8, hx]
   rw [e2] at h
   have em : max k (x.toNat + 1) = k + 1 := by omega
   exact ⟨by omega, by omega, by rw [em]; exact jf4 l (k + 1) (fun y hy => h y (by simp [hy]))⟩
end Go.Proofs.Ytngkneknopenmaa.qb8
end
section
namespace Go.Proofs.Ytngkneknopenmaa.qb8
open Go.Proofs.Ytngkneknopenmaa.zM Go.Proofs.Ytngkneknopenmaa.qa9
def hdT (t : T4) : Int × Int × Int := (t.s, t.b, t.c)
def flO (p : List T4) : List O3 := p.flatMap (·.ops)
def lnO (p : List T4) : List Nat := p.map fun t => t.ops.length
def ji9 : List (Int × Int × Int) → List Nat → List O3 → List T4
 | x :: hd, k :: cs, fl => ⟨x.1, x.2.1, x.2.2, fl.take k⟩ :: ji9 hd cs (fl.drop k)
 | _, _, _ => []
theorem jQ9 : ∀ (hd : List (Int × Int × Int)) (cs : List Nat) (fl : List O3), hd.length = cs.length → cs.sum = fl.length → (ji9 hd cs fl).map hdT = hd ∧ lnO (ji9 hd cs fl) = cs ∧ flO (ji9 hd cs fl) = fl
 | [], [], fl, _, h => by
  simp at h
  have : fl = [] := List.eq_nil_of_length_eq_zero h.symm
  subst this
  exact ⟨rfl, rfl, rfl⟩
 | x :: hd, k :: cs, fl, h1, h2 => by
  have h3 : k + cs.sum = fl.length := by simpa using h2
  obtain ⟨a, b, c⟩ := jQ9 hd cs (fl.drop k) (by simpa using h1) (by rw [List.length_drop]; omega)
  refine ⟨?_, ?_, ?_⟩
  ·show (x.1, x.2.1, x.2.2) :: (ji9 hd cs (fl.drop k)).map hdT = x :: hd
   rw [a]
  ·show (fl.take k).length :: lnO (ji9 hd cs (fl.drop k)) = k :: cs
   rw [b, List.length_take, Nat.min_eq_left (by omega)]
  ·show fl.take k ++ flO (ji9 hd cs (fl.drop k)) = fl
   rw [c, List.take_append_drop]
theorem jo5 (t : T4) (p : List T4) : flO (t :: p) = t.ops ++ flO p := rfl
theorem qM5 : ∀ p : List T4, jL p = (flO p).length
 | [] => rfl
 | t :: p => by
  rw [jo5, List.length_append, ← qM5 p]
  simp [jL]
theorem zL1 (p : List T4) : (lnO p).sum = (flO p).length := by rw [← qM5]; rfl
theorem jk7 {p : List T4} {o : O3} : o ∈ flO p ↔ ∃ t ∈ p, o ∈ t.ops := by unfold flO; rw [List.mem_flatMap]
theorem jG7 (a b : List O3) : qq0 (a ++ b) = qq0 a ++ qq0 b := by simp [qq0]
theorem jo6 : ∀ p : List T4, (p.flatMap fun t => qq0 t.ops) = qq0 (flO p)
 | [] => rfl
 | t :: p => by rw [List.flatMap_cons, jo6 p, jo5, jG7]
theorem jo7 : ∀ p : List T4, zR p = (flO p).map (·.k)
 | [] => rfl
 | t :: p => by
  have : zR (t :: p) = t.ops.map (·.k) ++ zR p := rfl
  rw [this, jo7 p, jo5, List.map_append]
def qS9 (fl : List O3) : Prop := ∀ (j : Nat) (o : O3), fl[j]? = some o → (o.w = true → o.v = (j : Int) + 1) ∧ (o.w = false → o.v = 0 ∨ ∃ (i : Nat) (u : O3), fl[i]? = some u ∧ u.w = true ∧ u.k = o.k ∧ o.v = (i : Int) + 1)
theorem qZ2 : ∀ (fl : List O3) (k : Int), (∀ (j : Nat) (o : O3), fl[j]? = some o → o.w = true → o.v = k + (j : Int) + 1) → (qq0 fl).Pairwise (· < ·) ∧ ∀ x ∈ qq0 fl, k < x
 | [], k, _ => by simp [qq0]
 | o :: fl, k, h => by
  obtain ⟨a, b⟩ := qZ2 fl (k + 1) (fun j u hu hw => by
   have := h (j + 1) u (by simpa using hu) hw
   omega)
  have e : qq0 (o :: fl) = (if o.w then [o.v] else []) ++ qq0 fl := by obtain ⟨w, k, v⟩ := o; cases w <;> rfl
  rw [e]
  cases hw : o.w with
  | false =>
   simp only [Bool.false_eq_true, if_false, List.nil_append]
   exact ⟨a, fun x hx => by have := b x hx; omega⟩
  | true =>
   have h0 := h 0 o rfl hw
   simp only [if_true, List.cons_append, List.nil_append, List.pairwise_cons, List.mem_cons]
   refine ⟨⟨fun x hx => by have := b x hx; omega, a⟩, ?_⟩
   rintro x (rfl | hx)
   ·omega
   ·have := b x hx; omega
theorem qS9.nodup {fl : List O3} (h : qS9 fl) : (qq0 fl).Nodup := by
 have := (qZ2 fl 0 (fun j o ho hw => by have := (h j o ho).1 hw; omega)).1
 exact this.imp fun {a b} hab e => by omega
theorem qS9.le {fl : List O3} (h : qS9 fl) {o : O3} (ho : o ∈ fl) : 0 ≤ o.v ∧ o.v ≤ (fl.length : Int) ∧ (o.w = true → 0 < o.v) := by
 obtain ⟨j, hj⟩ := List.mem_iff_getElem?.1 ho
 have hjl := (List.getElem?_eq_some_iff.1 hj).1
 obtain ⟨a, b⟩ := h j o hj
 cases hw : o.w with
 | true => have := a hw; exact ⟨by omega, by omega, fun _ => by omega⟩
 | false =>
  rcases b hw with e | ⟨i, u, hu, _, _, e⟩
  ·exact ⟨by omega, by omega, fun h => by cases h⟩
  ·have := (List.getElem?_eq_some_iff.1 hu).1
   exact ⟨by omega, by omega, fun h => by cases h⟩
theorem jo8 : ∀ {l : List Nat} {x : Nat}, x ∈ l → x ≤ l.sum
 | y :: l, x, h => by
  rw [List.sum_cons]
  rcases List.mem_cons.1 h with rfl | h
  ·omega
  ·have := jo8 h; omega
theorem Qa7 {p : List T4} (h64 : (flO p).length ≤ 64) (hp : p.length ≤ 64) (hl : ∀ k ∈ lnO p, 1 ≤ k) (hs : ∀ t ∈ p, 0 ≤ t.s ∧ t.s < 64 ∧ 0 ≤ t.b ∧ t.b < t.c ∧ t.c ≤ 2147483647) (hk : ∀ o ∈ flO p, 0 ≤ o.k ∧ o.k < 64) (hpw : p.Pairwise qs2) (hpl : qS9 (flO p)) : qz9 p := by
 have hlen : ∀ t ∈ p, t.ops.length ≤ (flO p).length := by
  intro t ht
  rw [← zL1]
  exact jo8 (List.mem_map.2 ⟨t, ht, rfl⟩)
 refine ⟨fun t ht => (qk9 t).2 ⟨(hs t ht).1, (hs t ht).2.1, (hs t ht).2.2.1, (hs t ht).2.2.2.1, (hs t ht).2.2.2.2, hl _ (List.mem_map.2 ⟨t, ht, rfl⟩), by have := hlen t ht; omega, fun o ho => ?_⟩, hpw, ?_, fun t ht o ho hw hv => ?_⟩
 ·have hm : o ∈ flO p := jk7.2 ⟨t, ht, ho⟩
  have h1 := hk o hm
  have h2 := hpl.le hm
  exact (ql0 o).2 ⟨h1.1, h1.2, h2.1, by omega, h2.2.2⟩
 ·rw [qG4, jo6]; exact hpl.nodup
 ·obtain ⟨j, hj⟩ := List.mem_iff_getElem?.1 (jk7.2 ⟨t, ht, ho⟩)
  rcases (hpl j o hj).2 hw with e | ⟨i, u, hu, h1, h2, h3⟩
  ·exact absurd e hv
  ·obtain ⟨t2, ht2, hu2⟩ := jk7.1 (List.mem_of_getElem? hu)
   exact ⟨t2, ht2, u, hu2, h1, h2, by rw [h3, (hpl i u hu).1 h1]⟩
end Go.Proofs.Ytngkneknopenmaa.qb8
end
section
namespace Go.Proofs.Ytngkneknopenmaa.qb8
open Go.Proofs.Ytngkneknopenmaa.zM Go.Proofs.Ytngkneknopenmaa.qa9
theorem jR0 (z : List (Nat × Nat)) (ss : List Nat) (s x : Nat) (h : ss.length < z.length) : qL2 z (ss ++ [s]) x = if s = x then some (cm z ss.length) else qL2 z ss x := by
 unfold qL2
 have hz : z = z.take ss.length ++ z.drop ss.length := (List.take_append_drop _ _).symm
 have hd : z.drop ss.length = z[ss.length] :: z.drop (ss.length + 1) := List.drop_eq_getElem_cons h
 have e1 : (ss ++ [s]).zip z = ss.zip z ++ [(s, z[ss.length])] := by
  conv => lhs; rw [hz, hd]
  rw [List.zip_append (by rw [List.length_take]; omega)]
  have : ss.zip (z.take ss.length) = ss.zip z := by
   conv => rhs; rw [hz]
   conv => rhs; rw [show ss = ss ++ [] by simp]
   rw [List.zip_append (by rw [List.length_take]; simp; omega)]
   simp
  rw [this]
  simp only [List.zip_cons_cons, List.zip_nil_left]
 rw [e1, List.foldl_append]
 simp only [List.foldl_cons, List.foldl_nil]
 have : cm z ss.length = z[ss.length].2 := by unfold cm; rw [List.getD_eq_getElem?_getD, List.getElem?_eq_getElem h]; rfl
 rw [this]
theorem qC4 (ss : List Nat) (s : Nat) : qe1 (ss ++ [s]) = max (qe1 ss) (s + 1) := by simp [qe1, List.foldl_append]
theorem za4 {S : Nat} {d : List (Nat × Nat)} : ∀ {r ss : List Nat}, OkS S d ss r → ∀ (j s : Nat), r[j]? = some s → s < min (qe1 (ss ++ r.take j) + 1) S ∧ qz5 d (ss ++ r.take j) s = true
 | x :: r, ss, h, 0, s, hs => by
  simp at hs
  subst hs
  simp only [List.take_zero, List.append_nil]
  exact ⟨h.1, h.2.1⟩
 | x :: r, ss, h, j + 1, s, hs => by
  have := za4 h.2.2 j s (by simpa using hs)
  simp only [List.take_succ_cons]
  rwa [List.append_assoc, List.singleton_append] at this
theorem zz0 {S : Nat} {d : List (Nat × Nat)} : ∀ {r ss : List Nat}, OkS S d ss r → qe1 ss ≤ ss.length → ∀ s ∈ r, s < S ∧ s < ss.length + r.length
 | x :: r, ss, h, hk, s, hs => by
  have h1 := h.1
  rcases List.mem_cons.1 hs with rfl | hs
  ·simp; omega
  ·have := zz0 h.2.2 (by rw [qC4, List.length_append, List.length_singleton]; omega) s hs
   simp at this ⊢
   omega
theorem za5 {S : Nat} {z : List (Nat × Nat)} {ss : List Nat} (h : OkS S z [] ss) (hl : ss.length ≤ z.length) (hbc : ∀ i, i < z.length → bg z i < cm z i) : ∀ (i j : Nat) (s : Nat), i < j → ss[i]? = some s → ss[j]? = some s → cm z i ≤ bg z j := by
 have key : ∀ (j : Nat), j ≤ ss.length → ∀ i s, i < j → ss[i]? = some s → ∃ e, qL2 z (ss.take j) s = some e ∧ cm z i ≤ e := by
  intro j
  induction j with
  | zero => intro _ i s hi; omega
  | succ j ih =>
   intro hj i s hi hs
   obtain ⟨x, hx⟩ : ∃ x, ss[j]? = some x := ⟨_, List.getElem?_eq_getElem (by omega)⟩
   have e : ss.take (j + 1) = ss.take j ++ [x] := by rw [List.take_add_one, hx]; rfl
   have hjl : (ss.take j).length = j := by rw [List.length_take]; omega
   rw [e, jR0 z _ _ _ (by omega), hjl]
   by_cases hij : i = j
   ·subst hij
    rw [hs] at hx
    cases hx
    exact ⟨cm z i, by rw [if_pos rfl], Nat.le_refl _⟩
   ·obtain ⟨e2, h1, h2⟩ := ih (by omega) i s (by omega) hs
    by_cases hxs : x = s
    ·subst hxs
     refine ⟨cm z j, by rw [if_pos rfl], ?_⟩
     have hf := (za4 h j x hx).2
     rw [List.nil_append] at hf
     unfold qz5 at hf
     rw [h1, hjl] at hf
     have hf' := of_decide_eq_true hf
     have := hbc j (by omega)
     unfold bg at this
     omega
    ·rw [if_neg hxs]
     exact ⟨e2, h1, h2⟩
 intro i j s hij hi hj
 have hjl := (List.getElem?_eq_some_iff.1 hj).1
 obtain ⟨e, h1, h2⟩ := key j (by omega) i s hij hi
 have hf := (za4 h j s hj).2
 rw [List.nil_append] at hf
 unfold qz5 at hf
 rw [h1, List.length_take, Nat.min_eq_left (by omega)] at hf
 have hf' := of_decide_eq_true hf
 unfold bg
 omega
theorem jR1 {K : Nat} : ∀ {ks : List (Bool × Nat)} {kn : Nat}, zf9 K kn ks → ∀ x ∈ ks, x.2 < K ∧ x.2 < kn + ks.length
 | y :: ks, kn, h, x, hx => by
  rcases List.mem_cons.1 hx with rfl | hx
  ·have := h.1; simp; omega
  ·have := jR1 h.2 x hx
   have := h.1
   simp
   omega
def Qa8 (x : Bool × Nat) (v : Nat) : O3 := ⟨x.1, (x.2 : Int), (v : Int)⟩
def za6 (ks : List (Bool × Nat)) (vs : List Nat) : List O3 := List.zipWith Qa8 ks vs
theorem qZ3 {ks : List (Bool × Nat)} {vs : List Nat} {j : Nat} {o : O3} : (za6 ks vs)[j]? = some o ↔ ∃ x v, ks[j]? = some x ∧ vs[j]? = some v ∧ o = Qa8 x v := by
 unfold za6
 rw [List.getElem?_zipWith]
 constructor
 ·intro h
  split at h
  ·rename_i x v h1 h2
   cases h
   exact ⟨x, v, h1, h2, rfl⟩
  ·cases h
 ·rintro ⟨x, v, h1, h2, rfl⟩
  rw [h1, h2]
theorem qC5 {ks : List (Bool × Nat)} {vs : List Nat} (h : vs.length = ks.length) : (za6 ks vs).length = ks.length := by unfold za6; rw [List.length_zipWith]; omega
theorem zo2 {ks : List (Bool × Nat)} {vs : List Nat} (h : OkV ks 0 ks vs) : qS9 (za6 ks vs) := by
 obtain ⟨hl, ha⟩ := jB4.1 h
 intro j o ho
 obtain ⟨x, v, h1, h2, rfl⟩ := qZ3.1 ho
 have hx := ha j x v h1 h2
 refine ⟨fun hw => ?_, fun hw => ?_⟩
 ·have hw' : x.1 = true := hw
  rw [if_pos hw'] at hx
  show (v : Int) = (j : Int) + 1
  omega
 ·have hw' : x.1 = false := hw
  rw [if_neg (by rw [hw']; simp)] at hx
  unfold choices at hx
  rcases List.mem_cons.1 hx with rfl | hx
  ·exact .inl rfl
  ·right
   obtain ⟨i, rfl, hi⟩ := (qV5 x.2 ks 1 v).1 hx
   obtain ⟨u, hu⟩ : ∃ u, vs[i]? = some u := ⟨_, List.getElem?_eq_getElem (by rw [hl]; exact (List.getElem?_eq_some_iff.1 hi).1)⟩
   exact ⟨i, Qa8 (true, x.2) u, qZ3.2 ⟨_, _, hi, hu, rfl⟩, rfl, rfl, by show ((1 + i : Nat) : Int) = (i : Int) + 1; omega⟩
def hds (z : List (Nat × Nat)) (ss : List Nat) : List (Int × Int × Int) := List.zipWith (fun (s : Nat) (x : Nat × Nat) => ((s : Int), (x.1 : Int), (x.2 : Int))) ss z
theorem zL2 {z : List (Nat × Nat)} {ss : List Nat} {i : Nat} {x : Int × Int × Int} : (hds z ss)[i]? = some x ↔ ∃ s y, ss[i]? = some s ∧ z[i]? = some y ∧ x = ((s : Int), (y.1 : Int), (y.2 : Int)) := by
 unfold hds
 rw [List.getElem?_zipWith]
 constructor
 ·intro h
  split at h
  ·rename_i s y h1 h2
   cases h
   exact ⟨s, y, h1, h2, rfl⟩
  ·cases h
 ·rintro ⟨s, y, h1, h2, rfl⟩
  rw [h1, h2]
theorem qM6 {z : List (Nat × Nat)} {i : Nat} {y : Nat × Nat} (h : z[i]? = some y) : bg z i = y.1 ∧ cm z i = y.2 := by
 unfold bg cm
 rw [List.getD_eq_getElem?_getD, h]
 exact ⟨rfl, rfl⟩
structure qv0 (n K m S : Nat) (z : List (Nat × Nat)) (ss cs : List Nat) (ks : List (Bool × Nat)) (vs : List Nat) : Prop where
 ze : Ext n 0 [] [] z
 sl : ss.length = n
 s : OkS S z [] ss
 cl : cs.length = n
 c : cs.sum = m
 c1 : ∀ k ∈ cs, 1 ≤ k
 kl : ks.length = m
 k : zf9 K 0 ks
 v : OkV ks 0 ks vs
variable {n K m S : Nat} {z : List (Nat × Nat)} {ss cs : List Nat} {ks : List (Bool × Nat)} {vs : List Nat}
def qk7 (z : List (Nat × Nat)) (ss cs : List Nat) (ks : List (Bool × Nat)) (vs : List Nat) : List T4 := ji9 (hds z ss) cs (za6 ks vs)
theorem qv0.vl (r : qv0 n K m S z ss cs ks vs) : vs.length = m := by rw [(jB4.1 r.v).1, r.kl]
theorem qv0.spec (r : qv0 n K m S z ss cs ks vs) : (qk7 z ss cs ks vs).map hdT = hds z ss ∧ lnO (qk7 z ss cs ks vs) = cs ∧ flO (qk7 z ss cs ks vs) = za6 ks vs :=
 jQ9 _ _ _ (by unfold hds; rw [List.length_zipWith, r.sl, r.ze.len, r.cl]; omega) (by rw [qC5 (by rw [r.vl, r.kl]), r.kl, r.c])
theorem qv0.length (r : qv0 n K m S z ss cs ks vs) : (qk7 z ss cs ks vs).length = n := by
 have := congrArg List.length r.spec.1
 rw [List.length_map] at this
 rw [this]
 unfold hds
 rw [List.length_zipWith, r.sl, r.ze.len]
 omega
theorem qv0.at (r : qv0 n K m S z ss cs ks vs) {i : Nat} {t : T4} (ht : (qk7 z ss cs ks vs)[i]? = some t) : ∃ s y, ss[i]? = some s ∧ z[i]? = some y ∧ t.s = (s : Int) ∧ t.b = (y.1 : Int) ∧ t.c = (y.2 : Int) := by
 have h : ((qk7 z ss cs ks vs).map hdT)[i]? = some (hdT t) := by rw [List.getElem?_map, ht]; rfl
 rw [r.spec.1] at h
 obtain ⟨s, y, h1, h2, e⟩ := zL2.1 h
 unfold hdT at e
 simp only [Prod.mk.injEq] at e
 exact ⟨s, y, h1, h2, e.1, e.2.1, e.2.2⟩
theorem qv0.bc (r : qv0 n K m S z ss cs ks vs) : ∀ i, i < z.length → bg z i < cm z i := fun i hi => (r.ze.new i (Nat.zero_le _) (by rw [← r.ze.len]; exact hi)).2
theorem qv0.pairs (r : qv0 n K m S z ss cs ks vs) : (qk7 z ss cs ks vs).Pairwise fun u t => qs2 u t ∧ u.b < t.b := by
 rw [List.pairwise_iff_getElem]
 intro i j hi hj hij
 have hn := r.length
 obtain ⟨s, y, h1, h2, e1, e2, e3⟩ := r.at (List.getElem?_eq_getElem hi)
 obtain ⟨s', y', g1, g2, f1, f2, f3⟩ := r.at (List.getElem?_eq_getElem hj)
 obtain ⟨b1, c1⟩ := qM6 h2
 obtain ⟨b2, c2⟩ := qM6 g2
 have k1 := r.ze.inc i j (Nat.zero_le _) hij (by omega)
 have k2 := r.ze.dbc i j (Nat.zero_le _) (by omega) (.inr (Nat.zero_le _)) (by omega)
 have k3 := r.ze.dbc j i (Nat.zero_le _) (by omega) (.inr (Nat.zero_le _)) (by omega)
 have k4 := r.ze.dcc i j (.inr (Nat.zero_le _)) (by omega) (.inr (Nat.zero_le _)) (by omega) (by omega)
 refine ⟨⟨by rw [e2, f2]; omega, by rw [e2, f3]; omega, by rw [e3, f2]; omega, by rw [e3, f3]; omega, fun e => ?_⟩, by rw [e2, f2]; omega⟩
 have hs : s = s' := by rw [e1, f1] at e; omega
 subst hs
 have := za5 r.s (by rw [r.sl, r.ze.len]; exact Nat.le_refl _) r.bc i j s hij h1 g1
 rw [e3, f2]
 omega
theorem qv0.keys (r : qv0 n K m S z ss cs ks vs) : zR (qk7 z ss cs ks vs) = ks.map fun x => (x.2 : Int) := by
 rw [jo7, r.spec.2.2]
 have hl : vs.length = ks.length := by rw [r.vl, r.kl]
 apply List.ext_getElem?
 intro i
 rw [List.getElem?_map, List.getElem?_map]
 by_cases hi : i < ks.length
 ·rw [qZ3.2 ⟨_, _, List.getElem?_eq_getElem hi, List.getElem?_eq_getElem (by rw [hl]; exact hi), rfl⟩, List.getElem?_eq_getElem hi]
  rfl
 ·rw [List.getElem?_eq_none (by rw [qC5 hl]; omega), List.getElem?_eq_none (by omega)]; rfl
theorem qv0.placed (r : qv0 n K m S z ss cs ks vs) : qS9 (flO (qk7 z ss cs ks vs)) := by rw [r.spec.2.2]; exact zo2 r.v
theorem qv0.stamps (r : qv0 n K m S z ss cs ks vs) (hnd : (jF (qk7 z ss cs ks vs)).Nodup) : (jF (qk7 z ss cs ks vs)).Perm (qj3 (2 * n)) := by
 have hl : (jF (qk7 z ss cs ks vs)).length = 2 * n := by rw [qs4, r.length]; omega
 have hr : (qj3 (2 * n)).Nodup := by
  unfold qj3 List.Nodup
  rw [List.pairwise_map]
  exact (List.nodup_range (n := 2 * n)).imp fun {a b} hab e => hab (by omega)
 have hsub : qj3 (2 * n) ⊆ jF (qk7 z ss cs ks vs) := by
  intro x hx
  obtain ⟨h0, h1⟩ := qS8.1 hx
  obtain ⟨u, rfl⟩ : ∃ u : Nat, x = (u : Int) := ⟨x.toNat, by omega⟩
  rw [qS0]
  rcases r.ze.cov u (Nat.zero_le _) (by omega) with ⟨i, _, hi, e⟩ | ⟨i, _, hi, e⟩
  ·obtain ⟨t, ht⟩ : ∃ t, (qk7 z ss cs ks vs)[i]? = some t := ⟨_, List.getElem?_eq_getElem (by rw [r.length]; exact hi)⟩
   obtain ⟨s, y, _, h2, _, e2, _⟩ := r.at ht
   exact ⟨t, List.mem_of_getElem? ht, .inl (by rw [e2, ← (qM6 h2).1, e])⟩
  ·obtain ⟨t, ht⟩ : ∃ t, (qk7 z ss cs ks vs)[i]? = some t := ⟨_, List.getElem?_eq_getElem (by rw [r.length]; exact hi)⟩
   obtain ⟨s, y, _, h2, _, _, e3⟩ := r.at ht
   exact ⟨t, List.mem_of_getElem? ht, .inr (by rw [e3, ← (qM6 h2).2, e])⟩
 rw [List.perm_iff_count]
 intro a
 rw [hnd.count, hr.count]
 by_cases ha : a ∈ qj3 (2 * n)
 ·rw [if_pos ha, if_pos (hsub ha)]
 ·rw [if_neg ha]
  by_cases hb : a ∈ jF (qk7 z ss cs ks vs)
  ·have h1 : (a :: qj3 (2 * n)).Nodup := List.nodup_cons.2 ⟨ha, hr⟩
   have h2 := h1.length_le_of_subset (l₂ := jF (qk7 z ss cs ks vs)) (by intro x hx; rcases List.mem_cons.1 hx with rfl | hx; exact hb; exact hsub hx)
   rw [List.length_cons, qQ1, hl] at h2
   omega
  ·rw [if_neg hb]
end Go.Proofs.Ytngkneknopenmaa.qb8
end
section
namespace Go.Proofs.Ytngkneknopenmaa.qb8
open Go.Proofs.Ytngkneknopenmaa.zM Go.Proofs.Ytngkneknopenmaa.qa9
theorem qZ4 : ∀ {p : List T4}, (∀ t ∈ p, t.b ≠ t.c) → p.Pairwise qs2 → (jF p).Nodup
 | [], _, _ => by simp [jF]
 | t :: p, h, hp => by
  obtain ⟨h1, h2⟩ := List.pairwise_cons.1 hp
  have ih := qZ4 (fun u hu => h u (by simp [hu])) h2
  have e : jF (t :: p) = t.b :: t.c :: jF p := rfl
  rw [e, List.nodup_cons, List.nodup_cons]
  refine ⟨fun hm => ?_, fun hm => ?_, ih⟩
  ·rcases List.mem_cons.1 hm with hm | hm
   ·exact h t (by simp) hm
   ·obtain ⟨u, hu, e | e⟩ := qS0.1 hm
    ·exact (h1 u hu).1 e.symm
    ·exact (h1 u hu).2.1 e.symm
  ·obtain ⟨u, hu, e | e⟩ := qS0.1 hm
   ·exact (h1 u hu).2.2.1 e.symm
   ·exact (h1 u hu).2.2.2.1 e.symm
variable {n K m S : Nat} {z : List (Nat × Nat)} {ss cs : List Nat} {ks : List (Bool × Nat)} {vs : List Nat}
theorem qv0.Qm8 (r : qv0 n K m S z ss cs ks vs) : (jF (qk7 z ss cs ks vs)).Nodup := by
 refine qZ4 (fun t ht => ?_) (r.pairs.imp And.left)
 obtain ⟨i, hi⟩ := List.mem_iff_getElem?.1 ht
 obtain ⟨s, y, _, h2, _, e2, e3⟩ := r.at hi
 have := r.bc i (List.getElem?_eq_some_iff.1 h2).1
 rw [(qM6 h2).1, (qM6 h2).2] at this
 rw [e2, e3]
 omega
theorem qv0.may (r : qv0 n K m S z ss cs ks vs) (hn : n ≤ 64) (hm : m ≤ 64) : qz9 (qk7 z ss cs ks vs) := by
 have hfl : (flO (qk7 z ss cs ks vs)).length = m := by rw [r.spec.2.2, qC5 (by rw [r.vl, r.kl]), r.kl]
 refine Qa7 (by rw [hfl]; exact hm) (by rw [r.length]; exact hn) (by rw [r.spec.2.1]; exact r.c1) (fun t ht => ?_) (fun o ho => ?_) (r.pairs.imp And.left) r.placed
 ·obtain ⟨i, hi⟩ := List.mem_iff_getElem?.1 ht
  obtain ⟨s, y, h1, h2, e1, e2, e3⟩ := r.at hi
  have hs := (zz0 r.s (by simp [qe1]) s (List.mem_of_getElem? h1)).2
  rw [List.length_nil, r.sl] at hs
  have hbc := r.bc i (List.getElem?_eq_some_iff.1 h2).1
  rw [(qM6 h2).1, (qM6 h2).2] at hbc
  have hc := (qS8.1 ((r.stamps r.Qm8).mem_iff.1 (qo4 ht).2)).2
  rw [e1, e2, e3]
  rw [e3] at hc
  exact ⟨by omega, by omega, by omega, by omega, by omega⟩
 ·rw [r.spec.2.2] at ho
  obtain ⟨j, hj⟩ := List.mem_iff_getElem?.1 ho
  obtain ⟨x, v, h1, _, rfl⟩ := qZ3.1 hj
  have := (jR1 r.k x (List.mem_of_getElem? h1)).2
  rw [r.kl] at this
  show 0 ≤ (x.2 : Int) ∧ (x.2 : Int) < 64
  omega
theorem qv0.check (r : qv0 n K m S z ss cs ks vs) (hn : n ≤ 64) (hm : m ≤ 64) : zT (qk7 z ss cs ks vs) = 0 := by
 have hfl : (flO (qk7 z ss cs ks vs)).length = m := by rw [r.spec.2.2, qC5 (by rw [r.vl, r.kl]), r.kl]
 exact (qA0 _ (by rw [r.length]; exact hn) (by rw [qM5, hfl]; omega)).2 (r.may hn hm)
theorem qv0.sorted (r : qv0 n K m S z ss cs ks vs) : qe2 (qk7 z ss cs ks vs) = qk7 z ss cs ks vs := by
 refine qv5 (qb2 _) (qk8 _) (r.pairs.imp fun {a b} h => by have := h.2; omega) (fun x hx y hy e => ?_)
 have hx := (qb2 _).mem_iff.1 hx
 have hy := (qb2 _).mem_iff.1 hy
 obtain ⟨i, hi⟩ := List.mem_iff_getElem?.1 hx
 obtain ⟨j, hj⟩ := List.mem_iff_getElem?.1 hy
 obtain ⟨hil, rfl⟩ := List.getElem?_eq_some_iff.1 hi
 obtain ⟨hjl, rfl⟩ := List.getElem?_eq_some_iff.1 hj
 have hpw := List.pairwise_iff_getElem.1 r.pairs
 rcases Nat.lt_trichotomy i j with h | h | h
 ·have := (hpw i j hil hjl h).2; omega
 ·subst h; rfl
 ·have := (hpw j i hjl hil h).2; omega
end Go.Proofs.Ytngkneknopenmaa.qb8
end
section
namespace Go.Proofs.Ytngkneknopenmaa.qb8
open Go.Proofs.Ytngkneknopenmaa.zM Go.Proofs.Ytngkneknopenmaa.qa9
structure Can (h : List T4) : Prop where
 ok : zT h = 0
 eq : zU h = h
variable {h : List T4}
theorem Can.may (c : Can h) : qz9 h := (qi9 c.ok).2.2
theorem Can.sorted (c : Can h) : h.Pairwise (fun x y => x.b ≤ y.b) := by
 have k := (jy4 h)
 have e := c.eq
 rw [qA2] at e
 rw [← e, List.pairwise_map]
 refine (qk8 h).imp_of_mem fun {a b} ha hb hab => ?_
 show (qL8 h).R a.b ≤ (qL8 h).R b.b
 exact (zh0 k.r (qo4 ha).1 (qo4 hb).1).2 hab
theorem Can.sort (c : Can h) : qe2 h = h :=
 qv5 (qb2 _) (qk8 _) c.sorted (fun x hx y hy e => qR8 c.may x ((qb2 _).mem_iff.1 hx) y ((qb2 _).mem_iff.1 hy) e)
theorem jo9 {α : Type} {f : α → α} : ∀ {l : List α}, l.map f = l → ∀ x ∈ l, f x = x
 | y :: l, h, x, hx => by
  rw [List.map_cons, List.cons.injEq] at h
  rcases List.mem_cons.1 hx with rfl | hx
  ·exact h.1
  ·exact jo9 h.2 x hx
theorem Can.self (c : Can h) : ∀ t ∈ h, jv6 (qL8 h) t = t := by
 have e := c.eq
 rw [qA2, c.sort] at e
 exact jo9 e
theorem Can.keys (c : Can h) : zy9 0 (zR h) := by
 refine jf4 _ 0 fun x hx => ?_
 obtain ⟨t, ht, o, ho, rfl⟩ := je9.1 hx
 have e := congrArg T4.ops (c.self t ht)
 have e2 : je8 (qL8 h) o = o := jo9 e o ho
 have e3 := congrArg O3.k e2
 unfold je8 qL8 at e3
 rw [c.sort] at e3
 exact e3
theorem Can.at {i j : Nat} (c : Can h) (hij : i < j) {u t : T4} (hu : h[i]? = some u) (ht : h[j]? = some t) : qs2 u t ∧ u.b < t.b := by
 obtain ⟨hil, rfl⟩ := List.getElem?_eq_some_iff.1 hu
 obtain ⟨hjl, rfl⟩ := List.getElem?_eq_some_iff.1 ht
 have h1 := List.pairwise_iff_getElem.1 c.may.2.1 i j hil hjl hij
 have h2 := List.pairwise_iff_getElem.1 c.sorted i j hil hjl hij
 exact ⟨h1, by have := h1.1; omega⟩
theorem Can.right (c : Can h) {t : T4} (ht : t ∈ h) : 0 ≤ t.s ∧ 0 ≤ t.b ∧ t.b < t.c ∧ 1 ≤ t.ops.length ∧ ∀ o ∈ t.ops, 0 ≤ o.k ∧ 0 ≤ o.v ∧ (o.w = true → 0 < o.v) := by
 obtain ⟨a1, a2, a3, a4, a5, a6, a7, a8⟩ := (qk9 t).1 (c.may.1 t ht)
 exact ⟨a1, a3, a4, by omega, fun o ho => by obtain ⟨b1, b2, b3, b4, b5⟩ := (ql0 o).1 (a8 o ho); exact ⟨b1, b3, b5⟩⟩
end Go.Proofs.Ytngkneknopenmaa.qb8
end
section
namespace Go.Proofs.Ytngkneknopenmaa.qb8
open Go.Proofs.Ytngkneknopenmaa.zM Go.Proofs.Ytngkneknopenmaa.qa9
variable {h : List T4}
theorem Can.ops (c : Can h) {o : O3} (ho : o ∈ flO h) : 0 ≤ o.k ∧ 0 ≤ o.v ∧ (o.w = true → 0 < o.v) := by
 obtain ⟨t, ht, hot⟩ := jk7.1 ho
 exact (c.right ht).2.2.2.2 o hot
end Go.Proofs.Ytngkneknopenmaa.qb8
end
