/- qr1 of this claim, joined by a program of this session: the zR that its theorem uses. -/
import Derived.Test.YtngkneknopenmaaZO1
import Derived.Test.YtngkneknopenmaaZO5
import Derived.Test.YtngkneknopenmaaZO8
import Derived.Test.YtngkneknopenmaaZO12
import Derived.Lib.Hide
set_option linter.unusedVariables false
set_option linter.unusedSimpArgs false
namespace Go.Proofs.Ytngkneknopenmaa.jW0
end Go.Proofs.Ytngkneknopenmaa.jW0
section
namespace Go.Proofs.Ytngkneknopenmaa.T
open Go.Proofs.Ytngkneknopenmaa Go.Proofs.Ytngkneknopenmaa.jW0 Go.Proofs.Ytngkneknopenmaa.K
open Go.RowKit Go.Proofs.YtngkneknopenmaaW.jH Go.Proofs.YtngkneknopenmaaW.qh5 Go.Proofs.YtngkneknopenmaaW.qk0
attribute [local go_sem] qp9 qq0 qv3 qv4 qm8 qm9 qq1 qq2   -- for this text's walks alone
set_option linter.unusedVariables false
set_option linter.unusedSimpArgs false
mutual
def qL.l0 : Nat → List (S55) → List (S55) → List (S55) → List Int → List Int → List Int → Int → Option ((List (S55)))
 | 0, _, _, _, _, _, _, _ => none
 | k + 1, x0, x3, x4, x5, x6, x7, x8 => if x8 < (x4.length : Int) then (if 0 ≤ x8 then ((j6.f k x0 ((qD x4 x8).f1)).bind fun t213 => ((j6.f k x0 ((qD x4 x8).f2)).bind fun t215 => ((jA.f k x5 ((qD x4 x8).f0)).bind fun jg8 => (qL.l1 k x0 x3 x4 jg8.1 x6 x7 x8 0 jg8.2 t213 t215 ([] : List (S51)))))) else (none)) else (some x3)
def qL.l1 : Nat → List (S55) → List (S55) → List (S55) → List Int → List Int → List Int → Int → Int → Int → Int → Int → List (S51) → Option ((List (S55)))
 | 0, _, _, _, _, _, _, _, _, _, _, _, _ => none
 | k + 1, x0, x3, x4, x5, x6, x7, x8, x10, x217000, x217001, x217002, x217003 => if 0 ≤ x8 then (if x8 < (x4.length : Int) then (if x10 < (((qD x4 x8).f3).length : Int) then (if 0 ≤ x10 then ((jA.f k x6 ((qG ((qD x4 x8).f3) x10).f1)).bind fun zg1 => (if ((qG ((qD x4 x8).f3) x10).f2) = 0 then (if x217003.length < 5864062014805 then (qL.l1 k x0 x3 x4 x5 zg1.1 x7 x8 (wrap64 (x10 + 1)) x217000 x217001 x217002 (x217003 ++ [(⟨(qG ((qD x4 x8).f3) x10).f0, zg1.2, (qG ((qD x4 x8).f3) x10).f2⟩ : S51)])) else (none)) else ((jA.f k x7 ((qG ((qD x4 x8).f3) x10).f2)).bind fun jN3 => (if x217003.length < 5864062014805 then (qL.l1 k x0 x3 x4 x5 zg1.1 jN3.1 x8 (wrap64 (x10 + 1)) x217000 x217001 x217002 (x217003 ++ [(⟨(qG ((qD x4 x8).f3) x10).f0, zg1.2, wrap64 (jN3.2 + 1)⟩ : S51)])) else (none))))) else (none)) else (if x3.length < 2932031007402 then (qL.l0 k x0 (x3 ++ [(⟨x217000, x217001, x217002, x217003⟩ : S55)]) x4 x5 x6 x7 (wrap64 (x8 + 1))) else (none))) else (none)) else (none)
end
def qL.f (k : Nat) (l0 : List (S55)) : Option ((List (S55))) := (qF.f k l0).bind fun t200 => (qL.l0 k l0 (([] : List (S55))) t200 (([] : List Int)) (([] : List Int)) (([] : List Int)) 0)
def qL.T9 : Bool × List (List Nat × List Nat) := (true, [([], []), ([], []), ([], []), ([1, 2], [1, 2]), ([3], [3]), ([4], [4]), ([0, 5], [0, 5]), ([], []), ([], []), ([], []), ([8, 9], [8, 9]), ([10], [10]), ([11], [11]), ([7, 12, 6], [7, 12]), ([6, 13], [6, 13]), ([], []), ([15, 14, 13, 0, 1, 2, 3, 4, 5, 6, 7, 8, 9, 10, 11, 12, 13, 14, 15], [14, 15])])
def qL.B9 : List Nat := [0, 0, 0, 6, 14, 30, 63, 0, 0, 0, 768, 1792, 3840, 8191, 16383, 0, 65535]
theorem qL.tab9 : qy5 .any (opsOf Try.f17 9) = qL.T9 := by kernel_rfl
theorem qL.Qi3 : qG1 qL.T9.2 qL.B9 = true := by kernel_rfl
set_option maxHeartbeats 8000000 in
set_option maxRecDepth 100000 in
theorem qL.calls (k : Nat) (P0_ : Nat → Prop) (A0 : Option Addr) (c0 : Nat) (l0 : List (S55)) (r : List (S55)) (w : World) (hs0 : Kd.V k55 55 w w.heap.size (fun k_ => P0_ k_) (.slice A0 l0.length c0) l0) (h : qL.f k l0 = some r) :
  Calls Try.prog 17 #[.slice A0 l0.length c0] w fun e w' => ∃ v0_ : Value, e = .returned (v0_) ∧ Kd.N k55 55 w' w.heap.size (fun k_ => (P0_ k_ ∨ w.heap.size ≤ k_)) v0_ r ∧ Below w.heap.size w w' := by
 have zE7 := Try.underlying55
 have zu4 := Try.underlying51
 have HO0 := q8.mk (show Kd.V k55 55 w w.heap.size (fun k_ => (P0_ k_ ∨ w.heap.size ≤ k_)) (.slice A0 l0.length c0) l0 from Kd.zJ hs0 (fun k_ hk => .inl hk))
 have HB := q8.mk (Below.refl w.heap.size w)
 have H : ((qF.f k l0).bind fun t200 => (qL.l0 k l0 (([] : List (S55))) t200 (([] : List Int)) (([] : List Int)) (([] : List Int)) 0)) = some r := h
 clear h
 obtain ⟨y197, jN4⟩ : ∃ y_ : List (S55), y_ = (([] : List (S55))) := ⟨_, rfl⟩
 replace H : ((qF.f k l0).bind fun t200 => (qL.l0 k l0 y197 t200 (([] : List Int)) (([] : List Int)) (([] : List Int)) 0)) = some r := by first | (rw [jN4]; with_reducible exact H) | (have H2_ := (Option.bind_some _ _).symm.trans H; rw [jN4]; with_reducible exact H2_) | (have H2_ := (Option.bind_some _ _).symm.trans H; with_reducible exact H2_) | with_reducible exact H | (rw [jN4]; exact H) | exact H
 have zS6 := q8.mk jN4
 clear jN4
 replace H := Option.bind_eq_some_iff.mp H
 obtain ⟨t200, A20, H⟩ := H
 replace H : (qL.l0 k l0 y197 t200 (([] : List Int)) (([] : List Int)) (([] : List Int)) 0) = some r := H
 have A2 := q8.mk A20
 clear A20
 obtain ⟨y203, jN5⟩ : ∃ y_ : List Int, y_ = (([] : List Int)) := ⟨_, rfl⟩
 replace H : (qL.l0 k l0 y197 t200 y203 (([] : List Int)) (([] : List Int)) 0) = some r := by first | (rw [jN5]; with_reducible exact H) | (have H2_ := (Option.bind_some _ _).symm.trans H; rw [jN5]; with_reducible exact H2_) | (have H2_ := (Option.bind_some _ _).symm.trans H; with_reducible exact H2_) | with_reducible exact H | (rw [jN5]; exact H) | exact H
 have zS7 := q8.mk jN5
 clear jN5
 obtain ⟨y206, jN6⟩ : ∃ y_ : List Int, y_ = (([] : List Int)) := ⟨_, rfl⟩
 replace H : (qL.l0 k l0 y197 t200 y203 y206 (([] : List Int)) 0) = some r := by first | (rw [jN6]; with_reducible exact H) | (have H2_ := (Option.bind_some _ _).symm.trans H; rw [jN6]; with_reducible exact H2_) | (have H2_ := (Option.bind_some _ _).symm.trans H; with_reducible exact H2_) | with_reducible exact H | (rw [jN6]; exact H) | exact H
 have zS8 := q8.mk jN6
 clear jN6
 obtain ⟨y209, jN7⟩ : ∃ y_ : List Int, y_ = (([] : List Int)) := ⟨_, rfl⟩
 replace H : (qL.l0 k l0 y197 t200 y203 y206 y209 0) = some r := by first | (rw [jN7]; with_reducible exact H) | (have H2_ := (Option.bind_some _ _).symm.trans H; rw [jN7]; with_reducible exact H2_) | (have H2_ := (Option.bind_some _ _).symm.trans H; with_reducible exact H2_) | with_reducible exact H | (rw [jN7]; exact H) | exact H
 have zS9 := q8.mk jN7
 clear jN7
 have H' := q8.mk H
 clear H
 go_enter Try.func17, Try.ntmps17
 go_wp2_with (first | ((with_reducible refine zY (N := 12) rfl ?_); refine Kd.zt1 k55 _ 55 ?hg (N' := 12) ?hd (xs := ([] : List (S55))) (inner := []) (ok := (fun k_ => (P0_ k_ ∨ w.heap.size ≤ k_))) (okp := (fun k_ => (P0_ k_ ∨ w.heap.size ≤ k_))) ?hr ?hp (fun _ hk => hk) ((show ∀ k_, w.heap.size ≤ k_ → (fun k_ => (P0_ k_ ∨ w.heap.size ≤ k_)) k_ from fun k_ hk => (.inr (Nat.le_trans (qM (by repeat (first | (with_reducible first | exact HB.out | apply qA | apply q9 | apply qB) | exact HB.out))) hk))) _ (Nat.le_refl _)) (Below.refl _ _) (Nat.le_refl _) (by simp) ?_; (case hd => rfl); (case hg => rfl); (case hr => first | (go_simp; done) | (go_simp; rfl)); (case hp => exact (qb7.none _ _)); intro v198 w3 ho4 hb hg_ qA0; clear hg_ qA0; (first | rw [← zS6.out] at ho4 | (simp only [Int.reduceToNat] at ho4; rw [← zS6.out] at ho4)); have n0_ := q8.mk (Kd.qq3 (by (with_reducible repeat (first | apply Kd.jO | apply Kd.jP | apply Kd.z8)); exact HO0.out) (Kd.qA1 ho4) hb); have n1_ := q8.mk (Kd.qV5 ho4 (qM (by repeat (first | (with_reducible first | exact HB.out | apply qA | apply q9 | apply qB) | exact HB.out)))); have n2_ := q8.mk (jM (by repeat (first | (with_reducible first | exact HB.out | apply qA | apply q9 | apply qB) | exact HB.out)) hb); clear HO0; clear HB; have HO0 := n0_; have qB6 := n1_; have HB := n2_; clear n0_ n1_ n2_; clear hb ho4) | ((with_reducible refine qi8 (f := 43) rfl ?_); refine qG9 (some 14) rfl rfl Try.func43 (by kernel_rfl) rfl #[.slice A0 l0.length c0] rfl (by (try simp only [List.map_toArray, List.map_cons, List.map_nil]); first | done | rfl | (simp only [List.length_drop, List.length_take]; rfl)) ?_; (with_reducible refine (qF.calls k (fun k_ => ((P0_ k_ ∨ w.heap.size ≤ k_) ∧ some k_ ≠ (v198 : Value).ownBlock)) _ _ l0 t200 _ ?qs8 A2.out).mono ?_); (case qs8 => exact HO0.out); rintro e w5 ⟨v201, rfl, ho0, hb⟩; refine ⟨_, rfl, ?_⟩; have n0_ := q8.mk (Kd.qq3 (by (with_reducible repeat (first | apply Kd.jO | apply Kd.jP | apply Kd.z8)); exact HO0.out) (Kd.qA1 ho0) hb); have n1_ := q8.mk (Kd.qq4 (by (with_reducible repeat (first | apply Kd.jC | apply Kd.jD | apply Kd.jG)); exact qB6.out) (Kd.qA1 ho0) hb); have n2_ := q8.mk (Kd.qV5 (Kd.jZ (ok' := fun k_ => (P0_ k_ ∨ w.heap.size ≤ k_) ∧ some k_ ≠ (v198 : Value).ownBlock) ho0 (fun k_ hk_ => ⟨Or.elim hk_ (fun hs_ => hs_.1) (fun hn_ => (.inr (Nat.le_trans (qM (by repeat (first | (with_reducible first | exact HB.out | apply qA | apply q9 | apply qB) | exact HB.out))) hn_))), Or.elim hk_ (fun hs_ => hs_.2) (fun hn_ => (Kd.fresh' (Kd.ju3 (by (with_reducible repeat (first | apply Kd.jC | apply Kd.jD | apply Kd.jG)); exact qB6.out)) k_ hn_))⟩)) (qM (by repeat (first | (with_reducible first | exact HB.out | apply qA | apply q9 | apply qB) | exact HB.out)))); have n3_ := q8.mk (jM (by repeat (first | (with_reducible first | exact HB.out | apply qA | apply q9 | apply qB) | exact HB.out)) hb); clear HO0; clear qB6; clear HB; have HO0 := n0_; have qB6 := n1_; have qP6 := n2_; have HB := n3_; clear n0_ n1_ n2_ n3_; (try clear hb); (try clear hb2); (try clear hk); (try clear hi); (try clear ho0)) | ((with_reducible refine zY (N := 15) rfl ?_); refine Kd.jN2 (Kd.int .i64) _ 3 ?hg (N := 15) ?hd (xs := ([] : List Int)) (inner := []) (ok := fun _ => True) (okp := fun _ => True) ?hr ?hp (fun _ hk => hk) trivial (Below.refl _ _) (Nat.le_refl _) (by simp) ?_; (case hd => rfl); (case hg => rfl); (case hr => first | (go_simp; done) | (go_simp; rfl)); (case hp => exact (qb7.none _ _)); intro v204 w6 ho7 hb hg_ qA0; clear hg_ qA0; (first | rw [← zS7.out] at ho7 | (simp only [Int.reduceToNat] at ho7; rw [← zS7.out] at ho7)); have n0_ := q8.mk (Kd.qq3 (by (with_reducible repeat (first | apply Kd.jO | apply Kd.jP | apply Kd.z8)); exact HO0.out) (Kd.qs7 ho7) hb); have n1_ := q8.mk (Kd.qq4 (by (with_reducible repeat (first | apply Kd.jC | apply Kd.jD | apply Kd.jG)); exact qB6.out) (Kd.qs7 ho7) hb); have n2_ := q8.mk (Kd.qq4 (by (with_reducible repeat (first | apply Kd.jC | apply Kd.jD | apply Kd.jG)); exact qP6.out) (Kd.qs7 ho7) hb); have n3_ := q8.mk (Kd.qO1 (Kd.jD5 (M := fun k_ => (w.heap.size ≤ k_)) ho7 (qM (by repeat (first | (with_reducible first | exact HB.out | apply qA | apply q9 | apply qB) | exact HB.out))) (fun k_ h_ => h_)) (qM (by repeat (first | (with_reducible first | exact HB.out | apply qA | apply q9 | apply qB) | exact HB.out)))); have n4_ := q8.mk (jM (by repeat (first | (with_reducible first | exact HB.out | apply qA | apply q9 | apply qB) | exact HB.out)) hb); clear HO0; clear qB6; clear qP6; clear HB; have HO0 := n0_; have qB6 := n1_; have qP6 := n2_; have qX4 := n3_; have HB := n4_; clear n0_ n1_ n2_ n3_ n4_; clear hb ho7) | ((with_reducible refine zY (N := 16) rfl ?_); refine Kd.jN2 (Kd.int .i64) _ 3 ?hg (N := 16) ?hd (xs := ([] : List Int)) (inner := []) (ok := fun _ => True) (okp := fun _ => True) ?hr ?hp (fun _ hk => hk) trivial (Below.refl _ _) (Nat.le_refl _) (by simp) ?_; (case hd => rfl); (case hg => rfl); (case hr => first | (go_simp; done) | (go_simp; rfl)); (case hp => exact (qb7.none _ _)); intro v207 w8 ho9 hb hg_ qA0; clear hg_ qA0; (first | rw [← zS8.out] at ho9 | (simp only [Int.reduceToNat] at ho9; rw [← zS8.out] at ho9)); have n0_ := q8.mk (Kd.qq3 (by (with_reducible repeat (first | apply Kd.jO | apply Kd.jP | apply Kd.z8)); exact HO0.out) (Kd.qs7 ho9) hb); have n1_ := q8.mk (Kd.qq4 (by (with_reducible repeat (first | apply Kd.jC | apply Kd.jD | apply Kd.jG)); exact qB6.out) (Kd.qs7 ho9) hb); have n2_ := q8.mk (Kd.qq4 (by (with_reducible repeat (first | apply Kd.jC | apply Kd.jD | apply Kd.jG)); exact qP6.out) (Kd.qs7 ho9) hb); have n3_ := q8.mk (Kd.qX2 (by (with_reducible repeat (first | apply Kd.qV | apply Kd.qW | apply Kd.jB)); exact qX4.out) (Kd.qs7 ho9) hb); have n4_ := q8.mk (Kd.qO1 (Kd.jD4 (Kd.jD5 (M := fun k_ => (w.heap.size ≤ k_)) ho9 (qM (by repeat (first | (with_reducible first | exact HB.out | apply qA | apply q9 | apply qB) | exact HB.out))) (fun k_ h_ => h_)) (Kd.qK4 (by (with_reducible repeat (first | apply Kd.qV | apply Kd.qW | apply Kd.jB)); exact qX4.out))) (qM (by repeat (first | (with_reducible first | exact HB.out | apply qA | apply q9 | apply qB) | exact HB.out)))); have n5_ := q8.mk (jM (by repeat (first | (with_reducible first | exact HB.out | apply qA | apply q9 | apply qB) | exact HB.out)) hb); clear HO0; clear qB6; clear qP6; clear qX4; clear HB; have HO0 := n0_; have qB6 := n1_; have qP6 := n2_; have qX4 := n3_; have jN8 := n4_; have HB := n5_; clear n0_ n1_ n2_ n3_ n4_ n5_; clear hb ho9) | ((with_reducible refine zY (N := 17) rfl ?_); refine Kd.jN2 (Kd.int .i64) _ 3 ?hg (N := 17) ?hd (xs := ([] : List Int)) (inner := []) (ok := fun _ => True) (okp := fun _ => True) ?hr ?hp (fun _ hk => hk) trivial (Below.refl _ _) (Nat.le_refl _) (by simp) ?_; (case hd => rfl); (case hg => rfl); (case hr => first | (go_simp; done) | (go_simp; rfl)); (case hp => exact (qb7.none _ _)); intro v210 w10 ju6 hb hg_ qA0; clear hg_ qA0; (first | rw [← zS9.out] at ju6 | (simp only [Int.reduceToNat] at ju6; rw [← zS9.out] at ju6)); have n0_ := q8.mk (Kd.qq3 (by (with_reducible repeat (first | apply Kd.jO | apply Kd.jP | apply Kd.z8)); exact HO0.out) (Kd.qs7 ju6) hb); have n1_ := q8.mk (Kd.qq4 (by (with_reducible repeat (first | apply Kd.jC | apply Kd.jD | apply Kd.jG)); exact qB6.out) (Kd.qs7 ju6) hb); have n2_ := q8.mk (Kd.qq4 (by (with_reducible repeat (first | apply Kd.jC | apply Kd.jD | apply Kd.jG)); exact qP6.out) (Kd.qs7 ju6) hb); have n3_ := q8.mk (Kd.qX2 (by (with_reducible repeat (first | apply Kd.qV | apply Kd.qW | apply Kd.jB)); exact qX4.out) (Kd.qs7 ju6) hb); have n4_ := q8.mk (Kd.qX2 (by (with_reducible repeat (first | apply Kd.qV | apply Kd.qW | apply Kd.jB)); exact jN8.out) (Kd.qs7 ju6) hb); have n5_ := q8.mk (Kd.qO1 (Kd.jD4 (Kd.jD4 (Kd.jD5 (M := fun k_ => (w.heap.size ≤ k_)) ju6 (qM (by repeat (first | (with_reducible first | exact HB.out | apply qA | apply q9 | apply qB) | exact HB.out))) (fun k_ h_ => h_)) (Kd.qK4 (by (with_reducible repeat (first | apply Kd.qV | apply Kd.qW | apply Kd.jB)); exact qX4.out))) (Kd.qK4 (by (with_reducible repeat (first | apply Kd.qV | apply Kd.qW | apply Kd.jB)); exact jN8.out))) (qM (by repeat (first | (with_reducible first | exact HB.out | apply qA | apply q9 | apply qB) | exact HB.out)))); have n6_ := q8.mk (jM (by repeat (first | (with_reducible first | exact HB.out | apply qA | apply q9 | apply qB) | exact HB.out)) hb); clear HO0; clear qB6; clear qP6; clear qX4; clear jN8; clear HB; have HO0 := n0_; have qB6 := n1_; have qP6 := n2_; have qX4 := n3_; have jN8 := n4_; have Qi4 := n5_; have HB := n6_; clear n0_ n1_ n2_ n3_ n4_ n5_ n6_; clear hb ju6))
 go_loopg [3, 5, 6, 7, 8] k (fun kq v3 v5 v6 v7 v8 w' => ∃ (qk1 : List (S55)) (qx1 : List Int) (jW : List Int) (qa9 : List Int) (qO : Int), v8 = .int .i64 qO ∧ q8 (qL.l0 kq l0 qk1 t200 qx1 jW qa9 qO = some r) ∧ q8 (kq ≤ k) ∧ q8 (Kd.V k55 55 w' w.heap.size (fun k_ => (P0_ k_ ∨ w.heap.size ≤ k_) ∧ some k_ ≠ (v3 : Value).ownBlock ∧ some k_ ≠ (v201 : Value).ownBlock ∧ some k_ ≠ (v5 : Value).ownBlock ∧ some k_ ≠ (v6 : Value).ownBlock ∧ some k_ ≠ (v7 : Value).ownBlock) (.slice A0 l0.length c0) l0) ∧ q8 (Kd.N k55 55 w' w.heap.size (fun k_ => (P0_ k_ ∨ w.heap.size ≤ k_) ∧ some k_ ≠ (v201 : Value).ownBlock ∧ some k_ ≠ (v5 : Value).ownBlock ∧ some k_ ≠ (v6 : Value).ownBlock ∧ some k_ ≠ (v7 : Value).ownBlock) v3 qk1) ∧ q8 (Kd.N k55 55 w' w.heap.size (fun k_ => (P0_ k_ ∨ w.heap.size ≤ k_) ∧ some k_ ≠ (v3 : Value).ownBlock ∧ some k_ ≠ (v5 : Value).ownBlock ∧ some k_ ≠ (v6 : Value).ownBlock ∧ some k_ ≠ (v7 : Value).ownBlock) v201 t200) ∧ q8 (Kd.R (Kd.int .i64) 3 w' w.heap.size (fun k_ => (w.heap.size ≤ k_) ∧ some k_ ≠ (v6 : Value).ownBlock ∧ some k_ ≠ (v7 : Value).ownBlock) v5 qx1) ∧ q8 (Kd.R (Kd.int .i64) 3 w' w.heap.size (fun k_ => (w.heap.size ≤ k_) ∧ some k_ ≠ (v5 : Value).ownBlock ∧ some k_ ≠ (v7 : Value).ownBlock) v6 jW) ∧ q8 (Kd.R (Kd.int .i64) 3 w' w.heap.size (fun k_ => (w.heap.size ≤ k_) ∧ some k_ ≠ (v5 : Value).ownBlock ∧ some k_ ≠ (v6 : Value).ownBlock) v7 qa9) ∧ q8 (Below w.heap.size w w'))
 case atStart => exact ⟨(y197), (y203), (y206), (y209), (0), (by first | rfl | (simp; done) | (simp [*]; done)), H', ⟨Nat.le_refl _⟩, ⟨by (with_reducible repeat (first | apply Kd.jO | apply Kd.jP | apply Kd.z8)); exact Kd.zJ HO0.out (fun _ hk => ⟨hk.1.1.1.1.1, ⟨hk.1.1.1.1.2, ⟨hk.1.1.1.2, ⟨hk.1.1.2, ⟨hk.1.2, hk.2⟩⟩⟩⟩⟩)⟩, ⟨by (with_reducible repeat (first | apply Kd.jC | apply Kd.jD | apply Kd.jG)); exact Kd.jZ qB6.out (fun _ hk => ⟨hk.1.1.1.1, ⟨hk.1.1.1.2, ⟨hk.1.1.2, ⟨hk.1.2, hk.2⟩⟩⟩⟩)⟩, ⟨by (with_reducible repeat (first | apply Kd.jC | apply Kd.jD | apply Kd.jG)); exact Kd.jZ qP6.out (fun _ hk => ⟨hk.1.1.1.1, ⟨hk.1.1.1.2, ⟨hk.1.1.2, ⟨hk.1.2, hk.2⟩⟩⟩⟩)⟩, ⟨by (with_reducible repeat (first | apply Kd.qV | apply Kd.qW | apply Kd.jB)); exact Kd.jK qX4.out (fun _ hk => ⟨hk.1.1.1, ⟨hk.1.2, hk.2⟩⟩)⟩, ⟨by (with_reducible repeat (first | apply Kd.qV | apply Kd.qW | apply Kd.jB)); exact Kd.jK jN8.out (fun _ hk => ⟨hk.1.1.1, ⟨hk.1.2, hk.2⟩⟩)⟩, ⟨by (with_reducible repeat (first | apply Kd.qV | apply Kd.qW | apply Kd.jB)); exact Kd.jK Qi4.out (fun _ hk => ⟨hk.1.1.1, ⟨hk.1.2, hk.2⟩⟩)⟩, ⟨by repeat (first | (with_reducible first | exact HB.out | apply qA | apply q9 | apply qB) | exact HB.out)⟩⟩
 case round =>
  clear H'
  try clear c1
  try clear p2
  try clear c4
  obtain ⟨qk1, qx1, jW, qa9, qO, rfl, HA, HK1, zX, qa3, qU, qb9, qe6, qc8, HB⟩ := hrel
  cases gk with
  | zero => exact absurd HA.out (by simp [qL.l0])
  | succ k1 =>
   have H := HA.out
   clear HA
   simp only [qL.l0] at H
   by_cases c12 : qO < (t200.length : Int)
   ·rw [if_pos c12] at H
    have qE3 : decide (qO < (t200.length : Int)) = true := decide_eq_true c12
    clear c12
    by_cases c13 : 0 ≤ qO
    ·rw [if_pos c13] at H
     have zR5 : decide (0 ≤ qO) = true := decide_eq_true c13
     clear c13
     replace H := Option.bind_eq_some_iff.mp H
     obtain ⟨t213, A140, H⟩ := H
     replace H : ((j6.f k1 l0 ((qD t200 qO).f2)).bind fun t215 => ((jA.f k1 qx1 ((qD t200 qO).f0)).bind fun jg8 => (qL.l1 k1 l0 qk1 t200 jg8.1 jW qa9 qO 0 jg8.2 t213 t215 ([] : List (S51))))) = some r := H
     have A14 := q8.mk A140
     clear A140
     replace H := Option.bind_eq_some_iff.mp H
     obtain ⟨t215, A150, H⟩ := H
     replace H : ((jA.f k1 qx1 ((qD t200 qO).f0)).bind fun jg8 => (qL.l1 k1 l0 qk1 t200 jg8.1 jW qa9 qO 0 jg8.2 t213 t215 ([] : List (S51)))) = some r := H
     have A15 := q8.mk A150
     clear A150
     replace H := Option.bind_eq_some_iff.mp H
     obtain ⟨⟨t218, t221⟩, A160, H⟩ := H
     replace H : (qL.l1 k1 l0 qk1 t200 t218 jW qa9 qO 0 t221 t213 t215 ([] : List (S51))) = some r := H
     have A16 := q8.mk A160
     clear A160
     have H' := q8.mk H
     clear H
     obtain ⟨Ao17, qg7, eo17⟩ := Kd.qN9 qU.out
     subst eo17
     try go_wp2
     have n0_ := q8.mk (Kd.z8 zX.out)
     have n1_ := q8.mk (Kd.jG qa3.out)
     have n2_ := q8.mk (Kd.jG qU.out)
     have n3_ := q8.mk (Kd.jB qb9.out)
     have n4_ := q8.mk (Kd.jB qe6.out)
     have n5_ := q8.mk (Kd.jB qc8.out)
     have n6_ := q8.mk (qB HB.out)
     clear zX
     clear qa3
     clear qU
     clear qb9
     clear qe6
     clear qc8
     clear HB
     have zX := n0_
     have qa3 := n1_
     have qU := n2_
     have qb9 := n3_
     have qe6 := n4_
     have qc8 := n5_
     have HB := n6_
     clear n0_ n1_ n2_ n3_ n4_ n5_ n6_
     have zu5 : 0 ≤ (qO : Int) := of_decide_eq_true (by first | (with_reducible assumption) | assumption)
     have zu6 : qO < (t200.length : Int) := of_decide_eq_true (by first | (with_reducible assumption) | assumption)
     obtain ⟨jS, qx2, qx3, e212, jD6, jD7, jD8, qX5, zg2, zg3⟩ := qa4 (Kd.zV qU.out).2.2 qO zu5 zu6
     cases e212
     obtain ⟨ce212, zX7, zX8, zu7⟩ := Kd.qE4 qU.out z55 qO zu5 (by first | exact zu6 | exact of_decide_eq_true (by first | (with_reducible assumption) | assumption) | (have e_ := (Kd.zV qU.out).1; omega))
     obtain ⟨Qp2, Qp3, rfl, jD9, jE0⟩ := qh6 zX8
     have jj1 := zu7 3 _ rfl
     rw [zM _ _ 3 (by omega)] at jj1
     replace jj1 := Option.some.inj (jj1.symm.trans qX5)
     injection jj1 with qm6 qx0 qm7
     rw [qm6] at jE0
     rw [qm7] at jD9
     have qi3 := q8.mk (show Kd.V k51 51 _ w.heap.size _ _ ((qD t200 qO).f3) from Kd.qP3 jD9 jE0)
     clear qm6 qx0 qm7 jE0 jD9
     clear zu7 zX7
     have qo8 := q8.mk zg3
     have Qp4 := q8.mk zg2
     clear zg3 zg2
     replace zu5 := eq_true zu5
     replace zu6 := eq_true zu6
     have zu8 : 0 ≤ (qO : Int) := of_decide_eq_true (by first | (with_reducible assumption) | assumption)
     have zu9 : qO < (t200.length : Int) := of_decide_eq_true (by first | (with_reducible assumption) | assumption)
     obtain ⟨Qi5, A214_3, c214_3, e214, jE1, jE2, jE3, qX6, zg4, zg5⟩ := qa4 (Kd.zV qU.out).2.2 qO zu8 zu9
     obtain rfl : jS = Qi5 := (by injection e214)
     obtain ⟨ce214, zX9, zY0, zv0⟩ := Kd.qE4 qU.out z55 qO zu8 (by first | exact zu9 | exact of_decide_eq_true (by first | (with_reducible assumption) | assumption) | (have e_ := (Kd.zV qU.out).1; omega))
     obtain ⟨Qp5, Qp6, rfl, jE4, jE5⟩ := qh6 zY0
     have jj2 := zv0 3 _ rfl
     rw [zM _ _ 3 (by omega)] at jj2
     replace jj2 := Option.some.inj (jj2.symm.trans qX6)
     injection jj2 with qm6 qx0 qm7
     rw [qm6] at jE5
     rw [qm7] at jE4
     have qi4 := q8.mk (show Kd.V k51 51 _ w.heap.size _ _ ((qD t200 qO).f3) from Kd.qP3 jE4 jE5)
     clear qm6 qx0 qm7 jE5 jE4
     clear zv0 zX9
     have qo9 := q8.mk zg5
     have Qp7 := q8.mk zg4
     clear zg5 zg4
     replace zu8 := eq_true zu8
     replace zu9 := eq_true zu9
     have ea_ := Option.some.inj (qX5.symm.trans qX6)
     injection ea_ with ea_ en_ ec_
     subst ea_
     subst ec_
     clear en_
     refine jC2 (n := 17) (S := fun w' => w'.cell? (jS.add ((qO).toNat * 4)) = some (.int .i64 ((qD t200 qO).f0)) ∧ w'.cell? ⟨(jS.add ((qO).toNat * 4)).block, (jS.add ((qO).toNat * 4)).off + 1, none⟩ = some (.int .i64 ((qD t200 qO).f1)) ∧ w'.cell? ⟨(jS.add ((qO).toNat * 4)).block, (jS.add ((qO).toNat * 4)).off + 2, none⟩ = some (.int .i64 ((qD t200 qO).f2)) ∧ w'.cell? ⟨(jS.add ((qO).toNat * 4)).block, (jS.add ((qO).toNat * 4)).off + 3, none⟩ = some (.slice qx2 ((qD t200 qO).f3).length qx3) ∧ w'.cell? (jS.add ((qO).toNat * 4)) = some (.int .i64 ((qD t200 qO).f0)) ∧ w'.cell? ⟨(jS.add ((qO).toNat * 4)).block, (jS.add ((qO).toNat * 4)).off + 1, none⟩ = some (.int .i64 ((qD t200 qO).f1)) ∧ w'.cell? ⟨(jS.add ((qO).toNat * 4)).block, (jS.add ((qO).toNat * 4)).off + 2, none⟩ = some (.int .i64 ((qD t200 qO).f2)) ∧ w'.cell? ⟨(jS.add ((qO).toNat * 4)).block, (jS.add ((qO).toNat * 4)).off + 3, none⟩ = some (.slice qx2 ((qD t200 qO).f3).length qx3)) (ds := []) #[false, false, false, false, false, false, false, false, false, false, false, false, false, false, false, false, false] (by kernel_rfl) rfl rfl ⟨jD6, jD7, jD8, qX5, jE1, jE2, jE3, qX6⟩ (fun hHeld => ?_); refine qO0 qL.tab9 qL.Qi3 (fun HT_ HW_ => ?_)
     generalize wr.drew = w18 at zX qa3 qU qb9 qe6 qc8 HB qi3 qi4 qo8 qo9 jD6 jD7 jD8 qX5 jE1 jE2 jE3 qX6 hHeld ⊢
     refine qe9 (i := 0) (N := some 24) (v := ?_) (a' := ?_) #[true, false, false, false, false, false, false, false, false, false, false, false, false, false, false, false, false] rfl rfl (qb2 HT_.out (by kernel_rfl)) (fun _ _ _ h => h) (Or.inl ⟨by rfl, ?_⟩) ?_ ?_
     rotate_left
     ·intro w'
      go_simp
      with_reducible rfl
     rotate_left
     ·simp only [Act.put, List.setIfInBounds_toArray, List.set_cons_zero, List.set_cons_succ, zZ, qa1]
      rfl
     refine qe9 (i := 1) (N := some 25) (v := ?_) (a' := ?_) #[true, true, false, false, false, false, false, false, false, false, false, false, false, false, false, false, false] rfl rfl (qb2 HT_.out (by kernel_rfl)) (fun _ _ _ h => h) (Or.inl ⟨by rfl, ?_⟩) ?_ ?_
     rotate_left
     ·intro w'
      go_simp
      with_reducible rfl
     rotate_left
     ·simp only [Act.put, List.setIfInBounds_toArray, List.set_cons_zero, List.set_cons_succ, zZ, qa1]
      rfl
     refine qe9 (i := 2) (N := some 26) (v := ?_) (a' := ?_) #[true, true, true, false, false, false, false, false, false, false, false, false, false, false, false, false, false] rfl rfl (qb2 HT_.out (by kernel_rfl)) (fun _ _ _ h => h) (Or.inl ⟨by rfl, ?_⟩) ?_ ?_
     rotate_left
     ·intro w'
      go_simp
      with_reducible rfl
     rotate_left
     ·simp only [Act.put, List.setIfInBounds_toArray, List.set_cons_zero, List.set_cons_succ, zZ, qa1]
      rfl
     refine qe9 (i := 3) (N := some 27) (v := ?_) (a' := ?_) #[true, true, true, true, false, false, false, false, false, false, false, false, false, false, false, false, false] rfl rfl (qb2 HT_.out (by kernel_rfl)) (fun _ _ _ h => h) (Or.inl ⟨by rfl, ?_⟩) ?_ ?_
     rotate_left
     ·intro w'
      go_simp
      with_reducible rfl
     rotate_left
     ·simp only [Act.put, List.setIfInBounds_toArray, List.set_cons_zero, List.set_cons_succ, zZ, qa1]
      rfl
     refine qe9 (i := 4) (N := some 28) (v := ?_) (a' := ?_) #[true, true, true, true, true, false, false, false, false, false, false, false, false, false, false, false, false] rfl rfl (qb2 HT_.out (by kernel_rfl)) (fun _ _ _ h => h) (Or.inl ⟨by rfl, ?_⟩) ?_ ?_
     rotate_left
     ·intro w'
      go_simp
      with_reducible rfl
     rotate_left
     ·simp only [Act.put, List.setIfInBounds_toArray, List.set_cons_zero, List.set_cons_succ, zZ, qa1]
      rfl
     refine qe9 (i := 7) (N := some 31) (v := ?_) (a' := ?_) #[true, true, true, true, true, false, false, true, false, false, false, false, false, false, false, false, false] rfl rfl (qb2 HT_.out (by kernel_rfl)) (fun _ _ _ h => h) (Or.inl ⟨by rfl, ?_⟩) ?_ ?_
     rotate_left
     ·intro w'
      go_simp
      with_reducible rfl
     rotate_left
     ·simp only [Act.put, List.setIfInBounds_toArray, List.set_cons_zero, List.set_cons_succ, zZ, qa1]
      rfl
     refine qe9 (i := 8) (N := some 32) (v := ?_) (a' := ?_) #[true, true, true, true, true, false, false, true, true, false, false, false, false, false, false, false, false] rfl rfl (qb2 HT_.out (by kernel_rfl)) (fun _ _ _ h => h) (Or.inl ⟨by rfl, ?_⟩) ?_ ?_
     rotate_left
     ·intro w'
      go_simp
      with_reducible rfl
     rotate_left
     ·simp only [Act.put, List.setIfInBounds_toArray, List.set_cons_zero, List.set_cons_succ, zZ, qa1]
      rfl
     refine qe9 (i := 9) (N := some 33) (v := ?_) (a' := ?_) #[true, true, true, true, true, false, false, true, true, true, false, false, false, false, false, false, false] rfl rfl (qb2 HT_.out (by kernel_rfl)) (fun _ _ _ h => h) (Or.inl ⟨by rfl, ?_⟩) ?_ ?_
     rotate_left
     ·intro w'
      go_simp
      with_reducible rfl
     rotate_left
     ·simp only [Act.put, List.setIfInBounds_toArray, List.set_cons_zero, List.set_cons_succ, zZ, qa1]
      rfl
     refine qe9 (i := 10) (N := some 34) (v := ?_) (a' := ?_) #[true, true, true, true, true, false, false, true, true, true, true, false, false, false, false, false, false] rfl rfl (qb2 HT_.out (by kernel_rfl)) (fun _ _ _ h => h) (Or.inl ⟨by rfl, ?_⟩) ?_ ?_
     rotate_left
     ·intro w'
      go_simp
      with_reducible rfl
     rotate_left
     ·simp only [Act.put, List.setIfInBounds_toArray, List.set_cons_zero, List.set_cons_succ, zZ, qa1]
      rfl
     refine qe9 (i := 11) (N := some 35) (v := ?_) (a' := ?_) #[true, true, true, true, true, false, false, true, true, true, true, true, false, false, false, false, false] rfl rfl (qb2 HT_.out (by kernel_rfl)) (fun _ _ _ h => h) (Or.inl ⟨by rfl, ?_⟩) ?_ ?_
     rotate_left
     ·intro w'
      go_simp
      with_reducible rfl
     rotate_left
     ·simp only [Act.put, List.setIfInBounds_toArray, List.set_cons_zero, List.set_cons_succ, zZ, qa1]
      rfl
     refine jx2 (i := 5) (N := some 29) (v := ?_) (a' := ?_) #[true, true, true, true, true, true, false, true, true, true, true, true, false, false, false, false, false] rfl rfl (qE5 HT_.out HW_.out (by kernel_rfl)) (fun _ _ _ h => h) (Or.inl ⟨by rfl, ?_⟩) hHeld ?_ ?_
     rotate_left
     ·rintro w' ⟨s0, s1, s2, s3, s4, s5, s6, s7⟩
      go_simp
      with_reducible rfl
     rotate_left
     ·simp only [Act.put, List.setIfInBounds_toArray, List.set_cons_zero, List.set_cons_succ, zZ, qa1]
      rfl
     refine jx2 (i := 12) (N := some 36) (v := ?_) (a' := ?_) #[true, true, true, true, true, true, false, true, true, true, true, true, true, false, false, false, false] rfl rfl (qE5 HT_.out HW_.out (by kernel_rfl)) (fun _ _ _ h => h) (Or.inl ⟨by rfl, ?_⟩) hHeld ?_ ?_
     rotate_left
     ·rintro w' ⟨s0, s1, s2, s3, s4, s5, s6, s7⟩
      go_simp
      with_reducible rfl
     rotate_left
     ·simp only [Act.put, List.setIfInBounds_toArray, List.set_cons_zero, List.set_cons_succ, zZ, qa1]
      rfl
     refine Qi6 (σ := Nat) 1 #[true, true, true, true, true, true, true, true, true, true, true, true, true, true, true, true, false] (fun s_ => [(30, .int .i64 t213), (37, .int .i64 t215), (9, .pointer (some ⟨s_, 0, none⟩)), (38, .agg #[.int .i64 0, .int .i64 t213, .int .i64 t215, .slice none 0 0])]) (fun s_ w' => (w'.cell? (jS.add ((qO).toNat * 4)) = some (.int .i64 ((qD t200 qO).f0)) ∧ w'.cell? ⟨(jS.add ((qO).toNat * 4)).block, (jS.add ((qO).toNat * 4)).off + 1, none⟩ = some (.int .i64 ((qD t200 qO).f1)) ∧ w'.cell? ⟨(jS.add ((qO).toNat * 4)).block, (jS.add ((qO).toNat * 4)).off + 2, none⟩ = some (.int .i64 ((qD t200 qO).f2)) ∧ w'.cell? ⟨(jS.add ((qO).toNat * 4)).block, (jS.add ((qO).toNat * 4)).off + 3, none⟩ = some (.slice qx2 ((qD t200 qO).f3).length qx3) ∧ w'.cell? (jS.add ((qO).toNat * 4)) = some (.int .i64 ((qD t200 qO).f0)) ∧ w'.cell? ⟨(jS.add ((qO).toNat * 4)).block, (jS.add ((qO).toNat * 4)).off + 1, none⟩ = some (.int .i64 ((qD t200 qO).f1)) ∧ w'.cell? ⟨(jS.add ((qO).toNat * 4)).block, (jS.add ((qO).toNat * 4)).off + 2, none⟩ = some (.int .i64 ((qD t200 qO).f2)) ∧ w'.cell? ⟨(jS.add ((qO).toNat * 4)).block, (jS.add ((qO).toNat * 4)).off + 3, none⟩ = some (.slice qx2 ((qD t200 qO).f3).length qx3)) ∧ (Kd.V k51 51 w' w.heap.size (fun k_ => (P0_ k_ ∨ w.heap.size ≤ k_) ∧ some k_ ≠ (u3 : Value).ownBlock ∧ some k_ ≠ (.slice (some jS) t200.length qg7 : Value).ownBlock ∧ some k_ ≠ (u5 : Value).ownBlock ∧ some k_ ≠ (u6 : Value).ownBlock ∧ some k_ ≠ (u7 : Value).ownBlock ∧ k_ ≠ s_) (.slice qx2 ((qD t200 qO).f3).length qx3) ((qD t200 qO).f3)) ∧ (Kd.V k51 51 w' w.heap.size (fun k_ => (P0_ k_ ∨ w.heap.size ≤ k_) ∧ some k_ ≠ (u3 : Value).ownBlock ∧ some k_ ≠ (.slice (some jS) t200.length qg7 : Value).ownBlock ∧ some k_ ≠ (u5 : Value).ownBlock ∧ some k_ ≠ (u6 : Value).ownBlock ∧ some k_ ≠ (u7 : Value).ownBlock ∧ k_ ≠ s_) (.slice qx2 ((qD t200 qO).f3).length qx3) ((qD t200 qO).f3)) ∧ (Kd.V k55 55 w' w.heap.size (fun k_ => (P0_ k_ ∨ w.heap.size ≤ k_) ∧ some k_ ≠ (u3 : Value).ownBlock ∧ some k_ ≠ (.slice (some jS) t200.length qg7 : Value).ownBlock ∧ some k_ ≠ (u5 : Value).ownBlock ∧ some k_ ≠ (u6 : Value).ownBlock ∧ some k_ ≠ (u7 : Value).ownBlock ∧ k_ ≠ s_) (.slice A0 l0.length c0) l0) ∧ (Kd.N k55 55 w' w.heap.size (fun k_ => (P0_ k_ ∨ w.heap.size ≤ k_) ∧ some k_ ≠ (.slice (some jS) t200.length qg7 : Value).ownBlock ∧ some k_ ≠ (u5 : Value).ownBlock ∧ some k_ ≠ (u6 : Value).ownBlock ∧ some k_ ≠ (u7 : Value).ownBlock ∧ k_ ≠ s_) u3 qk1) ∧ (Kd.N k55 55 w' w.heap.size (fun k_ => (P0_ k_ ∨ w.heap.size ≤ k_) ∧ some k_ ≠ (u3 : Value).ownBlock ∧ some k_ ≠ (u5 : Value).ownBlock ∧ some k_ ≠ (u6 : Value).ownBlock ∧ some k_ ≠ (u7 : Value).ownBlock ∧ k_ ≠ s_) (.slice (some jS) t200.length qg7) t200) ∧ (Kd.R (Kd.int .i64) 3 w' w.heap.size (fun k_ => (w.heap.size ≤ k_) ∧ some k_ ≠ (u6 : Value).ownBlock ∧ some k_ ≠ (u7 : Value).ownBlock) u5 qx1) ∧ (Kd.R (Kd.int .i64) 3 w' w.heap.size (fun k_ => (w.heap.size ≤ k_) ∧ some k_ ≠ (u5 : Value).ownBlock ∧ some k_ ≠ (u7 : Value).ownBlock) u6 jW) ∧ (Kd.R (Kd.int .i64) 3 w' w.heap.size (fun k_ => (w.heap.size ≤ k_) ∧ some k_ ≠ (u5 : Value).ownBlock ∧ some k_ ≠ (u6 : Value).ownBlock) u7 qa9) ∧ (w'.heap[s_]? = some (.cells #[.int .i64 0, .int .i64 0, .int .i64 0, .slice none 0 0] 55 (0, 0))) ∧ (w.heap.size ≤ s_) ∧ (w.heap.size ≤ s_) ∧ (Below w.heap.size w w')) ?_ ?_
     rotate_left
     ·intro zv1
      refine two_ (i := 6) (j := 15) (Ni := some 30) (Nj := some 9) #[true, true, true, true, true, true, true, true, true, true, true, true, true, false, false, false, false] #[true, true, true, true, true, true, false, true, true, true, true, true, true, false, false, true, false] rfl rfl rfl rfl (zv2 HT_.out (by kernel_rfl)) (by decide) (by decide) (fun K hK => ?_) (fun K hK => ?_)
      ·skip
       refine jN9 Try.func44 (by kernel_rfl) rfl #[.slice A0 l0.length c0, .int .i64 ((qD t200 qO).f1)] (by rfl) rfl rfl (by (try simp only [List.map_toArray, List.map_cons, List.map_nil]); first | done | rfl | (simp only [List.length_drop, List.length_take]; rfl)) ?_
       with_reducible refine (j6.calls k1 _ _ l0 ((qD t200 qO).f1) t213 _ ?qs8 ?qw0 A14.out).mono ?_
       (case qs8 => repeat (first | exact (Kd.qo4 zX.out).2.2 | (with_reducible refine Kd.qi1 ?_ _) | (with_reducible refine Kd.qi2 ?_ _) | (with_reducible refine Kd.qn1 ?_)))
       (case qw0 => exact (Kd.qo4 zX.out).2.1)
       rintro e w' ⟨rfl, ⟨nd, rfl⟩⟩
       refine ⟨_, rfl, ?_⟩
       refine hK.out _ _ ⟨hHeld.1, hHeld.2.1, hHeld.2.2.1, hHeld.2.2.2.1, hHeld.2.2.2.2.1, hHeld.2.2.2.2.2.1, hHeld.2.2.2.2.2.2.1, hHeld.2.2.2.2.2.2.2⟩ (fun hHeld => ?_)
       clear hK K
       refine qA2 (a' := ?_) ?_ ?_
       rotate_left
       ·show Act.put _ (some 30) _ = _
        simp only [Act.put, List.setIfInBounds_toArray, List.set_cons_zero, List.set_cons_succ, zZ, qa1]
        rfl
       refine two_ (i := 13) (j := 15) (Ni := some 37) (Nj := some 9) #[true, true, true, true, true, true, true, true, true, true, true, true, true, true, false, false, false] #[true, true, true, true, true, true, true, true, true, true, true, true, true, false, false, true, false] rfl rfl rfl rfl (zv2 HT_.out (by kernel_rfl)) (by decide) (by decide) (fun K hK => ?_) (fun K hK => ?_)
       ·skip
        refine jN9 Try.func44 (by kernel_rfl) rfl #[.slice A0 l0.length c0, .int .i64 ((qD t200 qO).f2)] (by rfl) rfl rfl (by (try simp only [List.map_toArray, List.map_cons, List.map_nil]); first | done | rfl | (simp only [List.length_drop, List.length_take]; rfl)) ?_
        with_reducible refine (j6.calls k1 _ _ l0 ((qD t200 qO).f2) t215 _ ?qs8 ?qw0 A15.out).mono ?_
        (case qs8 => repeat (first | exact (Kd.qo4 zX.out).2.2 | (with_reducible refine Kd.qi1 ?_ _) | (with_reducible refine Kd.qi2 ?_ _) | (with_reducible refine Kd.qn1 ?_)))
        (case qw0 => exact (Kd.qo4 zX.out).2.1)
        rintro e w' ⟨rfl, ⟨nd, rfl⟩⟩
        refine ⟨_, rfl, ?_⟩
        refine hK.out _ _ ⟨hHeld.1, hHeld.2.1, hHeld.2.2.1, hHeld.2.2.2.1, hHeld.2.2.2.2.1, hHeld.2.2.2.2.2.1, hHeld.2.2.2.2.2.2.1, hHeld.2.2.2.2.2.2.2⟩ (fun hHeld => ?_)
        clear hK K
        refine qA2 (a' := ?_) ?_ ?_
        rotate_left
        ·show Act.put _ (some 37) _ = _
         simp only [Act.put, List.setIfInBounds_toArray, List.set_cons_zero, List.set_cons_succ, zZ, qa1]
         rfl
        refine qe9 (i := 14) (N := some 38) (v := ?_) (a' := ?_) #[true, true, true, true, true, true, true, true, true, true, true, true, true, true, true, false, false] rfl rfl (qb2 HT_.out (by kernel_rfl)) (fun _ _ _ h => h) (Or.inl ⟨by rfl, ?_⟩) ?_ ?_
        rotate_left
        ·intro w'
         go_simp
         with_reducible rfl
        rotate_left
        ·simp only [Act.put, List.setIfInBounds_toArray, List.set_cons_zero, List.set_cons_succ, zZ, qa1]
         rfl
        refine jM7 (i := 15) (N := some 9) #[true, true, true, true, true, true, true, true, true, true, true, true, true, true, true, true, false] rfl rfl (qL8 HT_.out (by kernel_rfl)) (by decide) (fun K hK => ?_)
        refine jm5 ?hg (N := 9) ?hd (cs := #[.int .i64 0, .int .i64 0, .int .i64 0, .slice none 0 0]) (t := 55) ?hr ?_; (case hd => rfl); (case hg => rfl); (case hr => first | (go_simp; done) | (go_simp; rfl))
        intro qH hg w19 qb4 hb
        have zv3 := (hb.cell (World.block_lt_of_cell? _ _ (hHeld.1))).trans (hHeld.1)
        have zv4 := (hb.cell (World.block_lt_of_cell? _ _ (hHeld.2.1))).trans (hHeld.2.1)
        have zv5 := (hb.cell (World.block_lt_of_cell? _ _ (hHeld.2.2.1))).trans (hHeld.2.2.1)
        have zv6 := (hb.cell (World.block_lt_of_cell? _ _ (hHeld.2.2.2.1))).trans (hHeld.2.2.2.1)
        have zv7 := (hb.cell (World.block_lt_of_cell? _ _ (hHeld.2.2.2.2.1))).trans (hHeld.2.2.2.2.1)
        have zv8 := (hb.cell (World.block_lt_of_cell? _ _ (hHeld.2.2.2.2.2.1))).trans (hHeld.2.2.2.2.2.1)
        have zv9 := (hb.cell (World.block_lt_of_cell? _ _ (hHeld.2.2.2.2.2.2.1))).trans (hHeld.2.2.2.2.2.2.1)
        have zw0 := (hb.cell (World.block_lt_of_cell? _ _ (hHeld.2.2.2.2.2.2.2))).trans (hHeld.2.2.2.2.2.2.2)
        have n0_ := q8.mk (Kd.ql1 (Kd.qh9 (by (with_reducible repeat (first | apply Kd.jO | apply Kd.jP | apply Kd.z8)); exact zX.out) qH (Nat.le_of_eq hg.symm)) hb)
        have n1_ := q8.mk (Kd.qn3 (Kd.qq5 (by (with_reducible repeat (first | apply Kd.jC | apply Kd.jD | apply Kd.jG)); exact qa3.out) qH (Nat.le_of_eq hg.symm)) hb)
        have n2_ := q8.mk (Kd.qn3 (Kd.qq5 (by (with_reducible repeat (first | apply Kd.jC | apply Kd.jD | apply Kd.jG)); exact qU.out) qH (Nat.le_of_eq hg.symm)) hb)
        have n3_ := q8.mk (Kd.qg1 (by (with_reducible repeat (first | apply Kd.qV | apply Kd.qW | apply Kd.jB)); exact qb9.out) hb)
        have n4_ := q8.mk (Kd.qg1 (by (with_reducible repeat (first | apply Kd.qV | apply Kd.qW | apply Kd.jB)); exact qe6.out) hb)
        have n5_ := q8.mk (Kd.qg1 (by (with_reducible repeat (first | apply Kd.qV | apply Kd.qW | apply Kd.jB)); exact qc8.out) hb)
        have n6_ := q8.mk (Kd.ql1 (Kd.qh9 (by (with_reducible repeat (first | apply Kd.jO | apply Kd.jP | apply Kd.z8)); exact qi3.out) qH (Nat.le_of_eq hg.symm)) hb)
        have n7_ := q8.mk (Kd.ql1 (Kd.qh9 (by (with_reducible repeat (first | apply Kd.jO | apply Kd.jP | apply Kd.z8)); exact qi4.out) qH (Nat.le_of_eq hg.symm)) hb)
        have n8_ := q8.mk (Kd.ql2 (by repeat (first | (with_reducible exact qo8.out) | (with_reducible refine Kd.qi1 ?_ _) | (with_reducible refine Kd.qi2 ?_ _) | (with_reducible refine Kd.qn1 ?_) | exact qo8.out)) hb)
        have n9_ := q8.mk (Kd.ql2 (by repeat (first | (with_reducible exact qo9.out) | (with_reducible refine Kd.qi1 ?_ _) | (with_reducible refine Kd.qi2 ?_ _) | (with_reducible refine Kd.qn1 ?_) | exact qo9.out)) hb)
        have qA4 := q8.mk (jM (by repeat (first | (with_reducible first | exact HB.out | apply qA | apply q9 | apply qB) | exact HB.out)) hb)
        have qA5 := q8.mk (qb4)
        have qX7 := q8.mk ((by rw [hg]; exact (qM (by repeat (first | (with_reducible first | exact HB.out | apply qA | apply q9 | apply qB) | exact HB.out))) : w.heap.size ≤ qH))
        have qX8 := q8.mk ((by rw [hg]; exact (qM (by repeat (first | (with_reducible first | exact HB.out | apply qA | apply q9 | apply qB) | exact HB.out))) : w.heap.size ≤ qH))
        clear zX
        clear qa3
        clear qU
        clear qb9
        clear qe6
        clear qc8
        clear qi3
        clear qi4
        clear qo8
        clear qo9
        clear HB
        have zX := n0_
        have qa3 := n1_
        have qU := n2_
        have qb9 := n3_
        have qe6 := n4_
        have qc8 := n5_
        have qi3 := n6_
        have qi4 := n7_
        have qo8 := n8_
        have qo9 := n9_
        have HB := qA4
        have jE := qA5
        have jx3 := qX7
        have qe7 := qX8
        clear n0_ n1_ n2_ n3_ n4_ n5_ n6_ n7_ n8_ n9_ qA4 qA5 qX7 qX8
        clear hb qb4 hg
        refine hK.out _ _ ⟨zv3, zv4, zv5, zv6, zv7, zv8, zv9, zw0⟩ (fun hHeld => ?_)
        clear hK K
        refine qA2 (a' := ?_) ?_ ?_
        rotate_left
        ·show Act.put _ (some 9) _ = _
         simp only [Act.put, List.setIfInBounds_toArray, List.set_cons_zero, List.set_cons_succ, zZ, qa1]
         rfl
        exact qA2 (by simp only [qS0, Act.put, List.setIfInBounds_toArray, List.set_cons_zero, List.set_cons_succ]) (zv1 (qH) _ ⟨hHeld, (by (with_reducible repeat (first | apply Kd.jO | apply Kd.jP | apply Kd.z8)); exact Kd.zJ qi3.out (fun _ hk => ⟨hk.1.1.1, ⟨hk.1.1.2.1, ⟨hk.1.2, ⟨hk.1.1.2.2.1, ⟨hk.1.1.2.2.2.1, ⟨hk.1.1.2.2.2.2, hk.2⟩⟩⟩⟩⟩⟩)), (by (with_reducible repeat (first | apply Kd.jO | apply Kd.jP | apply Kd.z8)); exact Kd.zJ qi4.out (fun _ hk => ⟨hk.1.1.1, ⟨hk.1.1.2.1, ⟨hk.1.2, ⟨hk.1.1.2.2.1, ⟨hk.1.1.2.2.2.1, ⟨hk.1.1.2.2.2.2, hk.2⟩⟩⟩⟩⟩⟩)), (by (with_reducible repeat (first | apply Kd.jO | apply Kd.jP | apply Kd.z8)); exact Kd.zJ zX.out (fun _ hk => ⟨hk.1.1, ⟨hk.1.2.1, ⟨hk.1.2.2.1, ⟨hk.1.2.2.2.1, ⟨hk.1.2.2.2.2.1, ⟨hk.1.2.2.2.2.2, hk.2⟩⟩⟩⟩⟩⟩)), (by (with_reducible repeat (first | apply Kd.jC | apply Kd.jD | apply Kd.jG)); exact Kd.jZ qa3.out (fun _ hk => ⟨hk.1.1, ⟨hk.1.2.1, ⟨hk.1.2.2.1, ⟨hk.1.2.2.2.1, ⟨hk.1.2.2.2.2, hk.2⟩⟩⟩⟩⟩)), (by (with_reducible repeat (first | apply Kd.jC | apply Kd.jD | apply Kd.jG)); exact Kd.jZ qU.out (fun _ hk => ⟨hk.1.1, ⟨hk.1.2.1, ⟨hk.1.2.2.1, ⟨hk.1.2.2.2.1, ⟨hk.1.2.2.2.2, hk.2⟩⟩⟩⟩⟩)), (by (with_reducible repeat (first | apply Kd.qV | apply Kd.qW | apply Kd.jB)); exact qb9.out), (by (with_reducible repeat (first | apply Kd.qV | apply Kd.qW | apply Kd.jB)); exact qe6.out), (by (with_reducible repeat (first | apply Kd.qV | apply Kd.qW | apply Kd.jB)); exact qc8.out), (by (with_reducible repeat (first | refine qI ?_ _ | refine qR ?_ | refine qJ ?_ _)); exact jE.out), jx3.out, qe7.out, (by repeat (first | (with_reducible first | exact HB.out | apply qA | apply q9 | apply qB | refine qK ?_ qe7.out) | exact HB.out))⟩)
       ·skip
        refine jm5 ?hg (N := 9) ?hd (cs := #[.int .i64 0, .int .i64 0, .int .i64 0, .slice none 0 0]) (t := 55) ?hr ?_; (case hd => rfl); (case hg => rfl); (case hr => first | (go_simp; done) | (go_simp; rfl))
        intro qH hg w19 qb4 hb
        have zv3 := (hb.cell (World.block_lt_of_cell? _ _ (hHeld.1))).trans (hHeld.1)
        have zv4 := (hb.cell (World.block_lt_of_cell? _ _ (hHeld.2.1))).trans (hHeld.2.1)
        have zv5 := (hb.cell (World.block_lt_of_cell? _ _ (hHeld.2.2.1))).trans (hHeld.2.2.1)
        have zv6 := (hb.cell (World.block_lt_of_cell? _ _ (hHeld.2.2.2.1))).trans (hHeld.2.2.2.1)
        have zv7 := (hb.cell (World.block_lt_of_cell? _ _ (hHeld.2.2.2.2.1))).trans (hHeld.2.2.2.2.1)
        have zv8 := (hb.cell (World.block_lt_of_cell? _ _ (hHeld.2.2.2.2.2.1))).trans (hHeld.2.2.2.2.2.1)
        have zv9 := (hb.cell (World.block_lt_of_cell? _ _ (hHeld.2.2.2.2.2.2.1))).trans (hHeld.2.2.2.2.2.2.1)
        have zw0 := (hb.cell (World.block_lt_of_cell? _ _ (hHeld.2.2.2.2.2.2.2))).trans (hHeld.2.2.2.2.2.2.2)
        have n0_ := q8.mk (Kd.ql1 (Kd.qh9 (by (with_reducible repeat (first | apply Kd.jO | apply Kd.jP | apply Kd.z8)); exact zX.out) qH (Nat.le_of_eq hg.symm)) hb)
        have n1_ := q8.mk (Kd.qn3 (Kd.qq5 (by (with_reducible repeat (first | apply Kd.jC | apply Kd.jD | apply Kd.jG)); exact qa3.out) qH (Nat.le_of_eq hg.symm)) hb)
        have n2_ := q8.mk (Kd.qn3 (Kd.qq5 (by (with_reducible repeat (first | apply Kd.jC | apply Kd.jD | apply Kd.jG)); exact qU.out) qH (Nat.le_of_eq hg.symm)) hb)
        have n3_ := q8.mk (Kd.qg1 (by (with_reducible repeat (first | apply Kd.qV | apply Kd.qW | apply Kd.jB)); exact qb9.out) hb)
        have n4_ := q8.mk (Kd.qg1 (by (with_reducible repeat (first | apply Kd.qV | apply Kd.qW | apply Kd.jB)); exact qe6.out) hb)
        have n5_ := q8.mk (Kd.qg1 (by (with_reducible repeat (first | apply Kd.qV | apply Kd.qW | apply Kd.jB)); exact qc8.out) hb)
        have n6_ := q8.mk (Kd.ql1 (Kd.qh9 (by (with_reducible repeat (first | apply Kd.jO | apply Kd.jP | apply Kd.z8)); exact qi3.out) qH (Nat.le_of_eq hg.symm)) hb)
        have n7_ := q8.mk (Kd.ql1 (Kd.qh9 (by (with_reducible repeat (first | apply Kd.jO | apply Kd.jP | apply Kd.z8)); exact qi4.out) qH (Nat.le_of_eq hg.symm)) hb)
        have n8_ := q8.mk (Kd.ql2 (by repeat (first | (with_reducible exact qo8.out) | (with_reducible refine Kd.qi1 ?_ _) | (with_reducible refine Kd.qi2 ?_ _) | (with_reducible refine Kd.qn1 ?_) | exact qo8.out)) hb)
        have n9_ := q8.mk (Kd.ql2 (by repeat (first | (with_reducible exact qo9.out) | (with_reducible refine Kd.qi1 ?_ _) | (with_reducible refine Kd.qi2 ?_ _) | (with_reducible refine Kd.qn1 ?_) | exact qo9.out)) hb)
        have qA4 := q8.mk (jM (by repeat (first | (with_reducible first | exact HB.out | apply qA | apply q9 | apply qB) | exact HB.out)) hb)
        have qA5 := q8.mk (qb4)
        have qX7 := q8.mk ((by rw [hg]; exact (qM (by repeat (first | (with_reducible first | exact HB.out | apply qA | apply q9 | apply qB) | exact HB.out))) : w.heap.size ≤ qH))
        have qX8 := q8.mk ((by rw [hg]; exact (qM (by repeat (first | (with_reducible first | exact HB.out | apply qA | apply q9 | apply qB) | exact HB.out))) : w.heap.size ≤ qH))
        clear zX
        clear qa3
        clear qU
        clear qb9
        clear qe6
        clear qc8
        clear qi3
        clear qi4
        clear qo8
        clear qo9
        clear HB
        have zX := n0_
        have qa3 := n1_
        have qU := n2_
        have qb9 := n3_
        have qe6 := n4_
        have qc8 := n5_
        have qi3 := n6_
        have qi4 := n7_
        have qo8 := n8_
        have qo9 := n9_
        have HB := qA4
        have jE := qA5
        have jx3 := qX7
        have qe7 := qX8
        clear n0_ n1_ n2_ n3_ n4_ n5_ n6_ n7_ n8_ n9_ qA4 qA5 qX7 qX8
        clear hb qb4 hg
        refine hK.out _ _ ⟨zv3, zv4, zv5, zv6, zv7, zv8, zv9, zw0⟩ (fun hHeld => ?_)
        clear hK K
        refine qA2 (a' := ?_) ?_ ?_
        rotate_left
        ·show Act.put _ (some 9) _ = _
         simp only [Act.put, List.setIfInBounds_toArray, List.set_cons_zero, List.set_cons_succ, zZ, qa1]
         rfl
        refine jM7 (i := 13) (N := some 37) #[true, true, true, true, true, true, true, true, true, true, true, true, true, true, false, true, false] rfl rfl (qL8 HT_.out (by kernel_rfl)) (by decide) (fun K hK => ?_)
        refine jN9 Try.func44 (by kernel_rfl) rfl #[.slice A0 l0.length c0, .int .i64 ((qD t200 qO).f2)] (by rfl) rfl rfl (by (try simp only [List.map_toArray, List.map_cons, List.map_nil]); first | done | rfl | (simp only [List.length_drop, List.length_take]; rfl)) ?_
        with_reducible refine (j6.calls k1 _ _ l0 ((qD t200 qO).f2) t215 _ ?qs8 ?qw0 A15.out).mono ?_
        (case qs8 => repeat (first | exact (Kd.qo4 zX.out).2.2 | (with_reducible refine Kd.qi1 ?_ _) | (with_reducible refine Kd.qi2 ?_ _) | (with_reducible refine Kd.qn1 ?_)))
        (case qw0 => exact (Kd.qo4 zX.out).2.1)
        rintro e w' ⟨rfl, ⟨nd, rfl⟩⟩
        refine ⟨_, rfl, ?_⟩
        refine hK.out _ _ ⟨hHeld.1, hHeld.2.1, hHeld.2.2.1, hHeld.2.2.2.1, hHeld.2.2.2.2.1, hHeld.2.2.2.2.2.1, hHeld.2.2.2.2.2.2.1, hHeld.2.2.2.2.2.2.2⟩ (fun hHeld => ?_)
        clear hK K
        refine qA2 (a' := ?_) ?_ ?_
        rotate_left
        ·show Act.put _ (some 37) _ = _
         simp only [Act.put, List.setIfInBounds_toArray, List.set_cons_zero, List.set_cons_succ, zZ, qa1]
         rfl
        refine qe9 (i := 14) (N := some 38) (v := ?_) (a' := ?_) #[true, true, true, true, true, true, true, true, true, true, true, true, true, true, true, true, false] rfl rfl (qb2 HT_.out (by kernel_rfl)) (fun _ _ _ h => h) (Or.inl ⟨by rfl, ?_⟩) ?_ ?_
        rotate_left
        ·intro w'
         go_simp
         with_reducible rfl
        rotate_left
        ·simp only [Act.put, List.setIfInBounds_toArray, List.set_cons_zero, List.set_cons_succ, zZ, qa1]
         rfl
        exact qA2 (by simp only [qS0, Act.put, List.setIfInBounds_toArray, List.set_cons_zero, List.set_cons_succ]) (zv1 (qH) _ ⟨hHeld, (by (with_reducible repeat (first | apply Kd.jO | apply Kd.jP | apply Kd.z8)); exact Kd.zJ qi3.out (fun _ hk => ⟨hk.1.1.1, ⟨hk.1.1.2.1, ⟨hk.1.2, ⟨hk.1.1.2.2.1, ⟨hk.1.1.2.2.2.1, ⟨hk.1.1.2.2.2.2, hk.2⟩⟩⟩⟩⟩⟩)), (by (with_reducible repeat (first | apply Kd.jO | apply Kd.jP | apply Kd.z8)); exact Kd.zJ qi4.out (fun _ hk => ⟨hk.1.1.1, ⟨hk.1.1.2.1, ⟨hk.1.2, ⟨hk.1.1.2.2.1, ⟨hk.1.1.2.2.2.1, ⟨hk.1.1.2.2.2.2, hk.2⟩⟩⟩⟩⟩⟩)), (by (with_reducible repeat (first | apply Kd.jO | apply Kd.jP | apply Kd.z8)); exact Kd.zJ zX.out (fun _ hk => ⟨hk.1.1, ⟨hk.1.2.1, ⟨hk.1.2.2.1, ⟨hk.1.2.2.2.1, ⟨hk.1.2.2.2.2.1, ⟨hk.1.2.2.2.2.2, hk.2⟩⟩⟩⟩⟩⟩)), (by (with_reducible repeat (first | apply Kd.jC | apply Kd.jD | apply Kd.jG)); exact Kd.jZ qa3.out (fun _ hk => ⟨hk.1.1, ⟨hk.1.2.1, ⟨hk.1.2.2.1, ⟨hk.1.2.2.2.1, ⟨hk.1.2.2.2.2, hk.2⟩⟩⟩⟩⟩)), (by (with_reducible repeat (first | apply Kd.jC | apply Kd.jD | apply Kd.jG)); exact Kd.jZ qU.out (fun _ hk => ⟨hk.1.1, ⟨hk.1.2.1, ⟨hk.1.2.2.1, ⟨hk.1.2.2.2.1, ⟨hk.1.2.2.2.2, hk.2⟩⟩⟩⟩⟩)), (by (with_reducible repeat (first | apply Kd.qV | apply Kd.qW | apply Kd.jB)); exact qb9.out), (by (with_reducible repeat (first | apply Kd.qV | apply Kd.qW | apply Kd.jB)); exact qe6.out), (by (with_reducible repeat (first | apply Kd.qV | apply Kd.qW | apply Kd.jB)); exact qc8.out), (by (with_reducible repeat (first | refine qI ?_ _ | refine qR ?_ | refine qJ ?_ _)); exact jE.out), jx3.out, qe7.out, (by repeat (first | (with_reducible first | exact HB.out | apply qA | apply q9 | apply qB | refine qK ?_ qe7.out) | exact HB.out))⟩)
      ·skip
       refine jm5 ?hg (N := 9) ?hd (cs := #[.int .i64 0, .int .i64 0, .int .i64 0, .slice none 0 0]) (t := 55) ?hr ?_; (case hd => rfl); (case hg => rfl); (case hr => first | (go_simp; done) | (go_simp; rfl))
       intro qH hg w19 qb4 hb
       have zv3 := (hb.cell (World.block_lt_of_cell? _ _ (hHeld.1))).trans (hHeld.1)
       have zv4 := (hb.cell (World.block_lt_of_cell? _ _ (hHeld.2.1))).trans (hHeld.2.1)
       have zv5 := (hb.cell (World.block_lt_of_cell? _ _ (hHeld.2.2.1))).trans (hHeld.2.2.1)
       have zv6 := (hb.cell (World.block_lt_of_cell? _ _ (hHeld.2.2.2.1))).trans (hHeld.2.2.2.1)
       have zv7 := (hb.cell (World.block_lt_of_cell? _ _ (hHeld.2.2.2.2.1))).trans (hHeld.2.2.2.2.1)
       have zv8 := (hb.cell (World.block_lt_of_cell? _ _ (hHeld.2.2.2.2.2.1))).trans (hHeld.2.2.2.2.2.1)
       have zv9 := (hb.cell (World.block_lt_of_cell? _ _ (hHeld.2.2.2.2.2.2.1))).trans (hHeld.2.2.2.2.2.2.1)
       have zw0 := (hb.cell (World.block_lt_of_cell? _ _ (hHeld.2.2.2.2.2.2.2))).trans (hHeld.2.2.2.2.2.2.2)
       have n0_ := q8.mk (Kd.ql1 (Kd.qh9 (by (with_reducible repeat (first | apply Kd.jO | apply Kd.jP | apply Kd.z8)); exact zX.out) qH (Nat.le_of_eq hg.symm)) hb)
       have n1_ := q8.mk (Kd.qn3 (Kd.qq5 (by (with_reducible repeat (first | apply Kd.jC | apply Kd.jD | apply Kd.jG)); exact qa3.out) qH (Nat.le_of_eq hg.symm)) hb)
       have n2_ := q8.mk (Kd.qn3 (Kd.qq5 (by (with_reducible repeat (first | apply Kd.jC | apply Kd.jD | apply Kd.jG)); exact qU.out) qH (Nat.le_of_eq hg.symm)) hb)
       have n3_ := q8.mk (Kd.qg1 (by (with_reducible repeat (first | apply Kd.qV | apply Kd.qW | apply Kd.jB)); exact qb9.out) hb)
       have n4_ := q8.mk (Kd.qg1 (by (with_reducible repeat (first | apply Kd.qV | apply Kd.qW | apply Kd.jB)); exact qe6.out) hb)
       have n5_ := q8.mk (Kd.qg1 (by (with_reducible repeat (first | apply Kd.qV | apply Kd.qW | apply Kd.jB)); exact qc8.out) hb)
       have n6_ := q8.mk (Kd.ql1 (Kd.qh9 (by (with_reducible repeat (first | apply Kd.jO | apply Kd.jP | apply Kd.z8)); exact qi3.out) qH (Nat.le_of_eq hg.symm)) hb)
       have n7_ := q8.mk (Kd.ql1 (Kd.qh9 (by (with_reducible repeat (first | apply Kd.jO | apply Kd.jP | apply Kd.z8)); exact qi4.out) qH (Nat.le_of_eq hg.symm)) hb)
       have n8_ := q8.mk (Kd.ql2 (by repeat (first | (with_reducible exact qo8.out) | (with_reducible refine Kd.qi1 ?_ _) | (with_reducible refine Kd.qi2 ?_ _) | (with_reducible refine Kd.qn1 ?_) | exact qo8.out)) hb)
       have n9_ := q8.mk (Kd.ql2 (by repeat (first | (with_reducible exact qo9.out) | (with_reducible refine Kd.qi1 ?_ _) | (with_reducible refine Kd.qi2 ?_ _) | (with_reducible refine Kd.qn1 ?_) | exact qo9.out)) hb)
       have qA4 := q8.mk (jM (by repeat (first | (with_reducible first | exact HB.out | apply qA | apply q9 | apply qB) | exact HB.out)) hb)
       have qA5 := q8.mk (qb4)
       have qX7 := q8.mk ((by rw [hg]; exact (qM (by repeat (first | (with_reducible first | exact HB.out | apply qA | apply q9 | apply qB) | exact HB.out))) : w.heap.size ≤ qH))
       have qX8 := q8.mk ((by rw [hg]; exact (qM (by repeat (first | (with_reducible first | exact HB.out | apply qA | apply q9 | apply qB) | exact HB.out))) : w.heap.size ≤ qH))
       clear zX
       clear qa3
       clear qU
       clear qb9
       clear qe6
       clear qc8
       clear qi3
       clear qi4
       clear qo8
       clear qo9
       clear HB
       have zX := n0_
       have qa3 := n1_
       have qU := n2_
       have qb9 := n3_
       have qe6 := n4_
       have qc8 := n5_
       have qi3 := n6_
       have qi4 := n7_
       have qo8 := n8_
       have qo9 := n9_
       have HB := qA4
       have jE := qA5
       have jx3 := qX7
       have qe7 := qX8
       clear n0_ n1_ n2_ n3_ n4_ n5_ n6_ n7_ n8_ n9_ qA4 qA5 qX7 qX8
       clear hb qb4 hg
       refine hK.out _ _ ⟨zv3, zv4, zv5, zv6, zv7, zv8, zv9, zw0⟩ (fun hHeld => ?_)
       clear hK K
       refine qA2 (a' := ?_) ?_ ?_
       rotate_left
       ·show Act.put _ (some 9) _ = _
        simp only [Act.put, List.setIfInBounds_toArray, List.set_cons_zero, List.set_cons_succ, zZ, qa1]
        rfl
       refine jM7 (i := 6) (N := some 30) #[true, true, true, true, true, true, true, true, true, true, true, true, true, false, false, true, false] rfl rfl (qL8 HT_.out (by kernel_rfl)) (by decide) (fun K hK => ?_)
       refine jN9 Try.func44 (by kernel_rfl) rfl #[.slice A0 l0.length c0, .int .i64 ((qD t200 qO).f1)] (by rfl) rfl rfl (by (try simp only [List.map_toArray, List.map_cons, List.map_nil]); first | done | rfl | (simp only [List.length_drop, List.length_take]; rfl)) ?_
       with_reducible refine (j6.calls k1 _ _ l0 ((qD t200 qO).f1) t213 _ ?qs8 ?qw0 A14.out).mono ?_
       (case qs8 => repeat (first | exact (Kd.qo4 zX.out).2.2 | (with_reducible refine Kd.qi1 ?_ _) | (with_reducible refine Kd.qi2 ?_ _) | (with_reducible refine Kd.qn1 ?_)))
       (case qw0 => exact (Kd.qo4 zX.out).2.1)
       rintro e w' ⟨rfl, ⟨nd, rfl⟩⟩
       refine ⟨_, rfl, ?_⟩
       refine hK.out _ _ ⟨hHeld.1, hHeld.2.1, hHeld.2.2.1, hHeld.2.2.2.1, hHeld.2.2.2.2.1, hHeld.2.2.2.2.2.1, hHeld.2.2.2.2.2.2.1, hHeld.2.2.2.2.2.2.2⟩ (fun hHeld => ?_)
       clear hK K
       refine qA2 (a' := ?_) ?_ ?_
       rotate_left
       ·show Act.put _ (some 30) _ = _
        simp only [Act.put, List.setIfInBounds_toArray, List.set_cons_zero, List.set_cons_succ, zZ, qa1]
        rfl
       refine jM7 (i := 13) (N := some 37) #[true, true, true, true, true, true, true, true, true, true, true, true, true, true, false, true, false] rfl rfl (qL8 HT_.out (by kernel_rfl)) (by decide) (fun K hK => ?_)
       refine jN9 Try.func44 (by kernel_rfl) rfl #[.slice A0 l0.length c0, .int .i64 ((qD t200 qO).f2)] (by rfl) rfl rfl (by (try simp only [List.map_toArray, List.map_cons, List.map_nil]); first | done | rfl | (simp only [List.length_drop, List.length_take]; rfl)) ?_
       with_reducible refine (j6.calls k1 _ _ l0 ((qD t200 qO).f2) t215 _ ?qs8 ?qw0 A15.out).mono ?_
       (case qs8 => repeat (first | exact (Kd.qo4 zX.out).2.2 | (with_reducible refine Kd.qi1 ?_ _) | (with_reducible refine Kd.qi2 ?_ _) | (with_reducible refine Kd.qn1 ?_)))
       (case qw0 => exact (Kd.qo4 zX.out).2.1)
       rintro e w' ⟨rfl, ⟨nd, rfl⟩⟩
       refine ⟨_, rfl, ?_⟩
       refine hK.out _ _ ⟨hHeld.1, hHeld.2.1, hHeld.2.2.1, hHeld.2.2.2.1, hHeld.2.2.2.2.1, hHeld.2.2.2.2.2.1, hHeld.2.2.2.2.2.2.1, hHeld.2.2.2.2.2.2.2⟩ (fun hHeld => ?_)
       clear hK K
       refine qA2 (a' := ?_) ?_ ?_
       rotate_left
       ·show Act.put _ (some 37) _ = _
        simp only [Act.put, List.setIfInBounds_toArray, List.set_cons_zero, List.set_cons_succ, zZ, qa1]
        rfl
       refine qe9 (i := 14) (N := some 38) (v := ?_) (a' := ?_) #[true, true, true, true, true, true, true, true, true, true, true, true, true, true, true, true, false] rfl rfl (qb2 HT_.out (by kernel_rfl)) (fun _ _ _ h => h) (Or.inl ⟨by rfl, ?_⟩) ?_ ?_
       rotate_left
       ·intro w'
        go_simp
        with_reducible rfl
       rotate_left
       ·simp only [Act.put, List.setIfInBounds_toArray, List.set_cons_zero, List.set_cons_succ, zZ, qa1]
        rfl
       exact qA2 (by simp only [qS0, Act.put, List.setIfInBounds_toArray, List.set_cons_zero, List.set_cons_succ]) (zv1 (qH) _ ⟨hHeld, (by (with_reducible repeat (first | apply Kd.jO | apply Kd.jP | apply Kd.z8)); exact Kd.zJ qi3.out (fun _ hk => ⟨hk.1.1.1, ⟨hk.1.1.2.1, ⟨hk.1.2, ⟨hk.1.1.2.2.1, ⟨hk.1.1.2.2.2.1, ⟨hk.1.1.2.2.2.2, hk.2⟩⟩⟩⟩⟩⟩)), (by (with_reducible repeat (first | apply Kd.jO | apply Kd.jP | apply Kd.z8)); exact Kd.zJ qi4.out (fun _ hk => ⟨hk.1.1.1, ⟨hk.1.1.2.1, ⟨hk.1.2, ⟨hk.1.1.2.2.1, ⟨hk.1.1.2.2.2.1, ⟨hk.1.1.2.2.2.2, hk.2⟩⟩⟩⟩⟩⟩)), (by (with_reducible repeat (first | apply Kd.jO | apply Kd.jP | apply Kd.z8)); exact Kd.zJ zX.out (fun _ hk => ⟨hk.1.1, ⟨hk.1.2.1, ⟨hk.1.2.2.1, ⟨hk.1.2.2.2.1, ⟨hk.1.2.2.2.2.1, ⟨hk.1.2.2.2.2.2, hk.2⟩⟩⟩⟩⟩⟩)), (by (with_reducible repeat (first | apply Kd.jC | apply Kd.jD | apply Kd.jG)); exact Kd.jZ qa3.out (fun _ hk => ⟨hk.1.1, ⟨hk.1.2.1, ⟨hk.1.2.2.1, ⟨hk.1.2.2.2.1, ⟨hk.1.2.2.2.2, hk.2⟩⟩⟩⟩⟩)), (by (with_reducible repeat (first | apply Kd.jC | apply Kd.jD | apply Kd.jG)); exact Kd.jZ qU.out (fun _ hk => ⟨hk.1.1, ⟨hk.1.2.1, ⟨hk.1.2.2.1, ⟨hk.1.2.2.2.1, ⟨hk.1.2.2.2.2, hk.2⟩⟩⟩⟩⟩)), (by (with_reducible repeat (first | apply Kd.qV | apply Kd.qW | apply Kd.jB)); exact qb9.out), (by (with_reducible repeat (first | apply Kd.qV | apply Kd.qW | apply Kd.jB)); exact qe6.out), (by (with_reducible repeat (first | apply Kd.qV | apply Kd.qW | apply Kd.jB)); exact qc8.out), (by (with_reducible repeat (first | refine qI ?_ _ | refine qR ?_ | refine qJ ?_ _)); exact jE.out), jx3.out, qe7.out, (by repeat (first | (with_reducible first | exact HB.out | apply qA | apply q9 | apply qB | refine qK ?_ qe7.out) | exact HB.out))⟩)
     rintro qH w20 ⟨hS_, h0_, h1_, h2_, h3_, h4_, h5_, h6_, h7_, h8_, h9_, h10_, h11_⟩
     have n0_ : q8 (Kd.V k51 51 w20 w.heap.size (fun k_ => (P0_ k_ ∨ w.heap.size ≤ k_) ∧ some k_ ≠ (u3 : Value).ownBlock ∧ some k_ ≠ (.slice (some jS) t200.length qg7 : Value).ownBlock ∧ some k_ ≠ (u5 : Value).ownBlock ∧ some k_ ≠ (u6 : Value).ownBlock ∧ some k_ ≠ (u7 : Value).ownBlock ∧ k_ ≠ qH) (.slice qx2 ((qD t200 qO).f3).length qx3) ((qD t200 qO).f3)) := ⟨h0_⟩
     have n1_ : q8 (Kd.V k51 51 w20 w.heap.size (fun k_ => (P0_ k_ ∨ w.heap.size ≤ k_) ∧ some k_ ≠ (u3 : Value).ownBlock ∧ some k_ ≠ (.slice (some jS) t200.length qg7 : Value).ownBlock ∧ some k_ ≠ (u5 : Value).ownBlock ∧ some k_ ≠ (u6 : Value).ownBlock ∧ some k_ ≠ (u7 : Value).ownBlock ∧ k_ ≠ qH) (.slice qx2 ((qD t200 qO).f3).length qx3) ((qD t200 qO).f3)) := ⟨h1_⟩
     have n2_ : q8 (Kd.V k55 55 w20 w.heap.size (fun k_ => (P0_ k_ ∨ w.heap.size ≤ k_) ∧ some k_ ≠ (u3 : Value).ownBlock ∧ some k_ ≠ (.slice (some jS) t200.length qg7 : Value).ownBlock ∧ some k_ ≠ (u5 : Value).ownBlock ∧ some k_ ≠ (u6 : Value).ownBlock ∧ some k_ ≠ (u7 : Value).ownBlock ∧ k_ ≠ qH) (.slice A0 l0.length c0) l0) := ⟨h2_⟩
     have n3_ : q8 (Kd.N k55 55 w20 w.heap.size (fun k_ => (P0_ k_ ∨ w.heap.size ≤ k_) ∧ some k_ ≠ (.slice (some jS) t200.length qg7 : Value).ownBlock ∧ some k_ ≠ (u5 : Value).ownBlock ∧ some k_ ≠ (u6 : Value).ownBlock ∧ some k_ ≠ (u7 : Value).ownBlock ∧ k_ ≠ qH) u3 qk1) := ⟨h3_⟩
     have n4_ : q8 (Kd.N k55 55 w20 w.heap.size (fun k_ => (P0_ k_ ∨ w.heap.size ≤ k_) ∧ some k_ ≠ (u3 : Value).ownBlock ∧ some k_ ≠ (u5 : Value).ownBlock ∧ some k_ ≠ (u6 : Value).ownBlock ∧ some k_ ≠ (u7 : Value).ownBlock ∧ k_ ≠ qH) (.slice (some jS) t200.length qg7) t200) := ⟨h4_⟩
     have n5_ : q8 (Kd.R (Kd.int .i64) 3 w20 w.heap.size (fun k_ => (w.heap.size ≤ k_) ∧ some k_ ≠ (u6 : Value).ownBlock ∧ some k_ ≠ (u7 : Value).ownBlock) u5 qx1) := ⟨h5_⟩
     have n6_ : q8 (Kd.R (Kd.int .i64) 3 w20 w.heap.size (fun k_ => (w.heap.size ≤ k_) ∧ some k_ ≠ (u5 : Value).ownBlock ∧ some k_ ≠ (u7 : Value).ownBlock) u6 jW) := ⟨h6_⟩
     have n7_ : q8 (Kd.R (Kd.int .i64) 3 w20 w.heap.size (fun k_ => (w.heap.size ≤ k_) ∧ some k_ ≠ (u5 : Value).ownBlock ∧ some k_ ≠ (u6 : Value).ownBlock) u7 qa9) := ⟨h7_⟩
     have n8_ : q8 (w20.heap[qH]? = some (.cells #[.int .i64 0, .int .i64 0, .int .i64 0, .slice none 0 0] 55 (0, 0))) := ⟨h8_⟩
     have n9_ : q8 (w.heap.size ≤ qH) := ⟨h9_⟩
     have qA4 : q8 (w.heap.size ≤ qH) := ⟨h10_⟩
     have qA5 : q8 (Below w.heap.size w w20) := ⟨h11_⟩
     clear zX
     clear qa3
     clear qU
     clear qb9
     clear qe6
     clear qc8
     clear HB
     clear h0_ h1_ h2_ h3_ h4_ h5_ h6_ h7_ h8_ h9_ h10_ h11_
     have qi3 := n0_
     have qi4 := n1_
     have zX := n2_
     have qa3 := n3_
     have qU := n4_
     have qb9 := n5_
     have qe6 := n6_
     have qc8 := n7_
     have jE := n8_
     have jx3 := n9_
     have qe7 := qA4
     have HB := qA5
     clear n0_ n1_ n2_ n3_ n4_ n5_ n6_ n7_ n8_ n9_ qA4 qA5
     have hHeld : w20.cell? (jS.add ((qO).toNat * 4)) = some (.int .i64 ((qD t200 qO).f0)) ∧ w20.cell? ⟨(jS.add ((qO).toNat * 4)).block, (jS.add ((qO).toNat * 4)).off + 1, none⟩ = some (.int .i64 ((qD t200 qO).f1)) ∧ w20.cell? ⟨(jS.add ((qO).toNat * 4)).block, (jS.add ((qO).toNat * 4)).off + 2, none⟩ = some (.int .i64 ((qD t200 qO).f2)) ∧ w20.cell? ⟨(jS.add ((qO).toNat * 4)).block, (jS.add ((qO).toNat * 4)).off + 3, none⟩ = some (.slice qx2 ((qD t200 qO).f3).length qx3) ∧ w20.cell? (jS.add ((qO).toNat * 4)) = some (.int .i64 ((qD t200 qO).f0)) ∧ w20.cell? ⟨(jS.add ((qO).toNat * 4)).block, (jS.add ((qO).toNat * 4)).off + 1, none⟩ = some (.int .i64 ((qD t200 qO).f1)) ∧ w20.cell? ⟨(jS.add ((qO).toNat * 4)).block, (jS.add ((qO).toNat * 4)).off + 2, none⟩ = some (.int .i64 ((qD t200 qO).f2)) ∧ w20.cell? ⟨(jS.add ((qO).toNat * 4)).block, (jS.add ((qO).toNat * 4)).off + 3, none⟩ = some (.slice qx2 ((qD t200 qO).f3).length qx3) := hS_
     refine qA2 (a' := ?_) ?_ ?_
     rotate_left
     ·simp only [qS0, Act.put, List.setIfInBounds_toArray, List.set_cons_zero, List.set_cons_succ]
      rfl
     refine jM7 (i := 16) (N := none) #[true, true, true, true, true, true, true, true, true, true, true, true, true, true, true, true, true] rfl rfl (qL8 HT_.out (by kernel_rfl)) (by decide) (fun K hK => ?_)
     have hs21 : w20.cell? ⟨qH, 0, none⟩ = some (.int .i64 0) := (qE jE.out 0).trans rfl
     have hfs21 := qC jE.out 0
     have hs22 : w20.cell? ⟨qH, 1, none⟩ = some (.int .i64 0) := (qE jE.out 1).trans rfl
     have hfs22 := qC jE.out 1
     have hs23 : w20.cell? ⟨qH, 2, none⟩ = some (.int .i64 0) := (qE jE.out 2).trans rfl
     have hfs23 := qC jE.out 2
     have hs24 : w20.cell? ⟨qH, 3, none⟩ = some (.slice none 0 0) := (qE jE.out 3).trans rfl
     have hfs24 := qC jE.out 3
     refine Qi7 (w1 := ?_) (by rfl) rfl ?_ ?_
     rotate_left
     ·go_simp
      rfl
     refine hK.out _ _ ⟨((cell_far (p := ⟨qH, _, none⟩) (by first | exact Kd.qQ (Kd.qX qU.out (fun _ hk => hk.2.2.2.2.2)) | (rw [add_block]; exact Kd.qQ (Kd.qX qU.out (fun _ hk => hk.2.2.2.2.2))) | (show (Addr.add _ _).block ≠ _; rw [add_block]; exact Kd.qQ (Kd.qX qU.out (fun _ hk => hk.2.2.2.2.2))) | (dsimp only; exact Kd.qQ (Kd.qX qU.out (fun _ hk => hk.2.2.2.2.2)))) _).trans (((cell_far (p := ⟨qH, _, none⟩) (by first | exact Kd.qQ (Kd.qX qU.out (fun _ hk => hk.2.2.2.2.2)) | (rw [add_block]; exact Kd.qQ (Kd.qX qU.out (fun _ hk => hk.2.2.2.2.2))) | (show (Addr.add _ _).block ≠ _; rw [add_block]; exact Kd.qQ (Kd.qX qU.out (fun _ hk => hk.2.2.2.2.2))) | (dsimp only; exact Kd.qQ (Kd.qX qU.out (fun _ hk => hk.2.2.2.2.2)))) _).trans (((cell_far (p := ⟨qH, _, none⟩) (by first | exact Kd.qQ (Kd.qX qU.out (fun _ hk => hk.2.2.2.2.2)) | (rw [add_block]; exact Kd.qQ (Kd.qX qU.out (fun _ hk => hk.2.2.2.2.2))) | (show (Addr.add _ _).block ≠ _; rw [add_block]; exact Kd.qQ (Kd.qX qU.out (fun _ hk => hk.2.2.2.2.2))) | (dsimp only; exact Kd.qQ (Kd.qX qU.out (fun _ hk => hk.2.2.2.2.2)))) _).trans (((cell_far (p := ⟨qH, _, none⟩) (by first | exact Kd.qQ (Kd.qX qU.out (fun _ hk => hk.2.2.2.2.2)) | (rw [add_block]; exact Kd.qQ (Kd.qX qU.out (fun _ hk => hk.2.2.2.2.2))) | (show (Addr.add _ _).block ≠ _; rw [add_block]; exact Kd.qQ (Kd.qX qU.out (fun _ hk => hk.2.2.2.2.2))) | (dsimp only; exact Kd.qQ (Kd.qX qU.out (fun _ hk => hk.2.2.2.2.2)))) _).trans (hHeld.1)))))))), ((cell_far (p := ⟨qH, _, none⟩) (by first | exact Kd.qQ (Kd.qX qU.out (fun _ hk => hk.2.2.2.2.2)) | (rw [add_block]; exact Kd.qQ (Kd.qX qU.out (fun _ hk => hk.2.2.2.2.2))) | (show (Addr.add _ _).block ≠ _; rw [add_block]; exact Kd.qQ (Kd.qX qU.out (fun _ hk => hk.2.2.2.2.2))) | (dsimp only; exact Kd.qQ (Kd.qX qU.out (fun _ hk => hk.2.2.2.2.2)))) _).trans (((cell_far (p := ⟨qH, _, none⟩) (by first | exact Kd.qQ (Kd.qX qU.out (fun _ hk => hk.2.2.2.2.2)) | (rw [add_block]; exact Kd.qQ (Kd.qX qU.out (fun _ hk => hk.2.2.2.2.2))) | (show (Addr.add _ _).block ≠ _; rw [add_block]; exact Kd.qQ (Kd.qX qU.out (fun _ hk => hk.2.2.2.2.2))) | (dsimp only; exact Kd.qQ (Kd.qX qU.out (fun _ hk => hk.2.2.2.2.2)))) _).trans (((cell_far (p := ⟨qH, _, none⟩) (by first | exact Kd.qQ (Kd.qX qU.out (fun _ hk => hk.2.2.2.2.2)) | (rw [add_block]; exact Kd.qQ (Kd.qX qU.out (fun _ hk => hk.2.2.2.2.2))) | (show (Addr.add _ _).block ≠ _; rw [add_block]; exact Kd.qQ (Kd.qX qU.out (fun _ hk => hk.2.2.2.2.2))) | (dsimp only; exact Kd.qQ (Kd.qX qU.out (fun _ hk => hk.2.2.2.2.2)))) _).trans (((cell_far (p := ⟨qH, _, none⟩) (by first | exact Kd.qQ (Kd.qX qU.out (fun _ hk => hk.2.2.2.2.2)) | (rw [add_block]; exact Kd.qQ (Kd.qX qU.out (fun _ hk => hk.2.2.2.2.2))) | (show (Addr.add _ _).block ≠ _; rw [add_block]; exact Kd.qQ (Kd.qX qU.out (fun _ hk => hk.2.2.2.2.2))) | (dsimp only; exact Kd.qQ (Kd.qX qU.out (fun _ hk => hk.2.2.2.2.2)))) _).trans (hHeld.2.1)))))))), ((cell_far (p := ⟨qH, _, none⟩) (by first | exact Kd.qQ (Kd.qX qU.out (fun _ hk => hk.2.2.2.2.2)) | (rw [add_block]; exact Kd.qQ (Kd.qX qU.out (fun _ hk => hk.2.2.2.2.2))) | (show (Addr.add _ _).block ≠ _; rw [add_block]; exact Kd.qQ (Kd.qX qU.out (fun _ hk => hk.2.2.2.2.2))) | (dsimp only; exact Kd.qQ (Kd.qX qU.out (fun _ hk => hk.2.2.2.2.2)))) _).trans (((cell_far (p := ⟨qH, _, none⟩) (by first | exact Kd.qQ (Kd.qX qU.out (fun _ hk => hk.2.2.2.2.2)) | (rw [add_block]; exact Kd.qQ (Kd.qX qU.out (fun _ hk => hk.2.2.2.2.2))) | (show (Addr.add _ _).block ≠ _; rw [add_block]; exact Kd.qQ (Kd.qX qU.out (fun _ hk => hk.2.2.2.2.2))) | (dsimp only; exact Kd.qQ (Kd.qX qU.out (fun _ hk => hk.2.2.2.2.2)))) _).trans (((cell_far (p := ⟨qH, _, none⟩) (by first | exact Kd.qQ (Kd.qX qU.out (fun _ hk => hk.2.2.2.2.2)) | (rw [add_block]; exact Kd.qQ (Kd.qX qU.out (fun _ hk => hk.2.2.2.2.2))) | (show (Addr.add _ _).block ≠ _; rw [add_block]; exact Kd.qQ (Kd.qX qU.out (fun _ hk => hk.2.2.2.2.2))) | (dsimp only; exact Kd.qQ (Kd.qX qU.out (fun _ hk => hk.2.2.2.2.2)))) _).trans (((cell_far (p := ⟨qH, _, none⟩) (by first | exact Kd.qQ (Kd.qX qU.out (fun _ hk => hk.2.2.2.2.2)) | (rw [add_block]; exact Kd.qQ (Kd.qX qU.out (fun _ hk => hk.2.2.2.2.2))) | (show (Addr.add _ _).block ≠ _; rw [add_block]; exact Kd.qQ (Kd.qX qU.out (fun _ hk => hk.2.2.2.2.2))) | (dsimp only; exact Kd.qQ (Kd.qX qU.out (fun _ hk => hk.2.2.2.2.2)))) _).trans (hHeld.2.2.1)))))))), ((cell_far (p := ⟨qH, _, none⟩) (by first | exact Kd.qQ (Kd.qX qU.out (fun _ hk => hk.2.2.2.2.2)) | (rw [add_block]; exact Kd.qQ (Kd.qX qU.out (fun _ hk => hk.2.2.2.2.2))) | (show (Addr.add _ _).block ≠ _; rw [add_block]; exact Kd.qQ (Kd.qX qU.out (fun _ hk => hk.2.2.2.2.2))) | (dsimp only; exact Kd.qQ (Kd.qX qU.out (fun _ hk => hk.2.2.2.2.2)))) _).trans (((cell_far (p := ⟨qH, _, none⟩) (by first | exact Kd.qQ (Kd.qX qU.out (fun _ hk => hk.2.2.2.2.2)) | (rw [add_block]; exact Kd.qQ (Kd.qX qU.out (fun _ hk => hk.2.2.2.2.2))) | (show (Addr.add _ _).block ≠ _; rw [add_block]; exact Kd.qQ (Kd.qX qU.out (fun _ hk => hk.2.2.2.2.2))) | (dsimp only; exact Kd.qQ (Kd.qX qU.out (fun _ hk => hk.2.2.2.2.2)))) _).trans (((cell_far (p := ⟨qH, _, none⟩) (by first | exact Kd.qQ (Kd.qX qU.out (fun _ hk => hk.2.2.2.2.2)) | (rw [add_block]; exact Kd.qQ (Kd.qX qU.out (fun _ hk => hk.2.2.2.2.2))) | (show (Addr.add _ _).block ≠ _; rw [add_block]; exact Kd.qQ (Kd.qX qU.out (fun _ hk => hk.2.2.2.2.2))) | (dsimp only; exact Kd.qQ (Kd.qX qU.out (fun _ hk => hk.2.2.2.2.2)))) _).trans (((cell_far (p := ⟨qH, _, none⟩) (by first | exact Kd.qQ (Kd.qX qU.out (fun _ hk => hk.2.2.2.2.2)) | (rw [add_block]; exact Kd.qQ (Kd.qX qU.out (fun _ hk => hk.2.2.2.2.2))) | (show (Addr.add _ _).block ≠ _; rw [add_block]; exact Kd.qQ (Kd.qX qU.out (fun _ hk => hk.2.2.2.2.2))) | (dsimp only; exact Kd.qQ (Kd.qX qU.out (fun _ hk => hk.2.2.2.2.2)))) _).trans (hHeld.2.2.2.1)))))))), ((cell_far (p := ⟨qH, _, none⟩) (by first | exact Kd.qQ (Kd.qX qU.out (fun _ hk => hk.2.2.2.2.2)) | (rw [add_block]; exact Kd.qQ (Kd.qX qU.out (fun _ hk => hk.2.2.2.2.2))) | (show (Addr.add _ _).block ≠ _; rw [add_block]; exact Kd.qQ (Kd.qX qU.out (fun _ hk => hk.2.2.2.2.2))) | (dsimp only; exact Kd.qQ (Kd.qX qU.out (fun _ hk => hk.2.2.2.2.2)))) _).trans (((cell_far (p := ⟨qH, _, none⟩) (by first | exact Kd.qQ (Kd.qX qU.out (fun _ hk => hk.2.2.2.2.2)) | (rw [add_block]; exact Kd.qQ (Kd.qX qU.out (fun _ hk => hk.2.2.2.2.2))) | (show (Addr.add _ _).block ≠ _; rw [add_block]; exact Kd.qQ (Kd.qX qU.out (fun _ hk => hk.2.2.2.2.2))) | (dsimp only; exact Kd.qQ (Kd.qX qU.out (fun _ hk => hk.2.2.2.2.2)))) _).trans (((cell_far (p := ⟨qH, _, none⟩) (by first | exact Kd.qQ (Kd.qX qU.out (fun _ hk => hk.2.2.2.2.2)) | (rw [add_block]; exact Kd.qQ (Kd.qX qU.out (fun _ hk => hk.2.2.2.2.2))) | (show (Addr.add _ _).block ≠ _; rw [add_block]; exact Kd.qQ (Kd.qX qU.out (fun _ hk => hk.2.2.2.2.2))) | (dsimp only; exact Kd.qQ (Kd.qX qU.out (fun _ hk => hk.2.2.2.2.2)))) _).trans (((cell_far (p := ⟨qH, _, none⟩) (by first | exact Kd.qQ (Kd.qX qU.out (fun _ hk => hk.2.2.2.2.2)) | (rw [add_block]; exact Kd.qQ (Kd.qX qU.out (fun _ hk => hk.2.2.2.2.2))) | (show (Addr.add _ _).block ≠ _; rw [add_block]; exact Kd.qQ (Kd.qX qU.out (fun _ hk => hk.2.2.2.2.2))) | (dsimp only; exact Kd.qQ (Kd.qX qU.out (fun _ hk => hk.2.2.2.2.2)))) _).trans (hHeld.2.2.2.2.1)))))))), ((cell_far (p := ⟨qH, _, none⟩) (by first | exact Kd.qQ (Kd.qX qU.out (fun _ hk => hk.2.2.2.2.2)) | (rw [add_block]; exact Kd.qQ (Kd.qX qU.out (fun _ hk => hk.2.2.2.2.2))) | (show (Addr.add _ _).block ≠ _; rw [add_block]; exact Kd.qQ (Kd.qX qU.out (fun _ hk => hk.2.2.2.2.2))) | (dsimp only; exact Kd.qQ (Kd.qX qU.out (fun _ hk => hk.2.2.2.2.2)))) _).trans (((cell_far (p := ⟨qH, _, none⟩) (by first | exact Kd.qQ (Kd.qX qU.out (fun _ hk => hk.2.2.2.2.2)) | (rw [add_block]; exact Kd.qQ (Kd.qX qU.out (fun _ hk => hk.2.2.2.2.2))) | (show (Addr.add _ _).block ≠ _; rw [add_block]; exact Kd.qQ (Kd.qX qU.out (fun _ hk => hk.2.2.2.2.2))) | (dsimp only; exact Kd.qQ (Kd.qX qU.out (fun _ hk => hk.2.2.2.2.2)))) _).trans (((cell_far (p := ⟨qH, _, none⟩) (by first | exact Kd.qQ (Kd.qX qU.out (fun _ hk => hk.2.2.2.2.2)) | (rw [add_block]; exact Kd.qQ (Kd.qX qU.out (fun _ hk => hk.2.2.2.2.2))) | (show (Addr.add _ _).block ≠ _; rw [add_block]; exact Kd.qQ (Kd.qX qU.out (fun _ hk => hk.2.2.2.2.2))) | (dsimp only; exact Kd.qQ (Kd.qX qU.out (fun _ hk => hk.2.2.2.2.2)))) _).trans (((cell_far (p := ⟨qH, _, none⟩) (by first | exact Kd.qQ (Kd.qX qU.out (fun _ hk => hk.2.2.2.2.2)) | (rw [add_block]; exact Kd.qQ (Kd.qX qU.out (fun _ hk => hk.2.2.2.2.2))) | (show (Addr.add _ _).block ≠ _; rw [add_block]; exact Kd.qQ (Kd.qX qU.out (fun _ hk => hk.2.2.2.2.2))) | (dsimp only; exact Kd.qQ (Kd.qX qU.out (fun _ hk => hk.2.2.2.2.2)))) _).trans (hHeld.2.2.2.2.2.1)))))))), ((cell_far (p := ⟨qH, _, none⟩) (by first | exact Kd.qQ (Kd.qX qU.out (fun _ hk => hk.2.2.2.2.2)) | (rw [add_block]; exact Kd.qQ (Kd.qX qU.out (fun _ hk => hk.2.2.2.2.2))) | (show (Addr.add _ _).block ≠ _; rw [add_block]; exact Kd.qQ (Kd.qX qU.out (fun _ hk => hk.2.2.2.2.2))) | (dsimp only; exact Kd.qQ (Kd.qX qU.out (fun _ hk => hk.2.2.2.2.2)))) _).trans (((cell_far (p := ⟨qH, _, none⟩) (by first | exact Kd.qQ (Kd.qX qU.out (fun _ hk => hk.2.2.2.2.2)) | (rw [add_block]; exact Kd.qQ (Kd.qX qU.out (fun _ hk => hk.2.2.2.2.2))) | (show (Addr.add _ _).block ≠ _; rw [add_block]; exact Kd.qQ (Kd.qX qU.out (fun _ hk => hk.2.2.2.2.2))) | (dsimp only; exact Kd.qQ (Kd.qX qU.out (fun _ hk => hk.2.2.2.2.2)))) _).trans (((cell_far (p := ⟨qH, _, none⟩) (by first | exact Kd.qQ (Kd.qX qU.out (fun _ hk => hk.2.2.2.2.2)) | (rw [add_block]; exact Kd.qQ (Kd.qX qU.out (fun _ hk => hk.2.2.2.2.2))) | (show (Addr.add _ _).block ≠ _; rw [add_block]; exact Kd.qQ (Kd.qX qU.out (fun _ hk => hk.2.2.2.2.2))) | (dsimp only; exact Kd.qQ (Kd.qX qU.out (fun _ hk => hk.2.2.2.2.2)))) _).trans (((cell_far (p := ⟨qH, _, none⟩) (by first | exact Kd.qQ (Kd.qX qU.out (fun _ hk => hk.2.2.2.2.2)) | (rw [add_block]; exact Kd.qQ (Kd.qX qU.out (fun _ hk => hk.2.2.2.2.2))) | (show (Addr.add _ _).block ≠ _; rw [add_block]; exact Kd.qQ (Kd.qX qU.out (fun _ hk => hk.2.2.2.2.2))) | (dsimp only; exact Kd.qQ (Kd.qX qU.out (fun _ hk => hk.2.2.2.2.2)))) _).trans (hHeld.2.2.2.2.2.2.1)))))))), ((cell_far (p := ⟨qH, _, none⟩) (by first | exact Kd.qQ (Kd.qX qU.out (fun _ hk => hk.2.2.2.2.2)) | (rw [add_block]; exact Kd.qQ (Kd.qX qU.out (fun _ hk => hk.2.2.2.2.2))) | (show (Addr.add _ _).block ≠ _; rw [add_block]; exact Kd.qQ (Kd.qX qU.out (fun _ hk => hk.2.2.2.2.2))) | (dsimp only; exact Kd.qQ (Kd.qX qU.out (fun _ hk => hk.2.2.2.2.2)))) _).trans (((cell_far (p := ⟨qH, _, none⟩) (by first | exact Kd.qQ (Kd.qX qU.out (fun _ hk => hk.2.2.2.2.2)) | (rw [add_block]; exact Kd.qQ (Kd.qX qU.out (fun _ hk => hk.2.2.2.2.2))) | (show (Addr.add _ _).block ≠ _; rw [add_block]; exact Kd.qQ (Kd.qX qU.out (fun _ hk => hk.2.2.2.2.2))) | (dsimp only; exact Kd.qQ (Kd.qX qU.out (fun _ hk => hk.2.2.2.2.2)))) _).trans (((cell_far (p := ⟨qH, _, none⟩) (by first | exact Kd.qQ (Kd.qX qU.out (fun _ hk => hk.2.2.2.2.2)) | (rw [add_block]; exact Kd.qQ (Kd.qX qU.out (fun _ hk => hk.2.2.2.2.2))) | (show (Addr.add _ _).block ≠ _; rw [add_block]; exact Kd.qQ (Kd.qX qU.out (fun _ hk => hk.2.2.2.2.2))) | (dsimp only; exact Kd.qQ (Kd.qX qU.out (fun _ hk => hk.2.2.2.2.2)))) _).trans (((cell_far (p := ⟨qH, _, none⟩) (by first | exact Kd.qQ (Kd.qX qU.out (fun _ hk => hk.2.2.2.2.2)) | (rw [add_block]; exact Kd.qQ (Kd.qX qU.out (fun _ hk => hk.2.2.2.2.2))) | (show (Addr.add _ _).block ≠ _; rw [add_block]; exact Kd.qQ (Kd.qX qU.out (fun _ hk => hk.2.2.2.2.2))) | (dsimp only; exact Kd.qQ (Kd.qX qU.out (fun _ hk => hk.2.2.2.2.2)))) _).trans (hHeld.2.2.2.2.2.2.2))))))))⟩ (fun hHeld => ?_)
     clear hK K
     refine zf5 (ji8 HT_.out (by kernel_rfl)) ?_
     have n0_ : q8 (Kd.V k55 55 ((((w20.setCell ⟨qH, 0, none⟩ (.int .i64 0)).setCell ⟨qH, 1, none⟩ (.int .i64 t213)).setCell ⟨qH, 2, none⟩ (.int .i64 t215)).setCell ⟨qH, 3, none⟩ (.slice none 0 0)) w.heap.size (fun k_ => (P0_ k_ ∨ w.heap.size ≤ k_) ∧ some k_ ≠ (u3 : Value).ownBlock ∧ some k_ ≠ (.slice (some jS) t200.length qg7 : Value).ownBlock ∧ some k_ ≠ (u5 : Value).ownBlock ∧ some k_ ≠ (u6 : Value).ownBlock ∧ some k_ ≠ (u7 : Value).ownBlock ∧ k_ ≠ qH) (.slice A0 l0.length c0) l0) := ⟨by (with_reducible repeat (first | apply Kd.jO | apply Kd.jP | apply Kd.z8)); exact Kd.zJ (Kd.qf4 (p := ⟨qH, 3, none⟩) (Kd.qf4 (p := ⟨qH, 2, none⟩) (Kd.qf4 (p := ⟨qH, 1, none⟩) (Kd.qf4 (p := ⟨qH, 0, none⟩) (Kd.zJ zX.out (fun k_ hk => (⟨hk, hk.2.2.2.2.2.2⟩ : _ ∧ k_ ≠ qH))) (fun _ hk => hk.2) (.int .i64 0)) (fun _ hk => hk.2) (.int .i64 t213)) (fun _ hk => hk.2) (.int .i64 t215)) (fun _ hk => hk.2) (.slice none 0 0)) (fun _ hk => ⟨hk.1.1, ⟨hk.1.2.1, ⟨hk.1.2.2.1, ⟨hk.1.2.2.2.1, ⟨hk.1.2.2.2.2.1, ⟨hk.1.2.2.2.2.2.1, hk.1.2.2.2.2.2.2⟩⟩⟩⟩⟩⟩)⟩
     have n1_ : q8 (Kd.N k55 55 ((((w20.setCell ⟨qH, 0, none⟩ (.int .i64 0)).setCell ⟨qH, 1, none⟩ (.int .i64 t213)).setCell ⟨qH, 2, none⟩ (.int .i64 t215)).setCell ⟨qH, 3, none⟩ (.slice none 0 0)) w.heap.size (fun k_ => (P0_ k_ ∨ w.heap.size ≤ k_) ∧ some k_ ≠ (.slice (some jS) t200.length qg7 : Value).ownBlock ∧ some k_ ≠ (u5 : Value).ownBlock ∧ some k_ ≠ (u6 : Value).ownBlock ∧ some k_ ≠ (u7 : Value).ownBlock ∧ k_ ≠ qH) u3 qk1) := ⟨by (with_reducible repeat (first | apply Kd.jC | apply Kd.jD | apply Kd.jG)); exact Kd.jZ (Kd.qg2 (p := ⟨qH, 3, none⟩) (Kd.qg2 (p := ⟨qH, 2, none⟩) (Kd.qg2 (p := ⟨qH, 1, none⟩) (Kd.qg2 (p := ⟨qH, 0, none⟩) (Kd.jZ qa3.out (fun k_ hk => (⟨hk, hk.2.2.2.2.2⟩ : _ ∧ k_ ≠ qH))) (fun _ hk => hk.2) (.int .i64 0)) (fun _ hk => hk.2) (.int .i64 t213)) (fun _ hk => hk.2) (.int .i64 t215)) (fun _ hk => hk.2) (.slice none 0 0)) (fun _ hk => ⟨hk.1.1, ⟨hk.1.2.1, ⟨hk.1.2.2.1, ⟨hk.1.2.2.2.1, ⟨hk.1.2.2.2.2.1, hk.1.2.2.2.2.2⟩⟩⟩⟩⟩)⟩
     have n2_ : q8 (Kd.N k55 55 ((((w20.setCell ⟨qH, 0, none⟩ (.int .i64 0)).setCell ⟨qH, 1, none⟩ (.int .i64 t213)).setCell ⟨qH, 2, none⟩ (.int .i64 t215)).setCell ⟨qH, 3, none⟩ (.slice none 0 0)) w.heap.size (fun k_ => (P0_ k_ ∨ w.heap.size ≤ k_) ∧ some k_ ≠ (u3 : Value).ownBlock ∧ some k_ ≠ (u5 : Value).ownBlock ∧ some k_ ≠ (u6 : Value).ownBlock ∧ some k_ ≠ (u7 : Value).ownBlock ∧ k_ ≠ qH) (.slice (some jS) t200.length qg7) t200) := ⟨by (with_reducible repeat (first | apply Kd.jC | apply Kd.jD | apply Kd.jG)); exact Kd.jZ (Kd.qg2 (p := ⟨qH, 3, none⟩) (Kd.qg2 (p := ⟨qH, 2, none⟩) (Kd.qg2 (p := ⟨qH, 1, none⟩) (Kd.qg2 (p := ⟨qH, 0, none⟩) (Kd.jZ qU.out (fun k_ hk => (⟨hk, hk.2.2.2.2.2⟩ : _ ∧ k_ ≠ qH))) (fun _ hk => hk.2) (.int .i64 0)) (fun _ hk => hk.2) (.int .i64 t213)) (fun _ hk => hk.2) (.int .i64 t215)) (fun _ hk => hk.2) (.slice none 0 0)) (fun _ hk => ⟨hk.1.1, ⟨hk.1.2.1, ⟨hk.1.2.2.1, ⟨hk.1.2.2.2.1, ⟨hk.1.2.2.2.2.1, hk.1.2.2.2.2.2⟩⟩⟩⟩⟩)⟩
     have n3_ : q8 (Kd.R (Kd.int .i64) 3 ((((w20.setCell ⟨qH, 0, none⟩ (.int .i64 0)).setCell ⟨qH, 1, none⟩ (.int .i64 t213)).setCell ⟨qH, 2, none⟩ (.int .i64 t215)).setCell ⟨qH, 3, none⟩ (.slice none 0 0)) w.heap.size (fun k_ => (w.heap.size ≤ k_) ∧ some k_ ≠ (u6 : Value).ownBlock ∧ some k_ ≠ (u7 : Value).ownBlock) u5 qx1) := ⟨by (with_reducible repeat (first | apply Kd.qV | apply Kd.qW | apply Kd.jB)); exact Kd.jK (Kd.zK (p := ⟨qH, 3, none⟩) (Kd.zK (p := ⟨qH, 2, none⟩) (Kd.zK (p := ⟨qH, 1, none⟩) (Kd.zK (p := ⟨qH, 0, none⟩) (Kd.qb3 qb9.out jE.out (by decide)) (fun _ hk => hk.2) (.int .i64 0)) (fun _ hk => hk.2) (.int .i64 t213)) (fun _ hk => hk.2) (.int .i64 t215)) (fun _ hk => hk.2) (.slice none 0 0)) (fun _ hk => ⟨hk.1.1, ⟨hk.1.2.1, hk.1.2.2⟩⟩)⟩
     have n4_ : q8 (Kd.R (Kd.int .i64) 3 ((((w20.setCell ⟨qH, 0, none⟩ (.int .i64 0)).setCell ⟨qH, 1, none⟩ (.int .i64 t213)).setCell ⟨qH, 2, none⟩ (.int .i64 t215)).setCell ⟨qH, 3, none⟩ (.slice none 0 0)) w.heap.size (fun k_ => (w.heap.size ≤ k_) ∧ some k_ ≠ (u5 : Value).ownBlock ∧ some k_ ≠ (u7 : Value).ownBlock) u6 jW) := ⟨by (with_reducible repeat (first | apply Kd.qV | apply Kd.qW | apply Kd.jB)); exact Kd.jK (Kd.zK (p := ⟨qH, 3, none⟩) (Kd.zK (p := ⟨qH, 2, none⟩) (Kd.zK (p := ⟨qH, 1, none⟩) (Kd.zK (p := ⟨qH, 0, none⟩) (Kd.qb3 qe6.out jE.out (by decide)) (fun _ hk => hk.2) (.int .i64 0)) (fun _ hk => hk.2) (.int .i64 t213)) (fun _ hk => hk.2) (.int .i64 t215)) (fun _ hk => hk.2) (.slice none 0 0)) (fun _ hk => ⟨hk.1.1, ⟨hk.1.2.1, hk.1.2.2⟩⟩)⟩
     have n5_ : q8 (Kd.R (Kd.int .i64) 3 ((((w20.setCell ⟨qH, 0, none⟩ (.int .i64 0)).setCell ⟨qH, 1, none⟩ (.int .i64 t213)).setCell ⟨qH, 2, none⟩ (.int .i64 t215)).setCell ⟨qH, 3, none⟩ (.slice none 0 0)) w.heap.size (fun k_ => (w.heap.size ≤ k_) ∧ some k_ ≠ (u5 : Value).ownBlock ∧ some k_ ≠ (u6 : Value).ownBlock) u7 qa9) := ⟨by (with_reducible repeat (first | apply Kd.qV | apply Kd.qW | apply Kd.jB)); exact Kd.jK (Kd.zK (p := ⟨qH, 3, none⟩) (Kd.zK (p := ⟨qH, 2, none⟩) (Kd.zK (p := ⟨qH, 1, none⟩) (Kd.zK (p := ⟨qH, 0, none⟩) (Kd.qb3 qc8.out jE.out (by decide)) (fun _ hk => hk.2) (.int .i64 0)) (fun _ hk => hk.2) (.int .i64 t213)) (fun _ hk => hk.2) (.int .i64 t215)) (fun _ hk => hk.2) (.slice none 0 0)) (fun _ hk => ⟨hk.1.1, ⟨hk.1.2.1, hk.1.2.2⟩⟩)⟩
     have n6_ : q8 (Kd.V k51 51 ((((w20.setCell ⟨qH, 0, none⟩ (.int .i64 0)).setCell ⟨qH, 1, none⟩ (.int .i64 t213)).setCell ⟨qH, 2, none⟩ (.int .i64 t215)).setCell ⟨qH, 3, none⟩ (.slice none 0 0)) w.heap.size (fun k_ => (P0_ k_ ∨ w.heap.size ≤ k_) ∧ some k_ ≠ (u3 : Value).ownBlock ∧ some k_ ≠ (.slice (some jS) t200.length qg7 : Value).ownBlock ∧ some k_ ≠ (u5 : Value).ownBlock ∧ some k_ ≠ (u6 : Value).ownBlock ∧ some k_ ≠ (u7 : Value).ownBlock ∧ k_ ≠ qH) (.slice qx2 ((qD t200 qO).f3).length qx3) ((qD t200 qO).f3)) := ⟨by (with_reducible repeat (first | apply Kd.jO | apply Kd.jP | apply Kd.z8)); exact Kd.zJ (Kd.qf4 (p := ⟨qH, 3, none⟩) (Kd.qf4 (p := ⟨qH, 2, none⟩) (Kd.qf4 (p := ⟨qH, 1, none⟩) (Kd.qf4 (p := ⟨qH, 0, none⟩) (Kd.zJ qi3.out (fun k_ hk => (⟨hk, hk.2.2.2.2.2.2⟩ : _ ∧ k_ ≠ qH))) (fun _ hk => hk.2) (.int .i64 0)) (fun _ hk => hk.2) (.int .i64 t213)) (fun _ hk => hk.2) (.int .i64 t215)) (fun _ hk => hk.2) (.slice none 0 0)) (fun _ hk => ⟨hk.1.1, ⟨hk.1.2.1, ⟨hk.1.2.2.1, ⟨hk.1.2.2.2.1, ⟨hk.1.2.2.2.2.1, ⟨hk.1.2.2.2.2.2.1, hk.1.2.2.2.2.2.2⟩⟩⟩⟩⟩⟩)⟩
     have n7_ : q8 (Kd.V k51 51 ((((w20.setCell ⟨qH, 0, none⟩ (.int .i64 0)).setCell ⟨qH, 1, none⟩ (.int .i64 t213)).setCell ⟨qH, 2, none⟩ (.int .i64 t215)).setCell ⟨qH, 3, none⟩ (.slice none 0 0)) w.heap.size (fun k_ => (P0_ k_ ∨ w.heap.size ≤ k_) ∧ some k_ ≠ (u3 : Value).ownBlock ∧ some k_ ≠ (.slice (some jS) t200.length qg7 : Value).ownBlock ∧ some k_ ≠ (u5 : Value).ownBlock ∧ some k_ ≠ (u6 : Value).ownBlock ∧ some k_ ≠ (u7 : Value).ownBlock ∧ k_ ≠ qH) (.slice qx2 ((qD t200 qO).f3).length qx3) ((qD t200 qO).f3)) := ⟨by (with_reducible repeat (first | apply Kd.jO | apply Kd.jP | apply Kd.z8)); exact Kd.zJ (Kd.qf4 (p := ⟨qH, 3, none⟩) (Kd.qf4 (p := ⟨qH, 2, none⟩) (Kd.qf4 (p := ⟨qH, 1, none⟩) (Kd.qf4 (p := ⟨qH, 0, none⟩) (Kd.zJ qi4.out (fun k_ hk => (⟨hk, hk.2.2.2.2.2.2⟩ : _ ∧ k_ ≠ qH))) (fun _ hk => hk.2) (.int .i64 0)) (fun _ hk => hk.2) (.int .i64 t213)) (fun _ hk => hk.2) (.int .i64 t215)) (fun _ hk => hk.2) (.slice none 0 0)) (fun _ hk => ⟨hk.1.1, ⟨hk.1.2.1, ⟨hk.1.2.2.1, ⟨hk.1.2.2.2.1, ⟨hk.1.2.2.2.2.1, ⟨hk.1.2.2.2.2.2.1, hk.1.2.2.2.2.2.2⟩⟩⟩⟩⟩⟩)⟩
     have n8_ : q8 (((((w20.setCell ⟨qH, 0, none⟩ (.int .i64 0)).setCell ⟨qH, 1, none⟩ (.int .i64 t213)).setCell ⟨qH, 2, none⟩ (.int .i64 t215)).setCell ⟨qH, 3, none⟩ (.slice none 0 0)).heap[qH]? = some (.cells #[.int .i64 0, .int .i64 t213, .int .i64 t215, .slice none 0 0] 55 (0, 0))) := ⟨by (with_reducible repeat (first | refine qI ?_ _ | refine qR ?_ | refine qJ ?_ _)); refine qd4 (cs := #[.int .i64 0, .int .i64 t213, .int .i64 t215, .slice none 0 0]) ?_ 3 _ rfl; (with_reducible repeat (first | refine qI ?_ _ | refine qR ?_ | refine qJ ?_ _)); refine qd4 (cs := #[.int .i64 0, .int .i64 t213, .int .i64 0, .slice none 0 0]) ?_ 2 _ rfl; (with_reducible repeat (first | refine qI ?_ _ | refine qR ?_ | refine qJ ?_ _)); refine qd4 (cs := #[.int .i64 0, .int .i64 0, .int .i64 0, .slice none 0 0]) ?_ 1 _ rfl; (with_reducible repeat (first | refine qI ?_ _ | refine qR ?_ | refine qJ ?_ _)); refine qd4 (cs := #[.int .i64 0, .int .i64 0, .int .i64 0, .slice none 0 0]) ?_ 0 _ rfl; (with_reducible repeat (first | refine qI ?_ _ | refine qR ?_ | refine qJ ?_ _)); exact jE.out⟩
     have n9_ : q8 (Below w.heap.size w ((((w20.setCell ⟨qH, 0, none⟩ (.int .i64 0)).setCell ⟨qH, 1, none⟩ (.int .i64 t213)).setCell ⟨qH, 2, none⟩ (.int .i64 t215)).setCell ⟨qH, 3, none⟩ (.slice none 0 0))) := ⟨by repeat (first | (with_reducible first | exact HB.out | apply qA | apply q9 | apply qB | refine qK ?_ qe7.out) | exact HB.out)⟩
     (try clear zX)
     (try clear qa3)
     (try clear qU)
     (try clear qb9)
     (try clear qe6)
     (try clear qc8)
     (try clear qi3)
     (try clear qi4)
     (try clear jE)
     (try clear HB)
     generalize ((((w20.setCell ⟨qH, 0, none⟩ (.int .i64 0)).setCell ⟨qH, 1, none⟩ (.int .i64 t213)).setCell ⟨qH, 2, none⟩ (.int .i64 t215)).setCell ⟨qH, 3, none⟩ (.slice none 0 0)) = w25 at n0_ n1_ n2_ n3_ n4_ n5_ n6_ n7_ n8_ n9_ ⊢
     have zX := n0_
     have qa3 := n1_
     have qU := n2_
     have qb9 := n3_
     have qe6 := n4_
     have qc8 := n5_
     have qi3 := n6_
     have qi4 := n7_
     have jE := n8_
     have HB := n9_
     clear n0_ n1_ n2_ n3_ n4_ n5_ n6_ n7_ n8_ n9_
     have zw1 : 0 ≤ (qO : Int) := of_decide_eq_true (by first | (with_reducible assumption) | assumption)
     have zw2 : qO < (t200.length : Int) := of_decide_eq_true (by first | (with_reducible assumption) | assumption)
     obtain ⟨Qi8, A217_3, c217_3, e217, zH1, zH2, zH3, zg6, zg7, zg8⟩ := qa4 (Kd.zV qU.out).2.2 qO zw1 zw2
     obtain rfl : jS = Qi8 := (by injection e217)
     obtain ⟨ce217, zY1, zY2, zw3⟩ := Kd.qE4 qU.out z55 qO zw1 (by first | exact zw2 | exact of_decide_eq_true (by first | (with_reducible assumption) | assumption) | (have e_ := (Kd.zV qU.out).1; omega))
     obtain ⟨Qp8, Qp9, rfl, jE6, jE7⟩ := qh6 zY2
     have jj3 := zw3 3 _ rfl
     rw [zM _ _ 3 (by omega)] at jj3
     replace jj3 := Option.some.inj (jj3.symm.trans zg6)
     injection jj3 with qm6 qx0 qm7
     rw [qm6] at jE7
     rw [qm7] at jE6
     have zH4 := q8.mk (show Kd.V k51 51 _ w.heap.size _ _ ((qD t200 qO).f3) from Kd.qP3 jE6 jE7)
     clear qm6 qx0 qm7 jE7 jE6
     clear zw3 zY1
     have Qq0 := q8.mk zg8
     have Qq1 := q8.mk zg7
     clear zg8 zg7
     replace zw1 := eq_true zw1
     replace zw2 := eq_true zw2
     obtain ⟨zY3, zY4, eo26⟩ := Kd.qs6 qb9.out
     subst eo26
     try go_wp2_with (first | ((with_reducible refine qi8 (f := 45) rfl ?_); refine qG9 (some 46) rfl rfl Try.func45 (by kernel_rfl) rfl #[.slice zY3 qx1.length zY4, .int .i64 ((qD t200 qO).f0)] rfl (by (try simp only [List.map_toArray, List.map_cons, List.map_nil]); first | done | rfl | (simp only [List.length_drop, List.length_take]; rfl)) ?_; (with_reducible refine (jA.calls k1 (fun k_ => some k_ = (.slice zY3 qx1.length zY4 : Value).ownBlock) (.slice zY3 qx1.length zY4) qx1 ((qD t200 qO).f0) t218 t221 w _ ?qs8 ?qw0 A16.out).mono ?_); (case qs8 => repeat (first | (with_reducible first | exact HB.out | apply qA | apply q9 | apply qB | refine qK ?_ qe7.out) | exact HB.out)); (case qw0 => exact Kd.qX9 rfl qb9.out); rintro e w27 ⟨v219, rfl, ho0, hb, hkp⟩; refine ⟨_, rfl, ?_⟩; have n0_ := q8.mk (Kd.zJ (ok' := fun k_ => (P0_ k_ ∨ w.heap.size ≤ k_) ∧ some k_ ≠ (u3 : Value).ownBlock ∧ some k_ ≠ (.slice (some jS) t200.length qg7 : Value).ownBlock ∧ some k_ ≠ (u6 : Value).ownBlock ∧ some k_ ≠ (u7 : Value).ownBlock ∧ k_ ≠ qH ∧ some k_ ≠ (v219 : Value).ownBlock) (Kd.jj4 (zX.out) hkp (fun k_ hk_ hs_ => (hk_.2.2.2.1) hs_)) (fun k_ hk_ => ⟨hk_.1.1, hk_.1.2.1, hk_.1.2.2.1, hk_.1.2.2.2.2.1, hk_.1.2.2.2.2.2.1, hk_.1.2.2.2.2.2.2, fun e_ => Or.elim (ho0.1 k_ e_.symm) (fun hs_ => hk_.2.1 hs_) (fun hn_ => Nat.not_le.2 hk_.2.2 hn_)⟩)); have n1_ := q8.mk (Kd.jZ (ok' := fun k_ => (P0_ k_ ∨ w.heap.size ≤ k_) ∧ some k_ ≠ (.slice (some jS) t200.length qg7 : Value).ownBlock ∧ some k_ ≠ (u6 : Value).ownBlock ∧ some k_ ≠ (u7 : Value).ownBlock ∧ k_ ≠ qH ∧ some k_ ≠ (v219 : Value).ownBlock) (Kd.qB7 (qa3.out) hkp (fun k_ hk_ hs_ => (hk_.2.2.1) hs_)) (fun k_ hk_ => ⟨hk_.1.1, hk_.1.2.1, hk_.1.2.2.2.1, hk_.1.2.2.2.2.1, hk_.1.2.2.2.2.2, fun e_ => Or.elim (ho0.1 k_ e_.symm) (fun hs_ => hk_.2.1 hs_) (fun hn_ => Nat.not_le.2 hk_.2.2 hn_)⟩)); have n2_ := q8.mk (Kd.jZ (ok' := fun k_ => (P0_ k_ ∨ w.heap.size ≤ k_) ∧ some k_ ≠ (u3 : Value).ownBlock ∧ some k_ ≠ (u6 : Value).ownBlock ∧ some k_ ≠ (u7 : Value).ownBlock ∧ k_ ≠ qH ∧ some k_ ≠ (v219 : Value).ownBlock) (Kd.qB7 (qU.out) hkp (fun k_ hk_ hs_ => (hk_.2.2.1) hs_)) (fun k_ hk_ => ⟨hk_.1.1, hk_.1.2.1, hk_.1.2.2.2.1, hk_.1.2.2.2.2.1, hk_.1.2.2.2.2.2, fun e_ => Or.elim (ho0.1 k_ e_.symm) (fun hs_ => hk_.2.1 hs_) (fun hn_ => Nat.not_le.2 hk_.2.2 hn_)⟩)); have n3_ := q8.mk (Kd.jK (ok' := fun k_ => (w.heap.size ≤ k_) ∧ some k_ ≠ (u7 : Value).ownBlock ∧ some k_ ≠ (v219 : Value).ownBlock) (Kd.qs9 (qe6.out) hkp (fun k_ hk_ hs_ => (hk_.2.1) hs_)) (fun k_ hk_ => ⟨hk_.1.1, hk_.1.2.2, fun e_ => Or.elim (ho0.1 k_ e_.symm) (fun hs_ => hk_.2.1 hs_) (fun hn_ => Nat.not_le.2 hk_.2.2 hn_)⟩)); have n4_ := q8.mk (Kd.jK (ok' := fun k_ => (w.heap.size ≤ k_) ∧ some k_ ≠ (u6 : Value).ownBlock ∧ some k_ ≠ (v219 : Value).ownBlock) (Kd.qs9 (qc8.out) hkp (fun k_ hk_ hs_ => (hk_.2.1) hs_)) (fun k_ hk_ => ⟨hk_.1.1, hk_.1.2.2, fun e_ => Or.elim (ho0.1 k_ e_.symm) (fun hs_ => hk_.2.1 hs_) (fun hn_ => Nat.not_le.2 hk_.2.2 hn_)⟩)); have n5_ := q8.mk (qA6 (by (with_reducible repeat (first | refine qI ?_ _ | refine qR ?_ | refine qJ ?_ _)); exact jE.out) hkp (fun hs_ => (fun e_ => (Kd.jE8 qb9.out jE.out (by decide)) e_) hs_)); have n6_ := q8.mk (Kd.jK (ok' := fun k_ => (w.heap.size ≤ k_) ∧ some k_ ≠ (u6 : Value).ownBlock ∧ some k_ ≠ (u7 : Value).ownBlock) ho0 (fun k_ hk_ => ⟨Or.elim hk_ (fun hs_ => (qb9.out.1 k_ (hs_).symm).1) (fun hn_ => (Nat.le_trans (qM (by repeat (first | (with_reducible first | exact HB.out | apply qA | apply q9 | apply qB | refine qK ?_ qe7.out) | exact HB.out))) hn_)), Or.elim hk_ (fun hs_ => fun e_ => (((qe6.out).1 k_ e_.symm).2.1) hs_) (fun hn_ => (Kd.fresh' (Kd.qK4 (by (with_reducible repeat (first | apply Kd.qV | apply Kd.qW | apply Kd.jB)); exact qe6.out)) k_ hn_)), Or.elim hk_ (fun hs_ => fun e_ => (((qc8.out).1 k_ e_.symm).2.1) hs_) (fun hn_ => (Kd.fresh' (Kd.qK4 (by (with_reducible repeat (first | apply Kd.qV | apply Kd.qW | apply Kd.jB)); exact qc8.out)) k_ hn_))⟩)); have n7_ := q8.mk (hb); clear zX; clear qa3; clear qU; clear qe6; clear qc8; clear jE; clear HB; clear qb9; clear qi3; clear qi4; clear zH4; have zX := n0_; have qa3 := n1_; have qU := n2_; have qe6 := n3_; have qc8 := n4_; have jE := n5_; have Qi9 := n6_; have HB := n7_; clear n0_ n1_ n2_ n3_ n4_ n5_ n6_ n7_; (try clear hb); (try clear hkp); (try clear ho0); have zH5 : w27.cell? ⟨qH, 0, none⟩ = some (.int .i64 0) := (qE jE.out 0).trans rfl; have zH6 : w27.cell? ⟨qH, 1, none⟩ = some (.int .i64 t213) := (qE jE.out 1).trans rfl; have zH7 : w27.cell? ⟨qH, 2, none⟩ = some (.int .i64 t215) := (qE jE.out 2).trans rfl; have zH8 : w27.cell? ⟨qH, 3, none⟩ = some (.slice none 0 0) := (qE jE.out 3).trans rfl; have zH9 := qC jE.out 0; have zI0 := qC jE.out 1; have zI1 := qC jE.out 2; have zI2 := qC jE.out 3))
     go_loopg [6, 7, 10] k1 (fun kq v6 v7 v10 w' => ∃ (qe2 : List Int) (qf3 : List Int) (j4 : Int) (zU : List (S51)) (u217003 : Value), v10 = .int .i64 j4 ∧ q8 (qL.l1 kq l0 qk1 t200 t218 qe2 qf3 qO j4 t221 t213 t215 zU = some r) ∧ q8 (kq ≤ k1) ∧ q8 (Kd.V k55 55 w' w.heap.size (fun k_ => (P0_ k_ ∨ w.heap.size ≤ k_) ∧ some k_ ≠ (u3 : Value).ownBlock ∧ some k_ ≠ ((.slice (some jS) t200.length qg7) : Value).ownBlock ∧ some k_ ≠ (v219 : Value).ownBlock ∧ some k_ ≠ (v6 : Value).ownBlock ∧ some k_ ≠ (v7 : Value).ownBlock ∧ some k_ ≠ (u217003 : Value).ownBlock ∧ k_ ≠ qH) (.slice A0 l0.length c0) l0) ∧ q8 (Kd.N k55 55 w' w.heap.size (fun k_ => (P0_ k_ ∨ w.heap.size ≤ k_) ∧ some k_ ≠ ((.slice (some jS) t200.length qg7) : Value).ownBlock ∧ some k_ ≠ (v219 : Value).ownBlock ∧ some k_ ≠ (v6 : Value).ownBlock ∧ some k_ ≠ (v7 : Value).ownBlock ∧ some k_ ≠ (u217003 : Value).ownBlock ∧ k_ ≠ qH) u3 qk1) ∧ q8 (Kd.N k55 55 w' w.heap.size (fun k_ => (P0_ k_ ∨ w.heap.size ≤ k_) ∧ some k_ ≠ (u3 : Value).ownBlock ∧ some k_ ≠ (v219 : Value).ownBlock ∧ some k_ ≠ (v6 : Value).ownBlock ∧ some k_ ≠ (v7 : Value).ownBlock ∧ some k_ ≠ (u217003 : Value).ownBlock ∧ k_ ≠ qH) (.slice (some jS) t200.length qg7) t200) ∧ q8 (Kd.R (Kd.int .i64) 3 w' w.heap.size (fun k_ => (w.heap.size ≤ k_) ∧ some k_ ≠ (v6 : Value).ownBlock ∧ some k_ ≠ (v7 : Value).ownBlock) v219 t218) ∧ q8 (Kd.R (Kd.int .i64) 3 w' w.heap.size (fun k_ => (w.heap.size ≤ k_) ∧ some k_ ≠ (v219 : Value).ownBlock ∧ some k_ ≠ (v7 : Value).ownBlock) v6 qe2) ∧ q8 (Kd.R (Kd.int .i64) 3 w' w.heap.size (fun k_ => (w.heap.size ≤ k_) ∧ some k_ ≠ (v219 : Value).ownBlock ∧ some k_ ≠ (v6 : Value).ownBlock) v7 qf3) ∧ q8 (Kd.R k51 51 w' w.heap.size (fun k_ => (w.heap.size ≤ k_)) u217003 zU) ∧ q8 (w'.heap[qH]? = some (.cells #[.int .i64 t221, .int .i64 t213, .int .i64 t215, u217003] 55 (0, 0))) ∧ q8 (Below w.heap.size w w'))
     case atStart => exact ⟨(jW), (qa9), (0), (([] : List (S51))), (.slice none 0 0), (by first | rfl | (simp; done) | (simp [*]; done)), H', ⟨Nat.le_refl _⟩, ⟨by (with_reducible repeat (first | apply Kd.jO | apply Kd.jP | apply Kd.z8)); exact Kd.zJ (Kd.qf4 (p := ⟨qH, 0, none⟩) (Kd.zJ zX.out (fun k_ hk => (⟨hk, hk.2.2.2.2.2.1⟩ : _ ∧ k_ ≠ qH))) (fun _ hk => hk.2) (.int .i64 t221)) (fun _ hk => ⟨hk.1.1, ⟨hk.1.2.1, ⟨hk.1.2.2.1, ⟨hk.1.2.2.2.2.2.2, ⟨hk.1.2.2.2.1, ⟨hk.1.2.2.2.2.1, ⟨(by simp [Value.ownBlock]), hk.1.2.2.2.2.2.1⟩⟩⟩⟩⟩⟩⟩)⟩, ⟨by (with_reducible repeat (first | apply Kd.jC | apply Kd.jD | apply Kd.jG)); exact Kd.jZ (Kd.qg2 (p := ⟨qH, 0, none⟩) (Kd.jZ qa3.out (fun k_ hk => (⟨hk, hk.2.2.2.2.1⟩ : _ ∧ k_ ≠ qH))) (fun _ hk => hk.2) (.int .i64 t221)) (fun _ hk => ⟨hk.1.1, ⟨hk.1.2.1, ⟨hk.1.2.2.2.2.2, ⟨hk.1.2.2.1, ⟨hk.1.2.2.2.1, ⟨(by simp [Value.ownBlock]), hk.1.2.2.2.2.1⟩⟩⟩⟩⟩⟩)⟩, ⟨by (with_reducible repeat (first | apply Kd.jC | apply Kd.jD | apply Kd.jG)); exact Kd.jZ (Kd.qg2 (p := ⟨qH, 0, none⟩) (Kd.jZ qU.out (fun k_ hk => (⟨hk, hk.2.2.2.2.1⟩ : _ ∧ k_ ≠ qH))) (fun _ hk => hk.2) (.int .i64 t221)) (fun _ hk => ⟨hk.1.1, ⟨hk.1.2.1, ⟨hk.1.2.2.2.2.2, ⟨hk.1.2.2.1, ⟨hk.1.2.2.2.1, ⟨(by simp [Value.ownBlock]), hk.1.2.2.2.2.1⟩⟩⟩⟩⟩⟩)⟩, ⟨by (with_reducible repeat (first | apply Kd.qV | apply Kd.qW | apply Kd.jB)); exact Kd.jK (Kd.zK (p := ⟨qH, 0, none⟩) (Kd.qb3 Qi9.out jE.out (by decide)) (fun _ hk => hk.2) (.int .i64 t221)) (fun _ hk => ⟨hk.1.1, ⟨hk.1.2.1, hk.1.2.2⟩⟩)⟩, ⟨by (with_reducible repeat (first | apply Kd.qV | apply Kd.qW | apply Kd.jB)); exact Kd.jK (Kd.zK (p := ⟨qH, 0, none⟩) (Kd.qb3 qe6.out jE.out (by decide)) (fun _ hk => hk.2) (.int .i64 t221)) (fun _ hk => ⟨hk.1.1, ⟨hk.1.2.2, hk.1.2.1⟩⟩)⟩, ⟨by (with_reducible repeat (first | apply Kd.qV | apply Kd.qW | apply Kd.jB)); exact Kd.jK (Kd.zK (p := ⟨qH, 0, none⟩) (Kd.qb3 qc8.out jE.out (by decide)) (fun _ hk => hk.2) (.int .i64 t221)) (fun _ hk => ⟨hk.1.1, ⟨hk.1.2.2, hk.1.2.1⟩⟩)⟩, ⟨by first | exact Kd.zg9 _ _ _ _ _ | exact Kd.Qj0 _ _ _ _ _ | exact Kd.Qj1 _ _ _ _ _ | exact Kd.Qj2 _ _ _ _ _ | exact Kd.Qj3 _ _ _ _ _⟩, ⟨by (with_reducible repeat (first | refine qI ?_ _ | refine qR ?_ | refine qJ ?_ _)); refine qd4 (cs := #[.int .i64 0, .int .i64 t213, .int .i64 t215, .slice none 0 0]) ?_ 0 _ rfl; (with_reducible repeat (first | refine qI ?_ _ | refine qR ?_ | refine qJ ?_ _)); exact jE.out⟩, ⟨by repeat (first | (with_reducible first | exact HB.out | apply qA | apply q9 | apply qB | refine qK ?_ qe7.out) | exact HB.out)⟩⟩
     case round =>
      clear H'
      try clear c1
      try clear c2
      try clear p2
      try clear q2
      try clear hx2
      try clear c4
      try clear c12
      try clear qE3
      try clear c13
      try clear zR5
      try clear c21
      try clear p21
      try clear q21
      try clear hx21
      try clear zH5
      try clear zH6
      try clear zH7
      try clear zH8
      try clear zH9
      try clear zI0
      try clear zI1
      try clear zI2
      try clear jD6
      try clear jD7
      try clear jD8
      try clear qX5
      try clear jE1
      try clear jE2
      try clear jE3
      try clear qX6
      try clear zH1
      try clear zH2
      try clear zH3
      try clear zg6
      try clear p2
      try clear zu5
      try clear zu8
      try clear zw1
      try clear zu6
      try clear zu9
      try clear zw2
      obtain ⟨qe2, qf3, j4, zU, u217003, rfl, HA, HK2, zX, qa3, qU, qb9, qe6, qc8, jR, jE, HB⟩ := hrel
      cases gk with
      | zero => exact absurd HA.out (by simp [qL.l1])
      | succ k2 =>
       have H := HA.out
       clear HA
       simp only [qL.l1] at H
       by_cases c29 : 0 ≤ qO
       ·rw [if_pos c29] at H
        have c29b0 : decide (0 ≤ qO) = true := decide_eq_true c29
        clear c29
        by_cases c30 : qO < (t200.length : Int)
        ·rw [if_pos c30] at H
         have c30b0 : decide (qO < (t200.length : Int)) = true := decide_eq_true c30
         clear c30
         by_cases c31 : j4 < (((qD t200 qO).f3).length : Int)
         ·rw [if_pos c31] at H
          have Qj4 : decide (j4 < (((qD t200 qO).f3).length : Int)) = true := decide_eq_true c31
          clear c31
          by_cases c32 : 0 ≤ j4
          ·rw [if_pos c32] at H
           have c32b0 : decide (0 ≤ j4) = true := decide_eq_true c32
           clear c32
           replace H := Option.bind_eq_some_iff.mp H
           obtain ⟨⟨t229, t232⟩, A330, H⟩ := H
           replace H : (if ((qG ((qD t200 qO).f3) j4).f2) = 0 then (if zU.length < 5864062014805 then (qL.l1 k2 l0 qk1 t200 t218 t229 qf3 qO (wrap64 (j4 + 1)) t221 t213 t215 (zU ++ [(⟨(qG ((qD t200 qO).f3) j4).f0, t232, (qG ((qD t200 qO).f3) j4).f2⟩ : S51)])) else (none)) else ((jA.f k2 qf3 ((qG ((qD t200 qO).f3) j4).f2)).bind fun jN3 => (if zU.length < 5864062014805 then (qL.l1 k2 l0 qk1 t200 t218 t229 jN3.1 qO (wrap64 (j4 + 1)) t221 t213 t215 (zU ++ [(⟨(qG ((qD t200 qO).f3) j4).f0, t232, wrap64 (jN3.2 + 1)⟩ : S51)])) else (none)))) = some r := H
           have A33 := q8.mk A330
           clear A330
           by_cases c34 : ((qG ((qD t200 qO).f3) j4).f2) = 0
           ·rw [if_pos c34] at H
            have Qj5 : (((qG ((qD t200 qO).f3) j4).f2) == 0) = true := beq_iff_eq.mpr c34
            have Qj6 : (((qG ((qD t200 qO).f3) j4).f2) != 0) = false := bne_eq_false_iff_eq.mpr c34
            clear c34
            by_cases c35 : zU.length < 5864062014805
            ·rw [if_pos c35] at H
             have Qj7 := q8.mk c35
             clear c35
             obtain ⟨y233, jO0⟩ : ∃ y_ : List (S51), y_ = (zU ++ [(⟨(qG ((qD t200 qO).f3) j4).f0, t232, (qG ((qD t200 qO).f3) j4).f2⟩ : S51)]) := ⟨_, rfl⟩
             replace H : (qL.l1 k2 l0 qk1 t200 t218 t229 qf3 qO (wrap64 (j4 + 1)) t221 t213 t215 y233) = some r := by first | (rw [jO0]; with_reducible exact H) | (have H2_ := (Option.bind_some _ _).symm.trans H; rw [jO0]; with_reducible exact H2_) | (have H2_ := (Option.bind_some _ _).symm.trans H; with_reducible exact H2_) | with_reducible exact H | (rw [jO0]; exact H) | exact H
             have Qj8 := q8.mk jO0
             clear jO0
             have H' := q8.mk H
             clear H
             have qY0 : 0 ≤ (qO : Int) := of_decide_eq_true (by first | (with_reducible assumption) | assumption)
             have qY1 : qO < (t200.length : Int) := of_decide_eq_true (by first | (with_reducible assumption) | assumption)
             obtain ⟨jO1, zw4, je5, e222, zh0, zh1, zh2, qH0, qB8, qB9⟩ := qa4 (Kd.zV qU.out).2.2 qO qY0 qY1
             obtain rfl : jS = jO1 := (by injection e222)
             obtain ⟨zT0, jm6, jm7, qL9⟩ := Kd.qE4 qU.out z55 qO qY0 (by first | exact qY1 | exact of_decide_eq_true (by first | (with_reducible assumption) | assumption) | (have e_ := (Kd.zV qU.out).1; omega))
             obtain ⟨zh3, zh4, rfl, qt0, qt1⟩ := qh6 jm7
             have qn4 := qL9 3 _ rfl
             rw [zM _ _ 3 (by omega)] at qn4
             replace qn4 := Option.some.inj (qn4.symm.trans qH0)
             injection qn4 with qm6 qx0 qm7
             rw [qm6] at qt1
             rw [qm7] at qt0
             have qg8 := q8.mk (show Kd.V k51 51 _ w.heap.size _ _ ((qD t200 qO).f3) from Kd.qP3 qt0 qt1)
             clear qm6 qx0 qm7 qt1 qt0
             clear qL9 jm6
             have qv5 := q8.mk qB9
             have zh5 := q8.mk qB8
             clear qB9 qB8
             replace qY0 := eq_true qY0
             replace qY1 := eq_true qY1
             have jE9 : 0 ≤ (qO : Int) := of_decide_eq_true (by first | (with_reducible assumption) | assumption)
             have jF0 : qO < (t200.length : Int) := of_decide_eq_true (by first | (with_reducible assumption) | assumption)
             obtain ⟨zw5, zY5, zY6, e226, zI3, zI4, zI5, qY2, qY3, qY4⟩ := qa4 (Kd.zV qU.out).2.2 qO jE9 jF0
             obtain rfl : jS = zw5 := (by injection e226)
             obtain ⟨Qj9, jY4, jY5, jm8⟩ := Kd.qE4 qU.out z55 qO jE9 (by first | exact jF0 | exact of_decide_eq_true (by first | (with_reducible assumption) | assumption) | (have e_ := (Kd.zV qU.out).1; omega))
             obtain ⟨zI6, zI7, rfl, qH1, qH2⟩ := qh6 jY5
             have qy8 := jm8 3 _ rfl
             rw [zM _ _ 3 (by omega)] at qy8
             replace qy8 := Option.some.inj (qy8.symm.trans qY2)
             injection qy8 with qm6 qx0 qm7
             rw [qm6] at qH2
             rw [qm7] at qH1
             have ql3 := q8.mk (show Kd.V k51 51 _ w.heap.size _ _ ((qD t200 qO).f3) from Kd.qP3 qH1 qH2)
             clear qm6 qx0 qm7 qH2 qH1
             clear jm8 jY4
             have qp0 := q8.mk qY4
             have zI8 := q8.mk qY3
             clear qY4 qY3
             replace jE9 := eq_true jE9
             replace jF0 := eq_true jF0
             have ea_ := Option.some.inj (qH0.symm.trans qY2)
             injection ea_ with ea_ en_ ec_
             subst ea_
             subst ec_
             clear en_
             have jY6 : 0 ≤ (j4 : Int) := of_decide_eq_true (by first | (with_reducible assumption) | assumption)
             have jY7 : j4 < (((qD t200 qO).f3).length : Int) := of_decide_eq_true (by first | (with_reducible assumption) | assumption)
             obtain ⟨jO2, e227, zI9, zJ0, zJ1⟩ := qr0 (by repeat (first | (with_reducible exact qp0.out) | (with_reducible refine Kd.qi1 ?_ _) | (with_reducible refine Kd.qi2 ?_ _) | (with_reducible refine Kd.qn1 ?_) | exact qp0.out)) j4 jY6 jY7
             cases e227
             replace jY6 := eq_true jY6
             replace jY7 := eq_true jY7
             go_wp2_with (first | ((with_reducible refine zY (N := 11) rfl ?_); refine qa5 ?hg (N := 11) ?hd (cs := #[.bool false, .int .i64 0, .int .i64 0]) (t := 51) ?hr ?_; (case hd => rfl); (case hg => rfl); (case hr => first | (go_simp; done) | (go_simp; rfl)); intro qP hg w36 qb4 hb; have n0_ := q8.mk (Kd.ql1 (Kd.qh9 (by (with_reducible repeat (first | apply Kd.jO | apply Kd.jP | apply Kd.z8)); exact zX.out) qP (Nat.le_of_eq hg.symm)) hb); have n1_ := q8.mk (Kd.qn3 (Kd.qq5 (by (with_reducible repeat (first | apply Kd.jC | apply Kd.jD | apply Kd.jG)); exact qa3.out) qP (Nat.le_of_eq hg.symm)) hb); have n2_ := q8.mk (Kd.qn3 (Kd.qq5 (by (with_reducible repeat (first | apply Kd.jC | apply Kd.jD | apply Kd.jG)); exact qU.out) qP (Nat.le_of_eq hg.symm)) hb); have n3_ := q8.mk (Kd.qg1 (by (with_reducible repeat (first | apply Kd.qV | apply Kd.qW | apply Kd.jB)); exact qb9.out) hb); have n4_ := q8.mk (Kd.qg1 (by (with_reducible repeat (first | apply Kd.qV | apply Kd.qW | apply Kd.jB)); exact qe6.out) hb); have n5_ := q8.mk (Kd.qg1 (by (with_reducible repeat (first | apply Kd.qV | apply Kd.qW | apply Kd.jB)); exact qc8.out) hb); have n6_ := q8.mk (Kd.qg1 (Kd.jO3 (by (with_reducible repeat (first | apply Kd.qV | apply Kd.qW | apply Kd.jB)); exact jR.out) qP (Nat.le_of_eq hg.symm)) hb); have n7_ := q8.mk (Kd.ql1 (Kd.qh9 (by (with_reducible repeat (first | apply Kd.jO | apply Kd.jP | apply Kd.z8)); exact qg8.out) qP (Nat.le_of_eq hg.symm)) hb); have n8_ := q8.mk (Kd.ql1 (Kd.qh9 (by (with_reducible repeat (first | apply Kd.jO | apply Kd.jP | apply Kd.z8)); exact ql3.out) qP (Nat.le_of_eq hg.symm)) hb); have n9_ := q8.mk (qn0 (g := qH) (o := .cells #[.int .i64 t221, .int .i64 t213, .int .i64 t215, u217003] 55 (0, 0)) (by (with_reducible repeat (first | refine qI ?_ _ | refine qR ?_ | refine qJ ?_ _)); exact jE.out) hb); have qA4 := q8.mk (Kd.ql2 (by repeat (first | (with_reducible exact qv5.out) | (with_reducible refine Kd.qi1 ?_ _) | (with_reducible refine Kd.qi2 ?_ _) | (with_reducible refine Kd.qn1 ?_) | exact qv5.out)) hb); have qA5 := q8.mk (Kd.ql2 (by repeat (first | (with_reducible exact qp0.out) | (with_reducible refine Kd.qi1 ?_ _) | (with_reducible refine Kd.qi2 ?_ _) | (with_reducible refine Kd.qn1 ?_) | exact qp0.out)) hb); have qX7 := q8.mk (jM (by repeat (first | (with_reducible first | exact HB.out | apply qA | apply q9 | apply qB | refine qK ?_ qe7.out) | exact HB.out)) hb); have qX8 := q8.mk (qb4); have zw6 := q8.mk ((by rw [hg]; exact (qM (by repeat (first | (with_reducible first | exact HB.out | apply qA | apply q9 | apply qB | refine qK ?_ qe7.out) | exact HB.out))) : w.heap.size ≤ qP)); have zw7 := q8.mk ((by rw [hg]; exact (qM (by repeat (first | (with_reducible first | exact HB.out | apply qA | apply q9 | apply qB | refine qK ?_ qe7.out) | exact HB.out))) : w.heap.size ≤ qP)); have zw8 := q8.mk ((by rw [hg]; exact Nat.ne_of_lt (qt2 (g := qH) (o := .cells #[.int .i64 t221, .int .i64 t213, .int .i64 t215, u217003] 55 (0, 0)) (by (with_reducible repeat (first | refine qI ?_ _ | refine qR ?_ | refine qJ ?_ _)); exact jE.out)) : qH ≠ qP)); have zw9 := q8.mk ((by rw [hg]; exact Nat.ne_of_gt (qt2 (g := qH) (o := .cells #[.int .i64 t221, .int .i64 t213, .int .i64 t215, u217003] 55 (0, 0)) (by (with_reducible repeat (first | refine qI ?_ _ | refine qR ?_ | refine qJ ?_ _)); exact jE.out)) : qP ≠ qH)); clear zX; clear qa3; clear qU; clear qb9; clear qe6; clear qc8; clear jR; clear qg8; clear ql3; clear jE; clear qv5; clear qp0; clear HB; have zX := n0_; have qa3 := n1_; have qU := n2_; have qb9 := n3_; have qe6 := n4_; have qc8 := n5_; have jR := n6_; have qg8 := n7_; have ql3 := n8_; have jE := n9_; have qv5 := qA4; have qp0 := qA5; have HB := qX7; have jV := qX8; have Qk0 := zw6; have qu5 := zw7; have qh7 := zw8; have je6 := zw9; clear n0_ n1_ n2_ n3_ n4_ n5_ n6_ n7_ n8_ n9_ qA4 qA5 qX7 qX8 zw6 zw7 zw8 zw9; clear hb qb4 hg; have hnb37 := je6.out; have hnc37 := qh7.out; have Qq2 : w36.cell? ⟨qP, 0, none⟩ = some (.bool false) := (qE jV.out 0).trans rfl; have Qq3 : w36.cell? ⟨qP, 1, none⟩ = some (.int .i64 0) := (qE jV.out 1).trans rfl; have Qq4 : w36.cell? ⟨qP, 2, none⟩ = some (.int .i64 0) := (qE jV.out 2).trans rfl; have Qq5 := qC jV.out 0; have Qq6 := qC jV.out 1; have Qq7 := qC jV.out 2) | ((with_reducible refine qS1 (t := 51) (p := 11) rfl ?_); refine qM0 (t := 51) (p := 11) (v := ?vo_w39) (w1 := (((w36.setCell ⟨qP, 0, none⟩ (.bool ((qG ((qD t200 qO).f3) j4).f0))).setCell ⟨qP, 1, none⟩ (.int .i64 ((qG ((qD t200 qO).f3) j4).f1))).setCell ⟨qP, 2, none⟩ (.int .i64 ((qG ((qD t200 qO).f3) j4).f2)))) ?hg ?ho ?hn ?hr ?_; (case ho => rfl); (case hg => rfl); (case hn => rfl); (case hr => first | (go_simp; done) | (go_simp; rfl)); intro w39 hw; have n0_ : q8 (Kd.V k55 55 w39 w.heap.size (fun k_ => (P0_ k_ ∨ w.heap.size ≤ k_) ∧ some k_ ≠ (u3 : Value).ownBlock ∧ some k_ ≠ (.slice (some jS) t200.length qg7 : Value).ownBlock ∧ some k_ ≠ (v219 : Value).ownBlock ∧ some k_ ≠ (u6 : Value).ownBlock ∧ some k_ ≠ (u7 : Value).ownBlock ∧ some k_ ≠ (u217003 : Value).ownBlock ∧ k_ ≠ qH ∧ k_ ≠ qP) (.slice A0 l0.length c0) l0) := ⟨(by rw [hw]; exact (by (with_reducible repeat (first | apply Kd.jO | apply Kd.jP | apply Kd.z8)); exact Kd.zJ (Kd.qf4 (p := ⟨qP, 2, none⟩) (Kd.qf4 (p := ⟨qP, 1, none⟩) (Kd.qf4 (p := ⟨qP, 0, none⟩) (Kd.zJ zX.out (fun k_ hk => (⟨hk, hk.2⟩ : _ ∧ k_ ≠ qP))) (fun _ hk => hk.2) (.bool ((qG ((qD t200 qO).f3) j4).f0))) (fun _ hk => hk.2) (.int .i64 ((qG ((qD t200 qO).f3) j4).f1))) (fun _ hk => hk.2) (.int .i64 ((qG ((qD t200 qO).f3) j4).f2))) (fun _ hk => ⟨hk.1.1.1, ⟨hk.1.1.2.1, ⟨hk.1.1.2.2.1, ⟨hk.1.1.2.2.2.1, ⟨hk.1.1.2.2.2.2.1, ⟨hk.1.1.2.2.2.2.2.1, ⟨hk.1.1.2.2.2.2.2.2.1, ⟨hk.1.1.2.2.2.2.2.2.2, hk.1.2⟩⟩⟩⟩⟩⟩⟩⟩)))⟩; have n1_ : q8 (Kd.N k55 55 w39 w.heap.size (fun k_ => (P0_ k_ ∨ w.heap.size ≤ k_) ∧ some k_ ≠ (.slice (some jS) t200.length qg7 : Value).ownBlock ∧ some k_ ≠ (v219 : Value).ownBlock ∧ some k_ ≠ (u6 : Value).ownBlock ∧ some k_ ≠ (u7 : Value).ownBlock ∧ some k_ ≠ (u217003 : Value).ownBlock ∧ k_ ≠ qH ∧ k_ ≠ qP) u3 qk1) := ⟨(by rw [hw]; exact (by (with_reducible repeat (first | apply Kd.jC | apply Kd.jD | apply Kd.jG)); exact Kd.jZ (Kd.qg2 (p := ⟨qP, 2, none⟩) (Kd.qg2 (p := ⟨qP, 1, none⟩) (Kd.qg2 (p := ⟨qP, 0, none⟩) (Kd.jZ qa3.out (fun k_ hk => (⟨hk, hk.2⟩ : _ ∧ k_ ≠ qP))) (fun _ hk => hk.2) (.bool ((qG ((qD t200 qO).f3) j4).f0))) (fun _ hk => hk.2) (.int .i64 ((qG ((qD t200 qO).f3) j4).f1))) (fun _ hk => hk.2) (.int .i64 ((qG ((qD t200 qO).f3) j4).f2))) (fun _ hk => ⟨hk.1.1.1, ⟨hk.1.1.2.1, ⟨hk.1.1.2.2.1, ⟨hk.1.1.2.2.2.1, ⟨hk.1.1.2.2.2.2.1, ⟨hk.1.1.2.2.2.2.2.1, ⟨hk.1.1.2.2.2.2.2.2, hk.1.2⟩⟩⟩⟩⟩⟩⟩)))⟩; have n2_ : q8 (Kd.N k55 55 w39 w.heap.size (fun k_ => (P0_ k_ ∨ w.heap.size ≤ k_) ∧ some k_ ≠ (u3 : Value).ownBlock ∧ some k_ ≠ (v219 : Value).ownBlock ∧ some k_ ≠ (u6 : Value).ownBlock ∧ some k_ ≠ (u7 : Value).ownBlock ∧ some k_ ≠ (u217003 : Value).ownBlock ∧ k_ ≠ qH ∧ k_ ≠ qP) (.slice (some jS) t200.length qg7) t200) := ⟨(by rw [hw]; exact (by (with_reducible repeat (first | apply Kd.jC | apply Kd.jD | apply Kd.jG)); exact Kd.jZ (Kd.qg2 (p := ⟨qP, 2, none⟩) (Kd.qg2 (p := ⟨qP, 1, none⟩) (Kd.qg2 (p := ⟨qP, 0, none⟩) (Kd.jZ qU.out (fun k_ hk => (⟨hk, hk.2⟩ : _ ∧ k_ ≠ qP))) (fun _ hk => hk.2) (.bool ((qG ((qD t200 qO).f3) j4).f0))) (fun _ hk => hk.2) (.int .i64 ((qG ((qD t200 qO).f3) j4).f1))) (fun _ hk => hk.2) (.int .i64 ((qG ((qD t200 qO).f3) j4).f2))) (fun _ hk => ⟨hk.1.1.1, ⟨hk.1.1.2.1, ⟨hk.1.1.2.2.1, ⟨hk.1.1.2.2.2.1, ⟨hk.1.1.2.2.2.2.1, ⟨hk.1.1.2.2.2.2.2.1, ⟨hk.1.1.2.2.2.2.2.2, hk.1.2⟩⟩⟩⟩⟩⟩⟩)))⟩; have n3_ : q8 (Kd.R (Kd.int .i64) 3 w39 w.heap.size (fun k_ => (w.heap.size ≤ k_) ∧ some k_ ≠ (u6 : Value).ownBlock ∧ some k_ ≠ (u7 : Value).ownBlock) v219 t218) := ⟨(by rw [hw]; exact (by (with_reducible repeat (first | apply Kd.qV | apply Kd.qW | apply Kd.jB)); exact Kd.jK (Kd.zK (p := ⟨qP, 2, none⟩) (Kd.zK (p := ⟨qP, 1, none⟩) (Kd.zK (p := ⟨qP, 0, none⟩) (Kd.qb3 qb9.out jV.out (by decide)) (fun _ hk => hk.2) (.bool ((qG ((qD t200 qO).f3) j4).f0))) (fun _ hk => hk.2) (.int .i64 ((qG ((qD t200 qO).f3) j4).f1))) (fun _ hk => hk.2) (.int .i64 ((qG ((qD t200 qO).f3) j4).f2))) (fun _ hk => ⟨hk.1.1, ⟨hk.1.2.1, hk.1.2.2⟩⟩)))⟩; have n4_ : q8 (Kd.R (Kd.int .i64) 3 w39 w.heap.size (fun k_ => (w.heap.size ≤ k_) ∧ some k_ ≠ (v219 : Value).ownBlock ∧ some k_ ≠ (u7 : Value).ownBlock) u6 qe2) := ⟨(by rw [hw]; exact (by (with_reducible repeat (first | apply Kd.qV | apply Kd.qW | apply Kd.jB)); exact Kd.jK (Kd.zK (p := ⟨qP, 2, none⟩) (Kd.zK (p := ⟨qP, 1, none⟩) (Kd.zK (p := ⟨qP, 0, none⟩) (Kd.qb3 qe6.out jV.out (by decide)) (fun _ hk => hk.2) (.bool ((qG ((qD t200 qO).f3) j4).f0))) (fun _ hk => hk.2) (.int .i64 ((qG ((qD t200 qO).f3) j4).f1))) (fun _ hk => hk.2) (.int .i64 ((qG ((qD t200 qO).f3) j4).f2))) (fun _ hk => ⟨hk.1.1, ⟨hk.1.2.1, hk.1.2.2⟩⟩)))⟩; have n5_ : q8 (Kd.R (Kd.int .i64) 3 w39 w.heap.size (fun k_ => (w.heap.size ≤ k_) ∧ some k_ ≠ (v219 : Value).ownBlock ∧ some k_ ≠ (u6 : Value).ownBlock) u7 qf3) := ⟨(by rw [hw]; exact (by (with_reducible repeat (first | apply Kd.qV | apply Kd.qW | apply Kd.jB)); exact Kd.jK (Kd.zK (p := ⟨qP, 2, none⟩) (Kd.zK (p := ⟨qP, 1, none⟩) (Kd.zK (p := ⟨qP, 0, none⟩) (Kd.qb3 qc8.out jV.out (by decide)) (fun _ hk => hk.2) (.bool ((qG ((qD t200 qO).f3) j4).f0))) (fun _ hk => hk.2) (.int .i64 ((qG ((qD t200 qO).f3) j4).f1))) (fun _ hk => hk.2) (.int .i64 ((qG ((qD t200 qO).f3) j4).f2))) (fun _ hk => ⟨hk.1.1, ⟨hk.1.2.1, hk.1.2.2⟩⟩)))⟩; have n6_ : q8 (Kd.R k51 51 w39 w.heap.size (fun k_ => (w.heap.size ≤ k_) ∧ k_ ≠ qP) u217003 zU) := ⟨(by rw [hw]; exact (by (with_reducible repeat (first | apply Kd.qV | apply Kd.qW | apply Kd.jB)); exact Kd.jK (Kd.zK (p := ⟨qP, 2, none⟩) (Kd.zK (p := ⟨qP, 1, none⟩) (Kd.zK (p := ⟨qP, 0, none⟩) (Kd.jK jR.out (fun k_ hk => (⟨hk, hk.2⟩ : _ ∧ k_ ≠ qP))) (fun _ hk => hk.2) (.bool ((qG ((qD t200 qO).f3) j4).f0))) (fun _ hk => hk.2) (.int .i64 ((qG ((qD t200 qO).f3) j4).f1))) (fun _ hk => hk.2) (.int .i64 ((qG ((qD t200 qO).f3) j4).f2))) (fun _ hk => ⟨hk.1.1, hk.1.2⟩)))⟩; have n7_ : q8 (Kd.V k51 51 w39 w.heap.size (fun k_ => (P0_ k_ ∨ w.heap.size ≤ k_) ∧ some k_ ≠ (u3 : Value).ownBlock ∧ some k_ ≠ (.slice (some jS) t200.length qg7 : Value).ownBlock ∧ some k_ ≠ (v219 : Value).ownBlock ∧ some k_ ≠ (u6 : Value).ownBlock ∧ some k_ ≠ (u7 : Value).ownBlock ∧ some k_ ≠ (u217003 : Value).ownBlock ∧ k_ ≠ qH ∧ k_ ≠ qP) (.slice (some jO2) ((qD t200 qO).f3).length je5) ((qD t200 qO).f3)) := ⟨(by rw [hw]; exact (by (with_reducible repeat (first | apply Kd.jO | apply Kd.jP | apply Kd.z8)); exact Kd.zJ (Kd.qf4 (p := ⟨qP, 2, none⟩) (Kd.qf4 (p := ⟨qP, 1, none⟩) (Kd.qf4 (p := ⟨qP, 0, none⟩) (Kd.zJ qg8.out (fun k_ hk => (⟨hk, hk.2⟩ : _ ∧ k_ ≠ qP))) (fun _ hk => hk.2) (.bool ((qG ((qD t200 qO).f3) j4).f0))) (fun _ hk => hk.2) (.int .i64 ((qG ((qD t200 qO).f3) j4).f1))) (fun _ hk => hk.2) (.int .i64 ((qG ((qD t200 qO).f3) j4).f2))) (fun _ hk => ⟨hk.1.1.1.1, ⟨hk.1.1.1.2.1, ⟨hk.1.1.2, ⟨hk.1.1.1.2.2.1, ⟨hk.1.1.1.2.2.2.1, ⟨hk.1.1.1.2.2.2.2.1, ⟨hk.1.1.1.2.2.2.2.2.1, ⟨hk.1.1.1.2.2.2.2.2.2, hk.1.2⟩⟩⟩⟩⟩⟩⟩⟩)))⟩; have n8_ : q8 (Kd.V k51 51 w39 w.heap.size (fun k_ => (P0_ k_ ∨ w.heap.size ≤ k_) ∧ some k_ ≠ (u3 : Value).ownBlock ∧ some k_ ≠ (.slice (some jS) t200.length qg7 : Value).ownBlock ∧ some k_ ≠ (v219 : Value).ownBlock ∧ some k_ ≠ (u6 : Value).ownBlock ∧ some k_ ≠ (u7 : Value).ownBlock ∧ some k_ ≠ (u217003 : Value).ownBlock ∧ k_ ≠ qH ∧ k_ ≠ qP) (.slice (some jO2) ((qD t200 qO).f3).length je5) ((qD t200 qO).f3)) := ⟨(by rw [hw]; exact (by (with_reducible repeat (first | apply Kd.jO | apply Kd.jP | apply Kd.z8)); exact Kd.zJ (Kd.qf4 (p := ⟨qP, 2, none⟩) (Kd.qf4 (p := ⟨qP, 1, none⟩) (Kd.qf4 (p := ⟨qP, 0, none⟩) (Kd.zJ ql3.out (fun k_ hk => (⟨hk, hk.2⟩ : _ ∧ k_ ≠ qP))) (fun _ hk => hk.2) (.bool ((qG ((qD t200 qO).f3) j4).f0))) (fun _ hk => hk.2) (.int .i64 ((qG ((qD t200 qO).f3) j4).f1))) (fun _ hk => hk.2) (.int .i64 ((qG ((qD t200 qO).f3) j4).f2))) (fun _ hk => ⟨hk.1.1.1.1, ⟨hk.1.1.1.2.1, ⟨hk.1.1.2, ⟨hk.1.1.1.2.2.1, ⟨hk.1.1.1.2.2.2.1, ⟨hk.1.1.1.2.2.2.2.1, ⟨hk.1.1.1.2.2.2.2.2.1, ⟨hk.1.1.1.2.2.2.2.2.2, hk.1.2⟩⟩⟩⟩⟩⟩⟩⟩)))⟩; have n9_ : q8 (w39.heap[qH]? = some (.cells #[.int .i64 t221, .int .i64 t213, .int .i64 t215, u217003] 55 (0, 0))) := ⟨(by rw [hw]; exact (by (with_reducible repeat (first | refine qI ?_ _ | refine qR ?_ | refine qJ ?_ _)); refine qj3 ?_ qh7.out _; (with_reducible repeat (first | refine qI ?_ _ | refine qR ?_ | refine qJ ?_ _)); refine qj3 ?_ qh7.out _; (with_reducible repeat (first | refine qI ?_ _ | refine qR ?_ | refine qJ ?_ _)); refine qj3 ?_ qh7.out _; (with_reducible repeat (first | refine qI ?_ _ | refine qR ?_ | refine qJ ?_ _)); exact jE.out))⟩; have qA4 : q8 (w39.heap[qP]? = some (.cells #[.bool ((qG ((qD t200 qO).f3) j4).f0), .int .i64 ((qG ((qD t200 qO).f3) j4).f1), .int .i64 ((qG ((qD t200 qO).f3) j4).f2)] 51 (0, 0))) := ⟨(by rw [hw]; exact (by (with_reducible repeat (first | refine qI ?_ _ | refine qR ?_ | refine qJ ?_ _)); refine qd4 (cs := #[.bool ((qG ((qD t200 qO).f3) j4).f0), .int .i64 ((qG ((qD t200 qO).f3) j4).f1), .int .i64 0]) ?_ 2 _ rfl; (with_reducible repeat (first | refine qI ?_ _ | refine qR ?_ | refine qJ ?_ _)); refine qd4 (cs := #[.bool ((qG ((qD t200 qO).f3) j4).f0), .int .i64 0, .int .i64 0]) ?_ 1 _ rfl; (with_reducible repeat (first | refine qI ?_ _ | refine qR ?_ | refine qJ ?_ _)); refine qd4 (cs := #[.bool false, .int .i64 0, .int .i64 0]) ?_ 0 _ rfl; (with_reducible repeat (first | refine qI ?_ _ | refine qR ?_ | refine qJ ?_ _)); exact jV.out))⟩; have qA5 : q8 (Below w.heap.size w w39) := ⟨(by rw [hw]; exact (by repeat (first | (with_reducible first | exact HB.out | apply qA | apply q9 | apply qB | refine qK ?_ qe7.out | refine qK ?_ qu5.out) | exact HB.out)))⟩; clear hw; clear zX; clear qa3; clear qU; clear qb9; clear qe6; clear qc8; clear jR; clear qg8; clear ql3; clear jE; clear jV; clear HB; have zX := n0_; have qa3 := n1_; have qU := n2_; have qb9 := n3_; have qe6 := n4_; have qc8 := n5_; have jR := n6_; have qg8 := n7_; have ql3 := n8_; have jE := n9_; have jV := qA4; have HB := qA5; clear n0_ n1_ n2_ n3_ n4_ n5_ n6_ n7_ n8_ n9_ qA4 qA5; have Qq8 : w39.cell? ⟨qP, 0, none⟩ = some (.bool ((qG ((qD t200 qO).f3) j4).f0)) := (qE jV.out 0).trans rfl; have Qq9 : w39.cell? ⟨qP, 1, none⟩ = some (.int .i64 ((qG ((qD t200 qO).f3) j4).f1)) := (qE jV.out 1).trans rfl; have Qr0 : w39.cell? ⟨qP, 2, none⟩ = some (.int .i64 ((qG ((qD t200 qO).f3) j4).f2)) := (qE jV.out 2).trans rfl; have Qr1 := qC jV.out 0; have Qr2 := qC jV.out 1; have Qr3 := qC jV.out 2; obtain ⟨zY7, zY8, eo41⟩ := Kd.qs6 qe6.out; subst eo41) | ((with_reducible refine qi8 (f := 45) rfl ?_); refine qG9 (some 72) rfl rfl Try.func45 (by kernel_rfl) rfl #[.slice zY7 qe2.length zY8, .int .i64 ((qG ((qD t200 qO).f3) j4).f1)] rfl (by (try simp only [List.map_toArray, List.map_cons, List.map_nil]); first | done | rfl | (simp only [List.length_drop, List.length_take]; rfl)) ?_; (with_reducible refine (jA.calls k2 (fun k_ => some k_ = (.slice zY7 qe2.length zY8 : Value).ownBlock) (.slice zY7 qe2.length zY8) qe2 ((qG ((qD t200 qO).f3) j4).f1) t229 t232 w _ ?qs8 ?qw0 A33.out).mono ?_); (case qs8 => repeat (first | (with_reducible first | exact HB.out | apply qA | apply q9 | apply qB | refine qK ?_ qe7.out | refine qK ?_ qu5.out) | exact HB.out)); (case qw0 => exact Kd.qX9 rfl qe6.out); rintro e w42 ⟨v230, rfl, ho0, hb, hkp⟩; refine ⟨_, rfl, ?_⟩; have n0_ := q8.mk (Kd.zJ (ok' := fun k_ => (P0_ k_ ∨ w.heap.size ≤ k_) ∧ some k_ ≠ (u3 : Value).ownBlock ∧ some k_ ≠ (.slice (some jS) t200.length qg7 : Value).ownBlock ∧ some k_ ≠ (v219 : Value).ownBlock ∧ some k_ ≠ (u7 : Value).ownBlock ∧ some k_ ≠ (u217003 : Value).ownBlock ∧ k_ ≠ qH ∧ k_ ≠ qP ∧ some k_ ≠ (v230 : Value).ownBlock) (Kd.jj4 (zX.out) hkp (fun k_ hk_ hs_ => (hk_.2.2.2.2.1) hs_)) (fun k_ hk_ => ⟨hk_.1.1, hk_.1.2.1, hk_.1.2.2.1, hk_.1.2.2.2.1, hk_.1.2.2.2.2.2.1, hk_.1.2.2.2.2.2.2.1, hk_.1.2.2.2.2.2.2.2.1, hk_.1.2.2.2.2.2.2.2.2, fun e_ => Or.elim (ho0.1 k_ e_.symm) (fun hs_ => hk_.2.1 hs_) (fun hn_ => Nat.not_le.2 hk_.2.2 hn_)⟩)); have n1_ := q8.mk (Kd.jZ (ok' := fun k_ => (P0_ k_ ∨ w.heap.size ≤ k_) ∧ some k_ ≠ (.slice (some jS) t200.length qg7 : Value).ownBlock ∧ some k_ ≠ (v219 : Value).ownBlock ∧ some k_ ≠ (u7 : Value).ownBlock ∧ some k_ ≠ (u217003 : Value).ownBlock ∧ k_ ≠ qH ∧ k_ ≠ qP ∧ some k_ ≠ (v230 : Value).ownBlock) (Kd.qB7 (qa3.out) hkp (fun k_ hk_ hs_ => (hk_.2.2.2.1) hs_)) (fun k_ hk_ => ⟨hk_.1.1, hk_.1.2.1, hk_.1.2.2.1, hk_.1.2.2.2.2.1, hk_.1.2.2.2.2.2.1, hk_.1.2.2.2.2.2.2.1, hk_.1.2.2.2.2.2.2.2, fun e_ => Or.elim (ho0.1 k_ e_.symm) (fun hs_ => hk_.2.1 hs_) (fun hn_ => Nat.not_le.2 hk_.2.2 hn_)⟩)); have n2_ := q8.mk (Kd.jZ (ok' := fun k_ => (P0_ k_ ∨ w.heap.size ≤ k_) ∧ some k_ ≠ (u3 : Value).ownBlock ∧ some k_ ≠ (v219 : Value).ownBlock ∧ some k_ ≠ (u7 : Value).ownBlock ∧ some k_ ≠ (u217003 : Value).ownBlock ∧ k_ ≠ qH ∧ k_ ≠ qP ∧ some k_ ≠ (v230 : Value).ownBlock) (Kd.qB7 (qU.out) hkp (fun k_ hk_ hs_ => (hk_.2.2.2.1) hs_)) (fun k_ hk_ => ⟨hk_.1.1, hk_.1.2.1, hk_.1.2.2.1, hk_.1.2.2.2.2.1, hk_.1.2.2.2.2.2.1, hk_.1.2.2.2.2.2.2.1, hk_.1.2.2.2.2.2.2.2, fun e_ => Or.elim (ho0.1 k_ e_.symm) (fun hs_ => hk_.2.1 hs_) (fun hn_ => Nat.not_le.2 hk_.2.2 hn_)⟩)); have n3_ := q8.mk (Kd.jK (ok' := fun k_ => (w.heap.size ≤ k_) ∧ some k_ ≠ (u7 : Value).ownBlock ∧ some k_ ≠ (v230 : Value).ownBlock) (Kd.qs9 (qb9.out) hkp (fun k_ hk_ hs_ => (hk_.2.1) hs_)) (fun k_ hk_ => ⟨hk_.1.1, hk_.1.2.2, fun e_ => Or.elim (ho0.1 k_ e_.symm) (fun hs_ => hk_.2.1 hs_) (fun hn_ => Nat.not_le.2 hk_.2.2 hn_)⟩)); have n4_ := q8.mk (Kd.jK (ok' := fun k_ => (w.heap.size ≤ k_) ∧ some k_ ≠ (v219 : Value).ownBlock ∧ some k_ ≠ (v230 : Value).ownBlock) (Kd.qs9 (qc8.out) hkp (fun k_ hk_ hs_ => (hk_.2.2) hs_)) (fun k_ hk_ => ⟨hk_.1.1, hk_.1.2.1, fun e_ => Or.elim (ho0.1 k_ e_.symm) (fun hs_ => hk_.2.1 hs_) (fun hn_ => Nat.not_le.2 hk_.2.2 hn_)⟩)); have n5_ := q8.mk (Kd.jK (ok' := fun k_ => (w.heap.size ≤ k_) ∧ k_ ≠ qP) (Kd.qs9 ((Kd.qk2 jR.out (Kd.qj4 qe6.out) (by decide))) hkp (fun k_ hk_ hs_ => (hk_.2) hs_)) (fun k_ hk_ => ⟨hk_.1.1.1, hk_.1.1.2⟩)); have n6_ := q8.mk (qA6 (by (with_reducible repeat (first | refine qI ?_ _ | refine qR ?_ | refine qJ ?_ _)); exact jE.out) hkp (fun hs_ => (fun e_ => (Kd.jE8 qe6.out jE.out (by decide)) e_) hs_)); have n7_ := q8.mk (qA6 (by (with_reducible repeat (first | refine qI ?_ _ | refine qR ?_ | refine qJ ?_ _)); exact jV.out) hkp (fun hs_ => (fun e_ => (Kd.jE8 qe6.out jV.out (by decide)) e_) hs_)); have n8_ := q8.mk (Kd.jK (ok' := fun k_ => (w.heap.size ≤ k_) ∧ some k_ ≠ (v219 : Value).ownBlock ∧ some k_ ≠ (u7 : Value).ownBlock) ho0 (fun k_ hk_ => ⟨Or.elim hk_ (fun hs_ => (qe6.out.1 k_ (hs_).symm).1) (fun hn_ => (Nat.le_trans (qM (by repeat (first | (with_reducible first | exact HB.out | apply qA | apply q9 | apply qB | refine qK ?_ qe7.out | refine qK ?_ qu5.out) | exact HB.out))) hn_)), Or.elim hk_ (fun hs_ => fun e_ => (((qb9.out).1 k_ e_.symm).2.1) hs_) (fun hn_ => (Kd.fresh' (Kd.qK4 (by (with_reducible repeat (first | apply Kd.qV | apply Kd.qW | apply Kd.jB)); exact qb9.out)) k_ hn_)), Or.elim hk_ (fun hs_ => fun e_ => (((qc8.out).1 k_ e_.symm).2.2) hs_) (fun hn_ => (Kd.fresh' (Kd.qK4 (by (with_reducible repeat (first | apply Kd.qV | apply Kd.qW | apply Kd.jB)); exact qc8.out)) k_ hn_))⟩)); have n9_ := q8.mk (hb); clear zX; clear qa3; clear qU; clear qb9; clear qc8; clear jR; clear jE; clear jV; clear HB; clear qe6; clear qg8; clear ql3; have zX := n0_; have qa3 := n1_; have qU := n2_; have qb9 := n3_; have qc8 := n4_; have jR := n5_; have jE := n6_; have jV := n7_; have qw1 := n8_; have HB := n9_; clear n0_ n1_ n2_ n3_ n4_ n5_ n6_ n7_ n8_ n9_; (try clear hb); (try clear hkp); (try clear ho0); have Qr4 : w42.cell? ⟨qP, 0, none⟩ = some (.bool ((qG ((qD t200 qO).f3) j4).f0)) := (qE jV.out 0).trans rfl; have Qr5 : w42.cell? ⟨qP, 1, none⟩ = some (.int .i64 ((qG ((qD t200 qO).f3) j4).f1)) := (qE jV.out 1).trans rfl; have Qr6 : w42.cell? ⟨qP, 2, none⟩ = some (.int .i64 ((qG ((qD t200 qO).f3) j4).f2)) := (qE jV.out 2).trans rfl; have Qr7 := qC jV.out 0; have Qr8 := qC jV.out 1; have Qr9 := qC jV.out 2; have Qs0 : w42.cell? ⟨qH, 0, none⟩ = some (.int .i64 t221) := (qE jE.out 0).trans rfl; have Qs1 : w42.cell? ⟨qH, 1, none⟩ = some (.int .i64 t213) := (qE jE.out 1).trans rfl; have Qs2 : w42.cell? ⟨qH, 2, none⟩ = some (.int .i64 t215) := (qE jE.out 2).trans rfl; have Qs3 : w42.cell? ⟨qH, 3, none⟩ = some (u217003) := (qE jE.out 3).trans rfl; have Qs4 := qC jE.out 0; have Qs5 := qC jE.out 1; have Qs6 := qC jE.out 2; have Qs7 := qC jE.out 3) | ((with_reducible refine ql0 (b := .append) (xs := #[.tmp 92, .tmp 94]) rfl ?_); at_builtin; refine Kd.qX3 k51 (w0 := w) w.heap.size rfl (.tmp 92) (.tmp 94) 53 51 (.agg #[(.bool false), (.int .i64 0), (.int .i64 0)]) 24 rfl Try.underlying53 zt0 rfl (by decide) (by omega) u217003 zU (⟨(qG ((qD t200 qO).f3) j4).f0, t232, (qG ((qD t200 qO).f3) j4).f2⟩ : S51) [.bool ((qG ((qD t200 qO).f3) j4).f0), .int .i64 t232, .int .i64 ((qG ((qD t200 qO).f3) j4).f2)] (fun k_ => (w.heap.size ≤ k_) ∧ k_ ≠ qP) (fun _ => False) rfl (by first | (go_simp; done) | (go_simp; rfl)) ?aP (fun _ hk => hk.elim) ?aF ?aO ?aB ?aS ?aL ?_; (case aP => exact zh6 _ _ _ (⟨(qG ((qD t200 qO).f3) j4).f0, t232, (qG ((qD t200 qO).f3) j4).f2⟩ : S51)); (case aB => exact (by repeat (first | (with_reducible first | exact HB.out | apply qA | apply q9 | apply qB | refine qK ?_ qe7.out | refine qK ?_ qu5.out) | exact HB.out))); (case aF => exact (fun k_ hk => ⟨(Nat.le_trans (qM (by repeat (first | (with_reducible first | exact HB.out | apply qA | apply q9 | apply qB | refine qK ?_ qe7.out | refine qK ?_ qu5.out) | exact HB.out))) hk), Kd.jY8 (g := qP) (o := .cells #[.bool ((qG ((qD t200 qO).f3) j4).f0), .int .i64 t232, .int .i64 ((qG ((qD t200 qO).f3) j4).f2)] 51 (0, 0)) (by (with_reducible repeat (first | refine qI ?_ _ | refine qR ?_ | refine qJ ?_ _)); refine qd4 (cs := #[.bool ((qG ((qD t200 qO).f3) j4).f0), .int .i64 ((qG ((qD t200 qO).f3) j4).f1), .int .i64 ((qG ((qD t200 qO).f3) j4).f2)]) ?_ 1 _ rfl; (with_reducible repeat (first | refine qI ?_ _ | refine qR ?_ | refine qJ ?_ _)); exact jV.out) k_ hk⟩)); (case aO => exact (by (with_reducible repeat (first | apply Kd.qV | apply Kd.qW | apply Kd.jB)); exact Kd.jK (Kd.zK (p := ⟨qP, 1, none⟩) (Kd.jK jR.out (fun k_ hk => (⟨hk, hk.2⟩ : _ ∧ k_ ≠ qP))) (fun _ hk => hk.2) (.int .i64 t232)) (fun _ hk => ⟨hk.1.1, hk.1.2⟩))); (case aS => exact (qM (by repeat (first | (with_reducible first | exact HB.out | apply qA | apply q9 | apply qB | refine qK ?_ qe7.out | refine qK ?_ qu5.out) | exact HB.out)))); (case aL => have := Qj7.out; omega); intro v234 w45 ho hb hg hat; rw [← Qj8.out] at ho; have n0_ := q8.mk (Kd.qm5 (ok := (fun k_ => (P0_ k_ ∨ w.heap.size ≤ k_) ∧ some k_ ≠ (u3 : Value).ownBlock ∧ some k_ ≠ (.slice (some jS) t200.length qg7 : Value).ownBlock ∧ some k_ ≠ (v219 : Value).ownBlock ∧ some k_ ≠ (u7 : Value).ownBlock ∧ some k_ ≠ (v230 : Value).ownBlock ∧ k_ ≠ qH ∧ k_ ≠ qP)) (by (with_reducible repeat (first | apply Kd.jO | apply Kd.jP | apply Kd.z8)); exact Kd.zJ (Kd.qf4 (p := ⟨qP, 1, none⟩) (Kd.zJ zX.out (fun k_ hk => (⟨hk, hk.2.2.2.2.2.2.2.1⟩ : _ ∧ k_ ≠ qP))) (fun _ hk => hk.2) (.int .i64 t232)) (fun _ hk => ⟨⟨hk.1.1, ⟨hk.1.2.1, ⟨hk.1.2.2.1, ⟨hk.1.2.2.2.1, ⟨hk.1.2.2.2.2.1, ⟨hk.1.2.2.2.2.2.2.2.2, ⟨hk.1.2.2.2.2.2.2.1, hk.1.2.2.2.2.2.2.2.1⟩⟩⟩⟩⟩⟩⟩, hk.1.2.2.2.2.2.1⟩)) hg hat); have n1_ := q8.mk (Kd.qo3 (ok := (fun k_ => (P0_ k_ ∨ w.heap.size ≤ k_) ∧ some k_ ≠ (.slice (some jS) t200.length qg7 : Value).ownBlock ∧ some k_ ≠ (v219 : Value).ownBlock ∧ some k_ ≠ (u7 : Value).ownBlock ∧ some k_ ≠ (v230 : Value).ownBlock ∧ k_ ≠ qH ∧ k_ ≠ qP)) (by (with_reducible repeat (first | apply Kd.jC | apply Kd.jD | apply Kd.jG)); exact Kd.jZ (Kd.qg2 (p := ⟨qP, 1, none⟩) (Kd.jZ qa3.out (fun k_ hk => (⟨hk, hk.2.2.2.2.2.2.1⟩ : _ ∧ k_ ≠ qP))) (fun _ hk => hk.2) (.int .i64 t232)) (fun _ hk => ⟨⟨hk.1.1, ⟨hk.1.2.1, ⟨hk.1.2.2.1, ⟨hk.1.2.2.2.1, ⟨hk.1.2.2.2.2.2.2.2, ⟨hk.1.2.2.2.2.2.1, hk.1.2.2.2.2.2.2.1⟩⟩⟩⟩⟩⟩, hk.1.2.2.2.2.1⟩)) hg hat); have n2_ := q8.mk (Kd.qo3 (ok := (fun k_ => (P0_ k_ ∨ w.heap.size ≤ k_) ∧ some k_ ≠ (u3 : Value).ownBlock ∧ some k_ ≠ (v219 : Value).ownBlock ∧ some k_ ≠ (u7 : Value).ownBlock ∧ some k_ ≠ (v230 : Value).ownBlock ∧ k_ ≠ qH ∧ k_ ≠ qP)) (by (with_reducible repeat (first | apply Kd.jC | apply Kd.jD | apply Kd.jG)); exact Kd.jZ (Kd.qg2 (p := ⟨qP, 1, none⟩) (Kd.jZ qU.out (fun k_ hk => (⟨hk, hk.2.2.2.2.2.2.1⟩ : _ ∧ k_ ≠ qP))) (fun _ hk => hk.2) (.int .i64 t232)) (fun _ hk => ⟨⟨hk.1.1, ⟨hk.1.2.1, ⟨hk.1.2.2.1, ⟨hk.1.2.2.2.1, ⟨hk.1.2.2.2.2.2.2.2, ⟨hk.1.2.2.2.2.2.1, hk.1.2.2.2.2.2.2.1⟩⟩⟩⟩⟩⟩, hk.1.2.2.2.2.1⟩)) hg hat); have n3_ := q8.mk (Kd.qy9 (by (with_reducible repeat (first | apply Kd.qV | apply Kd.qW | apply Kd.jB)); exact (Kd.jK (Kd.zK (p := ⟨qP, 1, none⟩) (Kd.qb3 qb9.out jV.out (by decide)) (fun _ hk => hk.2) (.int .i64 t232)) (fun _ h_ => h_.1))) (Kd.qj4 (by (with_reducible repeat (first | apply Kd.qV | apply Kd.qW | apply Kd.jB)); exact (Kd.jK (Kd.zK (p := ⟨qP, 1, none⟩) (Kd.jK jR.out (fun k_ hk => (⟨hk, hk.2⟩ : _ ∧ k_ ≠ qP))) (fun _ hk => hk.2) (.int .i64 t232)) (fun _ h_ => h_.1)))) (by decide) hg); have n4_ := q8.mk (Kd.qy9 (by (with_reducible repeat (first | apply Kd.qV | apply Kd.qW | apply Kd.jB)); exact (Kd.jK (Kd.zK (p := ⟨qP, 1, none⟩) (Kd.qb3 qc8.out jV.out (by decide)) (fun _ hk => hk.2) (.int .i64 t232)) (fun _ h_ => h_.1))) (Kd.qj4 (by (with_reducible repeat (first | apply Kd.qV | apply Kd.qW | apply Kd.jB)); exact (Kd.jK (Kd.zK (p := ⟨qP, 1, none⟩) (Kd.jK jR.out (fun k_ hk => (⟨hk, hk.2⟩ : _ ∧ k_ ≠ qP))) (fun _ hk => hk.2) (.int .i64 t232)) (fun _ h_ => h_.1)))) (by decide) hg); have n5_ := q8.mk (qE6 (g := qH) (o := .cells #[.int .i64 t221, .int .i64 t213, .int .i64 t215, u217003] 55 (0, 0)) (by (with_reducible repeat (first | refine qI ?_ _ | refine qR ?_ | refine qJ ?_ _)); refine qj3 ?_ qh7.out _; (with_reducible repeat (first | refine qI ?_ _ | refine qR ?_ | refine qJ ?_ _)); exact jE.out) hg (Kd.jE8 jR.out jE.out (by decide))); have n6_ := q8.mk (qE6 (g := qP) (o := .cells #[.bool ((qG ((qD t200 qO).f3) j4).f0), .int .i64 t232, .int .i64 ((qG ((qD t200 qO).f3) j4).f2)] 51 (0, 0)) (by (with_reducible repeat (first | refine qI ?_ _ | refine qR ?_ | refine qJ ?_ _)); refine qd4 (cs := #[.bool ((qG ((qD t200 qO).f3) j4).f0), .int .i64 ((qG ((qD t200 qO).f3) j4).f1), .int .i64 ((qG ((qD t200 qO).f3) j4).f2)]) ?_ 1 _ rfl; (with_reducible repeat (first | refine qI ?_ _ | refine qR ?_ | refine qJ ?_ _)); exact jV.out) hg (Kd.zx0 jR.out (fun _ hk => hk.2))); have n7_ := q8.mk (Kd.qy9 (by (with_reducible repeat (first | apply Kd.qV | apply Kd.qW | apply Kd.jB)); exact (Kd.jK (Kd.zK (p := ⟨qP, 1, none⟩) (Kd.qb3 qw1.out jV.out (by decide)) (fun _ hk => hk.2) (.int .i64 t232)) (fun _ h_ => h_.1))) (Kd.qj4 (by (with_reducible repeat (first | apply Kd.qV | apply Kd.qW | apply Kd.jB)); exact (Kd.jK (Kd.zK (p := ⟨qP, 1, none⟩) (Kd.jK jR.out (fun k_ hk => (⟨hk, hk.2⟩ : _ ∧ k_ ≠ qP))) (fun _ hk => hk.2) (.int .i64 t232)) (fun _ h_ => h_.1)))) (by decide) hg); have n8_ := q8.mk (hb); have n9_ := q8.mk (ho); clear zX; clear qa3; clear qU; clear qb9; clear qc8; clear jE; clear jV; clear qw1; clear HB; clear jR; have zX := n0_; have qa3 := n1_; have qU := n2_; have qb9 := n3_; have qc8 := n4_; have jE := n5_; have jV := n6_; have qw1 := n7_; have HB := n8_; have zT1 := n9_; clear n0_ n1_ n2_ n3_ n4_ n5_ n6_ n7_ n8_ n9_; clear ho hb hg hat; obtain ⟨jO4, jO5, eo46⟩ := Kd.qs6 zT1.out; subst eo46; have Qs8 : w45.cell? ⟨qH, 0, none⟩ = some (.int .i64 t221) := (qE jE.out 0).trans rfl; have Qs9 : w45.cell? ⟨qH, 1, none⟩ = some (.int .i64 t213) := (qE jE.out 1).trans rfl; have Qt0 : w45.cell? ⟨qH, 2, none⟩ = some (.int .i64 t215) := (qE jE.out 2).trans rfl; have Qt1 : w45.cell? ⟨qH, 3, none⟩ = some (u217003) := (qE jE.out 3).trans rfl; have Qt2 := qC jE.out 0; have Qt3 := qC jE.out 1; have Qt4 := qC jE.out 2; have Qt5 := qC jE.out 3))
             go_roundg k2
             case measure => have := HK1.out; have := HK2.out; omega
             case rel => exact ⟨(t229), (qf3), (wrap64 (j4 + 1)), (y233), (.slice jO4 y233.length jO5), (by first | rfl | (simp; done) | (simp [*]; done)), H', ⟨by have := HK1.out; have := HK2.out; omega⟩, ⟨by (with_reducible repeat (first | apply Kd.jO | apply Kd.jP | apply Kd.z8)); exact Kd.zJ (Kd.qf4 (p := ⟨qH, 3, none⟩) (Kd.zJ zX.out (fun k_ hk => (⟨hk, hk.1.2.2.2.2.2.2.1⟩ : _ ∧ k_ ≠ qH))) (fun _ hk => hk.2) (.slice jO4 y233.length jO5)) (fun _ hk => ⟨hk.1.1.1, ⟨hk.1.1.2.1, ⟨hk.1.1.2.2.1, ⟨hk.1.1.2.2.2.1, ⟨hk.1.1.2.2.2.2.2.1, ⟨hk.1.1.2.2.2.2.1, ⟨hk.1.2, hk.1.1.2.2.2.2.2.2.1⟩⟩⟩⟩⟩⟩⟩)⟩, ⟨by (with_reducible repeat (first | apply Kd.jC | apply Kd.jD | apply Kd.jG)); exact Kd.jZ (Kd.qg2 (p := ⟨qH, 3, none⟩) (Kd.jZ qa3.out (fun k_ hk => (⟨hk, hk.1.2.2.2.2.2.1⟩ : _ ∧ k_ ≠ qH))) (fun _ hk => hk.2) (.slice jO4 y233.length jO5)) (fun _ hk => ⟨hk.1.1.1, ⟨hk.1.1.2.1, ⟨hk.1.1.2.2.1, ⟨hk.1.1.2.2.2.2.1, ⟨hk.1.1.2.2.2.1, ⟨hk.1.2, hk.1.1.2.2.2.2.2.1⟩⟩⟩⟩⟩⟩)⟩, ⟨by (with_reducible repeat (first | apply Kd.jC | apply Kd.jD | apply Kd.jG)); exact Kd.jZ (Kd.qg2 (p := ⟨qH, 3, none⟩) (Kd.jZ qU.out (fun k_ hk => (⟨hk, hk.1.2.2.2.2.2.1⟩ : _ ∧ k_ ≠ qH))) (fun _ hk => hk.2) (.slice jO4 y233.length jO5)) (fun _ hk => ⟨hk.1.1.1, ⟨hk.1.1.2.1, ⟨hk.1.1.2.2.1, ⟨hk.1.1.2.2.2.2.1, ⟨hk.1.1.2.2.2.1, ⟨hk.1.2, hk.1.1.2.2.2.2.2.1⟩⟩⟩⟩⟩⟩)⟩, ⟨by (with_reducible repeat (first | apply Kd.qV | apply Kd.qW | apply Kd.jB)); exact Kd.jK (Kd.zK (p := ⟨qH, 3, none⟩) (Kd.qb3 qb9.out jE.out (by decide)) (fun _ hk => hk.2) (.slice jO4 y233.length jO5)) (fun _ hk => ⟨hk.1.1, ⟨hk.1.2.2, hk.1.2.1⟩⟩)⟩, ⟨by (with_reducible repeat (first | apply Kd.qV | apply Kd.qW | apply Kd.jB)); exact Kd.jK (Kd.zK (p := ⟨qH, 3, none⟩) (Kd.qb3 qw1.out jE.out (by decide)) (fun _ hk => hk.2) (.slice jO4 y233.length jO5)) (fun _ hk => ⟨hk.1.1, ⟨hk.1.2.1, hk.1.2.2⟩⟩)⟩, ⟨by (with_reducible repeat (first | apply Kd.qV | apply Kd.qW | apply Kd.jB)); exact Kd.jK (Kd.zK (p := ⟨qH, 3, none⟩) (Kd.qb3 qc8.out jE.out (by decide)) (fun _ hk => hk.2) (.slice jO4 y233.length jO5)) (fun _ hk => ⟨hk.1.1, ⟨hk.1.2.1, hk.1.2.2⟩⟩)⟩, ⟨by (with_reducible repeat (first | apply Kd.qV | apply Kd.qW | apply Kd.jB)); exact Kd.jK (Kd.zK (p := ⟨qH, 3, none⟩) (Kd.qb3 zT1.out jE.out (by decide)) (fun _ hk => hk.2) (.slice jO4 y233.length jO5)) (fun _ hk => hk.1.1)⟩, ⟨by (with_reducible repeat (first | refine qI ?_ _ | refine qR ?_ | refine qJ ?_ _)); refine qd4 (cs := #[.int .i64 t221, .int .i64 t213, .int .i64 t215, u217003]) ?_ 3 _ rfl; (with_reducible repeat (first | refine qI ?_ _ | refine qR ?_ | refine qJ ?_ _)); exact jE.out⟩, ⟨by repeat (first | (with_reducible first | exact HB.out | apply qA | apply q9 | apply qB | refine qK ?_ qe7.out | refine qK ?_ qu5.out) | exact HB.out)⟩⟩
            ·rw [if_neg c35] at H
             exact absurd H (by simp)
           ·rw [if_neg c34] at H
            have Qj5 : (((qG ((qD t200 qO).f3) j4).f2) == 0) = false := beq_eq_false_iff_ne.mpr c34
            have Qj6 : (((qG ((qD t200 qO).f3) j4).f2) != 0) = true := bne_iff_ne.mpr c34
            replace H := Option.bind_eq_some_iff.mp H
            obtain ⟨⟨t236, t239⟩, A480, H⟩ := H
            replace H : (if zU.length < 5864062014805 then (qL.l1 k2 l0 qk1 t200 t218 t229 t236 qO (wrap64 (j4 + 1)) t221 t213 t215 (zU ++ [(⟨(qG ((qD t200 qO).f3) j4).f0, t232, wrap64 (t239 + 1)⟩ : S51)])) else (none)) = some r := H
            have A48 := q8.mk A480
            clear A480
            by_cases c49 : zU.length < 5864062014805
            ·rw [if_pos c49] at H
             have Qk1 := q8.mk c49
             clear c49
             obtain ⟨y240, jO6⟩ : ∃ y_ : List (S51), y_ = (zU ++ [(⟨(qG ((qD t200 qO).f3) j4).f0, t232, wrap64 (t239 + 1)⟩ : S51)]) := ⟨_, rfl⟩
             replace H : (qL.l1 k2 l0 qk1 t200 t218 t229 t236 qO (wrap64 (j4 + 1)) t221 t213 t215 y240) = some r := by first | (rw [jO6]; with_reducible exact H) | (have H2_ := (Option.bind_some _ _).symm.trans H; rw [jO6]; with_reducible exact H2_) | (have H2_ := (Option.bind_some _ _).symm.trans H; with_reducible exact H2_) | with_reducible exact H | (rw [jO6]; exact H) | exact H
             have Qk2 := q8.mk jO6
             clear jO6
             have H' := q8.mk H
             clear H
             have qY0 : 0 ≤ (qO : Int) := of_decide_eq_true (by first | (with_reducible assumption) | assumption)
             have qY1 : qO < (t200.length : Int) := of_decide_eq_true (by first | (with_reducible assumption) | assumption)
             obtain ⟨jO1, zw4, je5, e222, zh0, zh1, zh2, qH0, qB8, qB9⟩ := qa4 (Kd.zV qU.out).2.2 qO qY0 qY1
             obtain rfl : jS = jO1 := (by injection e222)
             obtain ⟨zT0, jm6, jm7, qL9⟩ := Kd.qE4 qU.out z55 qO qY0 (by first | exact qY1 | exact of_decide_eq_true (by first | (with_reducible assumption) | assumption) | (have e_ := (Kd.zV qU.out).1; omega))
             obtain ⟨zh3, zh4, rfl, qt0, qt1⟩ := qh6 jm7
             have qn4 := qL9 3 _ rfl
             rw [zM _ _ 3 (by omega)] at qn4
             replace qn4 := Option.some.inj (qn4.symm.trans qH0)
             injection qn4 with qm6 qx0 qm7
             rw [qm6] at qt1
             rw [qm7] at qt0
             have qg8 := q8.mk (show Kd.V k51 51 _ w.heap.size _ _ ((qD t200 qO).f3) from Kd.qP3 qt0 qt1)
             clear qm6 qx0 qm7 qt1 qt0
             clear qL9 jm6
             have qv5 := q8.mk qB9
             have zh5 := q8.mk qB8
             clear qB9 qB8
             replace qY0 := eq_true qY0
             replace qY1 := eq_true qY1
             have jE9 : 0 ≤ (qO : Int) := of_decide_eq_true (by first | (with_reducible assumption) | assumption)
             have jF0 : qO < (t200.length : Int) := of_decide_eq_true (by first | (with_reducible assumption) | assumption)
             obtain ⟨zw5, zY5, zY6, e226, zI3, zI4, zI5, qY2, qY3, qY4⟩ := qa4 (Kd.zV qU.out).2.2 qO jE9 jF0
             obtain rfl : jS = zw5 := (by injection e226)
             obtain ⟨Qj9, jY4, jY5, jm8⟩ := Kd.qE4 qU.out z55 qO jE9 (by first | exact jF0 | exact of_decide_eq_true (by first | (with_reducible assumption) | assumption) | (have e_ := (Kd.zV qU.out).1; omega))
             obtain ⟨zI6, zI7, rfl, qH1, qH2⟩ := qh6 jY5
             have qy8 := jm8 3 _ rfl
             rw [zM _ _ 3 (by omega)] at qy8
             replace qy8 := Option.some.inj (qy8.symm.trans qY2)
             injection qy8 with qm6 qx0 qm7
             rw [qm6] at qH2
             rw [qm7] at qH1
             have ql3 := q8.mk (show Kd.V k51 51 _ w.heap.size _ _ ((qD t200 qO).f3) from Kd.qP3 qH1 qH2)
             clear qm6 qx0 qm7 qH2 qH1
             clear jm8 jY4
             have qp0 := q8.mk qY4
             have zI8 := q8.mk qY3
             clear qY4 qY3
             replace jE9 := eq_true jE9
             replace jF0 := eq_true jF0
             have ea_ := Option.some.inj (qH0.symm.trans qY2)
             injection ea_ with ea_ en_ ec_
             subst ea_
             subst ec_
             clear en_
             have jY6 : 0 ≤ (j4 : Int) := of_decide_eq_true (by first | (with_reducible assumption) | assumption)
             have jY7 : j4 < (((qD t200 qO).f3).length : Int) := of_decide_eq_true (by first | (with_reducible assumption) | assumption)
             obtain ⟨jO2, e227, zI9, zJ0, zJ1⟩ := qr0 (by repeat (first | (with_reducible exact qp0.out) | (with_reducible refine Kd.qi1 ?_ _) | (with_reducible refine Kd.qi2 ?_ _) | (with_reducible refine Kd.qn1 ?_) | exact qp0.out)) j4 jY6 jY7
             cases e227
             replace jY6 := eq_true jY6
             replace jY7 := eq_true jY7
             go_wp2_with (first | ((with_reducible refine zY (N := 11) rfl ?_); refine qa5 ?hg (N := 11) ?hd (cs := #[.bool false, .int .i64 0, .int .i64 0]) (t := 51) ?hr ?_; (case hd => rfl); (case hg => rfl); (case hr => first | (go_simp; done) | (go_simp; rfl)); intro qP hg w50 qb4 hb; have n0_ := q8.mk (Kd.ql1 (Kd.qh9 (by (with_reducible repeat (first | apply Kd.jO | apply Kd.jP | apply Kd.z8)); exact zX.out) qP (Nat.le_of_eq hg.symm)) hb); have n1_ := q8.mk (Kd.qn3 (Kd.qq5 (by (with_reducible repeat (first | apply Kd.jC | apply Kd.jD | apply Kd.jG)); exact qa3.out) qP (Nat.le_of_eq hg.symm)) hb); have n2_ := q8.mk (Kd.qn3 (Kd.qq5 (by (with_reducible repeat (first | apply Kd.jC | apply Kd.jD | apply Kd.jG)); exact qU.out) qP (Nat.le_of_eq hg.symm)) hb); have n3_ := q8.mk (Kd.qg1 (by (with_reducible repeat (first | apply Kd.qV | apply Kd.qW | apply Kd.jB)); exact qb9.out) hb); have n4_ := q8.mk (Kd.qg1 (by (with_reducible repeat (first | apply Kd.qV | apply Kd.qW | apply Kd.jB)); exact qe6.out) hb); have n5_ := q8.mk (Kd.qg1 (by (with_reducible repeat (first | apply Kd.qV | apply Kd.qW | apply Kd.jB)); exact qc8.out) hb); have n6_ := q8.mk (Kd.qg1 (Kd.jO3 (by (with_reducible repeat (first | apply Kd.qV | apply Kd.qW | apply Kd.jB)); exact jR.out) qP (Nat.le_of_eq hg.symm)) hb); have n7_ := q8.mk (Kd.ql1 (Kd.qh9 (by (with_reducible repeat (first | apply Kd.jO | apply Kd.jP | apply Kd.z8)); exact qg8.out) qP (Nat.le_of_eq hg.symm)) hb); have n8_ := q8.mk (Kd.ql1 (Kd.qh9 (by (with_reducible repeat (first | apply Kd.jO | apply Kd.jP | apply Kd.z8)); exact ql3.out) qP (Nat.le_of_eq hg.symm)) hb); have n9_ := q8.mk (qn0 (g := qH) (o := .cells #[.int .i64 t221, .int .i64 t213, .int .i64 t215, u217003] 55 (0, 0)) (by (with_reducible repeat (first | refine qI ?_ _ | refine qR ?_ | refine qJ ?_ _)); exact jE.out) hb); have qA4 := q8.mk (Kd.ql2 (by repeat (first | (with_reducible exact qv5.out) | (with_reducible refine Kd.qi1 ?_ _) | (with_reducible refine Kd.qi2 ?_ _) | (with_reducible refine Kd.qn1 ?_) | exact qv5.out)) hb); have qA5 := q8.mk (Kd.ql2 (by repeat (first | (with_reducible exact qp0.out) | (with_reducible refine Kd.qi1 ?_ _) | (with_reducible refine Kd.qi2 ?_ _) | (with_reducible refine Kd.qn1 ?_) | exact qp0.out)) hb); have qX7 := q8.mk (jM (by repeat (first | (with_reducible first | exact HB.out | apply qA | apply q9 | apply qB | refine qK ?_ qe7.out) | exact HB.out)) hb); have qX8 := q8.mk (qb4); have zw6 := q8.mk ((by rw [hg]; exact (qM (by repeat (first | (with_reducible first | exact HB.out | apply qA | apply q9 | apply qB | refine qK ?_ qe7.out) | exact HB.out))) : w.heap.size ≤ qP)); have zw7 := q8.mk ((by rw [hg]; exact (qM (by repeat (first | (with_reducible first | exact HB.out | apply qA | apply q9 | apply qB | refine qK ?_ qe7.out) | exact HB.out))) : w.heap.size ≤ qP)); have zw8 := q8.mk ((by rw [hg]; exact Nat.ne_of_lt (qt2 (g := qH) (o := .cells #[.int .i64 t221, .int .i64 t213, .int .i64 t215, u217003] 55 (0, 0)) (by (with_reducible repeat (first | refine qI ?_ _ | refine qR ?_ | refine qJ ?_ _)); exact jE.out)) : qH ≠ qP)); have zw9 := q8.mk ((by rw [hg]; exact Nat.ne_of_gt (qt2 (g := qH) (o := .cells #[.int .i64 t221, .int .i64 t213, .int .i64 t215, u217003] 55 (0, 0)) (by (with_reducible repeat (first | refine qI ?_ _ | refine qR ?_ | refine qJ ?_ _)); exact jE.out)) : qP ≠ qH)); clear zX; clear qa3; clear qU; clear qb9; clear qe6; clear qc8; clear jR; clear qg8; clear ql3; clear jE; clear qv5; clear qp0; clear HB; have zX := n0_; have qa3 := n1_; have qU := n2_; have qb9 := n3_; have qe6 := n4_; have qc8 := n5_; have jR := n6_; have qg8 := n7_; have ql3 := n8_; have jE := n9_; have qv5 := qA4; have qp0 := qA5; have HB := qX7; have jV := qX8; have Qk0 := zw6; have qu5 := zw7; have qh7 := zw8; have je6 := zw9; clear n0_ n1_ n2_ n3_ n4_ n5_ n6_ n7_ n8_ n9_ qA4 qA5 qX7 qX8 zw6 zw7 zw8 zw9; clear hb qb4 hg; have hnb51 := je6.out; have hnc51 := qh7.out; have Qt6 : w50.cell? ⟨qP, 0, none⟩ = some (.bool false) := (qE jV.out 0).trans rfl; have Qt7 : w50.cell? ⟨qP, 1, none⟩ = some (.int .i64 0) := (qE jV.out 1).trans rfl; have Qt8 : w50.cell? ⟨qP, 2, none⟩ = some (.int .i64 0) := (qE jV.out 2).trans rfl; have Qt9 := qC jV.out 0; have Qu0 := qC jV.out 1; have Qu1 := qC jV.out 2) | ((with_reducible refine qS1 (t := 51) (p := 11) rfl ?_); refine qM0 (t := 51) (p := 11) (v := ?vo_w53) (w1 := (((w50.setCell ⟨qP, 0, none⟩ (.bool ((qG ((qD t200 qO).f3) j4).f0))).setCell ⟨qP, 1, none⟩ (.int .i64 ((qG ((qD t200 qO).f3) j4).f1))).setCell ⟨qP, 2, none⟩ (.int .i64 ((qG ((qD t200 qO).f3) j4).f2)))) ?hg ?ho ?hn ?hr ?_; (case ho => rfl); (case hg => rfl); (case hn => rfl); (case hr => first | (go_simp; done) | (go_simp; rfl)); intro w53 hw; have n0_ : q8 (Kd.V k55 55 w53 w.heap.size (fun k_ => (P0_ k_ ∨ w.heap.size ≤ k_) ∧ some k_ ≠ (u3 : Value).ownBlock ∧ some k_ ≠ (.slice (some jS) t200.length qg7 : Value).ownBlock ∧ some k_ ≠ (v219 : Value).ownBlock ∧ some k_ ≠ (u6 : Value).ownBlock ∧ some k_ ≠ (u7 : Value).ownBlock ∧ some k_ ≠ (u217003 : Value).ownBlock ∧ k_ ≠ qH ∧ k_ ≠ qP) (.slice A0 l0.length c0) l0) := ⟨(by rw [hw]; exact (by (with_reducible repeat (first | apply Kd.jO | apply Kd.jP | apply Kd.z8)); exact Kd.zJ (Kd.qf4 (p := ⟨qP, 2, none⟩) (Kd.qf4 (p := ⟨qP, 1, none⟩) (Kd.qf4 (p := ⟨qP, 0, none⟩) (Kd.zJ zX.out (fun k_ hk => (⟨hk, hk.2⟩ : _ ∧ k_ ≠ qP))) (fun _ hk => hk.2) (.bool ((qG ((qD t200 qO).f3) j4).f0))) (fun _ hk => hk.2) (.int .i64 ((qG ((qD t200 qO).f3) j4).f1))) (fun _ hk => hk.2) (.int .i64 ((qG ((qD t200 qO).f3) j4).f2))) (fun _ hk => ⟨hk.1.1.1, ⟨hk.1.1.2.1, ⟨hk.1.1.2.2.1, ⟨hk.1.1.2.2.2.1, ⟨hk.1.1.2.2.2.2.1, ⟨hk.1.1.2.2.2.2.2.1, ⟨hk.1.1.2.2.2.2.2.2.1, ⟨hk.1.1.2.2.2.2.2.2.2, hk.1.2⟩⟩⟩⟩⟩⟩⟩⟩)))⟩; have n1_ : q8 (Kd.N k55 55 w53 w.heap.size (fun k_ => (P0_ k_ ∨ w.heap.size ≤ k_) ∧ some k_ ≠ (.slice (some jS) t200.length qg7 : Value).ownBlock ∧ some k_ ≠ (v219 : Value).ownBlock ∧ some k_ ≠ (u6 : Value).ownBlock ∧ some k_ ≠ (u7 : Value).ownBlock ∧ some k_ ≠ (u217003 : Value).ownBlock ∧ k_ ≠ qH ∧ k_ ≠ qP) u3 qk1) := ⟨(by rw [hw]; exact (by (with_reducible repeat (first | apply Kd.jC | apply Kd.jD | apply Kd.jG)); exact Kd.jZ (Kd.qg2 (p := ⟨qP, 2, none⟩) (Kd.qg2 (p := ⟨qP, 1, none⟩) (Kd.qg2 (p := ⟨qP, 0, none⟩) (Kd.jZ qa3.out (fun k_ hk => (⟨hk, hk.2⟩ : _ ∧ k_ ≠ qP))) (fun _ hk => hk.2) (.bool ((qG ((qD t200 qO).f3) j4).f0))) (fun _ hk => hk.2) (.int .i64 ((qG ((qD t200 qO).f3) j4).f1))) (fun _ hk => hk.2) (.int .i64 ((qG ((qD t200 qO).f3) j4).f2))) (fun _ hk => ⟨hk.1.1.1, ⟨hk.1.1.2.1, ⟨hk.1.1.2.2.1, ⟨hk.1.1.2.2.2.1, ⟨hk.1.1.2.2.2.2.1, ⟨hk.1.1.2.2.2.2.2.1, ⟨hk.1.1.2.2.2.2.2.2, hk.1.2⟩⟩⟩⟩⟩⟩⟩)))⟩; have n2_ : q8 (Kd.N k55 55 w53 w.heap.size (fun k_ => (P0_ k_ ∨ w.heap.size ≤ k_) ∧ some k_ ≠ (u3 : Value).ownBlock ∧ some k_ ≠ (v219 : Value).ownBlock ∧ some k_ ≠ (u6 : Value).ownBlock ∧ some k_ ≠ (u7 : Value).ownBlock ∧ some k_ ≠ (u217003 : Value).ownBlock ∧ k_ ≠ qH ∧ k_ ≠ qP) (.slice (some jS) t200.length qg7) t200) := ⟨(by rw [hw]; exact (by (with_reducible repeat (first | apply Kd.jC | apply Kd.jD | apply Kd.jG)); exact Kd.jZ (Kd.qg2 (p := ⟨qP, 2, none⟩) (Kd.qg2 (p := ⟨qP, 1, none⟩) (Kd.qg2 (p := ⟨qP, 0, none⟩) (Kd.jZ qU.out (fun k_ hk => (⟨hk, hk.2⟩ : _ ∧ k_ ≠ qP))) (fun _ hk => hk.2) (.bool ((qG ((qD t200 qO).f3) j4).f0))) (fun _ hk => hk.2) (.int .i64 ((qG ((qD t200 qO).f3) j4).f1))) (fun _ hk => hk.2) (.int .i64 ((qG ((qD t200 qO).f3) j4).f2))) (fun _ hk => ⟨hk.1.1.1, ⟨hk.1.1.2.1, ⟨hk.1.1.2.2.1, ⟨hk.1.1.2.2.2.1, ⟨hk.1.1.2.2.2.2.1, ⟨hk.1.1.2.2.2.2.2.1, ⟨hk.1.1.2.2.2.2.2.2, hk.1.2⟩⟩⟩⟩⟩⟩⟩)))⟩; have n3_ : q8 (Kd.R (Kd.int .i64) 3 w53 w.heap.size (fun k_ => (w.heap.size ≤ k_) ∧ some k_ ≠ (u6 : Value).ownBlock ∧ some k_ ≠ (u7 : Value).ownBlock) v219 t218) := ⟨(by rw [hw]; exact (by (with_reducible repeat (first | apply Kd.qV | apply Kd.qW | apply Kd.jB)); exact Kd.jK (Kd.zK (p := ⟨qP, 2, none⟩) (Kd.zK (p := ⟨qP, 1, none⟩) (Kd.zK (p := ⟨qP, 0, none⟩) (Kd.qb3 qb9.out jV.out (by decide)) (fun _ hk => hk.2) (.bool ((qG ((qD t200 qO).f3) j4).f0))) (fun _ hk => hk.2) (.int .i64 ((qG ((qD t200 qO).f3) j4).f1))) (fun _ hk => hk.2) (.int .i64 ((qG ((qD t200 qO).f3) j4).f2))) (fun _ hk => ⟨hk.1.1, ⟨hk.1.2.1, hk.1.2.2⟩⟩)))⟩; have n4_ : q8 (Kd.R (Kd.int .i64) 3 w53 w.heap.size (fun k_ => (w.heap.size ≤ k_) ∧ some k_ ≠ (v219 : Value).ownBlock ∧ some k_ ≠ (u7 : Value).ownBlock) u6 qe2) := ⟨(by rw [hw]; exact (by (with_reducible repeat (first | apply Kd.qV | apply Kd.qW | apply Kd.jB)); exact Kd.jK (Kd.zK (p := ⟨qP, 2, none⟩) (Kd.zK (p := ⟨qP, 1, none⟩) (Kd.zK (p := ⟨qP, 0, none⟩) (Kd.qb3 qe6.out jV.out (by decide)) (fun _ hk => hk.2) (.bool ((qG ((qD t200 qO).f3) j4).f0))) (fun _ hk => hk.2) (.int .i64 ((qG ((qD t200 qO).f3) j4).f1))) (fun _ hk => hk.2) (.int .i64 ((qG ((qD t200 qO).f3) j4).f2))) (fun _ hk => ⟨hk.1.1, ⟨hk.1.2.1, hk.1.2.2⟩⟩)))⟩; have n5_ : q8 (Kd.R (Kd.int .i64) 3 w53 w.heap.size (fun k_ => (w.heap.size ≤ k_) ∧ some k_ ≠ (v219 : Value).ownBlock ∧ some k_ ≠ (u6 : Value).ownBlock) u7 qf3) := ⟨(by rw [hw]; exact (by (with_reducible repeat (first | apply Kd.qV | apply Kd.qW | apply Kd.jB)); exact Kd.jK (Kd.zK (p := ⟨qP, 2, none⟩) (Kd.zK (p := ⟨qP, 1, none⟩) (Kd.zK (p := ⟨qP, 0, none⟩) (Kd.qb3 qc8.out jV.out (by decide)) (fun _ hk => hk.2) (.bool ((qG ((qD t200 qO).f3) j4).f0))) (fun _ hk => hk.2) (.int .i64 ((qG ((qD t200 qO).f3) j4).f1))) (fun _ hk => hk.2) (.int .i64 ((qG ((qD t200 qO).f3) j4).f2))) (fun _ hk => ⟨hk.1.1, ⟨hk.1.2.1, hk.1.2.2⟩⟩)))⟩; have n6_ : q8 (Kd.R k51 51 w53 w.heap.size (fun k_ => (w.heap.size ≤ k_) ∧ k_ ≠ qP) u217003 zU) := ⟨(by rw [hw]; exact (by (with_reducible repeat (first | apply Kd.qV | apply Kd.qW | apply Kd.jB)); exact Kd.jK (Kd.zK (p := ⟨qP, 2, none⟩) (Kd.zK (p := ⟨qP, 1, none⟩) (Kd.zK (p := ⟨qP, 0, none⟩) (Kd.jK jR.out (fun k_ hk => (⟨hk, hk.2⟩ : _ ∧ k_ ≠ qP))) (fun _ hk => hk.2) (.bool ((qG ((qD t200 qO).f3) j4).f0))) (fun _ hk => hk.2) (.int .i64 ((qG ((qD t200 qO).f3) j4).f1))) (fun _ hk => hk.2) (.int .i64 ((qG ((qD t200 qO).f3) j4).f2))) (fun _ hk => ⟨hk.1.1, hk.1.2⟩)))⟩; have n7_ : q8 (Kd.V k51 51 w53 w.heap.size (fun k_ => (P0_ k_ ∨ w.heap.size ≤ k_) ∧ some k_ ≠ (u3 : Value).ownBlock ∧ some k_ ≠ (.slice (some jS) t200.length qg7 : Value).ownBlock ∧ some k_ ≠ (v219 : Value).ownBlock ∧ some k_ ≠ (u6 : Value).ownBlock ∧ some k_ ≠ (u7 : Value).ownBlock ∧ some k_ ≠ (u217003 : Value).ownBlock ∧ k_ ≠ qH ∧ k_ ≠ qP) (.slice (some jO2) ((qD t200 qO).f3).length je5) ((qD t200 qO).f3)) := ⟨(by rw [hw]; exact (by (with_reducible repeat (first | apply Kd.jO | apply Kd.jP | apply Kd.z8)); exact Kd.zJ (Kd.qf4 (p := ⟨qP, 2, none⟩) (Kd.qf4 (p := ⟨qP, 1, none⟩) (Kd.qf4 (p := ⟨qP, 0, none⟩) (Kd.zJ qg8.out (fun k_ hk => (⟨hk, hk.2⟩ : _ ∧ k_ ≠ qP))) (fun _ hk => hk.2) (.bool ((qG ((qD t200 qO).f3) j4).f0))) (fun _ hk => hk.2) (.int .i64 ((qG ((qD t200 qO).f3) j4).f1))) (fun _ hk => hk.2) (.int .i64 ((qG ((qD t200 qO).f3) j4).f2))) (fun _ hk => ⟨hk.1.1.1.1, ⟨hk.1.1.1.2.1, ⟨hk.1.1.2, ⟨hk.1.1.1.2.2.1, ⟨hk.1.1.1.2.2.2.1, ⟨hk.1.1.1.2.2.2.2.1, ⟨hk.1.1.1.2.2.2.2.2.1, ⟨hk.1.1.1.2.2.2.2.2.2, hk.1.2⟩⟩⟩⟩⟩⟩⟩⟩)))⟩; have n8_ : q8 (Kd.V k51 51 w53 w.heap.size (fun k_ => (P0_ k_ ∨ w.heap.size ≤ k_) ∧ some k_ ≠ (u3 : Value).ownBlock ∧ some k_ ≠ (.slice (some jS) t200.length qg7 : Value).ownBlock ∧ some k_ ≠ (v219 : Value).ownBlock ∧ some k_ ≠ (u6 : Value).ownBlock ∧ some k_ ≠ (u7 : Value).ownBlock ∧ some k_ ≠ (u217003 : Value).ownBlock ∧ k_ ≠ qH ∧ k_ ≠ qP) (.slice (some jO2) ((qD t200 qO).f3).length je5) ((qD t200 qO).f3)) := ⟨(by rw [hw]; exact (by (with_reducible repeat (first | apply Kd.jO | apply Kd.jP | apply Kd.z8)); exact Kd.zJ (Kd.qf4 (p := ⟨qP, 2, none⟩) (Kd.qf4 (p := ⟨qP, 1, none⟩) (Kd.qf4 (p := ⟨qP, 0, none⟩) (Kd.zJ ql3.out (fun k_ hk => (⟨hk, hk.2⟩ : _ ∧ k_ ≠ qP))) (fun _ hk => hk.2) (.bool ((qG ((qD t200 qO).f3) j4).f0))) (fun _ hk => hk.2) (.int .i64 ((qG ((qD t200 qO).f3) j4).f1))) (fun _ hk => hk.2) (.int .i64 ((qG ((qD t200 qO).f3) j4).f2))) (fun _ hk => ⟨hk.1.1.1.1, ⟨hk.1.1.1.2.1, ⟨hk.1.1.2, ⟨hk.1.1.1.2.2.1, ⟨hk.1.1.1.2.2.2.1, ⟨hk.1.1.1.2.2.2.2.1, ⟨hk.1.1.1.2.2.2.2.2.1, ⟨hk.1.1.1.2.2.2.2.2.2, hk.1.2⟩⟩⟩⟩⟩⟩⟩⟩)))⟩; have n9_ : q8 (w53.heap[qH]? = some (.cells #[.int .i64 t221, .int .i64 t213, .int .i64 t215, u217003] 55 (0, 0))) := ⟨(by rw [hw]; exact (by (with_reducible repeat (first | refine qI ?_ _ | refine qR ?_ | refine qJ ?_ _)); refine qj3 ?_ qh7.out _; (with_reducible repeat (first | refine qI ?_ _ | refine qR ?_ | refine qJ ?_ _)); refine qj3 ?_ qh7.out _; (with_reducible repeat (first | refine qI ?_ _ | refine qR ?_ | refine qJ ?_ _)); refine qj3 ?_ qh7.out _; (with_reducible repeat (first | refine qI ?_ _ | refine qR ?_ | refine qJ ?_ _)); exact jE.out))⟩; have qA4 : q8 (w53.heap[qP]? = some (.cells #[.bool ((qG ((qD t200 qO).f3) j4).f0), .int .i64 ((qG ((qD t200 qO).f3) j4).f1), .int .i64 ((qG ((qD t200 qO).f3) j4).f2)] 51 (0, 0))) := ⟨(by rw [hw]; exact (by (with_reducible repeat (first | refine qI ?_ _ | refine qR ?_ | refine qJ ?_ _)); refine qd4 (cs := #[.bool ((qG ((qD t200 qO).f3) j4).f0), .int .i64 ((qG ((qD t200 qO).f3) j4).f1), .int .i64 0]) ?_ 2 _ rfl; (with_reducible repeat (first | refine qI ?_ _ | refine qR ?_ | refine qJ ?_ _)); refine qd4 (cs := #[.bool ((qG ((qD t200 qO).f3) j4).f0), .int .i64 0, .int .i64 0]) ?_ 1 _ rfl; (with_reducible repeat (first | refine qI ?_ _ | refine qR ?_ | refine qJ ?_ _)); refine qd4 (cs := #[.bool false, .int .i64 0, .int .i64 0]) ?_ 0 _ rfl; (with_reducible repeat (first | refine qI ?_ _ | refine qR ?_ | refine qJ ?_ _)); exact jV.out))⟩; have qA5 : q8 (Below w.heap.size w w53) := ⟨(by rw [hw]; exact (by repeat (first | (with_reducible first | exact HB.out | apply qA | apply q9 | apply qB | refine qK ?_ qe7.out | refine qK ?_ qu5.out) | exact HB.out)))⟩; clear hw; clear zX; clear qa3; clear qU; clear qb9; clear qe6; clear qc8; clear jR; clear qg8; clear ql3; clear jE; clear jV; clear HB; have zX := n0_; have qa3 := n1_; have qU := n2_; have qb9 := n3_; have qe6 := n4_; have qc8 := n5_; have jR := n6_; have qg8 := n7_; have ql3 := n8_; have jE := n9_; have jV := qA4; have HB := qA5; clear n0_ n1_ n2_ n3_ n4_ n5_ n6_ n7_ n8_ n9_ qA4 qA5; have Qu2 : w53.cell? ⟨qP, 0, none⟩ = some (.bool ((qG ((qD t200 qO).f3) j4).f0)) := (qE jV.out 0).trans rfl; have Qu3 : w53.cell? ⟨qP, 1, none⟩ = some (.int .i64 ((qG ((qD t200 qO).f3) j4).f1)) := (qE jV.out 1).trans rfl; have Qu4 : w53.cell? ⟨qP, 2, none⟩ = some (.int .i64 ((qG ((qD t200 qO).f3) j4).f2)) := (qE jV.out 2).trans rfl; have Qu5 := qC jV.out 0; have Qu6 := qC jV.out 1; have Qu7 := qC jV.out 2; obtain ⟨zY9, zZ0, eo55⟩ := Kd.qs6 qe6.out; subst eo55) | ((with_reducible refine qi8 (f := 45) rfl ?_); refine qG9 (some 72) rfl rfl Try.func45 (by kernel_rfl) rfl #[.slice zY9 qe2.length zZ0, .int .i64 ((qG ((qD t200 qO).f3) j4).f1)] rfl (by (try simp only [List.map_toArray, List.map_cons, List.map_nil]); first | done | rfl | (simp only [List.length_drop, List.length_take]; rfl)) ?_; (with_reducible refine (jA.calls k2 (fun k_ => some k_ = (.slice zY9 qe2.length zZ0 : Value).ownBlock) (.slice zY9 qe2.length zZ0) qe2 ((qG ((qD t200 qO).f3) j4).f1) t229 t232 w _ ?qs8 ?qw0 A33.out).mono ?_); (case qs8 => repeat (first | (with_reducible first | exact HB.out | apply qA | apply q9 | apply qB | refine qK ?_ qe7.out | refine qK ?_ qu5.out) | exact HB.out)); (case qw0 => exact Kd.qX9 rfl qe6.out); rintro e w56 ⟨v230, rfl, ho0, hb, hkp⟩; refine ⟨_, rfl, ?_⟩; have n0_ := q8.mk (Kd.zJ (ok' := fun k_ => (P0_ k_ ∨ w.heap.size ≤ k_) ∧ some k_ ≠ (u3 : Value).ownBlock ∧ some k_ ≠ (.slice (some jS) t200.length qg7 : Value).ownBlock ∧ some k_ ≠ (v219 : Value).ownBlock ∧ some k_ ≠ (u7 : Value).ownBlock ∧ some k_ ≠ (u217003 : Value).ownBlock ∧ k_ ≠ qH ∧ k_ ≠ qP ∧ some k_ ≠ (v230 : Value).ownBlock) (Kd.jj4 (zX.out) hkp (fun k_ hk_ hs_ => (hk_.2.2.2.2.1) hs_)) (fun k_ hk_ => ⟨hk_.1.1, hk_.1.2.1, hk_.1.2.2.1, hk_.1.2.2.2.1, hk_.1.2.2.2.2.2.1, hk_.1.2.2.2.2.2.2.1, hk_.1.2.2.2.2.2.2.2.1, hk_.1.2.2.2.2.2.2.2.2, fun e_ => Or.elim (ho0.1 k_ e_.symm) (fun hs_ => hk_.2.1 hs_) (fun hn_ => Nat.not_le.2 hk_.2.2 hn_)⟩)); have n1_ := q8.mk (Kd.jZ (ok' := fun k_ => (P0_ k_ ∨ w.heap.size ≤ k_) ∧ some k_ ≠ (.slice (some jS) t200.length qg7 : Value).ownBlock ∧ some k_ ≠ (v219 : Value).ownBlock ∧ some k_ ≠ (u7 : Value).ownBlock ∧ some k_ ≠ (u217003 : Value).ownBlock ∧ k_ ≠ qH ∧ k_ ≠ qP ∧ some k_ ≠ (v230 : Value).ownBlock) (Kd.qB7 (qa3.out) hkp (fun k_ hk_ hs_ => (hk_.2.2.2.1) hs_)) (fun k_ hk_ => ⟨hk_.1.1, hk_.1.2.1, hk_.1.2.2.1, hk_.1.2.2.2.2.1, hk_.1.2.2.2.2.2.1, hk_.1.2.2.2.2.2.2.1, hk_.1.2.2.2.2.2.2.2, fun e_ => Or.elim (ho0.1 k_ e_.symm) (fun hs_ => hk_.2.1 hs_) (fun hn_ => Nat.not_le.2 hk_.2.2 hn_)⟩)); have n2_ := q8.mk (Kd.jZ (ok' := fun k_ => (P0_ k_ ∨ w.heap.size ≤ k_) ∧ some k_ ≠ (u3 : Value).ownBlock ∧ some k_ ≠ (v219 : Value).ownBlock ∧ some k_ ≠ (u7 : Value).ownBlock ∧ some k_ ≠ (u217003 : Value).ownBlock ∧ k_ ≠ qH ∧ k_ ≠ qP ∧ some k_ ≠ (v230 : Value).ownBlock) (Kd.qB7 (qU.out) hkp (fun k_ hk_ hs_ => (hk_.2.2.2.1) hs_)) (fun k_ hk_ => ⟨hk_.1.1, hk_.1.2.1, hk_.1.2.2.1, hk_.1.2.2.2.2.1, hk_.1.2.2.2.2.2.1, hk_.1.2.2.2.2.2.2.1, hk_.1.2.2.2.2.2.2.2, fun e_ => Or.elim (ho0.1 k_ e_.symm) (fun hs_ => hk_.2.1 hs_) (fun hn_ => Nat.not_le.2 hk_.2.2 hn_)⟩)); have n3_ := q8.mk (Kd.jK (ok' := fun k_ => (w.heap.size ≤ k_) ∧ some k_ ≠ (u7 : Value).ownBlock ∧ some k_ ≠ (v230 : Value).ownBlock) (Kd.qs9 (qb9.out) hkp (fun k_ hk_ hs_ => (hk_.2.1) hs_)) (fun k_ hk_ => ⟨hk_.1.1, hk_.1.2.2, fun e_ => Or.elim (ho0.1 k_ e_.symm) (fun hs_ => hk_.2.1 hs_) (fun hn_ => Nat.not_le.2 hk_.2.2 hn_)⟩)); have n4_ := q8.mk (Kd.jK (ok' := fun k_ => (w.heap.size ≤ k_) ∧ some k_ ≠ (v219 : Value).ownBlock ∧ some k_ ≠ (v230 : Value).ownBlock) (Kd.qs9 (qc8.out) hkp (fun k_ hk_ hs_ => (hk_.2.2) hs_)) (fun k_ hk_ => ⟨hk_.1.1, hk_.1.2.1, fun e_ => Or.elim (ho0.1 k_ e_.symm) (fun hs_ => hk_.2.1 hs_) (fun hn_ => Nat.not_le.2 hk_.2.2 hn_)⟩)); have n5_ := q8.mk (Kd.jK (ok' := fun k_ => (w.heap.size ≤ k_) ∧ k_ ≠ qP) (Kd.qs9 ((Kd.qk2 jR.out (Kd.qj4 qe6.out) (by decide))) hkp (fun k_ hk_ hs_ => (hk_.2) hs_)) (fun k_ hk_ => ⟨hk_.1.1.1, hk_.1.1.2⟩)); have n6_ := q8.mk (qA6 (by (with_reducible repeat (first | refine qI ?_ _ | refine qR ?_ | refine qJ ?_ _)); exact jE.out) hkp (fun hs_ => (fun e_ => (Kd.jE8 qe6.out jE.out (by decide)) e_) hs_)); have n7_ := q8.mk (qA6 (by (with_reducible repeat (first | refine qI ?_ _ | refine qR ?_ | refine qJ ?_ _)); exact jV.out) hkp (fun hs_ => (fun e_ => (Kd.jE8 qe6.out jV.out (by decide)) e_) hs_)); have n8_ := q8.mk (Kd.jK (ok' := fun k_ => (w.heap.size ≤ k_) ∧ some k_ ≠ (v219 : Value).ownBlock ∧ some k_ ≠ (u7 : Value).ownBlock) ho0 (fun k_ hk_ => ⟨Or.elim hk_ (fun hs_ => (qe6.out.1 k_ (hs_).symm).1) (fun hn_ => (Nat.le_trans (qM (by repeat (first | (with_reducible first | exact HB.out | apply qA | apply q9 | apply qB | refine qK ?_ qe7.out | refine qK ?_ qu5.out) | exact HB.out))) hn_)), Or.elim hk_ (fun hs_ => fun e_ => (((qb9.out).1 k_ e_.symm).2.1) hs_) (fun hn_ => (Kd.fresh' (Kd.qK4 (by (with_reducible repeat (first | apply Kd.qV | apply Kd.qW | apply Kd.jB)); exact qb9.out)) k_ hn_)), Or.elim hk_ (fun hs_ => fun e_ => (((qc8.out).1 k_ e_.symm).2.2) hs_) (fun hn_ => (Kd.fresh' (Kd.qK4 (by (with_reducible repeat (first | apply Kd.qV | apply Kd.qW | apply Kd.jB)); exact qc8.out)) k_ hn_))⟩)); have n9_ := q8.mk (hb); clear zX; clear qa3; clear qU; clear qb9; clear qc8; clear jR; clear jE; clear jV; clear HB; clear qe6; clear qg8; clear ql3; have zX := n0_; have qa3 := n1_; have qU := n2_; have qb9 := n3_; have qc8 := n4_; have jR := n5_; have jE := n6_; have jV := n7_; have qw1 := n8_; have HB := n9_; clear n0_ n1_ n2_ n3_ n4_ n5_ n6_ n7_ n8_ n9_; (try clear hb); (try clear hkp); (try clear ho0); have Qu8 : w56.cell? ⟨qP, 0, none⟩ = some (.bool ((qG ((qD t200 qO).f3) j4).f0)) := (qE jV.out 0).trans rfl; have Qu9 : w56.cell? ⟨qP, 1, none⟩ = some (.int .i64 ((qG ((qD t200 qO).f3) j4).f1)) := (qE jV.out 1).trans rfl; have Qv0 : w56.cell? ⟨qP, 2, none⟩ = some (.int .i64 ((qG ((qD t200 qO).f3) j4).f2)) := (qE jV.out 2).trans rfl; have Qv1 := qC jV.out 0; have Qv2 := qC jV.out 1; have Qv3 := qC jV.out 2) | ((with_reducible refine qS1 (t := 3) (p := 75) rfl ?_); refine qM0 (t := 3) (p := 75) (v := ?vo_w58) (w1 := (w56.setCell ⟨qP, 1, none⟩ (.int .i64 t232))) ?hg ?ho ?hn ?hr ?_; (case ho => rfl); (case hg => rfl); (case hn => rfl); (case hr => first | (go_simp; done) | (go_simp; rfl)); intro w58 hw; have n0_ : q8 (Kd.V k55 55 w58 w.heap.size (fun k_ => (P0_ k_ ∨ w.heap.size ≤ k_) ∧ some k_ ≠ (u3 : Value).ownBlock ∧ some k_ ≠ (.slice (some jS) t200.length qg7 : Value).ownBlock ∧ some k_ ≠ (v219 : Value).ownBlock ∧ some k_ ≠ (u7 : Value).ownBlock ∧ some k_ ≠ (u217003 : Value).ownBlock ∧ some k_ ≠ (v230 : Value).ownBlock ∧ k_ ≠ qH ∧ k_ ≠ qP) (.slice A0 l0.length c0) l0) := ⟨(by rw [hw]; exact (by (with_reducible repeat (first | apply Kd.jO | apply Kd.jP | apply Kd.z8)); exact Kd.zJ (Kd.qf4 (p := ⟨qP, 1, none⟩) (Kd.zJ zX.out (fun k_ hk => (⟨hk, hk.2.2.2.2.2.2.2.1⟩ : _ ∧ k_ ≠ qP))) (fun _ hk => hk.2) (.int .i64 t232)) (fun _ hk => ⟨hk.1.1, ⟨hk.1.2.1, ⟨hk.1.2.2.1, ⟨hk.1.2.2.2.1, ⟨hk.1.2.2.2.2.1, ⟨hk.1.2.2.2.2.2.1, ⟨hk.1.2.2.2.2.2.2.2.2, ⟨hk.1.2.2.2.2.2.2.1, hk.1.2.2.2.2.2.2.2.1⟩⟩⟩⟩⟩⟩⟩⟩)))⟩; have n1_ : q8 (Kd.N k55 55 w58 w.heap.size (fun k_ => (P0_ k_ ∨ w.heap.size ≤ k_) ∧ some k_ ≠ (.slice (some jS) t200.length qg7 : Value).ownBlock ∧ some k_ ≠ (v219 : Value).ownBlock ∧ some k_ ≠ (u7 : Value).ownBlock ∧ some k_ ≠ (u217003 : Value).ownBlock ∧ some k_ ≠ (v230 : Value).ownBlock ∧ k_ ≠ qH ∧ k_ ≠ qP) u3 qk1) := ⟨(by rw [hw]; exact (by (with_reducible repeat (first | apply Kd.jC | apply Kd.jD | apply Kd.jG)); exact Kd.jZ (Kd.qg2 (p := ⟨qP, 1, none⟩) (Kd.jZ qa3.out (fun k_ hk => (⟨hk, hk.2.2.2.2.2.2.1⟩ : _ ∧ k_ ≠ qP))) (fun _ hk => hk.2) (.int .i64 t232)) (fun _ hk => ⟨hk.1.1, ⟨hk.1.2.1, ⟨hk.1.2.2.1, ⟨hk.1.2.2.2.1, ⟨hk.1.2.2.2.2.1, ⟨hk.1.2.2.2.2.2.2.2, ⟨hk.1.2.2.2.2.2.1, hk.1.2.2.2.2.2.2.1⟩⟩⟩⟩⟩⟩⟩)))⟩; have n2_ : q8 (Kd.N k55 55 w58 w.heap.size (fun k_ => (P0_ k_ ∨ w.heap.size ≤ k_) ∧ some k_ ≠ (u3 : Value).ownBlock ∧ some k_ ≠ (v219 : Value).ownBlock ∧ some k_ ≠ (u7 : Value).ownBlock ∧ some k_ ≠ (u217003 : Value).ownBlock ∧ some k_ ≠ (v230 : Value).ownBlock ∧ k_ ≠ qH ∧ k_ ≠ qP) (.slice (some jS) t200.length qg7) t200) := ⟨(by rw [hw]; exact (by (with_reducible repeat (first | apply Kd.jC | apply Kd.jD | apply Kd.jG)); exact Kd.jZ (Kd.qg2 (p := ⟨qP, 1, none⟩) (Kd.jZ qU.out (fun k_ hk => (⟨hk, hk.2.2.2.2.2.2.1⟩ : _ ∧ k_ ≠ qP))) (fun _ hk => hk.2) (.int .i64 t232)) (fun _ hk => ⟨hk.1.1, ⟨hk.1.2.1, ⟨hk.1.2.2.1, ⟨hk.1.2.2.2.1, ⟨hk.1.2.2.2.2.1, ⟨hk.1.2.2.2.2.2.2.2, ⟨hk.1.2.2.2.2.2.1, hk.1.2.2.2.2.2.2.1⟩⟩⟩⟩⟩⟩⟩)))⟩; have n3_ : q8 (Kd.R (Kd.int .i64) 3 w58 w.heap.size (fun k_ => (w.heap.size ≤ k_) ∧ some k_ ≠ (u7 : Value).ownBlock ∧ some k_ ≠ (v230 : Value).ownBlock) v219 t218) := ⟨(by rw [hw]; exact (by (with_reducible repeat (first | apply Kd.qV | apply Kd.qW | apply Kd.jB)); exact Kd.jK (Kd.zK (p := ⟨qP, 1, none⟩) (Kd.qb3 qb9.out jV.out (by decide)) (fun _ hk => hk.2) (.int .i64 t232)) (fun _ hk => ⟨hk.1.1, ⟨hk.1.2.1, hk.1.2.2⟩⟩)))⟩; have n4_ : q8 (Kd.R (Kd.int .i64) 3 w58 w.heap.size (fun k_ => (w.heap.size ≤ k_) ∧ some k_ ≠ (v219 : Value).ownBlock ∧ some k_ ≠ (v230 : Value).ownBlock) u7 qf3) := ⟨(by rw [hw]; exact (by (with_reducible repeat (first | apply Kd.qV | apply Kd.qW | apply Kd.jB)); exact Kd.jK (Kd.zK (p := ⟨qP, 1, none⟩) (Kd.qb3 qc8.out jV.out (by decide)) (fun _ hk => hk.2) (.int .i64 t232)) (fun _ hk => ⟨hk.1.1, ⟨hk.1.2.1, hk.1.2.2⟩⟩)))⟩; have n5_ : q8 (Kd.R k51 51 w58 w.heap.size (fun k_ => (w.heap.size ≤ k_) ∧ k_ ≠ qP) u217003 zU) := ⟨(by rw [hw]; exact (by (with_reducible repeat (first | apply Kd.qV | apply Kd.qW | apply Kd.jB)); exact Kd.jK (Kd.zK (p := ⟨qP, 1, none⟩) (Kd.jK jR.out (fun k_ hk => (⟨hk, hk.2⟩ : _ ∧ k_ ≠ qP))) (fun _ hk => hk.2) (.int .i64 t232)) (fun _ hk => ⟨hk.1.1, hk.1.2⟩)))⟩; have n6_ : q8 (Kd.R (Kd.int .i64) 3 w58 w.heap.size (fun k_ => (w.heap.size ≤ k_) ∧ some k_ ≠ (v219 : Value).ownBlock ∧ some k_ ≠ (u7 : Value).ownBlock) v230 t229) := ⟨(by rw [hw]; exact (by (with_reducible repeat (first | apply Kd.qV | apply Kd.qW | apply Kd.jB)); exact Kd.jK (Kd.zK (p := ⟨qP, 1, none⟩) (Kd.qb3 qw1.out jV.out (by decide)) (fun _ hk => hk.2) (.int .i64 t232)) (fun _ hk => ⟨hk.1.1, ⟨hk.1.2.1, hk.1.2.2⟩⟩)))⟩; have n7_ : q8 (w58.heap[qH]? = some (.cells #[.int .i64 t221, .int .i64 t213, .int .i64 t215, u217003] 55 (0, 0))) := ⟨(by rw [hw]; exact (by (with_reducible repeat (first | refine qI ?_ _ | refine qR ?_ | refine qJ ?_ _)); refine qj3 ?_ qh7.out _; (with_reducible repeat (first | refine qI ?_ _ | refine qR ?_ | refine qJ ?_ _)); exact jE.out))⟩; have n8_ : q8 (w58.heap[qP]? = some (.cells #[.bool ((qG ((qD t200 qO).f3) j4).f0), .int .i64 t232, .int .i64 ((qG ((qD t200 qO).f3) j4).f2)] 51 (0, 0))) := ⟨(by rw [hw]; exact (by (with_reducible repeat (first | refine qI ?_ _ | refine qR ?_ | refine qJ ?_ _)); refine qd4 (cs := #[.bool ((qG ((qD t200 qO).f3) j4).f0), .int .i64 ((qG ((qD t200 qO).f3) j4).f1), .int .i64 ((qG ((qD t200 qO).f3) j4).f2)]) ?_ 1 _ rfl; (with_reducible repeat (first | refine qI ?_ _ | refine qR ?_ | refine qJ ?_ _)); exact jV.out))⟩; have n9_ : q8 (Below w.heap.size w w58) := ⟨(by rw [hw]; exact (by repeat (first | (with_reducible first | exact HB.out | apply qA | apply q9 | apply qB | refine qK ?_ qe7.out | refine qK ?_ qu5.out) | exact HB.out)))⟩; clear hw; clear zX; clear qa3; clear qU; clear qb9; clear qc8; clear jR; clear qw1; clear jE; clear jV; clear HB; have zX := n0_; have qa3 := n1_; have qU := n2_; have qb9 := n3_; have qc8 := n4_; have jR := n5_; have qw1 := n6_; have jE := n7_; have jV := n8_; have HB := n9_; clear n0_ n1_ n2_ n3_ n4_ n5_ n6_ n7_ n8_ n9_; have Qv4 : w58.cell? ⟨qP, 0, none⟩ = some (.bool ((qG ((qD t200 qO).f3) j4).f0)) := (qE jV.out 0).trans rfl; have Qv5 : w58.cell? ⟨qP, 1, none⟩ = some (.int .i64 t232) := (qE jV.out 1).trans rfl; have Qv6 : w58.cell? ⟨qP, 2, none⟩ = some (.int .i64 ((qG ((qD t200 qO).f3) j4).f2)) := (qE jV.out 2).trans rfl; have Qv7 := qC jV.out 0; have Qv8 := qC jV.out 1; have Qv9 := qC jV.out 2; obtain ⟨zZ1, zZ2, eo60⟩ := Kd.qs6 qc8.out; subst eo60) | ((with_reducible refine qi8 (f := 45) rfl ?_); refine qG9 (some 83) rfl rfl Try.func45 (by kernel_rfl) rfl #[.slice zZ1 qf3.length zZ2, .int .i64 ((qG ((qD t200 qO).f3) j4).f2)] rfl (by (try simp only [List.map_toArray, List.map_cons, List.map_nil]); first | done | rfl | (simp only [List.length_drop, List.length_take]; rfl)) ?_; (with_reducible refine (jA.calls k2 (fun k_ => some k_ = (.slice zZ1 qf3.length zZ2 : Value).ownBlock) (.slice zZ1 qf3.length zZ2) qf3 ((qG ((qD t200 qO).f3) j4).f2) t236 t239 w _ ?qs8 ?qw0 A48.out).mono ?_); (case qs8 => repeat (first | (with_reducible first | exact HB.out | apply qA | apply q9 | apply qB | refine qK ?_ qe7.out | refine qK ?_ qu5.out) | exact HB.out)); (case qw0 => exact Kd.qX9 rfl qc8.out); rintro e w61 ⟨v237, rfl, ho0, hb, hkp⟩; refine ⟨_, rfl, ?_⟩; have n0_ := q8.mk (Kd.zJ (ok' := fun k_ => (P0_ k_ ∨ w.heap.size ≤ k_) ∧ some k_ ≠ (u3 : Value).ownBlock ∧ some k_ ≠ (.slice (some jS) t200.length qg7 : Value).ownBlock ∧ some k_ ≠ (v219 : Value).ownBlock ∧ some k_ ≠ (u217003 : Value).ownBlock ∧ some k_ ≠ (v230 : Value).ownBlock ∧ k_ ≠ qH ∧ k_ ≠ qP ∧ some k_ ≠ (v237 : Value).ownBlock) (Kd.jj4 (zX.out) hkp (fun k_ hk_ hs_ => (hk_.2.2.2.2.1) hs_)) (fun k_ hk_ => ⟨hk_.1.1, hk_.1.2.1, hk_.1.2.2.1, hk_.1.2.2.2.1, hk_.1.2.2.2.2.2.1, hk_.1.2.2.2.2.2.2.1, hk_.1.2.2.2.2.2.2.2.1, hk_.1.2.2.2.2.2.2.2.2, fun e_ => Or.elim (ho0.1 k_ e_.symm) (fun hs_ => hk_.2.1 hs_) (fun hn_ => Nat.not_le.2 hk_.2.2 hn_)⟩)); have n1_ := q8.mk (Kd.jZ (ok' := fun k_ => (P0_ k_ ∨ w.heap.size ≤ k_) ∧ some k_ ≠ (.slice (some jS) t200.length qg7 : Value).ownBlock ∧ some k_ ≠ (v219 : Value).ownBlock ∧ some k_ ≠ (u217003 : Value).ownBlock ∧ some k_ ≠ (v230 : Value).ownBlock ∧ k_ ≠ qH ∧ k_ ≠ qP ∧ some k_ ≠ (v237 : Value).ownBlock) (Kd.qB7 (qa3.out) hkp (fun k_ hk_ hs_ => (hk_.2.2.2.1) hs_)) (fun k_ hk_ => ⟨hk_.1.1, hk_.1.2.1, hk_.1.2.2.1, hk_.1.2.2.2.2.1, hk_.1.2.2.2.2.2.1, hk_.1.2.2.2.2.2.2.1, hk_.1.2.2.2.2.2.2.2, fun e_ => Or.elim (ho0.1 k_ e_.symm) (fun hs_ => hk_.2.1 hs_) (fun hn_ => Nat.not_le.2 hk_.2.2 hn_)⟩)); have n2_ := q8.mk (Kd.jZ (ok' := fun k_ => (P0_ k_ ∨ w.heap.size ≤ k_) ∧ some k_ ≠ (u3 : Value).ownBlock ∧ some k_ ≠ (v219 : Value).ownBlock ∧ some k_ ≠ (u217003 : Value).ownBlock ∧ some k_ ≠ (v230 : Value).ownBlock ∧ k_ ≠ qH ∧ k_ ≠ qP ∧ some k_ ≠ (v237 : Value).ownBlock) (Kd.qB7 (qU.out) hkp (fun k_ hk_ hs_ => (hk_.2.2.2.1) hs_)) (fun k_ hk_ => ⟨hk_.1.1, hk_.1.2.1, hk_.1.2.2.1, hk_.1.2.2.2.2.1, hk_.1.2.2.2.2.2.1, hk_.1.2.2.2.2.2.2.1, hk_.1.2.2.2.2.2.2.2, fun e_ => Or.elim (ho0.1 k_ e_.symm) (fun hs_ => hk_.2.1 hs_) (fun hn_ => Nat.not_le.2 hk_.2.2 hn_)⟩)); have n3_ := q8.mk (Kd.jK (ok' := fun k_ => (w.heap.size ≤ k_) ∧ some k_ ≠ (v230 : Value).ownBlock ∧ some k_ ≠ (v237 : Value).ownBlock) (Kd.qs9 (qb9.out) hkp (fun k_ hk_ hs_ => (hk_.2.1) hs_)) (fun k_ hk_ => ⟨hk_.1.1, hk_.1.2.2, fun e_ => Or.elim (ho0.1 k_ e_.symm) (fun hs_ => hk_.2.1 hs_) (fun hn_ => Nat.not_le.2 hk_.2.2 hn_)⟩)); have n4_ := q8.mk (Kd.jK (ok' := fun k_ => (w.heap.size ≤ k_) ∧ k_ ≠ qP) (Kd.qs9 ((Kd.qk2 jR.out (Kd.qj4 qc8.out) (by decide))) hkp (fun k_ hk_ hs_ => (hk_.2) hs_)) (fun k_ hk_ => ⟨hk_.1.1.1, hk_.1.1.2⟩)); have n5_ := q8.mk (qA6 (by (with_reducible repeat (first | refine qI ?_ _ | refine qR ?_ | refine qJ ?_ _)); exact jE.out) hkp (fun hs_ => (fun e_ => (Kd.jE8 qc8.out jE.out (by decide)) e_) hs_)); have n6_ := q8.mk (qA6 (by (with_reducible repeat (first | refine qI ?_ _ | refine qR ?_ | refine qJ ?_ _)); exact jV.out) hkp (fun hs_ => (fun e_ => (Kd.jE8 qc8.out jV.out (by decide)) e_) hs_)); have n7_ := q8.mk (Kd.jK (ok' := fun k_ => (w.heap.size ≤ k_) ∧ some k_ ≠ (v219 : Value).ownBlock ∧ some k_ ≠ (v237 : Value).ownBlock) (Kd.qs9 (qw1.out) hkp (fun k_ hk_ hs_ => (hk_.2.2) hs_)) (fun k_ hk_ => ⟨hk_.1.1, hk_.1.2.1, fun e_ => Or.elim (ho0.1 k_ e_.symm) (fun hs_ => hk_.2.1 hs_) (fun hn_ => Nat.not_le.2 hk_.2.2 hn_)⟩)); have n8_ := q8.mk (Kd.jK (ok' := fun k_ => (w.heap.size ≤ k_) ∧ some k_ ≠ (v219 : Value).ownBlock ∧ some k_ ≠ (v230 : Value).ownBlock) ho0 (fun k_ hk_ => ⟨Or.elim hk_ (fun hs_ => (qc8.out.1 k_ (hs_).symm).1) (fun hn_ => (Nat.le_trans (qM (by repeat (first | (with_reducible first | exact HB.out | apply qA | apply q9 | apply qB | refine qK ?_ qe7.out | refine qK ?_ qu5.out) | exact HB.out))) hn_)), Or.elim hk_ (fun hs_ => fun e_ => (((qb9.out).1 k_ e_.symm).2.1) hs_) (fun hn_ => (Kd.fresh' (Kd.qK4 (by (with_reducible repeat (first | apply Kd.qV | apply Kd.qW | apply Kd.jB)); exact qb9.out)) k_ hn_)), Or.elim hk_ (fun hs_ => fun e_ => (((qw1.out).1 k_ e_.symm).2.2) hs_) (fun hn_ => (Kd.fresh' (Kd.qK4 (by (with_reducible repeat (first | apply Kd.qV | apply Kd.qW | apply Kd.jB)); exact qw1.out)) k_ hn_))⟩)); have n9_ := q8.mk (hb); clear zX; clear qa3; clear qU; clear qb9; clear jR; clear jE; clear jV; clear qw1; clear HB; clear qc8; have zX := n0_; have qa3 := n1_; have qU := n2_; have qb9 := n3_; have jR := n4_; have jE := n5_; have jV := n6_; have qw1 := n7_; have zh7 := n8_; have HB := n9_; clear n0_ n1_ n2_ n3_ n4_ n5_ n6_ n7_ n8_ n9_; (try clear hb); (try clear hkp); (try clear ho0); have Qw0 : w61.cell? ⟨qP, 0, none⟩ = some (.bool ((qG ((qD t200 qO).f3) j4).f0)) := (qE jV.out 0).trans rfl; have Qw1 : w61.cell? ⟨qP, 1, none⟩ = some (.int .i64 t232) := (qE jV.out 1).trans rfl; have Qw2 : w61.cell? ⟨qP, 2, none⟩ = some (.int .i64 ((qG ((qD t200 qO).f3) j4).f2)) := (qE jV.out 2).trans rfl; have Qw3 := qC jV.out 0; have Qw4 := qC jV.out 1; have Qw5 := qC jV.out 2; have Qw6 : w61.cell? ⟨qH, 0, none⟩ = some (.int .i64 t221) := (qE jE.out 0).trans rfl; have Qw7 : w61.cell? ⟨qH, 1, none⟩ = some (.int .i64 t213) := (qE jE.out 1).trans rfl; have Qw8 : w61.cell? ⟨qH, 2, none⟩ = some (.int .i64 t215) := (qE jE.out 2).trans rfl; have Qw9 : w61.cell? ⟨qH, 3, none⟩ = some (u217003) := (qE jE.out 3).trans rfl; have Qx0 := qC jE.out 0; have Qx1 := qC jE.out 1; have Qx2 := qC jE.out 2; have Qx3 := qC jE.out 3) | ((with_reducible refine ql0 (b := .append) (xs := #[.tmp 92, .tmp 94]) rfl ?_); at_builtin; refine Kd.qX3 k51 (w0 := w) w.heap.size rfl (.tmp 92) (.tmp 94) 53 51 (.agg #[(.bool false), (.int .i64 0), (.int .i64 0)]) 24 rfl Try.underlying53 zt0 rfl (by decide) (by omega) u217003 zU (⟨(qG ((qD t200 qO).f3) j4).f0, t232, wrap64 (t239 + 1)⟩ : S51) [.bool ((qG ((qD t200 qO).f3) j4).f0), .int .i64 t232, .int .i64 (wrap64 (t239 + 1))] (fun k_ => (w.heap.size ≤ k_) ∧ k_ ≠ qP) (fun _ => False) rfl (by first | (go_simp; done) | (go_simp; rfl)) ?aP (fun _ hk => hk.elim) ?aF ?aO ?aB ?aS ?aL ?_; (case aP => exact zh6 _ _ _ (⟨(qG ((qD t200 qO).f3) j4).f0, t232, wrap64 (t239 + 1)⟩ : S51)); (case aB => exact (by repeat (first | (with_reducible first | exact HB.out | apply qA | apply q9 | apply qB | refine qK ?_ qe7.out | refine qK ?_ qu5.out) | exact HB.out))); (case aF => exact (fun k_ hk => ⟨(Nat.le_trans (qM (by repeat (first | (with_reducible first | exact HB.out | apply qA | apply q9 | apply qB | refine qK ?_ qe7.out | refine qK ?_ qu5.out) | exact HB.out))) hk), Kd.jY8 (g := qP) (o := .cells #[.bool ((qG ((qD t200 qO).f3) j4).f0), .int .i64 t232, .int .i64 (wrap64 (t239 + 1))] 51 (0, 0)) (by (with_reducible repeat (first | refine qI ?_ _ | refine qR ?_ | refine qJ ?_ _)); refine qd4 (cs := #[.bool ((qG ((qD t200 qO).f3) j4).f0), .int .i64 t232, .int .i64 t239]) ?_ 2 _ rfl; (with_reducible repeat (first | refine qI ?_ _ | refine qR ?_ | refine qJ ?_ _)); refine qd4 (cs := #[.bool ((qG ((qD t200 qO).f3) j4).f0), .int .i64 t232, .int .i64 ((qG ((qD t200 qO).f3) j4).f2)]) ?_ 2 _ rfl; (with_reducible repeat (first | refine qI ?_ _ | refine qR ?_ | refine qJ ?_ _)); exact jV.out) k_ hk⟩)); (case aO => exact (by (with_reducible repeat (first | apply Kd.qV | apply Kd.qW | apply Kd.jB)); exact Kd.jK (Kd.zK (p := ⟨qP, 2, none⟩) (Kd.zK (p := ⟨qP, 2, none⟩) (Kd.jK jR.out (fun k_ hk => (⟨hk, hk.2⟩ : _ ∧ k_ ≠ qP))) (fun _ hk => hk.2) (.int .i64 t239)) (fun _ hk => hk.2) (.int .i64 (wrap64 (t239 + 1)))) (fun _ hk => ⟨hk.1.1, hk.1.2⟩))); (case aS => exact (qM (by repeat (first | (with_reducible first | exact HB.out | apply qA | apply q9 | apply qB | refine qK ?_ qe7.out | refine qK ?_ qu5.out) | exact HB.out)))); (case aL => have := Qk1.out; omega); intro v241 w64 ho hb hg hat; rw [← Qk2.out] at ho; have n0_ := q8.mk (Kd.qm5 (ok := (fun k_ => (P0_ k_ ∨ w.heap.size ≤ k_) ∧ some k_ ≠ (u3 : Value).ownBlock ∧ some k_ ≠ (.slice (some jS) t200.length qg7 : Value).ownBlock ∧ some k_ ≠ (v219 : Value).ownBlock ∧ some k_ ≠ (v230 : Value).ownBlock ∧ some k_ ≠ (v237 : Value).ownBlock ∧ k_ ≠ qH ∧ k_ ≠ qP)) (by (with_reducible repeat (first | apply Kd.jO | apply Kd.jP | apply Kd.z8)); exact Kd.zJ (Kd.qf4 (p := ⟨qP, 2, none⟩) (Kd.qf4 (p := ⟨qP, 2, none⟩) (Kd.zJ zX.out (fun k_ hk => (⟨hk, hk.2.2.2.2.2.2.2.1⟩ : _ ∧ k_ ≠ qP))) (fun _ hk => hk.2) (.int .i64 t239)) (fun _ hk => hk.2) (.int .i64 (wrap64 (t239 + 1)))) (fun _ hk => ⟨⟨hk.1.1, ⟨hk.1.2.1, ⟨hk.1.2.2.1, ⟨hk.1.2.2.2.1, ⟨hk.1.2.2.2.2.2.1, ⟨hk.1.2.2.2.2.2.2.2.2, ⟨hk.1.2.2.2.2.2.2.1, hk.1.2.2.2.2.2.2.2.1⟩⟩⟩⟩⟩⟩⟩, hk.1.2.2.2.2.1⟩)) hg hat); have n1_ := q8.mk (Kd.qo3 (ok := (fun k_ => (P0_ k_ ∨ w.heap.size ≤ k_) ∧ some k_ ≠ (.slice (some jS) t200.length qg7 : Value).ownBlock ∧ some k_ ≠ (v219 : Value).ownBlock ∧ some k_ ≠ (v230 : Value).ownBlock ∧ some k_ ≠ (v237 : Value).ownBlock ∧ k_ ≠ qH ∧ k_ ≠ qP)) (by (with_reducible repeat (first | apply Kd.jC | apply Kd.jD | apply Kd.jG)); exact Kd.jZ (Kd.qg2 (p := ⟨qP, 2, none⟩) (Kd.qg2 (p := ⟨qP, 2, none⟩) (Kd.jZ qa3.out (fun k_ hk => (⟨hk, hk.2.2.2.2.2.2.1⟩ : _ ∧ k_ ≠ qP))) (fun _ hk => hk.2) (.int .i64 t239)) (fun _ hk => hk.2) (.int .i64 (wrap64 (t239 + 1)))) (fun _ hk => ⟨⟨hk.1.1, ⟨hk.1.2.1, ⟨hk.1.2.2.1, ⟨hk.1.2.2.2.2.1, ⟨hk.1.2.2.2.2.2.2.2, ⟨hk.1.2.2.2.2.2.1, hk.1.2.2.2.2.2.2.1⟩⟩⟩⟩⟩⟩, hk.1.2.2.2.1⟩)) hg hat); have n2_ := q8.mk (Kd.qo3 (ok := (fun k_ => (P0_ k_ ∨ w.heap.size ≤ k_) ∧ some k_ ≠ (u3 : Value).ownBlock ∧ some k_ ≠ (v219 : Value).ownBlock ∧ some k_ ≠ (v230 : Value).ownBlock ∧ some k_ ≠ (v237 : Value).ownBlock ∧ k_ ≠ qH ∧ k_ ≠ qP)) (by (with_reducible repeat (first | apply Kd.jC | apply Kd.jD | apply Kd.jG)); exact Kd.jZ (Kd.qg2 (p := ⟨qP, 2, none⟩) (Kd.qg2 (p := ⟨qP, 2, none⟩) (Kd.jZ qU.out (fun k_ hk => (⟨hk, hk.2.2.2.2.2.2.1⟩ : _ ∧ k_ ≠ qP))) (fun _ hk => hk.2) (.int .i64 t239)) (fun _ hk => hk.2) (.int .i64 (wrap64 (t239 + 1)))) (fun _ hk => ⟨⟨hk.1.1, ⟨hk.1.2.1, ⟨hk.1.2.2.1, ⟨hk.1.2.2.2.2.1, ⟨hk.1.2.2.2.2.2.2.2, ⟨hk.1.2.2.2.2.2.1, hk.1.2.2.2.2.2.2.1⟩⟩⟩⟩⟩⟩, hk.1.2.2.2.1⟩)) hg hat); have n3_ := q8.mk (Kd.qy9 (by (with_reducible repeat (first | apply Kd.qV | apply Kd.qW | apply Kd.jB)); exact (Kd.jK (Kd.zK (p := ⟨qP, 2, none⟩) (Kd.zK (p := ⟨qP, 2, none⟩) (Kd.qb3 qb9.out jV.out (by decide)) (fun _ hk => hk.2) (.int .i64 t239)) (fun _ hk => hk.2) (.int .i64 (wrap64 (t239 + 1)))) (fun _ h_ => h_.1))) (Kd.qj4 (by (with_reducible repeat (first | apply Kd.qV | apply Kd.qW | apply Kd.jB)); exact (Kd.jK (Kd.zK (p := ⟨qP, 2, none⟩) (Kd.zK (p := ⟨qP, 2, none⟩) (Kd.jK jR.out (fun k_ hk => (⟨hk, hk.2⟩ : _ ∧ k_ ≠ qP))) (fun _ hk => hk.2) (.int .i64 t239)) (fun _ hk => hk.2) (.int .i64 (wrap64 (t239 + 1)))) (fun _ h_ => h_.1)))) (by decide) hg); have n4_ := q8.mk (qE6 (g := qH) (o := .cells #[.int .i64 t221, .int .i64 t213, .int .i64 t215, u217003] 55 (0, 0)) (by (with_reducible repeat (first | refine qI ?_ _ | refine qR ?_ | refine qJ ?_ _)); refine qj3 ?_ qh7.out _; (with_reducible repeat (first | refine qI ?_ _ | refine qR ?_ | refine qJ ?_ _)); refine qj3 ?_ qh7.out _; (with_reducible repeat (first | refine qI ?_ _ | refine qR ?_ | refine qJ ?_ _)); exact jE.out) hg (Kd.jE8 jR.out jE.out (by decide))); have n5_ := q8.mk (qE6 (g := qP) (o := .cells #[.bool ((qG ((qD t200 qO).f3) j4).f0), .int .i64 t232, .int .i64 (wrap64 (t239 + 1))] 51 (0, 0)) (by (with_reducible repeat (first | refine qI ?_ _ | refine qR ?_ | refine qJ ?_ _)); refine qd4 (cs := #[.bool ((qG ((qD t200 qO).f3) j4).f0), .int .i64 t232, .int .i64 t239]) ?_ 2 _ rfl; (with_reducible repeat (first | refine qI ?_ _ | refine qR ?_ | refine qJ ?_ _)); refine qd4 (cs := #[.bool ((qG ((qD t200 qO).f3) j4).f0), .int .i64 t232, .int .i64 ((qG ((qD t200 qO).f3) j4).f2)]) ?_ 2 _ rfl; (with_reducible repeat (first | refine qI ?_ _ | refine qR ?_ | refine qJ ?_ _)); exact jV.out) hg (Kd.zx0 jR.out (fun _ hk => hk.2))); have n6_ := q8.mk (Kd.qy9 (by (with_reducible repeat (first | apply Kd.qV | apply Kd.qW | apply Kd.jB)); exact (Kd.jK (Kd.zK (p := ⟨qP, 2, none⟩) (Kd.zK (p := ⟨qP, 2, none⟩) (Kd.qb3 qw1.out jV.out (by decide)) (fun _ hk => hk.2) (.int .i64 t239)) (fun _ hk => hk.2) (.int .i64 (wrap64 (t239 + 1)))) (fun _ h_ => h_.1))) (Kd.qj4 (by (with_reducible repeat (first | apply Kd.qV | apply Kd.qW | apply Kd.jB)); exact (Kd.jK (Kd.zK (p := ⟨qP, 2, none⟩) (Kd.zK (p := ⟨qP, 2, none⟩) (Kd.jK jR.out (fun k_ hk => (⟨hk, hk.2⟩ : _ ∧ k_ ≠ qP))) (fun _ hk => hk.2) (.int .i64 t239)) (fun _ hk => hk.2) (.int .i64 (wrap64 (t239 + 1)))) (fun _ h_ => h_.1)))) (by decide) hg); have n7_ := q8.mk (Kd.qy9 (by (with_reducible repeat (first | apply Kd.qV | apply Kd.qW | apply Kd.jB)); exact (Kd.jK (Kd.zK (p := ⟨qP, 2, none⟩) (Kd.zK (p := ⟨qP, 2, none⟩) (Kd.qb3 zh7.out jV.out (by decide)) (fun _ hk => hk.2) (.int .i64 t239)) (fun _ hk => hk.2) (.int .i64 (wrap64 (t239 + 1)))) (fun _ h_ => h_.1))) (Kd.qj4 (by (with_reducible repeat (first | apply Kd.qV | apply Kd.qW | apply Kd.jB)); exact (Kd.jK (Kd.zK (p := ⟨qP, 2, none⟩) (Kd.zK (p := ⟨qP, 2, none⟩) (Kd.jK jR.out (fun k_ hk => (⟨hk, hk.2⟩ : _ ∧ k_ ≠ qP))) (fun _ hk => hk.2) (.int .i64 t239)) (fun _ hk => hk.2) (.int .i64 (wrap64 (t239 + 1)))) (fun _ h_ => h_.1)))) (by decide) hg); have n8_ := q8.mk (hb); have n9_ := q8.mk (ho); clear zX; clear qa3; clear qU; clear qb9; clear jE; clear jV; clear qw1; clear zh7; clear HB; clear jR; have zX := n0_; have qa3 := n1_; have qU := n2_; have qb9 := n3_; have jE := n4_; have jV := n5_; have qw1 := n6_; have zh7 := n7_; have HB := n8_; have zT2 := n9_; clear n0_ n1_ n2_ n3_ n4_ n5_ n6_ n7_ n8_ n9_; clear ho hb hg hat; obtain ⟨jO7, jO8, eo65⟩ := Kd.qs6 zT2.out; subst eo65; have Qx4 : w64.cell? ⟨qH, 0, none⟩ = some (.int .i64 t221) := (qE jE.out 0).trans rfl; have Qx5 : w64.cell? ⟨qH, 1, none⟩ = some (.int .i64 t213) := (qE jE.out 1).trans rfl; have Qx6 : w64.cell? ⟨qH, 2, none⟩ = some (.int .i64 t215) := (qE jE.out 2).trans rfl; have Qx7 : w64.cell? ⟨qH, 3, none⟩ = some (u217003) := (qE jE.out 3).trans rfl; have Qx8 := qC jE.out 0; have Qx9 := qC jE.out 1; have Qy0 := qC jE.out 2; have Qy1 := qC jE.out 3))
             go_roundg k2
             case measure => have := HK1.out; have := HK2.out; omega
             case rel => exact ⟨(t229), (t236), (wrap64 (j4 + 1)), (y240), (.slice jO7 y240.length jO8), (by first | rfl | (simp; done) | (simp [*]; done)), H', ⟨by have := HK1.out; have := HK2.out; omega⟩, ⟨by (with_reducible repeat (first | apply Kd.jO | apply Kd.jP | apply Kd.z8)); exact Kd.zJ (Kd.qf4 (p := ⟨qH, 3, none⟩) (Kd.zJ zX.out (fun k_ hk => (⟨hk, hk.1.2.2.2.2.2.2.1⟩ : _ ∧ k_ ≠ qH))) (fun _ hk => hk.2) (.slice jO7 y240.length jO8)) (fun _ hk => ⟨hk.1.1.1, ⟨hk.1.1.2.1, ⟨hk.1.1.2.2.1, ⟨hk.1.1.2.2.2.1, ⟨hk.1.1.2.2.2.2.1, ⟨hk.1.1.2.2.2.2.2.1, ⟨hk.1.2, hk.1.1.2.2.2.2.2.2.1⟩⟩⟩⟩⟩⟩⟩)⟩, ⟨by (with_reducible repeat (first | apply Kd.jC | apply Kd.jD | apply Kd.jG)); exact Kd.jZ (Kd.qg2 (p := ⟨qH, 3, none⟩) (Kd.jZ qa3.out (fun k_ hk => (⟨hk, hk.1.2.2.2.2.2.1⟩ : _ ∧ k_ ≠ qH))) (fun _ hk => hk.2) (.slice jO7 y240.length jO8)) (fun _ hk => ⟨hk.1.1.1, ⟨hk.1.1.2.1, ⟨hk.1.1.2.2.1, ⟨hk.1.1.2.2.2.1, ⟨hk.1.1.2.2.2.2.1, ⟨hk.1.2, hk.1.1.2.2.2.2.2.1⟩⟩⟩⟩⟩⟩)⟩, ⟨by (with_reducible repeat (first | apply Kd.jC | apply Kd.jD | apply Kd.jG)); exact Kd.jZ (Kd.qg2 (p := ⟨qH, 3, none⟩) (Kd.jZ qU.out (fun k_ hk => (⟨hk, hk.1.2.2.2.2.2.1⟩ : _ ∧ k_ ≠ qH))) (fun _ hk => hk.2) (.slice jO7 y240.length jO8)) (fun _ hk => ⟨hk.1.1.1, ⟨hk.1.1.2.1, ⟨hk.1.1.2.2.1, ⟨hk.1.1.2.2.2.1, ⟨hk.1.1.2.2.2.2.1, ⟨hk.1.2, hk.1.1.2.2.2.2.2.1⟩⟩⟩⟩⟩⟩)⟩, ⟨by (with_reducible repeat (first | apply Kd.qV | apply Kd.qW | apply Kd.jB)); exact Kd.jK (Kd.zK (p := ⟨qH, 3, none⟩) (Kd.qb3 qb9.out jE.out (by decide)) (fun _ hk => hk.2) (.slice jO7 y240.length jO8)) (fun _ hk => ⟨hk.1.1, ⟨hk.1.2.1, hk.1.2.2⟩⟩)⟩, ⟨by (with_reducible repeat (first | apply Kd.qV | apply Kd.qW | apply Kd.jB)); exact Kd.jK (Kd.zK (p := ⟨qH, 3, none⟩) (Kd.qb3 qw1.out jE.out (by decide)) (fun _ hk => hk.2) (.slice jO7 y240.length jO8)) (fun _ hk => ⟨hk.1.1, ⟨hk.1.2.1, hk.1.2.2⟩⟩)⟩, ⟨by (with_reducible repeat (first | apply Kd.qV | apply Kd.qW | apply Kd.jB)); exact Kd.jK (Kd.zK (p := ⟨qH, 3, none⟩) (Kd.qb3 zh7.out jE.out (by decide)) (fun _ hk => hk.2) (.slice jO7 y240.length jO8)) (fun _ hk => ⟨hk.1.1, ⟨hk.1.2.1, hk.1.2.2⟩⟩)⟩, ⟨by (with_reducible repeat (first | apply Kd.qV | apply Kd.qW | apply Kd.jB)); exact Kd.jK (Kd.zK (p := ⟨qH, 3, none⟩) (Kd.qb3 zT2.out jE.out (by decide)) (fun _ hk => hk.2) (.slice jO7 y240.length jO8)) (fun _ hk => hk.1.1)⟩, ⟨by (with_reducible repeat (first | refine qI ?_ _ | refine qR ?_ | refine qJ ?_ _)); refine qd4 (cs := #[.int .i64 t221, .int .i64 t213, .int .i64 t215, u217003]) ?_ 3 _ rfl; (with_reducible repeat (first | refine qI ?_ _ | refine qR ?_ | refine qJ ?_ _)); exact jE.out⟩, ⟨by repeat (first | (with_reducible first | exact HB.out | apply qA | apply q9 | apply qB | refine qK ?_ qe7.out | refine qK ?_ qu5.out) | exact HB.out)⟩⟩
            ·rw [if_neg c49] at H
             exact absurd H (by simp)
          ·rw [if_neg c32] at H
           exact absurd H (by simp)
         ·rw [if_neg c31] at H
          have Qj4 : decide (j4 < (((qD t200 qO).f3).length : Int)) = false := decide_eq_false c31
          clear c31
          by_cases c67 : qk1.length < 2932031007402
          ·rw [if_pos c67] at H
           have Qk3 := q8.mk c67
           clear c67
           obtain ⟨y223, jO9⟩ : ∃ y_ : List (S55), y_ = (qk1 ++ [(⟨t221, t213, t215, zU⟩ : S55)]) := ⟨_, rfl⟩
           replace H : (qL.l0 k2 l0 y223 t200 t218 qe2 qf3 (wrap64 (qO + 1))) = some r := by first | (rw [jO9]; with_reducible exact H) | (have H2_ := (Option.bind_some _ _).symm.trans H; rw [jO9]; with_reducible exact H2_) | (have H2_ := (Option.bind_some _ _).symm.trans H; with_reducible exact H2_) | with_reducible exact H | (rw [jO9]; exact H) | exact H
           have Qk4 := q8.mk jO9
           clear jO9
           have H' := q8.mk H
           clear H
           have qY0 : 0 ≤ (qO : Int) := of_decide_eq_true (by first | (with_reducible assumption) | assumption)
           have qY1 : qO < (t200.length : Int) := of_decide_eq_true (by first | (with_reducible assumption) | assumption)
           obtain ⟨jO1, zw4, je5, e222, zh0, zh1, zh2, qH0, qB8, qB9⟩ := qa4 (Kd.zV qU.out).2.2 qO qY0 qY1
           obtain rfl : jS = jO1 := (by injection e222)
           obtain ⟨zT0, jm6, jm7, qL9⟩ := Kd.qE4 qU.out z55 qO qY0 (by first | exact qY1 | exact of_decide_eq_true (by first | (with_reducible assumption) | assumption) | (have e_ := (Kd.zV qU.out).1; omega))
           obtain ⟨zh3, zh4, rfl, qt0, qt1⟩ := qh6 jm7
           have qn4 := qL9 3 _ rfl
           rw [zM _ _ 3 (by omega)] at qn4
           replace qn4 := Option.some.inj (qn4.symm.trans qH0)
           injection qn4 with qm6 qx0 qm7
           rw [qm6] at qt1
           rw [qm7] at qt0
           have qg8 := q8.mk (show Kd.V k51 51 _ w.heap.size _ _ ((qD t200 qO).f3) from Kd.qP3 qt0 qt1)
           clear qm6 qx0 qm7 qt1 qt0
           clear qL9 jm6
           have qv5 := q8.mk qB9
           have zh5 := q8.mk qB8
           clear qB9 qB8
           replace qY0 := eq_true qY0
           replace qY1 := eq_true qY1
           have Qy2 : wr.cell? ⟨qH, 0, none⟩ = some (.int .i64 t221) := (qE jE.out 0).trans rfl
           have Qy3 : wr.cell? ⟨qH, 1, none⟩ = some (.int .i64 t213) := (qE jE.out 1).trans rfl
           have Qy4 : wr.cell? ⟨qH, 2, none⟩ = some (.int .i64 t215) := (qE jE.out 2).trans rfl
           have Qy5 : wr.cell? ⟨qH, 3, none⟩ = some (u217003) := (qE jE.out 3).trans rfl
           have Qy6 := qC jE.out 0
           have Qy7 := qC jE.out 1
           have Qy8 := qC jE.out 2
           have Qy9 := qC jE.out 3
           obtain ⟨zm0, zm1, eo70⟩ := Kd.qs6 jR.out
           subst eo70
           go_wp2_with (first | ((with_reducible refine ql0 (b := .append) (xs := #[.tmp 97, .tmp 99]) rfl ?_); at_builtin; refine Kd.jM6 k55 (w0 := w) w.heap.size rfl (.tmp 97) (.tmp 99) 22 55 (.agg #[(.int .i64 0), (.int .i64 0), (.int .i64 0), (.slice none 0 0)]) 48 rfl Try.underlying22 qR6 rfl (by decide) (by omega) u3 qk1 (⟨t221, t213, t215, zU⟩ : S55) [.int .i64 t221, .int .i64 t213, .int .i64 t215, .slice zm0 zU.length zm1] (fun k_ => (P0_ k_ ∨ w.heap.size ≤ k_) ∧ some k_ ≠ (.slice (some jS) t200.length qg7 : Value).ownBlock ∧ some k_ ≠ (v219 : Value).ownBlock ∧ some k_ ≠ (u6 : Value).ownBlock ∧ some k_ ≠ (u7 : Value).ownBlock ∧ k_ ≠ qH) (fun k_ => ((fun k_ => (P0_ k_ ∨ w.heap.size ≤ k_) ∧ some k_ ≠ (.slice (some jS) t200.length qg7 : Value).ownBlock ∧ some k_ ≠ (v219 : Value).ownBlock ∧ some k_ ≠ (u6 : Value).ownBlock ∧ some k_ ≠ (u7 : Value).ownBlock ∧ k_ ≠ qH)) k_ ∧ some k_ ≠ (u3 : Value).ownBlock) rfl rfl ?aP (fun _ hk => hk) ?aF ?aO ?aB ?aS ?aL ?_; (case aP => exact (zf8 _ _ (⟨t221, t213, t215, zU⟩ : S55) (Kd.qv9 (Kd.jK (ok' := (fun k_ => ((fun k_ => (P0_ k_ ∨ w.heap.size ≤ k_) ∧ some k_ ≠ (.slice (some jS) t200.length qg7 : Value).ownBlock ∧ some k_ ≠ (v219 : Value).ownBlock ∧ some k_ ≠ (u6 : Value).ownBlock ∧ some k_ ≠ (u7 : Value).ownBlock ∧ k_ ≠ qH)) k_ ∧ some k_ ≠ (u3 : Value).ownBlock)) (Kd.qb3 (Kd.qk2 (Kd.qk2 (Kd.qk2 (Kd.qk2 (Kd.qk2 (jR.out) (Kd.qH3 qU.out) (by decide)) (Kd.qj4 qb9.out) (by decide)) (Kd.qj4 qe6.out) (by decide)) (Kd.qj4 qc8.out) (by decide)) (Kd.qH3 qa3.out) (by decide)) jE.out (by decide)) (fun k_ hk => ⟨⟨(.inr (hk.1.1.1.1.1.1)), ⟨hk.1.1.1.1.1.2, ⟨hk.1.1.1.1.2, ⟨hk.1.1.1.2, ⟨hk.1.1.2, hk.2⟩⟩⟩⟩⟩, hk.1.2⟩))).2.1 (Kd.R_F (Kd.jK (ok' := (fun k_ => ((fun k_ => (P0_ k_ ∨ w.heap.size ≤ k_) ∧ some k_ ≠ (.slice (some jS) t200.length qg7 : Value).ownBlock ∧ some k_ ≠ (v219 : Value).ownBlock ∧ some k_ ≠ (u6 : Value).ownBlock ∧ some k_ ≠ (u7 : Value).ownBlock ∧ k_ ≠ qH)) k_ ∧ some k_ ≠ (u3 : Value).ownBlock)) (Kd.qb3 (Kd.qk2 (Kd.qk2 (Kd.qk2 (Kd.qk2 (Kd.qk2 (jR.out) (Kd.qH3 qU.out) (by decide)) (Kd.qj4 qb9.out) (by decide)) (Kd.qj4 qe6.out) (by decide)) (Kd.qj4 qc8.out) (by decide)) (Kd.qH3 qa3.out) (by decide)) jE.out (by decide)) (fun k_ hk => ⟨⟨(.inr (hk.1.1.1.1.1.1)), ⟨hk.1.1.1.1.1.2, ⟨hk.1.1.1.1.2, ⟨hk.1.1.1.2, ⟨hk.1.1.2, hk.2⟩⟩⟩⟩⟩, hk.1.2⟩))))); (case aB => exact (by repeat (first | (with_reducible first | exact HB.out | apply qA | apply q9 | apply qB | refine qK ?_ qe7.out) | exact HB.out))); (case aF => exact (fun k_ hk => ⟨(.inr (Nat.le_trans (qM (by repeat (first | (with_reducible first | exact HB.out | apply qA | apply q9 | apply qB | refine qK ?_ qe7.out) | exact HB.out))) hk)), Kd.fresh' (Kd.ju3 (by (with_reducible repeat (first | apply Kd.jC | apply Kd.jD | apply Kd.jG)); exact qU.out)) k_ hk, Kd.fresh' (Kd.qK4 (by (with_reducible repeat (first | apply Kd.qV | apply Kd.qW | apply Kd.jB)); exact qb9.out)) k_ hk, Kd.fresh' (Kd.qK4 (by (with_reducible repeat (first | apply Kd.qV | apply Kd.qW | apply Kd.jB)); exact qe6.out)) k_ hk, Kd.fresh' (Kd.qK4 (by (with_reducible repeat (first | apply Kd.qV | apply Kd.qW | apply Kd.jB)); exact qc8.out)) k_ hk, Kd.jY8 (g := qH) (o := .cells #[.int .i64 t221, .int .i64 t213, .int .i64 t215, .slice zm0 zU.length zm1] 55 (0, 0)) (by (with_reducible repeat (first | refine qI ?_ _ | refine qR ?_ | refine qJ ?_ _)); exact jE.out) k_ hk⟩)); (case aO => exact (by (with_reducible repeat (first | apply Kd.jC | apply Kd.jD | apply Kd.jG)); exact Kd.jZ qa3.out (fun _ hk => ⟨hk.1, ⟨hk.2.1, ⟨hk.2.2.1, ⟨hk.2.2.2.1, ⟨hk.2.2.2.2.1, hk.2.2.2.2.2.2⟩⟩⟩⟩⟩))); (case aS => exact (qM (by repeat (first | (with_reducible first | exact HB.out | apply qA | apply q9 | apply qB | refine qK ?_ qe7.out) | exact HB.out)))); (case aL => have := Qk3.out; omega); intro v224 w69 ho hb hg hat; rw [← Qk4.out] at ho; have n0_ := q8.mk (Kd.qm5 (ok := (fun k_ => (P0_ k_ ∨ w.heap.size ≤ k_) ∧ some k_ ≠ (.slice (some jS) t200.length qg7 : Value).ownBlock ∧ some k_ ≠ (v219 : Value).ownBlock ∧ some k_ ≠ (u6 : Value).ownBlock ∧ some k_ ≠ (u7 : Value).ownBlock ∧ some k_ ≠ (.slice zm0 zU.length zm1 : Value).ownBlock ∧ k_ ≠ qH)) (by (with_reducible repeat (first | apply Kd.jO | apply Kd.jP | apply Kd.z8)); exact Kd.zJ zX.out (fun _ hk => ⟨⟨hk.1, ⟨hk.2.2.1, ⟨hk.2.2.2.1, ⟨hk.2.2.2.2.1, ⟨hk.2.2.2.2.2.1, ⟨hk.2.2.2.2.2.2.1, hk.2.2.2.2.2.2.2⟩⟩⟩⟩⟩⟩, hk.2.1⟩)) hg hat); have n1_ := q8.mk (Kd.qo3 (ok := (fun k_ => (P0_ k_ ∨ w.heap.size ≤ k_) ∧ some k_ ≠ (v219 : Value).ownBlock ∧ some k_ ≠ (u6 : Value).ownBlock ∧ some k_ ≠ (u7 : Value).ownBlock ∧ some k_ ≠ (.slice zm0 zU.length zm1 : Value).ownBlock ∧ k_ ≠ qH)) (by (with_reducible repeat (first | apply Kd.jC | apply Kd.jD | apply Kd.jG)); exact Kd.jZ qU.out (fun _ hk => ⟨⟨hk.1, ⟨hk.2.2.1, ⟨hk.2.2.2.1, ⟨hk.2.2.2.2.1, ⟨hk.2.2.2.2.2.1, hk.2.2.2.2.2.2⟩⟩⟩⟩⟩, hk.2.1⟩)) hg hat); have n2_ := q8.mk (Kd.qy9 (by (with_reducible repeat (first | apply Kd.qV | apply Kd.qW | apply Kd.jB)); exact qb9.out) (Kd.qH3 (by (with_reducible repeat (first | apply Kd.jC | apply Kd.jD | apply Kd.jG)); exact qa3.out)) (by decide) hg); have n3_ := q8.mk (Kd.qy9 (by (with_reducible repeat (first | apply Kd.qV | apply Kd.qW | apply Kd.jB)); exact qe6.out) (Kd.qH3 (by (with_reducible repeat (first | apply Kd.jC | apply Kd.jD | apply Kd.jG)); exact qa3.out)) (by decide) hg); have n4_ := q8.mk (Kd.qy9 (by (with_reducible repeat (first | apply Kd.qV | apply Kd.qW | apply Kd.jB)); exact qc8.out) (Kd.qH3 (by (with_reducible repeat (first | apply Kd.jC | apply Kd.jD | apply Kd.jG)); exact qa3.out)) (by decide) hg); have n5_ := q8.mk (qE6 (g := qH) (o := .cells #[.int .i64 t221, .int .i64 t213, .int .i64 t215, .slice zm0 zU.length zm1] 55 (0, 0)) (by (with_reducible repeat (first | refine qI ?_ _ | refine qR ?_ | refine qJ ?_ _)); exact jE.out) hg (Kd.qX qa3.out (fun _ hk => hk.2.2.2.2.2.2))); have n6_ := q8.mk (Kd.qm5 (ok := (fun k_ => (P0_ k_ ∨ w.heap.size ≤ k_) ∧ some k_ ≠ (.slice (some jS) t200.length qg7 : Value).ownBlock ∧ some k_ ≠ (v219 : Value).ownBlock ∧ some k_ ≠ (u6 : Value).ownBlock ∧ some k_ ≠ (u7 : Value).ownBlock ∧ some k_ ≠ (.slice zm0 zU.length zm1 : Value).ownBlock ∧ k_ ≠ qH)) (by (with_reducible repeat (first | apply Kd.jO | apply Kd.jP | apply Kd.z8)); exact Kd.zJ qg8.out (fun _ hk => ⟨⟨hk.1.1, ⟨hk.2, ⟨hk.1.2.2.1, ⟨hk.1.2.2.2.1, ⟨hk.1.2.2.2.2.1, ⟨hk.1.2.2.2.2.2.1, hk.1.2.2.2.2.2.2⟩⟩⟩⟩⟩⟩, hk.1.2.1⟩)) hg hat); have n7_ := q8.mk (hb); have n8_ := q8.mk (ho); clear zX; clear qU; clear qb9; clear qe6; clear qc8; clear jE; clear qg8; clear HB; clear qa3; clear jR; have zX := n0_; have qU := n1_; have qb9 := n2_; have qe6 := n3_; have qc8 := n4_; have jE := n5_; have qg8 := n6_; have HB := n7_; have Qk5 := n8_; clear n0_ n1_ n2_ n3_ n4_ n5_ n6_ n7_ n8_; clear ho hb hg hat))
           go_roundg k2
           case measure => have := HK1.out; have := HK2.out; omega
           case rel => exact ⟨(y223), (t218), (qe2), (qf3), (wrap64 (qO + 1)), (by first | rfl | (simp; done) | (simp [*]; done)), H', ⟨by have := HK1.out; have := HK2.out; omega⟩, ⟨by (with_reducible repeat (first | apply Kd.jO | apply Kd.jP | apply Kd.z8)); exact Kd.zJ zX.out (fun _ hk => ⟨hk.1.1, ⟨hk.2, ⟨hk.1.2.1, ⟨hk.1.2.2.1, ⟨hk.1.2.2.2.1, hk.1.2.2.2.2.1⟩⟩⟩⟩⟩)⟩, ⟨by (with_reducible repeat (first | apply Kd.jC | apply Kd.jD | apply Kd.jG)); exact Kd.jZ Qk5.out (fun _ hk => ⟨hk.1, ⟨hk.2.1, ⟨hk.2.2.1, ⟨hk.2.2.2.1, hk.2.2.2.2.1⟩⟩⟩⟩)⟩, ⟨by (with_reducible repeat (first | apply Kd.jC | apply Kd.jD | apply Kd.jG)); exact Kd.jZ qU.out (fun _ hk => ⟨hk.1.1, ⟨hk.2, ⟨hk.1.2.1, ⟨hk.1.2.2.1, hk.1.2.2.2.1⟩⟩⟩⟩)⟩, ⟨by (with_reducible repeat (first | apply Kd.qV | apply Kd.qW | apply Kd.jB)); exact qb9.out⟩, ⟨by (with_reducible repeat (first | apply Kd.qV | apply Kd.qW | apply Kd.jB)); exact qe6.out⟩, ⟨by (with_reducible repeat (first | apply Kd.qV | apply Kd.qW | apply Kd.jB)); exact qc8.out⟩, ⟨by repeat (first | (with_reducible first | exact HB.out | apply qA | apply q9 | apply qB | refine qK ?_ qe7.out) | exact HB.out)⟩⟩
          ·rw [if_neg c67] at H
           exact absurd H (by simp)
        ·rw [if_neg c30] at H
         exact absurd H (by simp)
       ·rw [if_neg c29] at H
        exact absurd H (by simp)
    ·rw [if_neg c13] at H
     exact absurd H (by simp)
   ·rw [if_neg c12] at H
    have qE3 : decide (qO < (t200.length : Int)) = false := decide_eq_false c12
    clear c12
    obtain rfl := Option.some.inj H
    obtain ⟨Ao71, co71, eo71⟩ := Kd.qN9 qU.out
    subst eo71
    go_wp2
    go_ret
    exact ⟨_, by first | rfl | (simp [jI, jJ] <;> rfl) | (simp [*, jI, jJ] <;> rfl), by (with_reducible repeat (first | apply Kd.jC | apply Kd.jD | apply Kd.jG)); exact Kd.jZ qa3.out (fun _ hk => hk.1), by repeat (first | (with_reducible first | exact HB.out | apply qA | apply q9 | apply qB) | exact HB.out)⟩
end Go.Proofs.Ytngkneknopenmaa.T
end
section
namespace Go.Proofs.Ytngkneknopenmaa.zQ
open Go Go.RowKit Go.Proofs.Ytngkneknopenmaa Go.Proofs.Ytngkneknopenmaa.qb0 Go.Proofs.YtngkneknopenmaaW.jH
open Go.Proofs.Ytngkneknopenmaa.K (S55 S51 qD qG)
theorem zJ2 (h : List T4) (x : Int) (hm : h.length ≤ 1000000) : ∀ (d i n : Nat), i + d = h.length → n ≤ 2 * i →
  Ev (fun k => T.j6.l0 k (h.map ofT) x (n : Int) (i : Int)) ((n + zI (jF (h.drop i)) x : Nat) : Int) := by
 intro d
 induction d with
 | zero =>
  intro i n hi hn
  refine Ev.step (f := fun _ => some (n : Int)) (fun k => by simp only [T.j6.l0]; rw [if_neg (by rw [List.length_map]; omega)]) ?_
  rw [List.drop_of_length_le (by omega)]
  exact Ev.now _
 | succ d ih =>
  intro i n hi hn
  have h1 : i < h.length := by omega
  have e : jF (h.drop i) = [h[i].b, h[i].c] ++ jF (h.drop (i + 1)) := by rw [List.drop_eq_getElem_cons h1]; rfl
  have ec : zI (jF (h.drop i)) x = (if h[i].b < x then 1 else 0) + (if h[i].c < x then 1 else 0) + zI (jF (h.drop (i + 1))) x := by
   rw [e]
   unfold zI
   rw [List.countP_append, List.countP_cons, List.countP_cons, List.countP_nil]
   simp only [decide_eq_true_eq]
   omega
  rw [ec]
  have key : ∀ m : Nat, m ≤ 2 * (i + 1) → Ev (fun k => T.j6.l0 k (h.map ofT) x (m : Int) ((i + 1 : Nat) : Int)) ((m + zI (jF (h.drop (i + 1))) x : Nat) : Int) := fun m hm2 => ih (i + 1) m (by omega) hm2
  by_cases c1 : h[i].b < x <;> by_cases c2 : h[i].c < x
  ·refine Ev.step (fun k => by
    simp only [T.j6.l0]
    rw [if_pos (by rw [List.length_map]; omega), if_pos (by omega), ql4 h i h1, if_pos (show (ofT h[i]).f1 < x from c1), if_pos (show (ofT h[i]).f2 < x from c2), qb5 (x := i) (by omega), qb5 (x := n) (by omega), qb5 (x := n + 1) (by omega)]) ?_
   rw [if_pos c1, if_pos c2, show n + (1 + 1 + zI (jF (h.drop (i + 1))) x) = n + 1 + 1 + zI (jF (h.drop (i + 1))) x by omega]
   exact key _ (by omega)
  ·refine Ev.step (fun k => by
    simp only [T.j6.l0]
    rw [if_pos (by rw [List.length_map]; omega), if_pos (by omega), ql4 h i h1, if_pos (show (ofT h[i]).f1 < x from c1), if_neg (show ¬ (ofT h[i]).f2 < x from c2), qb5 (x := i) (by omega), qb5 (x := n) (by omega)]) ?_
   rw [if_pos c1, if_neg c2, show n + (1 + 0 + zI (jF (h.drop (i + 1))) x) = n + 1 + zI (jF (h.drop (i + 1))) x by omega]
   exact key _ (by omega)
  ·refine Ev.step (fun k => by
    simp only [T.j6.l0]
    rw [if_pos (by rw [List.length_map]; omega), if_pos (by omega), ql4 h i h1, if_neg (show ¬ (ofT h[i]).f1 < x from c1), if_pos (show (ofT h[i]).f2 < x from c2), qb5 (x := i) (by omega), qb5 (x := n) (by omega)]) ?_
   rw [if_neg c1, if_pos c2, show n + (0 + 1 + zI (jF (h.drop (i + 1))) x) = n + 1 + zI (jF (h.drop (i + 1))) x by omega]
   exact key _ (by omega)
  ·refine Ev.step (fun k => by
    simp only [T.j6.l0]
    rw [if_pos (by rw [List.length_map]; omega), if_pos (by omega), ql4 h i h1, if_neg (show ¬ (ofT h[i]).f1 < x from c1), if_neg (show ¬ (ofT h[i]).f2 < x from c2), qb5 (x := i) (by omega)]) ?_
   rw [if_neg c1, if_neg c2, show n + (0 + 0 + zI (jF (h.drop (i + 1))) x) = n + zI (jF (h.drop (i + 1))) x by omega]
   exact key _ (by omega)
theorem zx1 (h : List T4) (x : Int) (hm : h.length ≤ 1000000) : Ev (fun k => T.j6.f k (h.map ofT) x) (qF6 h x) := by
 have := zJ2 h x hm h.length 0 0 (by omega) (by omega)
 rw [List.drop_zero, Nat.zero_add] at this
 exact this
theorem jP0 {l : List Int} {x : Int} (h : x ∉ l) : qa0 l x = l.length := by
 unfold qa0
 rw [List.findIdx_eq_length]
 intro y hy
 simp
 exact fun e => h (e ▸ hy)
theorem jm9 (l : List Int) (x : Int) : qa0 (zO l x) x = qa0 l x := by
 unfold zO
 by_cases h : x ∈ l
 ·rw [if_pos h]
 ·rw [if_neg h, qV0 h, jP0 h]
theorem zJ3 (l : List Int) (x : Int) (hm : l.length ≤ 1000000) : ∀ (d i : Nat), i + d = l.length → (∀ j, j < i → ∀ h : j < l.length, l[j] ≠ x) →
  Ev (fun k => T.jA.l0 k l x (i : Int)) (zO l x, (qa0 l x : Int)) := by
 intro d
 induction d with
 | zero =>
  intro i hi hn
  have hx : x ∉ l := fun hx => by
   obtain ⟨j, hj, e⟩ := List.mem_iff_getElem.1 hx
   exact hn j (by omega) hj e
  have e2 : ((zO l x, (qa0 l x : Int)) : List Int × Int) = (l ++ [x], (l.length : Int)) := by
   rw [jP0 hx]
   unfold zO
   rw [if_neg hx]
  rw [e2]
  refine Ev.step (f := fun _ => some (l ++ [x], (l.length : Int))) (fun k => ?_) (Ev.now _)
  simp only [T.jA.l0]
  rw [if_neg (by omega)]
  simp only [Option.bind_some, List.length_nil, List.nil_append]
  rw [if_pos (by omega), if_pos (by omega)]
 | succ d ih =>
  intro i hi hn
  have h1 : i < l.length := by omega
  have er : rd l (i : Int) = l[i] := by unfold rd; simp [h1]
  by_cases c : l[i] = x
  ·have e2 : ((zO l x, (qa0 l x : Int)) : List Int × Int) = (l, (i : Int)) := by
    have hx : x ∈ l := c ▸ List.getElem_mem h1
    have : qa0 l x = i := by
     unfold qa0
     rw [List.findIdx_eq h1]
     refine ⟨by simp [c], fun j hj => by simp; exact hn j hj (by omega)⟩
    rw [this]
    unfold zO
    rw [if_pos hx]
   rw [e2]
   refine Ev.step (f := fun _ => some (l, (i : Int))) (fun k => ?_) (Ev.now _)
   simp only [T.jA.l0]
   rw [if_pos (by omega), if_pos (by omega), er, if_pos c]
  ·refine Ev.step (fun k => by
    simp only [T.jA.l0]
    rw [if_pos (by omega), if_pos (by omega), er, if_neg c, qb5 (by omega)]) ?_
   refine ih (i + 1) (by omega) (fun j hj hjl => ?_)
   by_cases q : j = i
   ·subst q; exact c
   ·exact hn j (by omega) hjl
theorem jY9 (l : List Int) (x : Int) (hm : l.length ≤ 1000000) : Ev (fun k => T.jA.f k l x) (zO l x, (qa0 l x : Int)) :=
 zJ3 l x hm l.length 0 (by omega) (fun j hj => by omega)
end Go.Proofs.Ytngkneknopenmaa.zQ
end
section
namespace Go.Proofs.Ytngkneknopenmaa.zQ
open Go Go.RowKit Go.Proofs.Ytngkneknopenmaa Go.Proofs.Ytngkneknopenmaa.qb0 Go.Proofs.YtngkneknopenmaaW.jH
open Go.Proofs.Ytngkneknopenmaa.K (S55 S51 qD qG)
theorem jn0 {α : Type} (l : List α) (k : Nat) (h : k < l.length) : (l[k] :: (l.take k ++ l.drop (k + 1))).Perm l := by
 have e : l = l.take k ++ l[k] :: l.drop (k + 1) := by rw [← List.drop_eq_getElem_cons h, List.take_append_drop]
 have p : (l.take k ++ l[k] :: l.drop (k + 1)).Perm (l[k] :: (l.take k ++ l.drop (k + 1))) := List.perm_middle
 exact p.symm.trans (List.Perm.of_eq e.symm)
theorem jZ0 (out left : List T4) (k kk i : Nat) (hi : i = left.length) (hk : kk < left.length) (hm : left.length ≤ 1000000) (hm2 : out.length ≤ 1000000) : T.qF.l1 (k + 1) (out.map ofT) (left.map ofT) (kk : Int) (i : Int) = T.qF.l0 k ((out ++ [left[kk]]).map ofT) ((left.take kk ++ left.drop (kk + 1)).map ofT) := by
 have h1 : ¬ ((i : Int) < ((left.map ofT).length : Int)) := by rw [List.length_map]; omega
 have h2 : (0 : Int) ≤ (kk : Int) := by omega
 have h3 : (kk : Int) < ((left.map ofT).length : Int) := by rw [List.length_map]; omega
 have h4 : (out.map ofT).length < 2932031007402 := by rw [List.length_map]; omega
 have h5 : (kk : Int) ≤ ((left.map ofT).length : Int) := by rw [List.length_map]; omega
 have h6 : ([] : List S55).length + ((left.map ofT).take ((kk : Nat) : Int).toNat).length < 2932031007402 := by simp only [List.length_nil, List.length_take, List.length_map]; omega
 have h7 : wrap64 ((kk : Int) + 1) = ((kk + 1 : Nat) : Int) := qb5 (by omega)
 have h8 : (0 : Int) ≤ wrap64 ((kk : Int) + 1) := by rw [h7]; exact Int.natCast_nonneg _
 have h9 : wrap64 ((kk : Int) + 1) ≤ ((left.map ofT).length : Int) := by rw [h7, List.length_map]; exact Int.ofNat_le.2 hk
 have h10 : (([] : List S55) ++ (left.map ofT).take ((kk : Nat) : Int).toNat).length + ((left.map ofT).drop (wrap64 ((kk : Int) + 1)).toNat).length < 2932031007402 := by
  rw [h7]
  simp only [List.nil_append, List.length_take, List.length_drop, List.length_map]
  clear h7 h8 h9
  omega
 rw [T.qF.l1]
 rw [if_neg h1, if_pos h2, if_pos h3, if_pos h4]
 rw [Option.bind_some]
 rw [if_pos h5]
 rw [Option.bind_some]
 rw [if_pos h6]
 rw [Option.bind_some]
 rw [if_pos h8, if_pos h9]
 rw [Option.bind_some]
 rw [if_pos h10, h7, ql4 left kk hk]
 simp only [List.nil_append, List.map_append, List.map_take, List.map_drop, List.map_cons, List.map_nil, Int.toNat_natCast]
theorem zm2 (out left : List T4) (hm : left.length ≤ 1000000) (hm2 : out.length + left.length ≤ 1000000) : ∀ (d kk i : Nat), i + d = left.length → (hk : kk < left.length) → (∀ j, j < i → ∀ h : j < left.length, left[kk].b ≤ left[j].b) → ∃ k2, ∃ h2 : k2 < left.length, (∀ u ∈ left, left[k2].b ≤ u.b) ∧ ∀ r, Ev (fun k => T.qF.l0 k ((out ++ [left[k2]]).map ofT) ((left.take k2 ++ left.drop (k2 + 1)).map ofT)) r → Ev (fun k => T.qF.l1 k (out.map ofT) (left.map ofT) (kk : Int) (i : Int)) r := by
 intro d
 induction d with
 | zero =>
  intro kk i hi hk hmin
  have Qk6 : ∀ u ∈ left, left[kk].b ≤ u.b := fun u hu => by
   obtain ⟨j, hj, rfl⟩ := List.mem_iff_getElem.1 hu
   exact hmin j (by omega) hj
  refine ⟨kk, hk, Qk6, fun r hr => ?_⟩
  refine Ev.step (fun k => jZ0 out left k kk i (by omega) hk (by omega) (by omega)) hr
 | succ d ihd =>
  intro kk i hi hk hmin
  have h1 : i < left.length := by omega
  by_cases c : left[i].b < left[kk].b
  ·obtain ⟨k2, h2, hm3, hr⟩ := ihd i (i + 1) (by omega) h1 (fun j hj hjl => by
    by_cases q : j = i
    ·subst q; exact Int.le_refl _
    ·have := hmin j (by omega) hjl; omega)
   refine ⟨k2, h2, hm3, fun r hr2 => Ev.step (fun k => ?_) (hr r hr2)⟩
   simp only [T.qF.l1]
   rw [if_pos (by rw [List.length_map]; omega), if_pos (by omega), if_pos (by omega), if_pos (by rw [List.length_map]; omega), ql4 left i h1, ql4 left kk hk, if_pos (show (ofT left[i]).f1 < (ofT left[kk]).f1 from c), qb5 (x := i) (by omega)]
  ·obtain ⟨k2, h2, hm3, hr⟩ := ihd kk (i + 1) (by omega) hk (fun j hj hjl => by
    by_cases q : j = i
    ·subst q; omega
    ·exact hmin j (by omega) hjl)
   refine ⟨k2, h2, hm3, fun r hr2 => Ev.step (fun k => ?_) (hr r hr2)⟩
   simp only [T.qF.l1]
   rw [if_pos (by rw [List.length_map]; omega), if_pos (by omega), if_pos (by omega), if_pos (by rw [List.length_map]; omega), ql4 left i h1, ql4 left kk hk, if_neg (show ¬ (ofT left[i]).f1 < (ofT left[kk]).f1 from c), qb5 (x := i) (by omega)]
theorem zm3 : ∀ (n : Nat) (out left : List T4), left.length = n → left.length ≤ 1000000 → out.length + left.length ≤ 1000000 → ∃ r : List T4, r.Perm left ∧ r.Pairwise (fun x y => x.b ≤ y.b) ∧ Ev (fun k => T.qF.l0 k (out.map ofT) (left.map ofT)) ((out ++ r).map ofT) := by
 intro n
 induction n with
 | zero =>
  intro out left hl _ _
  obtain rfl := List.eq_nil_of_length_eq_zero hl
  refine ⟨[], List.Perm.refl _, List.Pairwise.nil, ?_⟩
  rw [List.append_nil]
  refine Ev.step (f := fun _ => some (out.map ofT)) (fun k => ?_) (Ev.now _)
  simp only [T.qF.l0]
  rfl
 | succ n ih =>
  intro out left hl hm hm2
  have run := zm2 out left hm hm2 left.length 0 0 (by omega) (by omega) (fun j hj => by omega)
  obtain ⟨k2, h2, hmin, hrun⟩ := run
  have hlen : (left.take k2 ++ left.drop (k2 + 1)).length = n := by simp; omega
  obtain ⟨r, hp, hs, hev⟩ := ih (out ++ [left[k2]]) (left.take k2 ++ left.drop (k2 + 1)) hlen (by omega) (by simp; omega)
  refine ⟨left[k2] :: r, (hp.cons _).trans (jn0 left k2 h2), ?_, ?_⟩
  ·rw [List.pairwise_cons]
   refine ⟨fun u hu => hmin u ?_, hs⟩
   have := hp.mem_iff.1 hu
   rcases List.mem_append.1 this with q | q
   ·exact List.mem_of_mem_take q
   ·exact List.mem_of_mem_drop q
  ·have e : (out ++ [left[k2]]) ++ r = out ++ left[k2] :: r := by simp
   rw [e] at hev
   refine Ev.step (fun k => ?_) (hrun _ hev)
   simp only [T.qF.l0]
   rw [if_pos (by rw [List.length_map]; omega)]
   rfl
theorem zx2 {h : List T4} (hm : qz6 h) (hl : h.length ≤ 1000000) : Ev (fun k => T.qF.f k (h.map ofT)) ((qe1 h).map ofT) := by
 obtain ⟨r, hp, hs, hev⟩ := zm3 h.length [] h rfl hl (by simp; omega)
 have e : r = qe1 h := qv2 (hp.trans (qb1 h).symm) hs (qk7 h) (fun x hx y hy e => qR2 hm x (hp.mem_iff.1 hx) y (hp.mem_iff.1 hy) e)
 subst e
 unfold T.qF.f
 refine Ev.congr (fun k => ?_) hev
 simp only [Option.bind_some, List.length_nil, List.nil_append, List.length_map]
 rw [if_pos (by omega)]
 rfl
theorem Qk7 (h l : List T4) (hm : l.length ≤ 1000) (hc : jL l ≤ 100000) (i : Nat) (hi : i < l.length) (out : List S55) (ho : out.length ≤ 1000) (s' b' c' : Int) (r : List S55)
  (hK : Ev (fun k => T.qL.l0 k (h.map ofT) (out ++ [(⟨s', b', c', (l[i].ops.map (qE2 (names (zP l)) (names (zN l)))).map ofO⟩ : S55)]) (l.map ofT) (qa8 l i l[i] l[i].ops.length 0) (qa8 l i l[i] l[i].ops.length 1) (qa8 l i l[i] l[i].ops.length 2) ((i + 1 : Nat) : Int)) r) :
  ∀ (d j : Nat), j + d = l[i].ops.length →
   Ev (fun k => T.qL.l1 k (h.map ofT) out (l.map ofT) (qa8 l i l[i] j 0) (qa8 l i l[i] j 1) (qa8 l i l[i] j 2) (i : Int) (j : Int) s' b' c' (((l[i].ops.take j).map (qE2 (names (zP l)) (names (zN l)))).map ofO)) r := by
 have hg : l[i]? = some l[i] := List.getElem?_eq_getElem hi
 have hlen : l[i].ops.length ≤ 100000 := Nat.le_trans (qr3 (List.getElem_mem hi)) hc
 intro d
 induction d with
 | zero =>
  intro j hj
  have ej : j = l[i].ops.length := by omega
  subst ej
  refine Ev.step (fun k => ?_) hK
  simp only [T.qL.l1]
  rw [if_pos (by omega), if_pos (by rw [List.length_map]; omega), ql4 l i hi]
  rw [show (ofT l[i]).f3 = l[i].ops.map ofO from rfl, if_neg (by rw [List.length_map]; omega), if_pos (by omega), qb5 (x := i) (by omega), List.take_length]
 | succ d ih =>
  intro j hj
  have h1 : j < l[i].ops.length := by omega
  have hgo : l[i].ops[j]? = some l[i].ops[j] := List.getElem?_eq_getElem h1
  have e1 := jY9 (qa8 l i l[i] j 1) (l[i].ops[j].k) (by have := qV4 hg j; omega)
  have ek : ((qa0 (qa8 l i l[i] j 1) l[i].ops[j].k : Nat) : Int) = (qa0 (names (zP l)) l[i].ops[j].k : Nat) := by rw [← zr9 hg hgo, jm9]
  have es : ((l[i].ops.take (j + 1)).map (qE2 (names (zP l)) (names (zN l)))).map ofO = ((l[i].ops.take j).map (qE2 (names (zP l)) (names (zN l)))).map ofO ++ [ofO (qE2 (names (zP l)) (names (zN l)) l[i].ops[j])] := by
   rw [qh4 hgo, List.map_append, List.map_append]; rfl
  have hih := ih (j + 1) (by omega)
  rw [es] at hih
  have hlt : (((l[i].ops.take j).map (qE2 (names (zP l)) (names (zN l)))).map ofO).length < 5864062014805 := by
   simp only [List.length_map, List.length_take]; omega
  by_cases hv : l[i].ops[j].v = 0
  ·have hL := zr6 (l := l) (i := i) hgo hv
   have L0 : qa8 l i l[i] j 0 = qa8 l i l[i] (j + 1) 0 := by have := congrFun hL 0; simpa using this
   have L1 : zO (qa8 l i l[i] j 1) l[i].ops[j].k = qa8 l i l[i] (j + 1) 1 := by have := congrFun hL 1; simpa using this
   have L2 : qa8 l i l[i] j 2 = qa8 l i l[i] (j + 1) 2 := by have := congrFun hL 2; simpa using this
   refine Ev.step (f := fun k => (T.jA.f k (qa8 l i l[i] j 1) l[i].ops[j].k).bind fun bt => T.qL.l1 k (h.map ofT) out (l.map ofT) (qa8 l i l[i] j 0) bt.1 (qa8 l i l[i] j 2) (i : Int) ((j + 1 : Nat) : Int) s' b' c' (((l[i].ops.take j).map (qE2 (names (zP l)) (names (zN l)))).map ofO ++ [(⟨l[i].ops[j].w, bt.2, l[i].ops[j].v⟩ : S51)])) (fun k => ?_) ?_
   ·simp only [T.qL.l1]
    rw [if_pos (by omega), if_pos (by rw [List.length_map]; omega), ql4 l i hi]
    rw [show (ofT l[i]).f3 = l[i].ops.map ofO from rfl, if_pos (by rw [List.length_map]; omega), if_pos (by omega), je7 _ j h1, qb5 (x := j) (by omega)]
    congr 1
    funext bt
    rw [if_pos (show (ofO l[i].ops[j]).f2 = 0 from hv), if_pos hlt]
    rfl
   ·refine Ev.bind e1 ?_
    have eo : (⟨l[i].ops[j].w, ((qa0 (qa8 l i l[i] j 1) l[i].ops[j].k : Nat) : Int), l[i].ops[j].v⟩ : S51) = ofO (qE2 (names (zP l)) (names (zN l)) l[i].ops[j]) := by
     rw [ek]; unfold qE2 ofO; simp [hv]
    show Ev (fun k => T.qL.l1 k _ _ _ (qa8 l i l[i] j 0) (zO (qa8 l i l[i] j 1) l[i].ops[j].k) (qa8 l i l[i] j 2) _ _ _ _ _ (_ ++ [(⟨l[i].ops[j].w, ((qa0 (qa8 l i l[i] j 1) l[i].ops[j].k : Nat) : Int), l[i].ops[j].v⟩ : S51)])) r
    rw [eo, L0, L1, L2]
    exact hih
  ·have hL := zr7 (l := l) (i := i) hgo hv
   have L0 : qa8 l i l[i] j 0 = qa8 l i l[i] (j + 1) 0 := by have := congrFun hL 0; simpa using this
   have L1 : zO (qa8 l i l[i] j 1) l[i].ops[j].k = qa8 l i l[i] (j + 1) 1 := by have := congrFun hL 1; simpa using this
   have L2 : zO (qa8 l i l[i] j 2) l[i].ops[j].v = qa8 l i l[i] (j + 1) 2 := by have := congrFun hL 2; simpa using this
   have e2 := jY9 (qa8 l i l[i] j 2) (l[i].ops[j].v) (by have := qF8 hg j; omega)
   have ev : ((qa0 (qa8 l i l[i] j 2) l[i].ops[j].v : Nat) : Int) = (qa0 (names (zN l)) l[i].ops[j].v : Nat) := by rw [← zQ9 hg hgo hv, jm9]
   have hidx : qa0 (qa8 l i l[i] j 2) l[i].ops[j].v ≤ 1000000 := by
    have h1 := qF8 hg j
    have h2 : qa0 (qa8 l i l[i] j 2) l[i].ops[j].v ≤ (qa8 l i l[i] j 2).length := List.findIdx_le_length
    omega
   refine Ev.step (f := fun k => (T.jA.f k (qa8 l i l[i] j 1) l[i].ops[j].k).bind fun bt => (T.jA.f k (qa8 l i l[i] j 2) l[i].ops[j].v).bind fun bu => T.qL.l1 k (h.map ofT) out (l.map ofT) (qa8 l i l[i] j 0) bt.1 bu.1 (i : Int) ((j + 1 : Nat) : Int) s' b' c' (((l[i].ops.take j).map (qE2 (names (zP l)) (names (zN l)))).map ofO ++ [(⟨l[i].ops[j].w, bt.2, wrap64 (bu.2 + 1)⟩ : S51)])) (fun k => ?_) ?_
   ·simp only [T.qL.l1]
    rw [if_pos (by omega), if_pos (by rw [List.length_map]; omega), ql4 l i hi]
    rw [show (ofT l[i]).f3 = l[i].ops.map ofO from rfl, if_pos (by rw [List.length_map]; omega), if_pos (by omega), je7 _ j h1, qb5 (x := j) (by omega)]
    congr 1
    funext bt
    rw [if_neg (show ¬ (ofO l[i].ops[j]).f2 = 0 from hv)]
    congr 1
    funext bu
    rw [if_pos hlt]
    rfl
   ·refine Ev.bind e1 (Ev.bind e2 ?_)
    have eo : (⟨l[i].ops[j].w, ((qa0 (qa8 l i l[i] j 1) l[i].ops[j].k : Nat) : Int), wrap64 (((qa0 (qa8 l i l[i] j 2) l[i].ops[j].v : Nat) : Int) + 1)⟩ : S51) = ofO (qE2 (names (zP l)) (names (zN l)) l[i].ops[j]) := by
     rw [qb5 (by omega), Int.natCast_add, ek, ev]; unfold qE2 ofO; simp [hv]; omega
    show Ev (fun k => T.qL.l1 k _ _ _ (qa8 l i l[i] j 0) (zO (qa8 l i l[i] j 1) l[i].ops[j].k) (zO (qa8 l i l[i] j 2) l[i].ops[j].v) _ _ _ _ _ (_ ++ [(⟨l[i].ops[j].w, ((qa0 (qa8 l i l[i] j 1) l[i].ops[j].k : Nat) : Int), wrap64 (((qa0 (qa8 l i l[i] j 2) l[i].ops[j].v : Nat) : Int) + 1)⟩ : S51)])) r
    rw [eo, L0, L1, L2]
    exact hih
theorem Qk8 (h l : List T4) (hp : l.length = h.length) (hm : l.length ≤ 1000) (hc : jL l ≤ 100000) : ∀ (d i : Nat), i + d = l.length →
  Ev (fun k => T.qL.l0 k (h.map ofT) (((l.take i).map (jl8 (names (qd6 l)) (names (zP l)) (names (zN l)) (qF6 h))).map ofT) (l.map ofT) (Lst l i 0) (Lst l i 1) (Lst l i 2) (i : Int)) ((qD9 (qF6 h) l).map ofT) := by
 intro d
 induction d with
 | zero =>
  intro i hi
  refine Ev.step (f := fun _ => some ((qD9 (qF6 h) l).map ofT)) (fun k => ?_) (Ev.now _)
  simp only [T.qL.l0]
  rw [if_neg (by rw [List.length_map]; omega), List.take_of_length_le (by omega)]
  rfl
 | succ d ih =>
  intro i hi
  have h1 : i < l.length := by omega
  have hg : l[i]? = some l[i] := List.getElem?_eq_getElem h1
  have hL := zQ8 hg
  have L0 : zO (Lst l i 0) l[i].s = qa8 l i l[i] 0 0 := by have := congrFun hL 0; simpa using this
  have L1 : Lst l i 1 = qa8 l i l[i] 0 1 := by have := congrFun hL 1; simpa using this
  have L2 : Lst l i 2 = qa8 l i l[i] 0 2 := by have := congrFun hL 2; simpa using this
  have es : ((qa0 (Lst l i 0) l[i].s : Nat) : Int) = (qa0 (names (qd6 l)) l[i].s : Nat) := by rw [← zr8 hg, jm9]
  have hsl : (Lst l i 0).length ≤ 1000000 := by
   have : (Lst l i 0) = names (qd6 (l.take i)) := rfl
   rw [this]
   have h1 := qo7 (qd6 (l.take i))
   have h2 : (qd6 (l.take i)).length ≤ l.length := by unfold qd6; rw [List.length_map, List.length_take]; omega
   omega
  have R1 := zx1 h l[i].b (by omega)
  have R2 := zx1 h l[i].c (by omega)
  have N1 := jY9 (Lst l i 0) l[i].s hsl
  have ih2 := ih (i + 1) (by omega)
  rw [← zf2 hg] at ih2
  have et : ((l.take (i + 1)).map (jl8 (names (qd6 l)) (names (zP l)) (names (zN l)) (qF6 h))).map ofT = ((l.take i).map (jl8 (names (qd6 l)) (names (zP l)) (names (zN l)) (qF6 h))).map ofT ++ [ofT (jl8 (names (qd6 l)) (names (zP l)) (names (zN l)) (qF6 h) l[i])] := by
   rw [qh4 hg, List.map_append, List.map_append]; rfl
  rw [et] at ih2
  have B := Qk7 h l hm hc i h1 (((l.take i).map (jl8 (names (qd6 l)) (names (zP l)) (names (zN l)) (qF6 h))).map ofT) (by simp only [List.length_map, List.length_take]; omega) (qa0 (names (qd6 l)) l[i].s : Nat) (qF6 h l[i].b) (qF6 h l[i].c) _ ih2 l[i].ops.length 0 (by omega)
  refine Ev.step (f := fun k => (T.j6.f k (h.map ofT) l[i].b).bind fun t1 => (T.j6.f k (h.map ofT) l[i].c).bind fun t2 => (T.jA.f k (Lst l i 0) l[i].s).bind fun bt => T.qL.l1 k (h.map ofT) (((l.take i).map (jl8 (names (qd6 l)) (names (zP l)) (names (zN l)) (qF6 h))).map ofT) (l.map ofT) bt.1 (Lst l i 1) (Lst l i 2) (i : Int) 0 bt.2 t1 t2 ([] : List S51)) (fun k => ?_) ?_
  ·simp only [T.qL.l0]
   rw [if_pos (by rw [List.length_map]; omega), if_pos (by omega), ql4 l i h1]
   rfl
  ·refine Ev.bind R1 (Ev.bind R2 (Ev.bind N1 ?_))
   show Ev (fun k => T.qL.l1 k _ _ _ (zO (Lst l i 0) l[i].s) (Lst l i 1) (Lst l i 2) _ _ ((qa0 (Lst l i 0) l[i].s : Nat) : Int) _ _ _) _
   rw [es, L0, L1, L2]
   exact B
theorem zJ4 {h : List T4} (hm : qz6 h) (hl : h.length ≤ 1000) (hc : jL h ≤ 100000) : Ev (fun k => T.qL.f k (h.map ofT)) ((zT h).map ofT) := by
 unfold T.qL.f
 refine Ev.bind (zx2 hm (by omega)) ?_
 have e1 : (qe1 h).length = h.length := (qb1 h).length_eq
 have := Qk8 h (qe1 h) e1 (by omega) (by rw [qR5 (qb1 h)]; exact hc) (qe1 h).length 0 (by omega)
 exact this
end Go.Proofs.Ytngkneknopenmaa.zQ
end
section
namespace Go.Proofs.Ytngkneknopenmaa.zQ
open Go Go.RowKit Go.Proofs.Ytngkneknopenmaa Go.Proofs.Ytngkneknopenmaa.qb0 Go.Proofs.YtngkneknopenmaaW.jH
open Go.Proofs.Ytngkneknopenmaa.K (S55 S51 qD qG k55 jP1)
def CT (w : World) (A : Option Addr) (h : List T4) : Prop := Kd.C k55 w A h.length (h.map ofT)
theorem CT.below {w w' : World} {A : Option Addr} {h : List T4} (k : CT w A h) (hb : Below w.heap.size w w') : CT w' A h := Kd.ql2 k hb
theorem CT.len {w : World} {A : Option Addr} {h : List T4} (k : CT w A h) : Kd.C k55 w A (h.map ofT).length (h.map ofT) := by rw [List.length_map]; exact k
def Sm (h : List T4) : Prop := h.length ≤ 1000 ∧ jL h ≤ 100000
variable {A B : Option Addr} {c d : Nat} {a b h : List T4} {w : World}
theorem zJ5 (k : CT w A h) (hc : h.length ≤ c) (s : Sm h) (hm : qz6 h) :
  Calls Try.prog 17 #[.slice A h.length c] w fun e w' => ∃ (A' : Option Addr) (c' : Nat), e = .returned (.slice A' (zT h).length c') ∧ ((zT h).length ≤ c' ∧ CT w' A' (zT h)) ∧ Below w.heap.size w w' := by
 obtain ⟨n, hn⟩ := (zJ4 hm s.1 s.2).rounds
 have := T.qL.calls n (fun k => k < w.heap.size) A c (h.map ofT) _ w (Kd.qP3 (by rw [List.length_map]; exact hc) (Kd.C_F jP1 k.len)) hn
 rw [List.length_map] at this
 refine this.mono ?_
 rintro e w' ⟨v, rfl, hS, hb⟩
 obtain ⟨A', c', rfl⟩ := Kd.qN9 hS
 have q := Kd.zV hS
 rw [List.length_map] at q ⊢
 exact ⟨A', c', rfl, ⟨q.2.1, q.2.2⟩, hb⟩
end Go.Proofs.Ytngkneknopenmaa.zQ
end
section
namespace Go.Proofs.Ytngkneknopenmaa.qc7
open Go Go.Proofs.Ytngkneknopenmaa Go.Proofs.Ytngkneknopenmaa.zQ Go.Proofs.Ytngkneknopenmaa.qb0
def zx3 : Nat → List Int → Prop
 | _, [] => True
 | k, x :: r => 0 ≤ x ∧ x ≤ (k : Int) ∧ zx3 (max k (x.toNat + 1)) r
def qj2 (k : Nat) : List Int := (List.range k).map fun n : Nat => (n : Int)
theorem qS2 {k : Nat} {x : Int} : x ∈ qj2 k ↔ 0 ≤ x ∧ x < (k : Int) := by
 unfold qj2
 rw [List.mem_map]
 constructor
 ·rintro ⟨n, hn, rfl⟩
  rw [List.mem_range] at hn
  omega
 ·rintro ⟨h1, h2⟩
  exact ⟨x.toNat, List.mem_range.2 (by omega), by omega⟩
theorem jP2 (k : Nat) : qj2 (k + 1) = qj2 k ++ [(k : Int)] := by unfold qj2; rw [List.range_succ, List.map_append]; rfl
theorem qP7 (k : Nat) : (qj2 k).length = k := by simp [qj2]
theorem qN7 : ∀ (l acc : List Int) (x : Int), x ∈ acc → qa0 (l.foldl zO acc) x = qa0 acc x
 | [], _, _, _ => rfl
 | y :: l, acc, x, hx => by
  rw [List.foldl_cons]
  have hm : x ∈ zO acc y := jd9.2 (.inl hx)
  rw [qN7 l _ x hm]
  unfold zO
  split
  ·rfl
  ·exact jl7 hx
theorem je8 : ∀ (l : List Int) (k : Nat), (∀ x ∈ l, (qa0 (l.foldl zO (qj2 k)) x : Int) = x) → zx3 k l
 | [], _, _ => trivial
 | x :: l, k, h => by
  have hx := h x (by simp)
  rw [List.foldl_cons] at hx h
  by_cases hm : x ∈ qj2 k
  ·obtain ⟨h1, h2⟩ := qS2.1 hm
   have e : zO (qj2 k) x = qj2 k := by unfold zO; rw [if_pos hm]
   rw [e] at h
   have em : max k (x.toNat + 1) = k := by omega
   exact ⟨h1, by omega, by rw [em]; exact je8 l k (fun y hy => h y (by simp [hy]))⟩
  ·have e : zO (qj2 k) x = qj2 k ++ [x] := by unfold zO; rw [if_neg hm]
   rw [e, qN7 _ _ _ (by simp), qV0 hm, qP7] at hx
   have e2 : zO (qj2 k) x = qj2 (k + 1) := by rw [e, jP2, hx]
   rw [e2] at h
   have em : max k (x.toNat + 1) = k + 1 := by omega
   exact ⟨by omega, by omega, by rw [em]; exact je8 l (k + 1) (fun y hy => h y (by simp [hy]))⟩
end Go.Proofs.Ytngkneknopenmaa.qc7
end
section
namespace Go.Proofs.Ytngkneknopenmaa.qc7
open Go.Proofs.Ytngkneknopenmaa.zQ Go.Proofs.Ytngkneknopenmaa.qb0
def hdT (t : T4) : Int × Int × Int := (t.s, t.b, t.c)
def flO (p : List T4) : List O3 := p.flatMap (·.ops)
def lnO (p : List T4) : List Nat := p.map fun t => t.ops.length
def jh9 : List (Int × Int × Int) → List Nat → List O3 → List T4
 | x :: hd, k :: cs, fl => ⟨x.1, x.2.1, x.2.2, fl.take k⟩ :: jh9 hd cs (fl.drop k)
 | _, _, _ => []
theorem jP3 : ∀ (hd : List (Int × Int × Int)) (cs : List Nat) (fl : List O3), hd.length = cs.length → cs.sum = fl.length → (jh9 hd cs fl).map hdT = hd ∧ lnO (jh9 hd cs fl) = cs ∧ flO (jh9 hd cs fl) = fl
 | [], [], fl, _, h => by
  simp at h
  have : fl = [] := List.eq_nil_of_length_eq_zero h.symm
  subst this
  exact ⟨rfl, rfl, rfl⟩
 | x :: hd, k :: cs, fl, h1, h2 => by
  have h3 : k + cs.sum = fl.length := by simpa using h2
  obtain ⟨a, b, c⟩ := jP3 hd cs (fl.drop k) (by simpa using h1) (by rw [List.length_drop]; omega)
  refine ⟨?_, ?_, ?_⟩
  ·show (x.1, x.2.1, x.2.2) :: (jh9 hd cs (fl.drop k)).map hdT = x :: hd
   rw [a]
  ·show (fl.take k).length :: lnO (jh9 hd cs (fl.drop k)) = k :: cs
   rw [b, List.length_take, Nat.min_eq_left (by omega)]
  ·show fl.take k ++ flO (jh9 hd cs (fl.drop k)) = fl
   rw [c, List.take_append_drop]
theorem jn1 (t : T4) (p : List T4) : flO (t :: p) = t.ops ++ flO p := rfl
theorem qM1 : ∀ p : List T4, jL p = (flO p).length
 | [] => rfl
 | t :: p => by
  rw [jn1, List.length_append, ← qM1 p]
  simp [jL]
theorem zJ6 (p : List T4) : (lnO p).sum = (flO p).length := by rw [← qM1]; rfl
theorem jj5 {p : List T4} {o : O3} : o ∈ flO p ↔ ∃ t ∈ p, o ∈ t.ops := by unfold flO; rw [List.mem_flatMap]
theorem jF1 (a b : List O3) : qp8 (a ++ b) = qp8 a ++ qp8 b := by simp [qp8]
theorem jn2 : ∀ p : List T4, (p.flatMap fun t => qp8 t.ops) = qp8 (flO p)
 | [] => rfl
 | t :: p => by rw [List.flatMap_cons, jn2 p, jn1, jF1]
theorem jn3 : ∀ p : List T4, zP p = (flO p).map (·.k)
 | [] => rfl
 | t :: p => by
  have : zP (t :: p) = t.ops.map (·.k) ++ zP p := rfl
  rw [this, jn3 p, jn1, List.map_append]
def qS3 (fl : List O3) : Prop := ∀ (j : Nat) (o : O3), fl[j]? = some o → (o.w = true → o.v = (j : Int) + 1) ∧ (o.w = false → o.v = 0 ∨ ∃ (i : Nat) (u : O3), fl[i]? = some u ∧ u.w = true ∧ u.k = o.k ∧ o.v = (i : Int) + 1)
theorem qY5 : ∀ (fl : List O3) (k : Int), (∀ (j : Nat) (o : O3), fl[j]? = some o → o.w = true → o.v = k + (j : Int) + 1) → (qp8 fl).Pairwise (· < ·) ∧ ∀ x ∈ qp8 fl, k < x
 | [], k, _ => by simp [qp8]
 | o :: fl, k, h => by
  obtain ⟨a, b⟩ := qY5 fl (k + 1) (fun j u hu hw => by
   have := h (j + 1) u (by simpa using hu) hw
   omega)
  have e : qp8 (o :: fl) = (if o.w then [o.v] else []) ++ qp8 fl := by obtain ⟨w, k, v⟩ := o; cases w <;> rfl
  rw [e]
  cases hw : o.w with
  | false =>
   simp only [Bool.false_eq_true, if_false, List.nil_append]
   exact ⟨a, fun x hx => by have := b x hx; omega⟩
  | true =>
   have h0 := h 0 o rfl hw
   simp only [if_true, List.cons_append, List.nil_append, List.pairwise_cons, List.mem_cons]
   refine ⟨⟨fun x hx => by have := b x hx; omega, a⟩, ?_⟩
   rintro x (rfl | hx)
   ·omega
   ·have := b x hx; omega
theorem qS3.nodup {fl : List O3} (h : qS3 fl) : (qp8 fl).Nodup := by
 have := (qY5 fl 0 (fun j o ho hw => by have := (h j o ho).1 hw; omega)).1
 exact this.imp fun {a b} hab e => by omega
theorem qS3.le {fl : List O3} (h : qS3 fl) {o : O3} (ho : o ∈ fl) : 0 ≤ o.v ∧ o.v ≤ (fl.length : Int) ∧ (o.w = true → 0 < o.v) := by
 obtain ⟨j, hj⟩ := List.mem_iff_getElem?.1 ho
 have hjl := (List.getElem?_eq_some_iff.1 hj).1
 obtain ⟨a, b⟩ := h j o hj
 cases hw : o.w with
 | true => have := a hw; exact ⟨by omega, by omega, fun _ => by omega⟩
 | false =>
  rcases b hw with e | ⟨i, u, hu, _, _, e⟩
  ·exact ⟨by omega, by omega, fun h => by cases h⟩
  ·have := (List.getElem?_eq_some_iff.1 hu).1
   exact ⟨by omega, by omega, fun h => by cases h⟩
theorem jn4 : ∀ {l : List Nat} {x : Nat}, x ∈ l → x ≤ l.sum
 | y :: l, x, h => by
  rw [List.sum_cons]
  rcases List.mem_cons.1 h with rfl | h
  ·omega
  ·have := jn4 h; omega
theorem zZ3 {p : List T4} (h64 : (flO p).length ≤ 64) (hp : p.length ≤ 64) (hl : ∀ k ∈ lnO p, 1 ≤ k) (hs : ∀ t ∈ p, 0 ≤ t.s ∧ t.s < 64 ∧ 0 ≤ t.b ∧ t.b < t.c ∧ t.c ≤ 2147483647) (hk : ∀ o ∈ flO p, 0 ≤ o.k ∧ o.k < 64) (hpw : p.Pairwise qr9) (hpl : qS3 (flO p)) : qz6 p := by
 have hlen : ∀ t ∈ p, t.ops.length ≤ (flO p).length := by
  intro t ht
  rw [← zJ6]
  exact jn4 (List.mem_map.2 ⟨t, ht, rfl⟩)
 refine ⟨fun t ht => (qk8 t).2 ⟨(hs t ht).1, (hs t ht).2.1, (hs t ht).2.2.1, (hs t ht).2.2.2.1, (hs t ht).2.2.2.2, hl _ (List.mem_map.2 ⟨t, ht, rfl⟩), by have := hlen t ht; omega, fun o ho => ?_⟩, hpw, ?_, fun t ht o ho hw hv => ?_⟩
 ·have hm : o ∈ flO p := jj5.2 ⟨t, ht, ho⟩
  have h1 := hk o hm
  have h2 := hpl.le hm
  exact (qk9 o).2 ⟨h1.1, h1.2, h2.1, by omega, h2.2.2⟩
 ·rw [qG0, jn2]; exact hpl.nodup
 ·obtain ⟨j, hj⟩ := List.mem_iff_getElem?.1 (jj5.2 ⟨t, ht, ho⟩)
  rcases (hpl j o hj).2 hw with e | ⟨i, u, hu, h1, h2, h3⟩
  ·exact absurd e hv
  ·obtain ⟨t2, ht2, hu2⟩ := jj5.1 (List.mem_of_getElem? hu)
   exact ⟨t2, ht2, u, hu2, h1, h2, by rw [h3, (hpl i u hu).1 h1]⟩
end Go.Proofs.Ytngkneknopenmaa.qc7
end
section
namespace Go.Proofs.Ytngkneknopenmaa.qc7
open Go.Proofs.Ytngkneknopenmaa.zQ Go.Proofs.Ytngkneknopenmaa.qb0
theorem jP4 (z : List (Nat × Nat)) (ss : List Nat) (s x : Nat) (h : ss.length < z.length) : qK8 z (ss ++ [s]) x = if s = x then some (cm z ss.length) else qK8 z ss x := by
 unfold qK8
 have hz : z = z.take ss.length ++ z.drop ss.length := (List.take_append_drop _ _).symm
 have hd : z.drop ss.length = z[ss.length] :: z.drop (ss.length + 1) := List.drop_eq_getElem_cons h
 have e1 : (ss ++ [s]).zip z = ss.zip z ++ [(s, z[ss.length])] := by
  conv => lhs; rw [hz, hd]
  rw [List.zip_append (by rw [List.length_take]; omega)]
  have : ss.zip (z.take ss.length) = ss.zip z := by
   conv => rhs; rw [hz]
   conv => rhs; rw [show ss = ss ++ [] by simp]
   rw [List.zip_append (by rw [List.length_take]; simp; omega)]
   simp
  rw [this]
  simp only [List.zip_cons_cons, List.zip_nil_left]
 rw [e1, List.foldl_append]
 simp only [List.foldl_cons, List.foldl_nil]
 have : cm z ss.length = z[ss.length].2 := by unfold cm; rw [List.getD_eq_getElem?_getD, List.getElem?_eq_getElem h]; rfl
 rw [this]
theorem qC0 (ss : List Nat) (s : Nat) : qe0 (ss ++ [s]) = max (qe0 ss) (s + 1) := by simp [qe0, List.foldl_append]
theorem jZ1 {S : Nat} {d : List (Nat × Nat)} : ∀ {r ss : List Nat}, OkS S d ss r → ∀ (j s : Nat), r[j]? = some s → s < min (qe0 (ss ++ r.take j) + 1) S ∧ qz2 d (ss ++ r.take j) s = true
 | x :: r, ss, h, 0, s, hs => by
  simp at hs
  subst hs
  simp only [List.take_zero, List.append_nil]
  exact ⟨h.1, h.2.1⟩
 | x :: r, ss, h, j + 1, s, hs => by
  have := jZ1 h.2.2 j s (by simpa using hs)
  simp only [List.take_succ_cons]
  rwa [List.append_assoc, List.singleton_append] at this
theorem zx4 {S : Nat} {d : List (Nat × Nat)} : ∀ {r ss : List Nat}, OkS S d ss r → qe0 ss ≤ ss.length → ∀ s ∈ r, s < S ∧ s < ss.length + r.length
 | x :: r, ss, h, hk, s, hs => by
  have h1 := h.1
  rcases List.mem_cons.1 hs with rfl | hs
  ·simp; omega
  ·have := zx4 h.2.2 (by rw [qC0, List.length_append, List.length_singleton]; omega) s hs
   simp at this ⊢
   omega
theorem jZ2 {S : Nat} {z : List (Nat × Nat)} {ss : List Nat} (h : OkS S z [] ss) (hl : ss.length ≤ z.length) (hbc : ∀ i, i < z.length → bg z i < cm z i) : ∀ (i j : Nat) (s : Nat), i < j → ss[i]? = some s → ss[j]? = some s → cm z i ≤ bg z j := by
 have key : ∀ (j : Nat), j ≤ ss.length → ∀ i s, i < j → ss[i]? = some s → ∃ e, qK8 z (ss.take j) s = some e ∧ cm z i ≤ e := by
  intro j
  induction j with
  | zero => intro _ i s hi; omega
  | succ j ih =>
   intro hj i s hi hs
   obtain ⟨x, hx⟩ : ∃ x, ss[j]? = some x := ⟨_, List.getElem?_eq_getElem (by omega)⟩
   have e : ss.take (j + 1) = ss.take j ++ [x] := by rw [List.take_add_one, hx]; rfl
   have hjl : (ss.take j).length = j := by rw [List.length_take]; omega
   rw [e, jP4 z _ _ _ (by omega), hjl]
   by_cases hij : i = j
   ·subst hij
    rw [hs] at hx
    cases hx
    exact ⟨cm z i, by rw [if_pos rfl], Nat.le_refl _⟩
   ·obtain ⟨e2, h1, h2⟩ := ih (by omega) i s (by omega) hs
    by_cases hxs : x = s
    ·subst hxs
     refine ⟨cm z j, by rw [if_pos rfl], ?_⟩
     have hf := (jZ1 h j x hx).2
     rw [List.nil_append] at hf
     unfold qz2 at hf
     rw [h1, hjl] at hf
     have hf' := of_decide_eq_true hf
     have := hbc j (by omega)
     unfold bg at this
     omega
    ·rw [if_neg hxs]
     exact ⟨e2, h1, h2⟩
 intro i j s hij hi hj
 have hjl := (List.getElem?_eq_some_iff.1 hj).1
 obtain ⟨e, h1, h2⟩ := key j (by omega) i s hij hi
 have hf := (jZ1 h j s hj).2
 rw [List.nil_append] at hf
 unfold qz2 at hf
 rw [h1, List.length_take, Nat.min_eq_left (by omega)] at hf
 have hf' := of_decide_eq_true hf
 unfold bg
 omega
theorem jP5 {K : Nat} : ∀ {ks : List (Bool × Nat)} {kn : Nat}, ze3 K kn ks → ∀ x ∈ ks, x.2 < K ∧ x.2 < kn + ks.length
 | y :: ks, kn, h, x, hx => by
  rcases List.mem_cons.1 hx with rfl | hx
  ·have := h.1; simp; omega
  ·have := jP5 h.2 x hx
   have := h.1
   simp
   omega
def zZ4 (x : Bool × Nat) (v : Nat) : O3 := ⟨x.1, (x.2 : Int), (v : Int)⟩
def jZ3 (ks : List (Bool × Nat)) (vs : List Nat) : List O3 := List.zipWith zZ4 ks vs
theorem qY6 {ks : List (Bool × Nat)} {vs : List Nat} {j : Nat} {o : O3} : (jZ3 ks vs)[j]? = some o ↔ ∃ x v, ks[j]? = some x ∧ vs[j]? = some v ∧ o = zZ4 x v := by
 unfold jZ3
 rw [List.getElem?_zipWith]
 constructor
 ·intro h
  split at h
  ·rename_i x v h1 h2
   cases h
   exact ⟨x, v, h1, h2, rfl⟩
  ·cases h
 ·rintro ⟨x, v, h1, h2, rfl⟩
  rw [h1, h2]
theorem qC1 {ks : List (Bool × Nat)} {vs : List Nat} (h : vs.length = ks.length) : (jZ3 ks vs).length = ks.length := by unfold jZ3; rw [List.length_zipWith]; omega
theorem zm4 {ks : List (Bool × Nat)} {vs : List Nat} (h : OkV ks 0 ks vs) : qS3 (jZ3 ks vs) := by
 obtain ⟨hl, ha⟩ := jz8.1 h
 intro j o ho
 obtain ⟨x, v, h1, h2, rfl⟩ := qY6.1 ho
 have hx := ha j x v h1 h2
 refine ⟨fun hw => ?_, fun hw => ?_⟩
 ·have hw' : x.1 = true := hw
  rw [if_pos hw'] at hx
  show (v : Int) = (j : Int) + 1
  omega
 ·have hw' : x.1 = false := hw
  rw [if_neg (by rw [hw']; simp)] at hx
  unfold choices at hx
  rcases List.mem_cons.1 hx with rfl | hx
  ·exact .inl rfl
  ·right
   obtain ⟨i, rfl, hi⟩ := (qU8 x.2 ks 1 v).1 hx
   obtain ⟨u, hu⟩ : ∃ u, vs[i]? = some u := ⟨_, List.getElem?_eq_getElem (by rw [hl]; exact (List.getElem?_eq_some_iff.1 hi).1)⟩
   exact ⟨i, zZ4 (true, x.2) u, qY6.2 ⟨_, _, hi, hu, rfl⟩, rfl, rfl, by show ((1 + i : Nat) : Int) = (i : Int) + 1; omega⟩
def hds (z : List (Nat × Nat)) (ss : List Nat) : List (Int × Int × Int) := List.zipWith (fun (s : Nat) (x : Nat × Nat) => ((s : Int), (x.1 : Int), (x.2 : Int))) ss z
theorem zJ7 {z : List (Nat × Nat)} {ss : List Nat} {i : Nat} {x : Int × Int × Int} : (hds z ss)[i]? = some x ↔ ∃ s y, ss[i]? = some s ∧ z[i]? = some y ∧ x = ((s : Int), (y.1 : Int), (y.2 : Int)) := by
 unfold hds
 rw [List.getElem?_zipWith]
 constructor
 ·intro h
  split at h
  ·rename_i s y h1 h2
   cases h
   exact ⟨s, y, h1, h2, rfl⟩
  ·cases h
 ·rintro ⟨s, y, h1, h2, rfl⟩
  rw [h1, h2]
theorem qM2 {z : List (Nat × Nat)} {i : Nat} {y : Nat × Nat} (h : z[i]? = some y) : bg z i = y.1 ∧ cm z i = y.2 := by
 unfold bg cm
 rw [List.getD_eq_getElem?_getD, h]
 exact ⟨rfl, rfl⟩
structure qu7 (n K m S : Nat) (z : List (Nat × Nat)) (ss cs : List Nat) (ks : List (Bool × Nat)) (vs : List Nat) : Prop where
 ze : Ext n 0 [] [] z
 sl : ss.length = n
 s : OkS S z [] ss
 cl : cs.length = n
 c : cs.sum = m
 c1 : ∀ k ∈ cs, 1 ≤ k
 kl : ks.length = m
 k : ze3 K 0 ks
 v : OkV ks 0 ks vs
variable {n K m S : Nat} {z : List (Nat × Nat)} {ss cs : List Nat} {ks : List (Bool × Nat)} {vs : List Nat}
def qk6 (z : List (Nat × Nat)) (ss cs : List Nat) (ks : List (Bool × Nat)) (vs : List Nat) : List T4 := jh9 (hds z ss) cs (jZ3 ks vs)
theorem qu7.vl (r : qu7 n K m S z ss cs ks vs) : vs.length = m := by rw [(jz8.1 r.v).1, r.kl]
theorem qu7.spec (r : qu7 n K m S z ss cs ks vs) : (qk6 z ss cs ks vs).map hdT = hds z ss ∧ lnO (qk6 z ss cs ks vs) = cs ∧ flO (qk6 z ss cs ks vs) = jZ3 ks vs :=
 jP3 _ _ _ (by unfold hds; rw [List.length_zipWith, r.sl, r.ze.len, r.cl]; omega) (by rw [qC1 (by rw [r.vl, r.kl]), r.kl, r.c])
theorem qu7.length (r : qu7 n K m S z ss cs ks vs) : (qk6 z ss cs ks vs).length = n := by
 have := congrArg List.length r.spec.1
 rw [List.length_map] at this
 rw [this]
 unfold hds
 rw [List.length_zipWith, r.sl, r.ze.len]
 omega
theorem qu7.at (r : qu7 n K m S z ss cs ks vs) {i : Nat} {t : T4} (ht : (qk6 z ss cs ks vs)[i]? = some t) : ∃ s y, ss[i]? = some s ∧ z[i]? = some y ∧ t.s = (s : Int) ∧ t.b = (y.1 : Int) ∧ t.c = (y.2 : Int) := by
 have h : ((qk6 z ss cs ks vs).map hdT)[i]? = some (hdT t) := by rw [List.getElem?_map, ht]; rfl
 rw [r.spec.1] at h
 obtain ⟨s, y, h1, h2, e⟩ := zJ7.1 h
 unfold hdT at e
 simp only [Prod.mk.injEq] at e
 exact ⟨s, y, h1, h2, e.1, e.2.1, e.2.2⟩
theorem qu7.bc (r : qu7 n K m S z ss cs ks vs) : ∀ i, i < z.length → bg z i < cm z i := fun i hi => (r.ze.new i (Nat.zero_le _) (by rw [← r.ze.len]; exact hi)).2
theorem qu7.pairs (r : qu7 n K m S z ss cs ks vs) : (qk6 z ss cs ks vs).Pairwise fun u t => qr9 u t ∧ u.b < t.b := by
 rw [List.pairwise_iff_getElem]
 intro i j hi hj hij
 have hn := r.length
 obtain ⟨s, y, h1, h2, e1, e2, e3⟩ := r.at (List.getElem?_eq_getElem hi)
 obtain ⟨s', y', g1, g2, f1, f2, f3⟩ := r.at (List.getElem?_eq_getElem hj)
 obtain ⟨b1, c1⟩ := qM2 h2
 obtain ⟨b2, c2⟩ := qM2 g2
 have k1 := r.ze.inc i j (Nat.zero_le _) hij (by omega)
 have k2 := r.ze.dbc i j (Nat.zero_le _) (by omega) (.inr (Nat.zero_le _)) (by omega)
 have k3 := r.ze.dbc j i (Nat.zero_le _) (by omega) (.inr (Nat.zero_le _)) (by omega)
 have k4 := r.ze.dcc i j (.inr (Nat.zero_le _)) (by omega) (.inr (Nat.zero_le _)) (by omega) (by omega)
 refine ⟨⟨by rw [e2, f2]; omega, by rw [e2, f3]; omega, by rw [e3, f2]; omega, by rw [e3, f3]; omega, fun e => ?_⟩, by rw [e2, f2]; omega⟩
 have hs : s = s' := by rw [e1, f1] at e; omega
 subst hs
 have := jZ2 r.s (by rw [r.sl, r.ze.len]; exact Nat.le_refl _) r.bc i j s hij h1 g1
 rw [e3, f2]
 omega
theorem qu7.keys (r : qu7 n K m S z ss cs ks vs) : zP (qk6 z ss cs ks vs) = ks.map fun x => (x.2 : Int) := by
 rw [jn3, r.spec.2.2]
 have hl : vs.length = ks.length := by rw [r.vl, r.kl]
 apply List.ext_getElem?
 intro i
 rw [List.getElem?_map, List.getElem?_map]
 by_cases hi : i < ks.length
 ·rw [qY6.2 ⟨_, _, List.getElem?_eq_getElem hi, List.getElem?_eq_getElem (by rw [hl]; exact hi), rfl⟩, List.getElem?_eq_getElem hi]
  rfl
 ·rw [List.getElem?_eq_none (by rw [qC1 hl]; omega), List.getElem?_eq_none (by omega)]; rfl
theorem qu7.placed (r : qu7 n K m S z ss cs ks vs) : qS3 (flO (qk6 z ss cs ks vs)) := by rw [r.spec.2.2]; exact zm4 r.v
theorem qu7.stamps (r : qu7 n K m S z ss cs ks vs) (hnd : (jF (qk6 z ss cs ks vs)).Nodup) : (jF (qk6 z ss cs ks vs)).Perm (qj2 (2 * n)) := by
 have hl : (jF (qk6 z ss cs ks vs)).length = 2 * n := by rw [qs1, r.length]; omega
 have hr : (qj2 (2 * n)).Nodup := by
  unfold qj2 List.Nodup
  rw [List.pairwise_map]
  exact (List.nodup_range (n := 2 * n)).imp fun {a b} hab e => hab (by omega)
 have hsub : qj2 (2 * n) ⊆ jF (qk6 z ss cs ks vs) := by
  intro x hx
  obtain ⟨h0, h1⟩ := qS2.1 hx
  obtain ⟨u, rfl⟩ : ∃ u : Nat, x = (u : Int) := ⟨x.toNat, by omega⟩
  rw [qR4]
  rcases r.ze.cov u (Nat.zero_le _) (by omega) with ⟨i, _, hi, e⟩ | ⟨i, _, hi, e⟩
  ·obtain ⟨t, ht⟩ : ∃ t, (qk6 z ss cs ks vs)[i]? = some t := ⟨_, List.getElem?_eq_getElem (by rw [r.length]; exact hi)⟩
   obtain ⟨s, y, _, h2, _, e2, _⟩ := r.at ht
   exact ⟨t, List.mem_of_getElem? ht, .inl (by rw [e2, ← (qM2 h2).1, e])⟩
  ·obtain ⟨t, ht⟩ : ∃ t, (qk6 z ss cs ks vs)[i]? = some t := ⟨_, List.getElem?_eq_getElem (by rw [r.length]; exact hi)⟩
   obtain ⟨s, y, _, h2, _, _, e3⟩ := r.at ht
   exact ⟨t, List.mem_of_getElem? ht, .inr (by rw [e3, ← (qM2 h2).2, e])⟩
 rw [List.perm_iff_count]
 intro a
 rw [hnd.count, hr.count]
 by_cases ha : a ∈ qj2 (2 * n)
 ·rw [if_pos ha, if_pos (hsub ha)]
 ·rw [if_neg ha]
  by_cases hb : a ∈ jF (qk6 z ss cs ks vs)
  ·have h1 : (a :: qj2 (2 * n)).Nodup := List.nodup_cons.2 ⟨ha, hr⟩
   have h2 := h1.length_le_of_subset (l₂ := jF (qk6 z ss cs ks vs)) (by intro x hx; rcases List.mem_cons.1 hx with rfl | hx; exact hb; exact hsub hx)
   rw [List.length_cons, qP7, hl] at h2
   omega
  ·rw [if_neg hb]
end Go.Proofs.Ytngkneknopenmaa.qc7
end
section
namespace Go.Proofs.Ytngkneknopenmaa.qc7
open Go.Proofs.Ytngkneknopenmaa.zQ Go.Proofs.Ytngkneknopenmaa.qb0
theorem qY7 : ∀ {p : List T4}, (∀ t ∈ p, t.b ≠ t.c) → p.Pairwise qr9 → (jF p).Nodup
 | [], _, _ => by simp [jF]
 | t :: p, h, hp => by
  obtain ⟨h1, h2⟩ := List.pairwise_cons.1 hp
  have ih := qY7 (fun u hu => h u (by simp [hu])) h2
  have e : jF (t :: p) = t.b :: t.c :: jF p := rfl
  rw [e, List.nodup_cons, List.nodup_cons]
  refine ⟨fun hm => ?_, fun hm => ?_, ih⟩
  ·rcases List.mem_cons.1 hm with hm | hm
   ·exact h t (by simp) hm
   ·obtain ⟨u, hu, e | e⟩ := qR4.1 hm
    ·exact (h1 u hu).1 e.symm
    ·exact (h1 u hu).2.1 e.symm
  ·obtain ⟨u, hu, e | e⟩ := qR4.1 hm
   ·exact (h1 u hu).2.2.1 e.symm
   ·exact (h1 u hu).2.2.2.1 e.symm
variable {n K m S : Nat} {z : List (Nat × Nat)} {ss cs : List Nat} {ks : List (Bool × Nat)} {vs : List Nat}
theorem qu7.Qk9 (r : qu7 n K m S z ss cs ks vs) : (jF (qk6 z ss cs ks vs)).Nodup := by
 refine qY7 (fun t ht => ?_) (r.pairs.imp And.left)
 obtain ⟨i, hi⟩ := List.mem_iff_getElem?.1 ht
 obtain ⟨s, y, _, h2, _, e2, e3⟩ := r.at hi
 have := r.bc i (List.getElem?_eq_some_iff.1 h2).1
 rw [(qM2 h2).1, (qM2 h2).2] at this
 rw [e2, e3]
 omega
theorem qu7.may (r : qu7 n K m S z ss cs ks vs) (hn : n ≤ 64) (hm : m ≤ 64) : qz6 (qk6 z ss cs ks vs) := by
 have hfl : (flO (qk6 z ss cs ks vs)).length = m := by rw [r.spec.2.2, qC1 (by rw [r.vl, r.kl]), r.kl]
 refine zZ3 (by rw [hfl]; exact hm) (by rw [r.length]; exact hn) (by rw [r.spec.2.1]; exact r.c1) (fun t ht => ?_) (fun o ho => ?_) (r.pairs.imp And.left) r.placed
 ·obtain ⟨i, hi⟩ := List.mem_iff_getElem?.1 ht
  obtain ⟨s, y, h1, h2, e1, e2, e3⟩ := r.at hi
  have hs := (zx4 r.s (by simp [qe0]) s (List.mem_of_getElem? h1)).2
  rw [List.length_nil, r.sl] at hs
  have hbc := r.bc i (List.getElem?_eq_some_iff.1 h2).1
  rw [(qM2 h2).1, (qM2 h2).2] at hbc
  have hc := (qS2.1 ((r.stamps r.Qk9).mem_iff.1 (qo2 ht).2)).2
  rw [e1, e2, e3]
  rw [e3] at hc
  exact ⟨by omega, by omega, by omega, by omega, by omega⟩
 ·rw [r.spec.2.2] at ho
  obtain ⟨j, hj⟩ := List.mem_iff_getElem?.1 ho
  obtain ⟨x, v, h1, _, rfl⟩ := qY6.1 hj
  have := (jP5 r.k x (List.mem_of_getElem? h1)).2
  rw [r.kl] at this
  show 0 ≤ (x.2 : Int) ∧ (x.2 : Int) < 64
  omega
theorem qu7.check (r : qu7 n K m S z ss cs ks vs) (hn : n ≤ 64) (hm : m ≤ 64) : zS (qk6 z ss cs ks vs) = 0 := by
 have hfl : (flO (qk6 z ss cs ks vs)).length = m := by rw [r.spec.2.2, qC1 (by rw [r.vl, r.kl]), r.kl]
 exact (qz7 _ (by rw [r.length]; exact hn) (by rw [qM1, hfl]; omega)).2 (r.may hn hm)
theorem qu7.sorted (r : qu7 n K m S z ss cs ks vs) : qe1 (qk6 z ss cs ks vs) = qk6 z ss cs ks vs := by
 refine qv2 (qb1 _) (qk7 _) (r.pairs.imp fun {a b} h => by have := h.2; omega) (fun x hx y hy e => ?_)
 have hx := (qb1 _).mem_iff.1 hx
 have hy := (qb1 _).mem_iff.1 hy
 obtain ⟨i, hi⟩ := List.mem_iff_getElem?.1 hx
 obtain ⟨j, hj⟩ := List.mem_iff_getElem?.1 hy
 obtain ⟨hil, rfl⟩ := List.getElem?_eq_some_iff.1 hi
 obtain ⟨hjl, rfl⟩ := List.getElem?_eq_some_iff.1 hj
 have hpw := List.pairwise_iff_getElem.1 r.pairs
 rcases Nat.lt_trichotomy i j with h | h | h
 ·have := (hpw i j hil hjl h).2; omega
 ·subst h; rfl
 ·have := (hpw j i hjl hil h).2; omega
end Go.Proofs.Ytngkneknopenmaa.qc7
end
section
namespace Go.Proofs.Ytngkneknopenmaa.qc7
open Go.Proofs.Ytngkneknopenmaa.zQ Go.Proofs.Ytngkneknopenmaa.qb0
structure Can (h : List T4) : Prop where
 ok : zS h = 0
 eq : zT h = h
variable {h : List T4}
theorem Can.may (c : Can h) : qz6 h := (qi7 c.ok).2.2
theorem Can.sorted (c : Can h) : h.Pairwise (fun x y => x.b ≤ y.b) := by
 have k := (jx0 h)
 have e := c.eq
 rw [qz9] at e
 rw [← e, List.pairwise_map]
 refine (qk7 h).imp_of_mem fun {a b} ha hb hab => ?_
 show (qL4 h).R a.b ≤ (qL4 h).R b.b
 exact (zf4 k.r (qo2 ha).1 (qo2 hb).1).2 hab
theorem Can.sort (c : Can h) : qe1 h = h :=
 qv2 (qb1 _) (qk7 _) c.sorted (fun x hx y hy e => qR2 c.may x ((qb1 _).mem_iff.1 hx) y ((qb1 _).mem_iff.1 hy) e)
theorem jn5 {α : Type} {f : α → α} : ∀ {l : List α}, l.map f = l → ∀ x ∈ l, f x = x
 | y :: l, h, x, hx => by
  rw [List.map_cons, List.cons.injEq] at h
  rcases List.mem_cons.1 hx with rfl | hx
  ·exact h.1
  ·exact jn5 h.2 x hx
theorem Can.self (c : Can h) : ∀ t ∈ h, jt9 (qL4 h) t = t := by
 have e := c.eq
 rw [qz9, c.sort] at e
 exact jn5 e
theorem Can.keys (c : Can h) : zx3 0 (zP h) := by
 refine je8 _ 0 fun x hx => ?_
 obtain ⟨t, ht, o, ho, rfl⟩ := je3.1 hx
 have e := congrArg T4.ops (c.self t ht)
 have e2 : je2 (qL4 h) o = o := jn5 e o ho
 have e3 := congrArg O3.k e2
 unfold je2 qL4 at e3
 rw [c.sort] at e3
 exact e3
theorem Can.at {i j : Nat} (c : Can h) (hij : i < j) {u t : T4} (hu : h[i]? = some u) (ht : h[j]? = some t) : qr9 u t ∧ u.b < t.b := by
 obtain ⟨hil, rfl⟩ := List.getElem?_eq_some_iff.1 hu
 obtain ⟨hjl, rfl⟩ := List.getElem?_eq_some_iff.1 ht
 have h1 := List.pairwise_iff_getElem.1 c.may.2.1 i j hil hjl hij
 have h2 := List.pairwise_iff_getElem.1 c.sorted i j hil hjl hij
 exact ⟨h1, by have := h1.1; omega⟩
theorem Can.right (c : Can h) {t : T4} (ht : t ∈ h) : 0 ≤ t.s ∧ 0 ≤ t.b ∧ t.b < t.c ∧ 1 ≤ t.ops.length ∧ ∀ o ∈ t.ops, 0 ≤ o.k ∧ 0 ≤ o.v ∧ (o.w = true → 0 < o.v) := by
 obtain ⟨a1, a2, a3, a4, a5, a6, a7, a8⟩ := (qk8 t).1 (c.may.1 t ht)
 exact ⟨a1, a3, a4, by omega, fun o ho => by obtain ⟨b1, b2, b3, b4, b5⟩ := (qk9 o).1 (a8 o ho); exact ⟨b1, b3, b5⟩⟩
end Go.Proofs.Ytngkneknopenmaa.qc7
end
section
namespace Go.Proofs.Ytngkneknopenmaa.qc7
open Go.Proofs.Ytngkneknopenmaa.zQ Go.Proofs.Ytngkneknopenmaa.qb0
variable {h : List T4}
theorem Can.ops (c : Can h) {o : O3} (ho : o ∈ flO h) : 0 ≤ o.k ∧ 0 ≤ o.v ∧ (o.w = true → 0 < o.v) := by
 obtain ⟨t, ht, hot⟩ := jj5.1 ho
 exact (c.right ht).2.2.2.2 o hot
end Go.Proofs.Ytngkneknopenmaa.qc7
end
