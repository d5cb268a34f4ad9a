/- qr3 of this claim, joined by a program of this session: the zS that its theorem uses. -/
import Derived.Test.YtngkneknopenmaaZT13
import Derived.Test.YtngkneknopenmaaZT16
import Derived.Deep.RegionLaw
import Derived.Deep.RegionLawGrows
import Derived.ArgAppend
set_option linter.unusedVariables false
set_option linter.unusedSimpArgs false
section
namespace Go.qC8
open Go
theorem wp_append_run {P : Program} {o : Oper} {a : Act} {w : World} {K : Act → World → Prop} {Q : Exit → Act → World → Prop}
  (s x : Operand) (t : TypeId) (hop : o.op = Op.call { callee := Callee.builtin Builtin.append, args := #[s, x], argTypes := #[t, t] })
  (v y : Value) (hs : a.eval s = v) (hx : a.eval x = y) (ty : TypeId) (hty : o.type = ty) {v' : Value} {w' : World} (hrun : (Builtin.append_ #[t, t] ty #[v, y]).run P w = .ok v' w') (hK : K (a.put o.dst v') w') : Oper.wp P o a w K Q := by
 subst hty
 unfold Oper.wp execOp
 simp only [hop, resolve, invoke, builtin, Sem.run_bind, Sem.run_pure, Result.andThen_ok, List.map_toArray, List.map_cons, List.map_nil, hs, hx, hrun]
 exact hK
theorem zz8 {P : Program} {o : Oper} {a : Act} {w : World} {K : Act → World → Prop} {Q : Exit → Act → World → Prop}
  (f : FuncId) (x y z : Operand) (ats : Array TypeId) (hop : o.op = Op.call { callee := Callee.value (.func f), args := #[x, y, z], argTypes := ats })
  (vx vy vz : Value) (hx : a.eval x = vx) (hy : a.eval y = vy) (hz : a.eval z = vz) {R : Ending → World → Prop} (hfn : ∀ w, (callFunc f #[vx, vy, vz]).run P w = .ok (.enter f #[vx, vy, vz]) w) (hc : Calls P f #[vx, vy, vz] w R) (hK : ∀ e w', R e w' → ∃ v, e = .returned v ∧ K (a.put o.dst v) w') : Oper.wp P o a w K Q := by
 have key : ∀ ρ : Operand → Value, ρ (.func f) = .func (.func f) #[] #[] → ρ x = vx → ρ y = vy → ρ z = vz → (execOp ρ o).run P w = .ok (.enter f #[vx, vy, vz]) w := by
  intro ρ hf h1 h2 h3
  unfold execOp
  simp [hop, resolve, invoke, go_sem, h1, h2, h3, hf, hfn]
 have he := key a.eval rfl hx hy hz
 unfold Oper.wp
 rw [he]
 show Calls P f #[vx, vy, vz] w _
 refine hc.mono fun e w' hr => ?_
 obtain ⟨v, rfl, hk⟩ := hK e w' hr
 exact hk
end Go.qC8
end
section
namespace Go.Proofs.Ytngkneknopenmaa.qf6
open Go Go.Lib Go.RowKit Go.Proofs.Ytngkneknopenmaa Go.Proofs.Ytngkneknopenmaa.zM Go.Proofs.Ytngkneknopenmaa.qa9 Go.Proofs.Ytngkneknopenmaa.qb8
section
variable {L : List (List T4)} {J : List (List T4) → (Nat → Prop) → World → Prop} {Jx : List (List T4) → World → Prop} {bX : Nat} {p : Par} {yv : Value}
theorem zo8 (H : Nat) (W : World) (hH : W.heap.size = H) (a b c d : Value) : ∀ (j : Nat) (u : Value), [a, b, c, d][j]? = some u → (W.alloc (.cells #[a, b, c, d] 55)).cell? ((⟨H, 0, none⟩ : Addr).add j) = some u := by
 intro j u hj
 subst hH
 have h := zM.alloc_at W (.cells #[a, b, c, d] 55)
 rw [jk8, Lib.cell_of_heap h]
 simpa using hj
theorem zM4 (a b c : Int) (A : Option Addr) (n k : Nat) : ∀ u ∈ [(.int .i64 a : Value), .int .i64 b, .int .i64 c, .slice A n k], u.oneCell' = true := by
 intro u hu
 simp at hu
 rcases hu with rfl | rfl | rfl | rfl <;> rfl
theorem jS9 {w : World} {base : Nat} {e : TypeId} {size : Nat} {v : Value} {n : Nat} {xs : List Value} (h : w.ownsRow base e size v n xs) (hn : 0 < n) : ∃ g cap, v = .slice (some ⟨g, 0, none⟩) n cap := by
 rcases h.2 with ⟨_, h0⟩ | ⟨g, cap, _, hv, _⟩
 ·omega
 ·exact ⟨g, cap, hv⟩
def RelT (J : List (List T4) → (Nat → Prop) → World → Prop) (bX : Nat) (p : Par) (yv V : Value) (n m t : Nat) (op : List Nat) (d : List (Nat × Nat)) (pre : List (List T4)) (rows : List ER) (C : Nat → Prop) (w : World) (q : Nat) (x : Value) (wr : World) : Prop :=
 ∃ (c : Nat) (C' : Nat → Prop) (V' : Value) (rows' : List ER), c ≤ q ∧ x = .int .i64 ((c : Nat) : Int) ∧ RG J bX p yv (jw8 op d) C (Ow bX V rows) w (pre ++ qp9 n p.K.toNat m p.S.toNat t op d ++ (op.take c).flatMap (qI2 n p.K.toNat m p.S.toNat t op d)) C' V' rows' wr
theorem qF1.later {J : List (List T4) → (Nat → Prop) → World → Prop} {Jx : List (List T4) → World → Prop} {pre B outs : List (List T4)} {C E : Nat → Prop} {w : World} {G : (Nat → Prop) → (Nat → Prop) → World → Prop} {W : World} (h : qF1 J Jx (pre ++ B) outs C E w G (.returned (.bool false)) W) : qF1 J Jx pre (B ++ outs) C E w G (.returned (.bool false)) W := by
 rcases h with ⟨h, _⟩ | ⟨_, q, hq, hx⟩
 ·cases h
 ·exact .inr ⟨rfl, B ++ q, (List.prefix_append_right_inj B).2 hq, by rw [← List.append_assoc]; exact hx⟩
theorem jz7 : ∀ (l : List Nat) (c i : Nat), l.Nodup → l[c]? = some i → l.eraseIdx c = l.erase i
 | [], c, i, _, h => by simp at h
 | x :: l, 0, i, _, h => by simp at h; subst h; simp
 | x :: l, c + 1, i, hn, h => by
  rw [List.nodup_cons] at hn
  have hi : l[c]? = some i := by simpa using h
  have hne : x ≠ i := fun e => hn.1 (e ▸ List.mem_of_getElem? hi)
  rw [List.eraseIdx_cons_succ, List.erase_cons_tail (by simpa using hne), jz7 l c i hn.2 hi]
set_option maxHeartbeats 40000000 in
set_option maxRecDepth 100000 in
theorem jT0 (hA : Abides J) {n m : Nat} (hs : n ≤ 1000) (M : Nat) (ih : ∀ (t : Nat) (op : List Nat) (d : List (Nat × Nat)) (v V : Value) (pre : List (List T4)) (C : Nat → Prop) (rows : List ER) (w : World), 2 * n - t < M → InT L J bX p yv V n m t op d v pre C rows w →
   Calls Try.prog 84 #[.pointer (some ⟨bX, 0, none⟩), .int .i64 (t : Int), v] w (qC7 J Jx bX p yv V n m t op d pre C rows w))
  {V : Value} {t : Nat} {op : List Nat} {d : List (Nat × Nat)} {v : Value} {pre : List (List T4)} {C : Nat → Prop} {rows : List ER} {w : World} (hM : 2 * n - t < M + 1) (h : InT L J bX p yv V n m t op d v pre C rows w) (ht : t < 2 * n) (hSS : p.S = (p.S.toNat : Int)) :
  Calls Try.prog 84 #[.pointer (some ⟨bX, 0, none⟩), .int .i64 (t : Int), v] w (qC7 J Jx bX p yv V n m t op d pre C rows w) := by
 have c4 := h.eb.field 4
 have c6 := h.eb.field 6
 have c0 := h.eb.field 0
 have f6 := h.eb.thaw 6
 simp only [Par.cells, List.getElem?_toArray, List.getElem?_cons_succ, List.getElem?_cons_zero] at c0 c4 c6
 rw [h.pn] at c4
 obtain ⟨S, hSN⟩ : ∃ S, p.S.toNat = S := ⟨_, rfl⟩
 have HSN := Lib.hid hSN
 rw [hSN] at hSS
 rw [hSS] at c0
 obtain ⟨A, cap, hV, hcap, hcm⟩ := h.eb.slice
 obtain ⟨k, hk⟩ : ∃ k, d.length = k := ⟨_, rfl⟩
 rw [h.car.len, hk] at hV hcap
 have HK := Lib.hid hk
 obtain ⟨q, hq⟩ : ∃ q, op.length = q := ⟨_, rfl⟩
 have HQ := Lib.hid hq
 have hqk : q ≤ 2 * k := by have := h.inv.ev; omega
 have hkn : k ≤ n := by have := h.inv.le; omega
 obtain ⟨vo, hvc, hvf⟩ : ∃ (vo : Option Addr × Nat), v = .slice vo.1 q vo.2 ∧ q ≤ vo.2 ∧ (vo.1 = none → q = 0 ∧ vo.2 = 0) := by
  rcases h.own.2 with ⟨e, e0⟩ | ⟨g, c, _, e, _, _, hle, _⟩
  ·exact ⟨(none, 0), by rw [e, ← hq, e0], by omega, fun _ => ⟨by omega, rfl⟩⟩
  ·exact ⟨(some ⟨g, 0, none⟩, c), by rw [e, hq], by rw [← hq]; exact hle, fun e => by cases e⟩
 obtain ⟨vA, vc⟩ := vo
 simp only at hvc hvf
 obtain ⟨hvc1, hvn⟩ := hvf
 have hvm : vc ≤ 9223372036854775807 := by
  rcases h.own.2 with ⟨e, e0⟩ | ⟨g, c, _, e, _, _, hle, hm, _⟩
  ·rw [hvc] at e; injection e with _ _ e3; omega
  ·rw [hvc] at e; injection e with _ _ e3; unfold maxLen at hm; omega
 unfold maxLen at hcm
 have hne : ((t : Int) == 2 * (n : Int)) = false := by simp; omega
 have hvz : (q : Int) ≤ (vc : Int) := by omega
 have HI := Lib.hid h
 have HIH := Lib.hid ih
 have HM := Lib.hid hM
 have HA := Lib.hid hA
 have HVN := Lib.hid hvn
 have HOL : ∀ (W : World), (∀ g, v.ownBlock = some g → W.heap[g]? = w.heap[g]?) → ∀ b, vA = some b → ∀ j u, (qB2 op)[j]? = some u → W.cell? (b.add j) = some u := by
  intro W hW b hb j u hj
  have hown := qf1 h.own hW
  rcases hown.2 with ⟨e, e0⟩ | ⟨g, c, _, e, _⟩
  ·rw [hvc, hb] at e; cases e
  ·have e2 := e
   rw [hvc, hb] at e2
   injection e2 with e1
   rw [Option.some.inj e1]
   exact hown.cells (by rw [e]; rfl) j u hj
 have zM5 := Lib.hid HOL
 clear HOL
 have hnl : (qB2 op).length = q * 1 := by unfold qB2; rw [List.length_map]; omega
 have HNL := Lib.hid hnl
 subst hvc
 subst hV
 clear hnl
 obtain ⟨i0, hii, hz0, hz1, hz2⟩ := info_parts zM.zg2
 obtain ⟨j0, hjj, jz0, jz1, jz2⟩ := info_parts jj9
 clear h ih hM hA hk hq hSN hSS hvn
 rcases (show (k < n ∧ q < S) ∨ ¬ k < n ∨ (k < n ∧ ¬ q < S) by omega) with zo9 | zo9 | zo9
 case' inl =>
  obtain ⟨hb1, hb2⟩ := zo9
  have hd1 : decide (k < n) = true := decide_eq_true hb1
  have hd1z : (k : Int) < (n : Int) := by omega
  have hd2 : decide (q < S) = true := decide_eq_true hb2
  have hd2z : (q : Int) < (S : Int) := by omega
  go_enter Try.func84, Try.ntmps84
  go_wp2_with fail
  go_quiet (fail)
  obtain ⟨Wd, hWd⟩ : ∃ Wd, w.drewN nq = Wd := ⟨_, rfl⟩
  have hbd : Below w.heap.size w Wd := by rw [← hWd]; exact below_drewN (Below.refl _ _) nq
  have e6 := cell_below hbd c6
  rw [hWd]
  have HBD := Lib.hid hbd
  have heb := HI.out.eb.below hbd
  have hown := heb.own
  rw [HI.out.car.len, HK.out] at hown
  have HEB := Lib.hid heb
  have HOWN := Lib.hid hown
  have hb0 := (HI.out.eb.lt bX (.inl rfl)).2
  have hbz := hbd.size
  clear hWd hbd heb hown
  go_wp2_with (first
   | (at_builtin; refine wpList_append_own_at _ rfl _ _ 22 rfl (bX + 1) 55 i0 (.agg #[.int .i64 0, .int .i64 0, .int .i64 0, .slice none 0 0]) 4 48 Try.underlying22 hii hz0 hz1 hz2 rfl (by decide) (.slice A k cap) k (qc9 rows) rfl (HOWN.out.alloc _) ⟨Wd.heap.size, 0, none⟩ 1 1 [.int .i64 0, .int .i64 (t : Int), .int .i64 0, .slice none 0 0] rfl rfl (zo8 _ _ rfl _ _ _ _) (zM4 _ _ _ _ _ _) (by unfold maxLen; omega) (by omega) (by simp; omega) ?_; intro V2 w2 hown2 hg2 Qn3 Qb7; clear Qn3; obtain ⟨g2, cap2, rfl⟩ := jS9 hown2 (Nat.succ_pos _); have Qn4 := Lib.hid hown2; have HG2 := Lib.hid hg2; have HAT2 := Lib.hid Qb7; have hx2 : w2.heap[bX]? = some (.cells (p.cells (.slice A k cap) yv) 114 (0, 0)) := (hg2.block bX (by simp; omega) (fun e => (HEB.out.bXV (g := bX) e.symm) rfl)).trans ((Below.heap_alloc Wd _ bX (by omega)).trans HEB.out.hx); have d6 := Lib.cell_of_heap hx2 6; have z6 := Lib.frozen_of_heap hx2 6; simp only [Par.cells, List.getElem?_toArray, List.getElem?_cons_succ, List.getElem?_cons_zero] at d6; have HKP := Lib.hid (show ∀ g, (Value.slice vA q vc).ownBlock = some g → w2.heap[g]? = w.heap[g]? from fun g hg => (hg2.block g (by have := (HI.out.own.lt g hg).2; simp; omega) (fun e => (HI.out.ap g hg).2 (.inr (.inl e.symm)))).trans ((Below.heap_alloc Wd _ g (by have := (HI.out.own.lt g hg).2; omega)).trans (HBD.out.block g (HI.out.own.lt g hg).2))); clear hown2 hg2 Qb7 hx2)
   | (at_builtin; refine wpList_append_grows _ rfl _ _ 29 rfl 3 j0 (.int .i64 0) 1 8 Try.underlying29 hjj jz0 jz1 jz2 rfl (by decide) vA q q (qB2 op) rfl (fun e => ⟨(HVN.out e).1, (HVN.out e).1⟩) HNL.out (zM5.out _ (fun g hg => (Below.heap_alloc _ _ g (by have := (HI.out.own.lt g hg).2; have := HBD.out.size; have := HG2.out.size; simp at this ⊢; omega)).trans ((qa4 _ _ _ (fun e => (HI.out.ap g hg).2 (.inl e))).trans (HKP.out g hg)))) ⟨w2.heap.size, 0, none⟩ 1 1 [.int .i64 (k : Int)] rfl rfl (jS2 _ _ (by simp) _) (by simp [Value.oneCell']) (by omega) (by unfold maxLen; omega) (by omega) ?_; intro v3 W3 hv3 hg3; obtain ⟨g3, cap3, rfl⟩ := jS9 hv3 (Nat.succ_pos _); have HV3 := Lib.hid hv3; have HG3 := Lib.hid hg3; clear hv3 hg3))
  have hln : rows.length = k := by rw [HI.out.car.len, HK.out]
  have hb3 : Below (w2.setCell ⟨bX, 6, none⟩ (.slice (some ⟨g2, 0, none⟩) (k + 1) cap2)).heap.size (w2.setCell ⟨bX, 6, none⟩ (.slice (some ⟨g2, 0, none⟩) (k + 1) cap2)) W3 := ((Below.refl _ _).alloc (Nat.le_refl _) _).grown HG3.out (by simp) (by simp)
  obtain ⟨hIn, hFr, hnv⟩ := InT.begin HI.out HA.out ht (by rw [HK.out]; exact hb1) (by rw [HQ.out, HSN.out]; exact hb2) (w1 := Wd.alloc (.cells #[.int .i64 0, .int .i64 (t : Int), .int .i64 0, .slice none 0 0] 55)) (HBD.out.alloc HBD.out.size _) (r := ⟨0, (t : Int), 0, .slice none 0 0, []⟩) rfl HG2.out (by rw [hln]; exact Qn4.out) (fun g hg => by
   rcases HAT2.out with e | e
   ·exact .inl (by rw [← e]; exact hg)
   ·rw [e] at hg; injection hg with hg; exact .inr (by omega)) hb3 (v' := .slice (some ⟨g3, 0, none⟩) (q + 1) cap3) (by rw [HQ.out, HK.out]; exact jf9 HV3.out (by simp))
  have hih := (HIH.out (t + 1) _ _ _ _ pre C _ W3 (by have := HM.out; omega) hIn).mono (R' := fun e w' => ∃ bb, e = .returned (.bool bb) ∧ qC7 J Jx bX p yv (.slice (some ⟨g2, 0, none⟩) (k + 1) cap2) n m (t + 1) (op ++ [d.length]) (d ++ [(t, 0)]) pre C (rows ++ [⟨0, (t : Int), 0, .slice none 0 0, []⟩]) W3 (.returned (.bool bb)) w') (fun e w' hq => by obtain ⟨bb, rfl⟩ := hq.bool; exact ⟨bb, rfl, hq⟩)
  rw [qk4] at hih
  have IH := Lib.hid hih
  have HFR := Lib.hid hFr
  have HB1 := Lib.hid hb1
  have HB2 := Lib.hid hb2
  clear hih hIn hFr hnv hb3 hln
  have hBl : qp9 n p.K.toNat m p.S.toNat t op d = (qL0 n p.K.toNat m p.S.toNat (2 * n - (t + 1)) (t + 1) (op ++ [d.length]) (d ++ [(t, 0)])).map zU := by
   unfold qp9
   rw [if_pos ⟨by rw [HK.out]; exact HB1.out, by rw [HQ.out, HSN.out]; exact HB2.out⟩]
  have HBL := Lib.hid hBl
  clear hBl hb1 hb2
  (with_reducible refine (IH.out).mono ?_)
  rintro e w5 ⟨bb, rfl, hp⟩
  have HP := Lib.hid hp
  clear hp
  cases bb
  ·go_wp2_with fail
   go_ret
   rcases HP.out with ⟨h0, _⟩ | ⟨_, qq, hqq, hx⟩
   ·cases h0
   ·refine .inr ⟨rfl, qq, ?_, hx⟩
    rw [qw7 ht, HBL.out]
    exact List.IsPrefix.trans hqq (List.prefix_append _ _)
  rcases HP.out with ⟨_, C2, E2, hj2, hs2, hf2, V2, zC, rfl, qT4, zz9⟩ | ⟨h0, _⟩
  rotate_left
  ·cases h0
  have hl2 : zC.length = k + 1 := by have := zz9.len; rw [this]; simp [HK.out]
  obtain ⟨A2, zp0, hV2, hcapz, hcmz⟩ := qT4.slice
  rw [hl2] at hV2 hcapz
  subst hV2
  unfold maxLen at hcmz
  have r6 := qT4.field 6
  have y6 := qT4.thaw 6
  simp only [Par.cells, List.getElem?_toArray, List.getElem?_cons_succ, List.getElem?_cons_zero] at r6
  have htk := qT4.take (k := k) (by omega) (A := A2) (cap := zp0) (by rw [hl2])
  have hOt : ∀ b, Ow bX (.slice A2 k zp0) (zC.take k) b → Ow bX (.slice A2 (k + 1) zp0) zC b := by
   rintro b (hb | hb | ⟨x, hx, hb⟩)
   ·exact .inl hb
   ·exact .inr (.inl (by cases A2 <;> exact hb))
   ·exact .inr (.inr ⟨x, List.mem_of_mem_take hx, hb⟩)
  have hRG0 : RG J bX p yv (jw8 op d) C (Ow bX (.slice A k cap) rows) w (pre ++ qp9 n p.K.toNat m p.S.toNat t op d) C2 (.slice A2 k zp0) (zC.take k) (w5.setCell ⟨bX, 6, none⟩ (.slice A2 k zp0)) := by
   refine ⟨htk, ⟨fun b hb => by have := hs2.lt b hb; simpa using this, fun b hb => hs2.ap b (hOt b hb)⟩, by rw [HBL.out]; exact HA.out.store hj2 _ _ (hs2.ap _ (.inl rfl)), (HFR.out.trans hf2).trans ⟨rfl, rfl, rfl, by simp, fun b _ _ ho => qa4 _ _ _ (fun e => ho (.inl e)), fun _ _ h => h, fun b _ h => hOt b h⟩, ?_⟩
   have := qE4.zL3 (op := op) (t := t) zz9
   rw [HK.out] at this
   exact this
  have Qb8 := Lib.hid hRG0
  clear hRG0 hOt htk hj2 hs2 hf2 qT4 zz9 HP
  go_wp2_with fail
  obtain ⟨W0, hW0⟩ : ∃ W0, w5.setCell ⟨bX, 6, none⟩ (.slice A2 k zp0) = W0 := ⟨_, rfl⟩
  rw [hW0] at Qb8 ⊢
  have HRX : Hid (∃ C0 V0 jp9, RG J bX p yv (jw8 op d) C (Ow bX (.slice A k cap) rows) w (pre ++ qp9 n p.K.toNat m p.S.toNat t op d) C0 V0 jp9 W0) := Lib.hid ⟨_, _, _, Qb8.out⟩
  clear Qb8 hW0 r6 y6
 case' inr.inl =>
  have hd1 : decide (k < n) = false := decide_eq_false zo9
  have hd1z : ¬ (k : Int) < (n : Int) := by omega
  have hBl : qp9 n p.K.toNat m p.S.toNat t op d = [] := by
   unfold qp9
   rw [if_neg (fun e => zo9 (by rw [← HK.out]; exact e.1))]
  have zA0 : ∀ W0, Below w.heap.size w W0 → Hid (∃ C0 V0 jp9, RG J bX p yv (jw8 op d) C (Ow bX (.slice A k cap) rows) w (pre ++ qp9 n p.K.toNat m p.S.toNat t op d) C0 V0 jp9 W0) := fun W0 hb => Lib.hid ⟨C, _, rows, HI.out.eb.below hb, HI.out.sep.later hb.size, by rw [hBl, List.append_nil]; exact HA.out.below HI.out.j hb HI.out.sep.lt, Fr.below hb, HI.out.car⟩
  have zA1 := Lib.hid zA0
  clear zA0 hBl
  go_enter Try.func84, Try.ntmps84
  go_wp2_with fail
  go_quiet (fail)
  obtain ⟨W0, hWd⟩ : ∃ Wd, w.drewN nq = Wd := ⟨_, rfl⟩
  have HRX := zA1.out W0 (by rw [← hWd]; exact below_drewN (Below.refl _ _) nq)
  rw [hWd]
  clear hWd zA1
  go_wp2_with fail
 case' inr.inr =>
  obtain ⟨hb1, hb2⟩ := zo9
  have hd1 : decide (k < n) = true := decide_eq_true hb1
  have hd1z : (k : Int) < (n : Int) := by omega
  have hd2 : decide (q < S) = false := decide_eq_false hb2
  have hd2z : ¬ (q : Int) < (S : Int) := by omega
  have hBl : qp9 n p.K.toNat m p.S.toNat t op d = [] := by
   unfold qp9
   rw [if_neg (fun e => hb2 (by rw [← HQ.out, ← HSN.out]; exact e.2))]
  have zA0 : ∀ W0, Below w.heap.size w W0 → Hid (∃ C0 V0 jp9, RG J bX p yv (jw8 op d) C (Ow bX (.slice A k cap) rows) w (pre ++ qp9 n p.K.toNat m p.S.toNat t op d) C0 V0 jp9 W0) := fun W0 hb => Lib.hid ⟨C, _, rows, HI.out.eb.below hb, HI.out.sep.later hb.size, by rw [hBl, List.append_nil]; exact HA.out.below HI.out.j hb HI.out.sep.lt, Fr.below hb, HI.out.car⟩
  have zA1 := Lib.hid zA0
  clear zA0 hBl
  go_enter Try.func84, Try.ntmps84
  go_wp2_with fail
  go_quiet (fail)
  obtain ⟨W0, hWd⟩ : ∃ Wd, w.drewN nq = Wd := ⟨_, rfl⟩
  have HRX := zA1.out W0 (by rw [← hWd]; exact below_drewN (Below.refl _ _) nq)
  rw [hWd]
  clear hWd zA1
  go_wp2_with fail
 all_goals
  go_loopw [80] (fun x wr => RelT J bX p yv (.slice A k cap) n m t op d pre rows C w q x wr) (fun x _ => q - (intOf x).toNat)
  case atStart =>
   obtain ⟨C0, V0, jp9, hrg⟩ := HRX.out
   exact ⟨0, C0, V0, jp9, Nat.zero_le _, rfl, by simpa using hrg⟩
  case round =>
   obtain ⟨c, C1, V1, qK4, hc, rfl, hRG⟩ := hrel
   have hcar : qE4 op d qK4 := hRG.car
   have hl1 : qK4.length = k := by rw [hcar.len, HK.out]
   by_cases hlt : c < q
   ·have hltz : (c : Int) < (q : Int) := by omega
    obtain ⟨gO, rfl⟩ : ∃ gO, vA = some ⟨gO, 0, none⟩ := by
     rcases HI.out.own.2 with ⟨e, e0⟩ | ⟨g, cc, _, e, _⟩
     ·rw [HQ.out] at e0; omega
     ·injection e with e1; exact ⟨g, e1⟩
    obtain ⟨i, hi⟩ : ∃ i, op[c]? = some i := ⟨_, List.getElem?_eq_getElem (by rw [HQ.out]; exact hlt)⟩
    have hik : i < k := by have := HI.out.inv.lt i (List.mem_of_getElem? hi); rw [HK.out] at this; exact this
    obtain ⟨g, cap1, hV1, hcap1⟩ := hRG.eb.form (by omega)
    have hcm1 : cap1 ≤ 9223372036854775807 := by
     obtain ⟨_, c', e, _, hcmx⟩ := hRG.eb.slice
     have : cap1 = c' := by rw [e] at hV1; injection hV1 with _ _ e3; exact e3.symm
     unfold maxLen at hcmx
     omega
    obtain ⟨r1, hr1⟩ : ∃ r, qK4[i]? = some r := ⟨_, List.getElem?_eq_getElem (by omega)⟩
    have t6 := hRG.eb.field 6
    have t2 := hRG.eb.qo7 hV1 hr1 (j := 2) (by omega)
    have z2 := hRG.eb.zz2 hV1 (i * 4 + 2)
    simp only [Par.cells, ER.cells, List.getElem?_toArray, List.getElem?_cons_succ, List.getElem?_cons_zero] at t6 t2
    have hkeep : ∀ x, (Value.slice (some ⟨gO, 0, none⟩) q vc).ownBlock = some x → wr.heap[x]? = w.heap[x]? := fun x hx => hRG.fr.keep x (HI.out.own.lt x hx).2 (HI.out.ap x hx).1 (HI.out.ap x hx).2
    have tO := zM5.out wr hkeep ⟨gO, 0, none⟩ rfl c (.int .i64 (i : Int)) (by unfold qB2; rw [List.getElem?_map, hi]; rfl)
    rw [jk8] at tO
    rw [hV1, hl1] at t6
    rw [hl1] at hcap1
    have HRG := Lib.hid hRG
    have HIX := Lib.hid hi
    have HV1 := Lib.hid hV1
    have HKP1 := Lib.hid hkeep
    have HL1 := Lib.hid hl1
    clear hRG hi hV1 hkeep hl1 hr1 hcar
    have hikz : (i : Int) < (k : Int) := by omega
    have hc1v : (c : Int) + 1 ≤ (vc : Int) := by omega
    obtain ⟨Wc, hWc⟩ : ∃ Wc, wr.setCell ⟨g, i * 4 + 2, none⟩ (.int .i64 (t : Int)) = Wc := ⟨_, rfl⟩
    have hWs : Wc.heap.size = wr.heap.size := by rw [← hWc]; simp
    have hlo : ∀ x, (Value.slice (some ⟨gO, 0, none⟩) q vc).ownBlock = some x → x < Wc.heap.size := fun x hx => by have := (HI.out.own.lt x hx).2; have := HRG.out.fr.size; omega
    have hgO : Ow bX V1 qK4 g := .inr (.inl (by rw [HV1.out]; rfl))
    have hkc : ∀ x, (Value.slice (some ⟨gO, 0, none⟩) q vc).ownBlock = some x → Wc.heap[x]? = w.heap[x]? := fun x hx => by
     rw [← hWc, qa4 _ _ _ (fun e => (HI.out.ap x hx).2 (HRG.out.fr.ow x (HI.out.own.lt x hx).2 (by rw [e]; exact hgO)))]
     exact HKP1.out x hx
    have hnl2 : (qB2 op).length = q := by have := HNL.out; omega
    have hn1 : ∀ u ∈ qB2 op, u.oneCell' = true := by intro u hu; unfold qB2 at hu; obtain ⟨y, _, rfl⟩ := List.mem_map.1 hu; rfl
    have hown0 : (Wc.drew.alloc (.cells #[] 3)).ownsRow Wc.heap.size 3 1 (.slice (some ⟨Wc.heap.size, 0, none⟩) 0 0) 0 [] := ⟨rfl, .inr ⟨Wc.heap.size, 0, #[], rfl, Nat.le_refl _, World.alloc_heap_new Wc.drew _, Nat.le_refl _, by unfold maxLen; omega, rfl, rfl⟩⟩
    obtain ⟨v2, W2, zU9, zM6, hg2, _, _⟩ := run_append_own_at (P := Try.prog) (Wc.drew.alloc (.cells #[] 3)) Wc.heap.size 29 29 3 j0 (.int .i64 0) 1 8 Try.underlying29 hjj jz0 jz1 jz2 rfl (by decide) (.slice (some ⟨Wc.heap.size, 0, none⟩) 0 0) 0 [] hown0 ⟨gO, 0, none⟩ c vc ((qB2 op).take c) (by rw [List.length_take]; omega) (fun jj u hj => by
     rw [List.getElem?_take] at hj
     split at hj
     ·exact zM5.out _ (fun x hx => (Below.heap_alloc Wc.drew _ x (show x < Wc.heap.size from hlo x hx)).trans (hkc x hx)) _ rfl jj u hj
     ·cases hj) (fun u hu => hn1 u (List.mem_of_mem_take hu)) (by unfold maxLen; omega) (by omega) (by simp)
    simp only [Nat.zero_add, List.nil_append] at zM6
    have zA2 : Below Wc.heap.size Wc W2 := (((Below.refl _ _).drew).alloc (Nat.le_refl _) _).grown hg2 (by simp) (fun x hx => by injection hx with hx; exact Nat.le_of_eq hx)
    obtain ⟨ad2, had2, zV0⟩ : ∃ ad2 : Addr, (if vc = c + 1 then some (⟨gO, 0, none⟩ : Addr) else some ⟨gO, c + 1, none⟩) = some ad2 ∧ ∀ (W : World), (∀ x, (Value.slice (some ⟨gO, 0, none⟩) q vc).ownBlock = some x → W.heap[x]? = w.heap[x]?) → ∀ jj u, ((qB2 op).drop (c + 1))[jj]? = some u → W.cell? (ad2.add jj) = some u := by
     by_cases hcv : vc = c + 1
     ·refine ⟨⟨gO, 0, none⟩, if_pos hcv, fun W _ jj u hj => ?_⟩
      rw [List.drop_of_length_le (by omega)] at hj
      simp at hj
     ·refine ⟨⟨gO, c + 1, none⟩, if_neg hcv, fun W hW jj u hj => ?_⟩
      rw [List.getElem?_drop] at hj
      have := zM5.out W hW _ rfl _ u hj
      rw [jk8] at this
      rw [show (⟨gO, c + 1, none⟩ : Addr).add jj = ⟨gO, c + 1 + jj, none⟩ by unfold Addr.add; split <;> simp_all]
      exact this
    obtain ⟨v3, W3, zV1, own3, hg3, _, _⟩ := run_append_own_at (P := Try.prog) W2 Wc.heap.size 29 29 3 j0 (.int .i64 0) 1 8 Try.underlying29 hjj jz0 jz1 jz2 rfl (by decide) v2 c ((qB2 op).take c) zM6 ad2 (q - (c + 1)) (vc - (c + 1)) ((qB2 op).drop (c + 1)) (by rw [List.length_drop]; omega) (zV0 W2 (fun x hx => (zA2.block x (hlo x hx)).trans (hkc x hx))) (fun u hu => hn1 u (List.mem_of_mem_drop hu)) (by unfold maxLen; omega) (by omega) zA2.size
    have HAD := Lib.hid had2
    clear had2 zV0
    have hWc3 : Below Wc.heap.size Wc W3 := zA2.grown hg3 zA2.size (fun x hx => (zM6.lt x hx).1)
    have zA3 : op.eraseIdx c = op.erase i := jz7 op c i HI.out.inv.nd HIX.out
    have hown3 : W3.ownsRow (wr.setCell ⟨g, i * 4 + 2, none⟩ (.int .i64 (t : Int))).heap.size 3 1 v3 (op.erase i).length (qB2 (op.erase i)) := by
     rw [hWc, ← zA3]
     have e1 : (op.eraseIdx c).length = c + (q - (c + 1)) := by rw [List.length_eraseIdx, if_pos (by rw [HQ.out]; exact hlt), HQ.out]; omega
     have e2 : qB2 (op.eraseIdx c) = (qB2 op).take c ++ (qB2 op).drop (c + 1) := by rw [List.eraseIdx_eq_take_drop_succ]; unfold qB2; rw [List.map_append, List.map_take, List.map_drop]
     rw [e1, e2]
     exact own3
    obtain ⟨qy2, hIn, hFr, hOO⟩ := RG.close HI.out HA.out ht rfl HIX.out HRG.out HV1.out (W2 := W3) (by rw [hWc]; exact hWc3) hown3
    have hih := (HIH.out (t + 1) _ _ _ _ _ C1 _ W3 (by have := HM.out; omega) hIn).mono (R' := fun e w' => ∃ bb, e = .returned (.bool bb) ∧ qC7 J Jx bX p yv V1 n m (t + 1) (op.erase i) (d.set i (bg d i, t)) (pre ++ qp9 n p.K.toNat m p.S.toNat t op d ++ (op.take c).flatMap (qI2 n p.K.toNat m p.S.toNat t op d)) C1 qy2 W3 (.returned (.bool bb)) w') (fun e w' hq => by obtain ⟨bb, rfl⟩ := hq.bool; exact ⟨bb, rfl, hq⟩)
    rw [qk4] at hih
    have IH := Lib.hid hih
    have HFR := Lib.hid hFr
    have HR1 := Lib.hid zU9
    have HR2 := Lib.hid zV1
    clear hih hIn hFr hOO hown3 zA3 hWc3 own3 hg3 zM6 hg2 zA2 hown0 hn1 hnl2 hkc hgO hlo zU9 zV1
    have hcvc : c ≤ vc := by omega
    have hc1q : c + 1 ≤ q := by omega
    go_wp2_with fail
    try rw [hWc]
    have HWC := Lib.hid hWc
    clear hWc hWs
    refine qU.qr8 [] (fun _ => True) (by kernel_rfl) ?_
    refine qU.zF (i := 0) (v := .pointer (some ⟨bX, 0, none⟩)) rfl (by kernel_rfl) (by kernel_rfl) (by kernel_rfl) (fun _ _ _ h => h) (.inl ⟨rfl, fun W hW => ?_⟩) ?_
    ·go_simp
    simp only [Act.put, List.setIfInBounds_toArray, List.set_cons_zero, List.set_cons_succ]
    refine qU.zF (i := 1) (v := .int .i64 (t : Int)) rfl (by kernel_rfl) (by kernel_rfl) (by kernel_rfl) (fun _ _ _ h => h) (.inl ⟨rfl, fun W hW => ?_⟩) ?_
    ·go_simp
    simp only [Act.put, List.setIfInBounds_toArray, List.set_cons_zero, List.set_cons_succ]
    refine qU.zF (i := 2) (v := .int .i64 ((t : Int) + 1)) rfl (by kernel_rfl) (by kernel_rfl) (by kernel_rfl) (fun _ _ _ h => h) (.inl ⟨rfl, fun W hW => ?_⟩) ?_
    ·go_simp
     exact IntWalk.i64_in _ (by omega)
    simp only [Act.put, List.setIfInBounds_toArray, List.set_cons_zero, List.set_cons_succ]
    refine qU.zF (i := 4) (v := .slice (some ⟨gO, 0, none⟩) q vc) rfl (by kernel_rfl) (by kernel_rfl) (by kernel_rfl) (fun _ _ _ h => h) (.inl ⟨rfl, fun W hW => ?_⟩) ?_
    ·go_simp
    simp only [Act.put, List.setIfInBounds_toArray, List.set_cons_zero, List.set_cons_succ]
    refine qU.zF (i := 5) (v := .int .i64 (c : Int)) rfl (by kernel_rfl) (by kernel_rfl) (by kernel_rfl) (fun _ _ _ h => h) (.inl ⟨rfl, fun W hW => ?_⟩) ?_
    ·go_simp
    simp only [Act.put, List.setIfInBounds_toArray, List.set_cons_zero, List.set_cons_succ]
    refine qU.zF (i := 6) (v := .slice (some ⟨gO, 0, none⟩) c vc) rfl (by kernel_rfl) (by kernel_rfl) (by kernel_rfl) (fun _ _ _ h => h) (.inl ⟨rfl, fun W hW => ?_⟩) ?_
    ·go_simp
    simp only [Act.put, List.setIfInBounds_toArray, List.set_cons_zero, List.set_cons_succ]
    refine qU.zF (i := 8) (v := .slice (some ⟨gO, 0, none⟩) q vc) rfl (by kernel_rfl) (by kernel_rfl) (by kernel_rfl) (fun _ _ _ h => h) (.inl ⟨rfl, fun W hW => ?_⟩) ?_
    ·go_simp
    simp only [Act.put, List.setIfInBounds_toArray, List.set_cons_zero, List.set_cons_succ]
    refine qU.zF (i := 9) (v := .int .i64 (c : Int)) rfl (by kernel_rfl) (by kernel_rfl) (by kernel_rfl) (fun _ _ _ h => h) (.inl ⟨rfl, fun W hW => ?_⟩) ?_
    ·go_simp
    simp only [Act.put, List.setIfInBounds_toArray, List.set_cons_zero, List.set_cons_succ]
    refine qU.zF (i := 10) (v := .int .i64 ((c : Int) + 1)) rfl (by kernel_rfl) (by kernel_rfl) (by kernel_rfl) (fun _ _ _ h => h) (.inl ⟨rfl, fun W hW => ?_⟩) ?_
    ·go_simp
     exact IntWalk.i64_in _ (by omega)
    simp only [Act.put, List.setIfInBounds_toArray, List.set_cons_zero, List.set_cons_succ]
    refine qU.zF (i := 11) (v := .slice (some ad2) (q - (c + 1)) (vc - (c + 1))) rfl (by kernel_rfl) (by kernel_rfl) (by kernel_rfl) (fun _ _ _ h => h) (.inl ⟨rfl, fun W hW => ?_⟩) ?_
    ·go_simp
     rw [if_pos ⟨by omega, by omega⟩, HAD.out]
    simp only [Act.put, List.setIfInBounds_toArray, List.set_cons_zero, List.set_cons_succ]
    refine qU.zX (i := 3) rfl (by kernel_rfl) rfl ?_
    intro K7 hK7
    have HK7 := Lib.hid hK7
    clear hK7
    (try simp only [List.getElem_toArray, List.getElem_cons_succ, List.getElem_cons_zero])
    unfold Oper.wp
    go_simp
    refine HK7.out _ _ ⟨fun _ _ => trivial, ?_⟩
    clear HK7 K7
    (try simp only [Act.put, List.setIfInBounds_toArray, List.set_cons_zero, List.set_cons_succ])
    refine qU.zX (i := 7) rfl (by kernel_rfl) rfl ?_
    intro K7 hK7
    have HK7 := Lib.hid hK7
    clear hK7
    (try simp only [List.getElem_toArray, List.getElem_cons_succ, List.getElem_cons_zero])
    refine qC8.wp_append_run (.tmp 96) (.tmp 99) 29 rfl _ _ rfl rfl 29 rfl HR1.out ?_
    refine HK7.out _ _ ⟨fun _ _ => trivial, ?_⟩
    clear HK7 K7
    (try simp only [Act.put, List.setIfInBounds_toArray, List.set_cons_zero, List.set_cons_succ])
    refine qU.zX (i := 12) rfl (by kernel_rfl) rfl ?_
    intro K7 hK7
    have HK7 := Lib.hid hK7
    clear hK7
    (try simp only [List.getElem_toArray, List.getElem_cons_succ, List.getElem_cons_zero])
    refine qC8.wp_append_run (.tmp 100) (.tmp 104) 29 rfl _ _ rfl rfl 29 rfl HR2.out ?_
    refine HK7.out _ _ ⟨fun _ _ => trivial, ?_⟩
    clear HK7 K7
    (try simp only [Act.put, List.setIfInBounds_toArray, List.set_cons_zero, List.set_cons_succ])
    refine qU.zX (i := 13) rfl (by kernel_rfl) rfl ?_
    intro K7 hK7
    have HK7 := Lib.hid hK7
    clear hK7
    (try simp only [List.getElem_toArray, List.getElem_cons_succ, List.getElem_cons_zero])
    refine qC8.zz8 84 (.tmp 93) (.tmp 95) (.tmp 105) _ rfl _ _ _ rfl rfl rfl (fun w => enters_of Try.func84 (by kernel_rfl) rfl _ w) IH.out ?_
    rintro e w5 ⟨bb, rfl, hp⟩
    refine ⟨_, rfl, ?_⟩
    have HP := Lib.hid hp
    clear hp
    refine HK7.out _ _ ⟨fun _ _ => trivial, ?_⟩
    clear HK7 K7
    (try simp only [Act.put, List.setIfInBounds_toArray, List.set_cons_zero, List.set_cons_succ])
    refine qU.zF (i := 14) (v := .bool (!bb)) rfl (by kernel_rfl) (by kernel_rfl) (by kernel_rfl) (fun _ _ _ h => h) (.inl ⟨rfl, fun W hW => ?_⟩) ?_
    ·go_simp
    simp only [Act.put, List.setIfInBounds_toArray, List.set_cons_zero, List.set_cons_succ]
    refine qU.qB6 (by kernel_rfl) ?_ _
    cases bb
    ·go_wp2_with fail
     go_ret
     unfold qC7
     rw [qw7 ht]
     have hp := HP.out
     unfold qC7 at hp
     have hst := RG.stop (f := qI2 n p.K.toNat m p.S.toNat t op d) (C := C) (E := Ow bX (.slice A k cap) rows) (w := w) (G := GG bX p yv (jw8 op d)) HIX.out hp
     exact qF1.later hst
    ·have hp := HP.out
     unfold qC7 at hp
     obtain ⟨C3, V3, ja6, hR3⟩ := RG.after (f := qI2 n p.K.toNat m p.S.toNat t op d) (car := jw8 op d) (zo3 := jw8 (op.erase i) (d.set i (bg d i, t))) HIX.out HFR.out (fun V' rows' hc => qE4.zL4 (List.mem_of_getElem? HIX.out) hc) hp
     go_wp2_with fail
     go_roundw
     case rel => exact ⟨c + 1, C3, V3, ja6, by omega, by go_num, hR3⟩
     case measure => (simp only [intOf]; omega)
   ·obtain rfl : c = q := by omega
    go_wp2_with fail
    go_ret
    unfold qC7
    rw [qw7 ht]
    refine .inl ⟨rfl, C1, _, ?_, hRG.sep, hRG.fr, V1, qK4, rfl, hRG.eb, hRG.car⟩
    have hj := hRG.j
    rw [List.take_of_length_le (by rw [HQ.out]; exact Nat.le_refl _), List.append_assoc] at hj
    exact hj
theorem qy6 (hY : qp4 yv L J Jx) (hA : Abides J) (hX : qp3 Jx) {n m : Nat} (hs : n ≤ 1000) (hm : m ≤ 1000000) (hK : n = 0 ∨ p.K = (p.K.toNat : Int)) (hS : n = 0 ∨ p.S = (p.S.toNat : Int)) : ∀ (M t : Nat) (op : List Nat) (d : List (Nat × Nat)) (v V : Value) (pre : List (List T4)) (C : Nat → Prop) (rows : List ER) (w : World), 2 * n - t < M → InT L J bX p yv V n m t op d v pre C rows w →
  Calls Try.prog 84 #[.pointer (some ⟨bX, 0, none⟩), .int .i64 (t : Int), v] w (qC7 J Jx bX p yv V n m t op d pre C rows w)
 | 0, _, _, _, _, _, _, _, _, _, hM, _ => absurd hM (Nat.not_lt_zero _)
 | M + 1, t, op, d, v, V, pre, C, rows, w, hM, h => by
  have ih := qy6 hY hA hX hs hm hK hS M
  have htb := h.tb
  by_cases ht : t = 2 * n
  ·exact zb5 hY hA hX hs hm hK hS h ht
  ·exact jT0 hA hs M ih hM h (by omega) (by rcases hS with h0 | h0; omega; exact h0)
end
end Go.Proofs.Ytngkneknopenmaa.qf6
end
section
namespace Go.Proofs.Ytngkneknopenmaa.qf6
open Go Go.Lib Go.RowKit Go.Proofs.Ytngkneknopenmaa Go.Proofs.Ytngkneknopenmaa.zM Go.Proofs.Ytngkneknopenmaa.qa9 Go.Proofs.Ytngkneknopenmaa.qb8
def qF2 (S T O K n m : Int) : Bool := decide (n < 0) || decide (m < n) || decide (max T 0 < n) || decide (max O 0 < m) || (decide (0 < n) && decide (K < 1))
def jj0 (S K n m : Int) : List (List T4) := qL0 n.toNat K.toNat m.toNat S.toNat (2 * n.toNat) 0 [] []
def qw8 (S T O K n m : Int) : List (List T4) := if qF2 S T O K n m = true then [] else (jj0 S K n m).map zU
theorem zb6 {P : Program} (W : World) (a : Addr) (l : Nat) {v : Value} (hc : W.cell? a = some v) (hf : W.frozen? a = false) : (store a (.func (.yield l) #[] #[])).run P W = .ok () (W.setCell a (.func (.yield l) #[] #[])) := by
 rw [run_store P W a _ .plain rfl]
 simp [hc, hf]
section
variable {L : List (List T4)} {J : List (List T4) → (Nat → Prop) → World → Prop} {Jx : List (List T4) → World → Prop} {yv : Value}
def Qn5 (J : List (List T4) → (Nat → Prop) → World → Prop) (Jx : List (List T4) → World → Prop) (outs : List (List T4)) (e : Ending) (w' : World) : Prop :=
 (∃ v, e = .returned v) ∧ ((∃ C', J outs C' w' ∧ ∀ b, C' b → b < w'.heap.size) ∨ ∃ q, q <+: outs ∧ Jx q w')
set_option maxHeartbeats 1000000 in
set_option maxRecDepth 100000 in
theorem zb7 {bX : Nat} {p : Par} {n : Nat} {w : World} (h : EB w bX p yv (.slice none 0 0) []) (hn : 0 < n) (hnn : n ≤ 1000) (hp : p.n = (n : Int)) (hS : p.S < 0) :
  Calls Try.prog 84 #[.pointer (some ⟨bX, 0, none⟩), .int .i64 0, .slice none 0 0] w fun e w' => e = .returned (.bool true) ∧ Below w.heap.size w w' := by
 have c4 := h.field 4
 have c6 := h.field 6
 have c0 := h.field 0
 simp only [Par.cells, List.getElem?_toArray, List.getElem?_cons_succ, List.getElem?_cons_zero] at c0 c4 c6
 rw [hp] at c4
 have hne : ((0 : Int) == 2 * (n : Int)) = false := by simp; omega
 have hnz : (0 : Int) < (n : Int) := by omega
 have hSn : ¬ (0 : Int) < p.S := by omega
 clear hp hS
 go_enter Try.func84, Try.ntmps84
 go_wp2_with fail
 go_quiet (fail)
 go_wp2_with fail
 go_loopw [80] (fun x wr => x = .int .i64 0 ∧ Below w.heap.size w wr) (fun _ _ => 0)
 case atStart => exact ⟨rfl, below_drewN (Below.refl _ _) nq⟩
 case round =>
  obtain ⟨rfl, hb⟩ := hrel
  have HB := Lib.hid hb
  clear hb
  go_wp2_with fail
  go_ret
  exact ⟨rfl, HB.out⟩
set_option maxHeartbeats 2000000 in
set_option maxRecDepth 100000 in
theorem zb8 (hY : qp4 yv L J Jx) (hA : Abides J) (hX : qp3 Jx) (S T O K n m : Int) (hn : n ≤ 1000) (hm : m ≤ 1000000) (hL : qw8 S T O K n m = L) (hok : qF2 S T O K n m = false → ∀ h ∈ jj0 S K n m, zT h = 0) (C : Nat → Prop) (w : World) (hJ : J [] C w) (hC : ∀ b, C b → b < w.heap.size) :
  Calls Try.prog 69 #[.agg #[.int .i64 S, .int .i64 T, .int .i64 O, .int .i64 K, .int .i64 n, .int .i64 m, .slice none 0 0, .nilFunc], yv] w (Qn5 J Jx L) := by
 obtain ⟨l, hyv, hYY⟩ := hY
 subst hyv
 cases hno : qF2 S T O K n m with
 | true =>
  have hl : L = [] := by rw [← hL]; unfold qw8; rw [if_pos hno]
  have hbw : Below w.heap.size w ((w.alloc (.cells #[.int .i64 S, .int .i64 T, .int .i64 O, .int .i64 K, .int .i64 n, .int .i64 m, .slice none 0 0, .nilFunc] 114)).alloc (.cells #[.int .i64 S, .int .i64 T, .int .i64 O, .int .i64 K] 41)) := ((Below.refl _ _).alloc (Nat.le_refl _) _).alloc (by simp) _
  have hpost : ((∃ C', J L C' ((w.alloc (.cells #[.int .i64 S, .int .i64 T, .int .i64 O, .int .i64 K, .int .i64 n, .int .i64 m, .slice none 0 0, .nilFunc] 114)).alloc (.cells #[.int .i64 S, .int .i64 T, .int .i64 O, .int .i64 K] 41)) ∧ ∀ b, C' b → b < ((w.alloc (.cells #[.int .i64 S, .int .i64 T, .int .i64 O, .int .i64 K, .int .i64 n, .int .i64 m, .slice none 0 0, .nilFunc] 114)).alloc (.cells #[.int .i64 S, .int .i64 T, .int .i64 O, .int .i64 K] 41)).heap.size)) := ⟨C, by rw [hl]; exact hA.below hJ hbw hC, fun b hb => Nat.lt_of_lt_of_le (hC b hb) hbw.size⟩
  have Qn6 := Lib.hid hpost
  unfold qF2 at hno
  simp only [Bool.or_eq_true, decide_eq_true_eq, Bool.and_eq_true] at hno
  clear hpost hbw hl hL hok hC hJ hYY hA hX
  rcases hno with (((h1 | h1) | h1) | h1) | ⟨h1, h2⟩
  all_goals
   go_enter Try.func69, Try.ntmps69
   go_wp2_with fail
   all_goals
    first
    | (go_end0; exact ⟨⟨_, rfl⟩, .inl Qn6.out⟩)
    | (exfalso; omega)
 | false =>
  unfold qF2 at hno
  simp only [Bool.or_eq_false_iff, decide_eq_false_iff_not, Bool.and_eq_false_iff] at hno
  obtain ⟨⟨⟨⟨h1, h2⟩, h3⟩, h4⟩, h5⟩ := hno
  have hblk : ((w.alloc (.cells #[.int .i64 S, .int .i64 T, .int .i64 O, .int .i64 K, .int .i64 n, .int .i64 m, .slice none 0 0, .nilFunc] 114)).alloc (.cells #[.int .i64 S, .int .i64 T, .int .i64 O, .int .i64 K] 41)).heap[w.heap.size]? = some (.cells #[.int .i64 S, .int .i64 T, .int .i64 O, .int .i64 K, .int .i64 n, .int .i64 m, .slice none 0 0, .nilFunc] 114 (0, 0)) := (Below.heap_alloc _ _ _ (by simp)).trans (World.alloc_heap_new w _)
  have b7 := Lib.cell_of_heap hblk 7
  have f7 := Lib.frozen_of_heap hblk 7
  simp only [List.getElem?_toArray, List.getElem?_cons_succ, List.getElem?_cons_zero] at b7
  have hst := zb6 (P := Try.prog) _ ⟨w.heap.size, 7, none⟩ l b7 f7
  have HBLK := Lib.hid hblk
  have HJ := Lib.hid hJ
  have HC := Lib.hid hC
  have HLL := Lib.hid hL
  have HOK := Lib.hid hok
  clear hblk hJ hC hL hok
  obtain ⟨W1, hW1⟩ : ∃ W1, (w.alloc (.cells #[.int .i64 S, .int .i64 T, .int .i64 O, .int .i64 K, .int .i64 n, .int .i64 m, .slice none 0 0, .func (.yield l) #[] #[]] 114)).alloc (.cells #[.int .i64 S, .int .i64 T, .int .i64 O, .int .i64 K] 41) = W1 := ⟨_, rfl⟩
  have hW1s : W1.heap.size = w.heap.size + 2 := by rw [← hW1]; simp
  have hx1 : W1.heap[w.heap.size]? = some (.cells (Par.cells ⟨S, T, O, K, n, m⟩ (.slice none 0 0) (.func (.yield l) #[] #[])) 114 (0, 0)) := by
   rw [← hW1]
   exact (Below.heap_alloc _ _ _ (by simp)).trans (World.alloc_heap_new w _)
  have hbw : Below w.heap.size w W1 := by
   rw [← hW1]
   exact ((Below.refl _ _).alloc (Nat.le_refl _) _).alloc (by simp) _
  have heb : EB W1 w.heap.size ⟨S, T, O, K, n, m⟩ (.func (.yield l) #[] #[]) (.slice none 0 0) [] := ⟨hx1, World.ownsRow_nil _ _ _ _, fun r h => by simp at h, fun r h => by simp at h, fun i j r r' _ h => by simp at h⟩
  have hJ1 := hA.below HJ.out hbw HC.out
  have hOw : ∀ b, Ow w.heap.size (.slice none 0 0) [] b → b = w.heap.size := by
   rintro b (rfl | hb | ⟨r, hr, _⟩)
   ·rfl
   ·cases hb
   ·simp at hr
  have hsep : Sep C (Ow w.heap.size (.slice none 0 0) []) W1 := ⟨fun b hb => by have := HC.out b hb; omega, fun b ho hc => by have := HC.out b hc; have := hOw b ho; omega⟩
  have hcall : Calls Try.prog 84 #[.pointer (some ⟨w.heap.size, 0, none⟩), .int .i64 0, .slice none 0 0] W1 fun e w' => ∃ b, e = .returned (.bool b) ∧ ((∃ C', J L C' w' ∧ ∀ b, C' b → b < w'.heap.size) ∨ ∃ q, q <+: L ∧ Jx q w') := by
   have hnN : (n.toNat : Int) = n := by omega
   have hmN : (m.toNat : Int) = m := by omega
   have hLr : L = (jj0 S K n m).map zU := by
    rw [← HLL.out]
    unfold qw8 qF2
    rw [if_neg]
    simp only [Bool.or_eq_true, decide_eq_true_eq, Bool.and_eq_true]
    omega
   have hokr : ∀ h ∈ jj0 S K n m, zT h = 0 := HOK.out (by
    unfold qF2
    simp only [Bool.or_eq_false_iff, decide_eq_false_iff_not, Bool.and_eq_false_iff]
    exact ⟨⟨⟨⟨h1, h2⟩, h3⟩, h4⟩, h5⟩)
   by_cases hneg : S < 0 ∧ 0 < n
   ·have := zb7 heb (n := n.toNat) (by omega) (by omega) hnN.symm hneg.1
    refine this.mono fun e w' ⟨he, hb⟩ => ⟨true, he, .inl ⟨C, ?_, fun b hb2 => Nat.lt_of_lt_of_le (hsep.lt b hb2) hb.size⟩⟩
    have hl : L = [] := by
     rw [hLr]
     unfold jj0 qL0
     rw [show 2 * n.toNat = (2 * n.toNat - 1) + 1 by omega, qr9, show S.toNat = 0 by omega]
     simp
    rw [hl]
    exact hA.below hJ1 hb hsep.lt
   ·have hin : InT L J w.heap.size ⟨S, T, O, K, n, m⟩ (.func (.yield l) #[] #[]) (.slice none 0 0) n.toNat m.toNat 0 [] [] (.slice none 0 0) [] C [] W1 :=
     ⟨heb, hsep, hJ1, ⟨rfl, fun i r h => by simp at h, fun i r h => by simp at h⟩, jx4 _, hnN.symm, hmN.symm, World.ownsRow_nil _ _ _ _, fun g hg => (by cases hg), Nat.zero_le _, fun x h => (by simp at h), hokr, by rw [hLr]; exact List.prefix_refl _⟩
    have := qy6 ⟨l, rfl, hYY⟩ hA hX (by omega : n.toNat ≤ 1000) (by omega : m.toNat ≤ 1000000) (by show n.toNat = 0 ∨ K = (K.toNat : Int); omega) (by show n.toNat = 0 ∨ S = (S.toNat : Int); omega) _ 0 [] [] (.slice none 0 0) (.slice none 0 0) [] C [] W1 (Nat.lt_succ_self _) hin
    refine this.mono fun e w' hq => ?_
    unfold qC7 at hq
    have e2 : (qL0 n.toNat K.toNat m.toNat S.toNat (2 * n.toNat - 0) 0 [] []).map zU = L := by rw [hLr]; rfl
    rcases hq with ⟨he, C', E', hj, hs, _⟩ | ⟨he, q, hq, hx⟩
    ·refine ⟨true, he, .inl ⟨C', ?_, hs.lt⟩⟩
     rw [List.nil_append] at hj
     rw [← e2]
     exact hj
    ·refine ⟨false, he, .inr ⟨q, ?_, by simpa using hx⟩⟩
     rw [← e2]
     exact hq
  rw [← hW1] at hcall
  have Qn7 := Lib.hid hcall
  clear hcall hW1 hW1s hx1 hbw heb hJ1 hOw hsep
  go_enter Try.func69, Try.ntmps69
  go_wp2_with fail
  all_goals
   (with_reducible refine (Qn7.out).mono ?_)
   rintro e w5 ⟨b, rfl, hp⟩
   have HP := Lib.hid hp
   clear hp
   go_wp2_with fail
   go_end0
   exact ⟨⟨_, rfl⟩, HP.out⟩
end
end Go.Proofs.Ytngkneknopenmaa.qf6
end
section
namespace Go.Proofs.Ytngkneknopenmaa.qf6
open Go Go.Lib Go.RowKit Go.Proofs.Ytngkneknopenmaa Go.Proofs.Ytngkneknopenmaa.zM Go.Proofs.Ytngkneknopenmaa.qa9 Go.Proofs.Ytngkneknopenmaa.qb8
theorem zM7 {w w' : World} {sz : Nat} {v : Value} {rows : List TR} {h : List T4} (hh : H2 w sz v rows h) (hb : ∀ b, sz ≤ b → w'.heap[b]? = w.heap[b]?) : H2 w' sz v rows h := by
 refine ⟨qf1 hh.1 (fun g hg => hb g (hh.1.lt g hg).1), hh.2.1, fun i r t hr ht => ?_, hh.2.2.2⟩
 exact (hh.2.2.1 i r t hr ht).move (hb r.g (hh.2.lt r (List.mem_of_getElem? hr)).1)
def jH3 (I : List (List T4) → (Nat → Prop) → World → Prop) (Ix : Code → List (List T4) → (Nat → Prop) → World → Prop) (xs : List (List T4)) (C0 : Nat → Prop) (sz : Nat) (W : World) : Exit → Act → World → Prop
 | .normal, _, W' => ∃ C', I xs C' W' ∧ Kp C0 sz W W' ∧ (∀ b, b < sz → C' b → C0 b) ∧ ∀ b, C' b → b < W'.heap.size
 | .ret, _, W' => ∃ C', Ix .ret xs C' W' ∧ Kp C0 sz W W' ∧ (∀ b, b < sz → C' b → C0 b) ∧ ∀ b, C' b → b < W'.heap.size
 | .exit id, _, W' => ∃ C', Ix (.exit id) xs C' W' ∧ Kp C0 sz W W' ∧ (∀ b, b < sz → C' b → C0 b) ∧ ∀ b, C' b → b < W'.heap.size
 | _, _, _ => False
theorem Abides.put {I : List (List T4) → (Nat → Prop) → World → Prop} (hI : Abides I) {xs : List (List T4)} {C : Nat → Prop} {W : World} (h : I xs C W) (l : Nat) (o : Obj) (hl : ¬ C l) : I xs C (W.putObj l o) :=
 hI xs C W _ h rfl rfl rfl (by simp) (fun b hb => World.putObj_heap_other (fun e => hl (e ▸ hb)))
theorem jT1 {S T O K n m : Int} {L : List (List T4)} (hn : n ≤ 1000) (hm : m ≤ 1000000) (hL : qw8 S T O K n m = L) (hok : qF2 S T O K n m = false → ∀ h ∈ jj0 S K n m, zT h = 0)
  {g : Operand} {pt : Tmp} {assign body : Code} {Q : Exit → Act → World → Prop} {a : Act} {w : World} (hg : a.eval g = .func (.func 69) #[.agg #[.int .i64 S, .int .i64 T, .int .i64 O, .int .i64 K, .int .i64 n, .int .i64 m, .slice none 0 0, .nilFunc]] #[])
  (I : List (List T4) → (Nat → Prop) → World → Prop) (Ix : Code → List (List T4) → (Nat → Prop) → World → Prop) (hI : Abides I) (hIx : ∀ c, Abides (Ix c)) (C0 : Nat → Prop) (h0 : I [] C0 w) (hC0 : ∀ b, C0 b → b < w.heap.size) (a₁ : Value → Act)
  (hassign : ∀ (l : Nat) (v : Value) (W : World) (K' : Act → World → Prop), K' (a₁ v) W → assign.wpIn (Fence.wide.inRound l) 0 Try.prog (Exit.then K' (fun _ _ _ => False)) { tmps := a.tmps.setIfInBounds pt v, defers := [] } W)
  (hbody : ∀ (l : Nat) (pre : List (List T4)) (h : List T4) (C : Nat → Prop) (sz : Nat) (v : Value) (rows : List TR) (W : World), (pre ++ [h]) <+: L → I pre C W → H2 W sz v rows h → (∀ b, C b → b < sz) → sz ≤ W.heap.size → body.wpIn (Fence.wide.inRound l) 0 Try.prog (jH3 I Ix (pre ++ [h]) C sz W) (a₁ v) W)
  (hdone : ∀ (D : Nat) (C : Nat → Prop) (W : World), I L C W → (∀ b, C b → b < W.heap.size) → ¬ C D → W.heap[D]? = some (.deferred (some [])) → Q .normal { a with defers := { target := .collected D, args := #[] } :: a.defers } W)
  (hstop : ∀ (D : Nat) (c : Code) (pre : List (List T4)) (C : Nat → Prop) (W : World), pre <+: L → Ix c pre C W → (∀ b, C b → b < W.heap.size) → ¬ C D → W.heap[D]? = some (.deferred (some [])) → c.wpIn Fence.wide 0 Try.prog Q { a with defers := { target := .collected D, args := #[] } :: a.defers } W) :
  (Code.rangeFunc g #[pt] assign body).wpIn Fence.wide 0 Try.prog Q a w := by
 refine wpIn_rangeFunc ?_
 intro fn hfn
 obtain ⟨rec, hrec⟩ : ∃ rec : LoopState → Option Code → Loop, rec = fun st pe => { state := st, pending := pe, fn, tmps := a.tmps, params := #[pt], assign, body, defers := w.heap.size } := ⟨_, rfl⟩
 obtain ⟨W1, hW1⟩ : ∃ W1, (w.alloc (.deferred (some []))).alloc (.loop (rec .ready none)) = W1 := ⟨_, rfl⟩
 have hL1 : W1.heap[w.heap.size + 1]? = some (.loop (rec .ready none)) := by
  rw [← hW1]; have := World.alloc_heap_new (w.alloc (.deferred (some []))) (.loop (rec .ready none)); rwa [World.size_alloc] at this
 have hK1 : W1.heap[w.heap.size]? = some (.deferred (some [])) := by
  rw [← hW1]; exact (Below.heap_alloc _ _ _ (by simp)).trans (World.alloc_heap_new w _)
 have hb1 : Below w.heap.size w W1 := by
  rw [← hW1]; exact ((Below.refl _ w).alloc (Nat.le_refl _) _).alloc (by simp) _
 have hs1 : W1.heap.size = w.heap.size + 2 := by rw [← hW1]; simp
 have hI1 : I [] C0 W1 := hI.below h0 hb1 hC0
 obtain ⟨bv, hbv⟩ : ∃ bv, Value.agg #[.int .i64 S, .int .i64 T, .int .i64 O, .int .i64 K, .int .i64 n, .int .i64 m, .slice none 0 0, .nilFunc] = bv := ⟨_, rfl⟩
 rw [hbv] at hg
 obtain ⟨l, hl⟩ : ∃ l, w.heap.size + 1 = l := ⟨_, rfl⟩
 obtain ⟨D, hD⟩ : ∃ D, w.heap.size = D := ⟨_, rfl⟩
 have hlD : l ≠ D := by omega
 refine ⟨w.heap.size + 1, [{ target := .collected w.heap.size, args := #[] }], W1, { target := .fn (.func 69) #[], args := #[bv, .func (.yield (w.heap.size + 1)) #[] #[]] }, W1, 69,
  #[bv, .func (.yield (w.heap.size + 1)) #[] #[]], W1, ?_, ?_, fun _ _ => trivial, ?_, fun h => (by cases h), ?_⟩
 ·rw [← hW1, hrec]; exact run_enterLoop_outer _ _ _ _ _
 ·simp only [resolve, hg]
  simp [go_sem]
 ·have := enters_of Try.func69 (by kernel_rfl) rfl #[bv, .func (.yield (w.heap.size + 1)) #[] #[]] W1
  simp [invoke, go_sem, this]
 ·rw [hl] at hL1 ⊢
  rw [hD] at hK1
  let J : List (List T4) → (Nat → Prop) → World → Prop := fun pre C W => ∃ C1, I pre C1 W ∧ ¬ C1 l ∧ ¬ C1 D ∧ W.heap[l]? = some (.loop (rec .ready none)) ∧ W.heap[D]? = some (.deferred (some [])) ∧ ∀ b, C b ↔ C1 b ∨ b = l ∨ b = D
  let Jx : List (List T4) → World → Prop := fun pre W => ∃ c C1, Ix c pre C1 W ∧ ¬ C1 l ∧ ¬ C1 D ∧ W.heap[l]? = some (.loop (rec .done (some c))) ∧ W.heap[D]? = some (.deferred (some [])) ∧ ∀ b, C1 b → b < W.heap.size
  have hAJ : Abides J := by
   rintro pre C W W' ⟨C1, h1, h2, h3, h4, h5, h6⟩ ho ht hu hs hk
   exact ⟨C1, hI pre C1 W W' h1 ho ht hu hs (fun b hb => hk b ((h6 b).2 (.inl hb))), h2, h3, (hk l ((h6 l).2 (.inr (.inl rfl)))).trans h4, (hk D ((h6 D).2 (.inr (.inr rfl)))).trans h5, h6⟩
  have hXJ : qp3 Jx := by
   rintro pre W W' ⟨c, C1, h1, h2, h3, h4, h5, h6⟩ hb
   exact ⟨c, C1, (hIx c).below h1 hb h6, h2, h3, (hb.block l (Array.getElem?_eq_some_iff.1 h4).1).trans h4, (hb.block D (Array.getElem?_eq_some_iff.1 h5).1).trans h5, fun b hb2 => Nat.lt_of_lt_of_le (h6 b hb2) hb.size⟩
  have hY : qp4 (.func (.yield l) #[] #[]) L J Jx := by
   refine ⟨l, rfl, fun mm pre h C sz v rows W hpre hJ hH2 hlt hsz => ?_⟩
   obtain ⟨C1, hi, hnl, hnD, hlp, hDp, hCe⟩ := hJ
   have hll : l < W.heap.size := (Array.getElem?_eq_some_iff.1 hlp).1
   have hlsz : l < sz := hlt l ((hCe l).2 (.inr (.inl rfl)))
   have hDsz : D < sz := hlt D ((hCe D).2 (.inr (.inr rfl)))
   have hy := run_yield (P := Try.prog) (args := #[v]) hlp (by rw [hrec]; rfl)
   rw [hrec] at hy
   have wide : ∀ {c : Code} {Q : Exit → Act → World → Prop} {a : Act} {W : World}, c.wpIn (Fence.wide.inRound l) 0 Try.prog Q a W → c.wpIn (Fence.wide.inRound l) mm Try.prog Q a W := fun h b k cs h1 h2 _ => h b k cs h1 h2 (room_wide _)
   refine ⟨fn, _, assign, body, hy, roundIn_of_wpIn hfn ?_⟩
   refine wide ?_
   have hA := fun K' => hassign l v W K'
   refine (congrArg (fun t => Code.wpIn (Fence.wide.inRound l) 0 Try.prog assign _ { tmps := t, defers := [] } W) (?_ : _ = a.tmps.setIfInBounds pt v)).mpr (hA _ ?_)
   ·simp
   refine ⟨_, run_beginRound hlp (by rw [hrec]), ?_⟩
   refine wide ?_
   have hI2 := hI.put hi l (.loop { rec .ready none with state := .busy }) hnl
   have hH3 : H2 (W.putObj l (.loop { rec .ready none with state := .busy })) sz v rows h := zM7 hH2 (fun b hb => World.putObj_heap_other (by omega))
   have hl2 : (W.putObj l (.loop { rec .ready none with state := .busy })).heap[l]? = some (.loop { rec .ready none with state := .busy }) := World.putObj_heap_same hll
   have hD2 : (W.putObj l (.loop { rec .ready none with state := .busy })).heap[D]? = some (.deferred (some [])) := (World.putObj_heap_other (fun e => hlD e.symm)).trans hDp
   have Qn8 : ∀ b, C1 b → b < sz := fun b hb => hlt b ((hCe b).2 (.inl hb))
   refine wpIn_mono (hbody l pre h C1 sz v rows _ hpre hI2 hH3 Qn8 (by simpa using hsz)) ?_
   have fin : ∀ (jump : Option Code) (W3 : World) (C' : Nat → Prop), Kp C1 sz (W.putObj l (.loop { rec .ready none with state := .busy })) W3 → (∀ b, b < sz → C' b → C1 b) →
     (Instr.endRound l jump).run Try.prog W3 = .ok (.bool jump.isNone) (W3.putObj l (.loop (rec (if jump.isNone then .ready else .done) jump))) ∧
     (W3.putObj l (.loop (rec (if jump.isNone then .ready else .done) jump))).heap[l]? = some (.loop (rec (if jump.isNone then .ready else .done) jump)) ∧
     (W3.putObj l (.loop (rec (if jump.isNone then .ready else .done) jump))).heap[D]? = some (.deferred (some [])) ∧ ¬ C' l ∧ ¬ C' D ∧ Kp C sz W (W3.putObj l (.loop (rec (if jump.isNone then .ready else .done) jump))) := fun jump W3 C' hk hcl => by
    have hl3 := (hk.keep l hlsz hnl).trans hl2
    have hD3 := (hk.keep D hDsz hnD).trans hD2
    have := run_endRound (P := Try.prog) jump hl3
    rw [hrec] at this ⊢
    refine ⟨this, World.putObj_heap_same (Array.getElem?_eq_some_iff.1 hl3).1, (World.putObj_heap_other (fun e => hlD e.symm)).trans hD3, fun h => hnl (hcl l hlsz h), fun h => hnD (hcl D hDsz h), hk.os, hk.tape, hk.output, by have := hk.size; simpa using this, fun b hb hc => ?_⟩
    have hbl : b ≠ l := fun e => hc ((hCe b).2 (.inr (.inl e)))
    rw [World.putObj_heap_other hbl, hk.keep b hb (fun h => hc ((hCe b).2 (.inl h))), World.putObj_heap_other hbl]
   rintro e a3 W3 hp
   cases e with
   | normal =>
    obtain ⟨C', hi3, hk, hcl, hlt3⟩ := hp
    obtain ⟨hr, h1, h2, h3, h4, h5⟩ := fin none W3 C' hk hcl
    refine ⟨_, _, hr, .inl ⟨rfl, fun b => C' b ∨ b = l ∨ b = D, ⟨C', hI.put hi3 l _ h3, h3, h4, h1, h2, fun b => Iff.rfl⟩, h5, fun b hb hc => ?_, fun b hb => ?_⟩⟩
    ·rcases hc with hc | hc
     ·exact (hCe b).2 (.inl (hcl b hb hc))
     ·exact (hCe b).2 (.inr hc)
    ·have hs3 := hk.size
     simp at hs3 ⊢
     rcases hb with hb | rfl | rfl
     ·exact hlt3 b hb
     ·omega
     ·omega
   | ret =>
    obtain ⟨C', hi3, hk, hcl, hlt3⟩ := hp
    obtain ⟨hr, h1, h2, h3, h4, h5⟩ := fin (some .ret) W3 C' hk hcl
    exact ⟨_, _, hr, .inr ⟨rfl, .ret, C', (hIx _).put hi3 l _ h3, h3, h4, h1, h2, fun b hb => by have := hlt3 b hb; simpa using this⟩⟩
   | exit id =>
    obtain ⟨C', hi3, hk, hcl, hlt3⟩ := hp
    obtain ⟨hr, h1, h2, h3, h4, h5⟩ := fin (some (.exit id)) W3 C' hk hcl
    exact ⟨_, _, hr, .inr ⟨rfl, .exit id, C', (hIx _).put hi3 l _ h3, h3, h4, h1, h2, fun b hb => by have := hlt3 b hb; simpa using this⟩⟩
   | goto t => exact hp.elim
   | panic ch => exact hp.elim
   | outgrown => exact hp.elim
  have hn0 : ∀ b, C0 b → b < w.heap.size := hC0
  have hJ0 : J [] (fun b => C0 b ∨ b = l ∨ b = D) W1 := ⟨C0, hI1, fun h => by have := hC0 l h; omega, fun h => by have := hC0 D h; omega, hL1, hK1, fun b => Iff.rfl⟩
  have hcall := zb8 hY hAJ hXJ S T O K n m hn hm hL hok (fun b => C0 b ∨ b = l ∨ b = D) W1 hJ0 (fun b hb => by rcases hb with hb | rfl | rfl; have := hC0 b hb; omega; omega; omega)
  rw [hbv] at hcall
  refine (callsIn_wide.2 hcall).mono ?_
  rintro e W2 ⟨⟨v, rfl⟩, (⟨C', ⟨C1, hi, h2, h3, h4, h5, h6⟩, h7⟩ | ⟨q, hq, c, C1, hi, h2, h3, h4, h5, h6⟩)⟩
  ·refine ⟨none, _, by have := run_endLoop (P := Try.prog) h4 (by rw [hrec]; simp); rw [hrec] at this; exact this, ?_⟩
   exact hD ▸ hdone D C1 _ (hI.put hi l _ h2) (fun b hb => by have := h7 b ((h6 b).2 (.inl hb)); simpa using this) h3 ((World.putObj_heap_other (by omega)).trans h5)
  ·refine ⟨some c, _, by have := run_endLoop (P := Try.prog) h4 (by rw [hrec]; simp); rw [hrec] at this; exact this, ?_⟩
   exact hD ▸ hstop D c q C1 _ hq ((hIx c).put hi l _ h2) (fun b hb => by have := h6 b hb; simpa using this) h3 ((World.putObj_heap_other (by omega)).trans h5)
end Go.Proofs.Ytngkneknopenmaa.qf6
end
section
namespace Go.Proofs.Ytngkneknopenmaa.qf6
open Go Go.Lib Go.RowKit Go.Shelf Go.Proofs.Ytngkneknopenmaa Go.Proofs.Ytngkneknopenmaa.zM Go.Proofs.Ytngkneknopenmaa.qa9 Go.Proofs.Ytngkneknopenmaa.qb8
theorem zb9 {P : Program} (W : World) (a : Addr) {v : Value} (hc : W.cell? a = some v) (hf : W.frozen? a = false) : (store a .nilFunc).run P W = .ok () (W.setCell a .nilFunc) := by
 rw [run_store P W a _ .plain rfl]
 simp [hc, hf]
def jq0 (S T O K n m : Int) : Value := .func (.func 69) #[.agg #[.int .i64 S, .int .i64 T, .int .i64 O, .int .i64 K, .int .i64 n, .int .i64 m, .slice none 0 0, .nilFunc]] #[]
set_option maxHeartbeats 1000000 in
theorem jq1 (S T O K n m : Int) (w : World) :
  Calls Try.prog 53 #[.agg #[.int .i64 S, .int .i64 T, .int .i64 O, .int .i64 K], .int .i64 n, .int .i64 m] w fun e w' => e = .returned (jq0 S T O K n m) ∧ Below w.heap.size w w' := by
 have hblk : ((w.alloc (.cells #[.int .i64 S, .int .i64 T, .int .i64 O, .int .i64 K] 41)).alloc (.cells #[.int .i64 S, .int .i64 T, .int .i64 O, .int .i64 K, .int .i64 n, .int .i64 m, .slice none 0 0, .nilFunc] 114)).heap[w.heap.size + 1]? = some (.cells #[.int .i64 S, .int .i64 T, .int .i64 O, .int .i64 K, .int .i64 n, .int .i64 m, .slice none 0 0, .nilFunc] 114 (0, 0)) := by
  have := World.alloc_heap_new (w.alloc (.cells #[.int .i64 S, .int .i64 T, .int .i64 O, .int .i64 K] 41)) (.cells #[.int .i64 S, .int .i64 T, .int .i64 O, .int .i64 K, .int .i64 n, .int .i64 m, .slice none 0 0, .nilFunc] 114)
  rwa [World.size_alloc] at this
 have b7 := Lib.cell_of_heap hblk 7
 have f7 := Lib.frozen_of_heap hblk 7
 simp only [List.getElem?_toArray, List.getElem?_cons_succ, List.getElem?_cons_zero] at b7
 have hst := zb9 (P := Try.prog) _ ⟨w.heap.size + 1, 7, none⟩ b7 f7
 go_enter Try.func53, Try.ntmps53
 go_wp2_with fail
 go_ret
 exact ⟨rfl, ((Below.refl _ _).alloc (Nat.le_refl _) _).alloc (by simp) _⟩
end Go.Proofs.Ytngkneknopenmaa.qf6
end
section
namespace Go.Proofs.Ytngkneknopenmaa.qf6
open Go Go.Lib Go.RowKit Go.Shelf Go.Proofs.Ytngkneknopenmaa Go.Proofs.Ytngkneknopenmaa.zM Go.Proofs.Ytngkneknopenmaa.qa9 Go.Proofs.Ytngkneknopenmaa.qb8
attribute [local go_sem] Oper.semAt_some
def qG0 (w0 : World) (nB : Nat) (pre : List (List T4)) (C : Nat → Prop) (W : World) : Prop :=
 C nB ∧ Boxed W nB 3 (.int .i64 (pre.length : Int)) ∧ (∀ b, b < w0.heap.size → C b) ∧ Below w0.heap.size w0 W
theorem jT2 (w0 : World) (nB : Nat) : Abides (qG0 w0 nB) := by
 rintro pre C W W' ⟨h1, h2, h3, h4⟩ ho ht hu hs hk
 exact ⟨h1, (hk nB h1).trans h2, h3, ho.trans h4.os, ht.trans h4.tape, hu.trans h4.output, Nat.le_trans h4.size hs, fun b hb => (hk b (h3 b hb)).trans (h4.block b hb)⟩
set_option maxHeartbeats 1000000 in
theorem qN1 {S T O K n m : Int} {L : List (List T4)} (hn : n ≤ 1000) (hm : m ≤ 1000000) (hL : qw8 S T O K n m = L) (hlen : (L.length : Int) < 1000000000000) (hok : qF2 S T O K n m = false → ∀ h ∈ jj0 S K n m, zT h = 0) (w : World) :
  Calls Try.prog 25 #[.agg #[.int .i64 S, .int .i64 T, .int .i64 O, .int .i64 K], .int .i64 n, .int .i64 m] w fun e w' => e = .returned (.int .i64 (L.length : Int)) ∧ Below w.heap.size w w' := by
 refine (callsIn_wide (n := 0)).1 ?_
 refine callsIn_of_wp_marks Try.func25 rfl trivial ?_ rfl
 simp only [Try.ntmps25, List.size_toArray, List.length_cons, List.length_nil, Nat.reduceAdd, Nat.reduceSub, Array.replicate_succ, Array.replicate_zero, List.push_toArray, List.append_toArray, List.nil_append, List.cons_append]
 gi_wp2_with fail
 refine ⟨trivial, rfl, (callsIn_wide.2 (jq1 S T O K n m _)).mono ?_⟩
 rintro e w1 ⟨rfl, hb⟩
 have hb1 : Below w.heap.size w w1 := (((Below.refl _ w).alloc (Nat.le_refl _) _).alloc (by simp) _).trans (hb.mono (by simp; omega))
 have hnB : w1.heap[w.heap.size + 1]? = some (.cells #[.int .i64 0] 3 (0, 0)) := by
  rw [hb.block (w.heap.size + 1) (by simp)]
  have := World.alloc_heap_new (w.alloc (.cells #[.int .i64 S, .int .i64 T, .int .i64 O, .int .i64 K] 41)) (.cells #[.int .i64 0] 3)
  rwa [World.size_alloc] at this
 clear hb
 unfold jq0
 gi_wp2_with fail
 obtain ⟨nB, hnb⟩ : ∃ nB, w.heap.size + 1 = nB := ⟨_, rfl⟩
 rw [hnb] at hnB ⊢
 have hw1 := (Array.getElem?_eq_some_iff.1 hnB).1
 refine (jT1 hn hm hL hok rfl (qG0 w nB) (fun _ _ _ _ => False) (jT2 w nB) (fun _ _ _ _ _ h => h.elim) (fun b => b < w.heap.size ∨ b = nB) ⟨.inr rfl, hnB, fun b hb => .inl hb, hb1⟩ (fun b hb => by rcases hb with hb | rfl <;> omega) (fun v => { tmps := _, defers := [] }) (fun l v W K' hK => wpIn_skip hK) ?_ ?_ ?_)
 ·rintro l pre h C sz v rows W hpre ⟨hc, hW, hold, hbW⟩ hH hlt hsz
  have hpl : pre.length + 1 ≤ L.length := by have := hpre.length_le; simpa using this
  clear hb1 hnB hok hL hpre hn hm hw1
  obtain ⟨p, hp⟩ : ∃ p : Int, (pre.length : Int) = p := ⟨_, rfl⟩
  rw [hp] at hW
  have hp0 : 0 ≤ p := by omega
  have hp1 : p < 1000000000000 := by omega
  have HP := Lib.hid (show ((pre ++ [h]).length : Int) = p + 1 by simp; omega)
  generalize hR : jH3 (qG0 w nB) (fun _ _ _ _ => False) (pre ++ [h]) C sz W = R
  have HR := Lib.hid hR
  have c0 := hW.cell
  have f0 := hW.frozen
  have HW := Lib.hid hW
  have HC := Lib.hid hc
  have HO := Lib.hid hold
  have HB := Lib.hid hbW
  have HN := Lib.hid hnb
  have HS := Lib.hid hsz
  have HL := Lib.hid hlt
  have hz : ∃ z0, w.heap.size = z0 := ⟨_, rfl⟩
  clear hR hH hp hlen hsz hpl hlt hnb hbW hold hc hW
  simp only [List.setIfInBounds_toArray, List.set_cons_succ, List.set_cons_zero]
  gi_wp2
  rw [← HR.out]
  refine ⟨C, ⟨HC.out, ?_, HO.out, ?_⟩, ⟨rfl, rfl, rfl, by simp, fun b _ hcb => Below.heap_setCell _ _ _ b (fun e => hcb (e ▸ HC.out))⟩, fun b _ h => h, fun b hb => by have h1 := HL.out b hb; have h2 := HS.out; simp; omega⟩
  ·rw [HP.out]; exact HW.out.set _
  ·have := HN.out
   exact HB.out.setCell (p := ⟨nB, 0, none⟩) (by simp; omega) _
 ·rintro D C W ⟨hc, hW, hold, hbW⟩ hlt hD hDD
  have c0 := hW.cell
  have f0 := hW.frozen
  have hDw : w.heap.size ≤ D := Nat.le_of_not_lt (fun h => hD (hold D h))
  clear hb1 hnB hok hL hn hm hw1
  obtain ⟨p, hp⟩ : ∃ p : Int, (L.length : Int) = p := ⟨_, rfl⟩
  rw [hp] at hW c0
  have HP := Lib.hid hp
  have HW := Lib.hid hW
  have HO := Lib.hid hold
  have HB := Lib.hid hbW
  have HD := Lib.hid hDD
  have HDw := Lib.hid hDw
  have HL := Lib.hid hlt
  have HN := Lib.hid hnb
  clear hW hold hbW hDD hlt hD hc hp hlen hDw hnb
  dsimp only
  gi_wp2
  refine ⟨by simp, .inl ⟨_, _, rfl, run_takeDeferred HD.out, ?_⟩⟩
  exact ⟨_, results_tmp rfl _ _ _, by rw [HP.out]; rfl, HB.out.trans (belowK_b (w := w) (Nat.le_refl _) W D _ _ HDw.out HD.out rfl rfl)⟩
 ·rintro D c pre C W hpre hx
  exact hx.elim
end Go.Proofs.Ytngkneknopenmaa.qf6
end
section
namespace Go.Proofs.Ytngkneknopenmaa.qb8
open Go.Proofs.Ytngkneknopenmaa.zM Go.Proofs.Ytngkneknopenmaa.qa9 Go.Proofs.Ytngkneknopenmaa.qf6
theorem jT3 : ∀ (hd : List (Int × Int × Int)) (cs : List Nat) (fl : List O3), jw5 hd cs fl = ji9 hd cs fl
 | [], _, _ => by simp [jw5, ji9]
 | _ :: _, [], _ => by simp [jw5, ji9]
 | x :: hd, k :: cs, fl => by
  unfold jw5 ji9
  rw [jT3 hd cs]
theorem jT4 (z : List (Nat × Nat)) (ss cs : List Nat) (ks : List (Bool × Nat)) (vs : List Nat) : jw5 (qt6 z ss) cs (mkF ks vs) = qk7 z ss cs ks vs := jT3 _ _ _
theorem zM8 {n K m S : Nat} {p : List T4} : p ∈ qL0 n K m S (2 * n) 0 [] [] ↔ ∃ z ss cs ks vs, z ∈ qr9 n S (2 * n) 0 [] [] ∧ ss ∈ qV6 S z n [] ∧ cs ∈ qv3 n m [] ∧ ks ∈ qF6 K cs.sum [] 0 ∧ vs ∈ qv2 ks ks [] ∧ p = qk7 z ss cs ks vs := by
 simp only [qL0, ja8, qT3, jf8, qI0, List.mem_flatMap, List.mem_map, List.length_nil, Nat.sub_zero]
 constructor
 ·rintro ⟨z, hz, ss, hs, cs, hc, ks, hk, vs, hv, rfl⟩
  exact ⟨z, ss, cs, ks, vs, hz, hs, hc, hk, hv, jT4 _ _ _ _ _⟩
 ·rintro ⟨z, ss, cs, ks, vs, hz, hs, hc, hk, hv, rfl⟩
  exact ⟨z, hz, ss, hs, cs, hc, ks, hk, vs, hv, jT4 _ _ _ _ _⟩
theorem zp1 {n K m S : Nat} {z : List (Nat × Nat)} {ss cs : List Nat} {ks : List (Bool × Nat)} {vs : List Nat} (hz : z ∈ qr9 n S (2 * n) 0 [] []) (hs : ss ∈ qV6 S z n []) (hc : cs ∈ qv3 n m []) (hk : ks ∈ qF6 K cs.sum [] 0) (hv : vs ∈ qv2 ks ks []) : qv0 n K m S z ss cs ks vs := by
 have h1 := qE2 n S (2 * n) 0 [] [] z (by omega) (jx4 n) hz
 obtain ⟨s', rfl, hsl, hso⟩ := (jd8 S z n [] ss).1 hs
 obtain ⟨c', rfl, hcl, hcs, hc1⟩ := (qL1 n m [] cs).1 hc
 obtain ⟨k', rfl, hkl, hko⟩ := (qQ9 K _ [] 0 ks).1 hk
 obtain ⟨v', rfl, hvo⟩ := (qB7 _ _ [] vs).1 hv
 simp only [List.length_nil] at *
 exact ⟨h1, hsl, hso, hcl, hcs, hc1, by rw [hkl, hcs], hko, hvo⟩
theorem jH4 {S T O K n m : Int} (hn : n ≤ 64) (hm : m ≤ 64) : qF2 S T O K n m = false → ∀ h ∈ jj0 S K n m, zT h = 0 := by
 intro _ h hh
 unfold jj0 at hh
 obtain ⟨z, ss, cs, ks, vs, hz, hs, hc, hk, hv, rfl⟩ := zM8.1 hh
 exact (zp1 hz hs hc hk hv).check (by omega) (by omega)
end Go.Proofs.Ytngkneknopenmaa.qb8
end
