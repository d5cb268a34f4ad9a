/- qr3 of this claim, joined by a program of this session: the zS that its theorem uses. -/
import Derived.Test.YtngkneknopenmaaZT14
import Derived.Test.YtngkneknopenmaaZT17
set_option linter.unusedVariables false
set_option linter.unusedSimpArgs false
section
namespace Go.Proofs.Ytngkneknopenmaa.qf6
open Go Go.Lib Go.RowKit Go.Proofs.Ytngkneknopenmaa Go.Proofs.Ytngkneknopenmaa.zM Go.Proofs.Ytngkneknopenmaa.qa9
theorem qj1 {w w' : World} {base n size : Nat} {e : TypeId} {v : Value} {xs : List Value} (h : w.ownsRow base e size v n xs) (hk : ∀ k, v.ownBlock = some k → w'.heap[k]? = w.heap[k]?) : w'.ownsRow base e size v n xs := by
 refine ⟨h.1, ?_⟩
 rcases h.2 with h1 | ⟨g, cp, cur, rfl, hg, hh, h1⟩
 ·exact .inl h1
 ·exact .inr ⟨g, cp, cur, rfl, hg, (hk g (by simp [Value.ownBlock])).trans hh, h1⟩
theorem jH5 {w w' : World} {base : Nat} {v : Value} {rows : List TR} {h : List T4} (h2 : H2 w base v rows h) (hk : ∀ k, v.ownBlock = some k → w'.heap[k]? = w.heap[k]?) (hr : ∀ r ∈ rows, w'.heap[r.g]? = w.heap[r.g]?) : H2 w' base v rows h :=
 ⟨qj1 h2.1 hk, h2.2.1, fun i r t hri ht => (h2.2.2.1 i r t hri ht).move (hr r (List.mem_of_getElem? hri)), h2.2.2.2⟩
structure IT where
 v : Value
 rows : List TR
 lo : Nat
 h : List T4
def IT.has (x : IT) (b : Nat) : Prop := x.v.ownBlock = some b ∨ ∃ r ∈ x.rows, r.g = b
structure LS (base : Nat) (xo : Value) (its : List IT) (C : Nat → Prop) (W : World) : Prop where
 row : W.ownsRow base 22 1 xo its.length (its.map IT.v)
 h2 : ∀ x ∈ its, H2 W x.lo x.v x.rows x.h
 lo : ∀ x ∈ its, base ≤ x.lo ∧ ∀ b, x.has b → x.lo ≤ b ∧ C b
 sep : its.Pairwise fun x y => ∀ b, x.has b → b < y.lo
 own : ∀ b, xo.ownBlock = some b → C b
variable {base : Nat} {xo : Value} {its : List IT} {C : Nat → Prop} {W W' : World}
theorem LS.same (s : LS base xo its C W) (hk : ∀ b, C b → W'.heap[b]? = W.heap[b]?) : LS base xo its C W' :=
 ⟨qj1 s.row fun k hk' => hk k (s.own k hk'), fun x hx => jH5 (s.h2 x hx) (fun k hv => hk k ((s.lo x hx).2 k (.inl hv)).2) (fun r hr => hk r.g ((s.lo x hx).2 r.g (.inr ⟨r, hr, rfl⟩)).2), s.lo, s.sep, s.own⟩
theorem LS.nil (base : Nat) (C : Nat → Prop) (W : World) : LS base (.slice none 0 0) [] C W :=
 ⟨World.ownsRow_nil _ _ _ _, (fun x h => by cases h), (fun x h => by cases h), List.Pairwise.nil, (fun b h => by cases h)⟩
theorem Qb9 : (Try.prog.info? 22).map (fun i => (i.zero, i.size, i.bytes)) = some (some (.slice none 0 0), 1, 24) := by kernel_rfl
theorem LS.append (s : LS base xo its C W) {z : Nat} {x : IT} (hz : W.heap[z]? = some (.cells #[x.v] 22 (0, 0))) (h2 : H2 W x.lo x.v x.rows x.h) (hb : base ≤ W.heap.size) (hx1 : ∀ b, x.has b → x.lo ≤ b) (hx2 : ∀ b, C b → b < x.lo) (hxl : base ≤ x.lo) (hl : its.length ≤ 1000000) (hv : x.v.oneCell' = true) :
  ∃ xo' W', (Builtin.append_ #[42, 42] 42 #[xo, .slice (some ⟨z, 0, none⟩) 1 1]).run Try.prog W = .ok xo' W' ∧ W.grownBy W' xo.ownBlock ∧ (xo'.ownBlock = xo.ownBlock ∨ xo'.ownBlock = some W.heap.size) ∧
   ∀ C' : Nat → Prop, (∀ b, C b → C' b) → (∀ b, x.has b → C' b) → (∀ b, xo'.ownBlock = some b → C' b) → LS base xo' (its ++ [x]) C' W' := by
 obtain ⟨i0, hii, hz0, hz1, hz2⟩ := info_parts Qb9
 obtain ⟨xo', W', hr, hown, hg, _, hat⟩ := run_append_own_at (P := Try.prog) W base 42 42 22 i0 (.slice none 0 0) 1 24 Try.underlying42 hii hz0 hz1 hz2 rfl (by decide) xo its.length _ s.row ⟨z, 0, none⟩ 1 1 [x.v] rfl (fun j u hj => by
   rw [add_zero, Lib.cell_of_heap hz]
   simpa using hj) (fun u hu => by simp at hu; rw [hu]; exact hv) (by unfold maxLen; omega) (by omega) hb
 have zV2 : ∀ {v : Value} {lo : Nat} {rows : List TR} {h : List T4}, H2 W lo v rows h → H2 W' lo v rows h := by
  intro v lo rows h hh
  refine jH5 hh (fun k hk => hg.block k (hh.1.lt k hk).2 (fun e => ?_)) (fun r hr => hg.block r.g (hh.2.lt r hr).2 (fun e => ?_))
  ·rcases hh.1.2 with ⟨e1, _⟩ | ⟨g, cp, cur, e1, _, hc, _⟩
   ·rw [e1] at hk; simp [Value.ownBlock] at hk
   ·rw [e1] at hk
    simp [Value.ownBlock] at hk
    subst hk
    exact own_ne s.row hc (by decide) e.symm
  ·obtain ⟨cs, hc⟩ := hh.2.ne_of r hr
   exact own_ne s.row hc (by decide) e.symm
 refine ⟨xo', W', hr, hg, hat, fun C' c1 c2 c3 => ⟨by rw [List.length_append, List.map_append]; exact hown, fun y hy => ?_, fun y hy => ?_, ?_, c3⟩⟩
 ·rcases List.mem_append.1 hy with hy | hy
  ·exact zV2 (s.h2 y hy)
  ·simp at hy; subst hy; exact zV2 h2
 ·rcases List.mem_append.1 hy with hy | hy
  ·exact ⟨(s.lo y hy).1, fun b hb => by have := (s.lo y hy).2 b hb; exact ⟨this.1, c1 b this.2⟩⟩
  ·simp at hy; subst hy; exact ⟨hxl, fun b hb => ⟨hx1 b hb, c2 b hb⟩⟩
 ·rw [List.pairwise_append]
  exact ⟨s.sep, by simp, fun y hy u hu b hb => by simp at hu; subst hu; exact hx2 b ((s.lo y hy).2 b hb).2⟩
theorem H2.zA4 {w : World} {x : IT} (h : H2 w x.lo x.v x.rows x.h) : ∀ b, x.has b → x.lo ≤ b ∧ b < w.heap.size := by
 rintro b (hb | ⟨r, hr, rfl⟩)
 ·exact h.1.lt b hb
 ·exact h.2.lt r hr
theorem H2.slice {w : World} {base : Nat} {v : Value} {rows : List TR} {h : List T4} (h2 : H2 w base v rows h) : v.oneCell' = true := by
 obtain ⟨A, cp, rfl, _⟩ := h2.rd
 rfl
def zA5 (w0 : World) (bM bO : Nat) (most : Int) (pre : List (List T4)) (C : Nat → Prop) (W : World) : Prop :=
 C bM ∧ C bO ∧ (∀ b, b < w0.heap.size → C b) ∧ Below w0.heap.size w0 W ∧ Boxed W bM 3 (.int .i64 most) ∧ w0.heap.size + 3 ≤ W.heap.size ∧
  ∃ xo its, LS (w0.heap.size + 3) xo its C W ∧ its.map IT.h = pre ∧ Boxed W bO 42 xo
def Qc0 (w0 : World) (bM bO : Nat) (most : Int) (pre : List (List T4)) (C : Nat → Prop) (W : World) : Prop := zA5 w0 bM bO most pre C W ∧ (pre.length : Int) < max most 1
def Qc1 (w0 : World) (bM bO : Nat) (most : Int) (c : Code) (pre : List (List T4)) (C : Nat → Prop) (W : World) : Prop := c = .exit 0 ∧ zA5 w0 bM bO most pre C W ∧ (pre.length : Int) = max most 1
theorem jh6 (w0 : World) (bM bO : Nat) (most : Int) : Abides (zA5 w0 bM bO most) := by
 rintro pre C W W' ⟨h1, h2, h3, h4, h5, h6, xo, its, h7, h8, h9⟩ ho ht hu hs hk
 exact ⟨h1, h2, h3, ⟨ho.trans h4.os, ht.trans h4.tape, hu.trans h4.output, Nat.le_trans h4.size hs, fun b hb => (hk b (h3 b hb)).trans (h4.block b hb)⟩, (hk bM h1).trans h5, Nat.le_trans h6 hs, xo, its, h7.same hk, h8, (hk bO h2).trans h9⟩
theorem jT5 (w0 : World) (bM bO : Nat) (most : Int) : Abides (Qc0 w0 bM bO most) :=
 fun pre C W W' ⟨h, k⟩ ho ht hu hs hk => ⟨jh6 w0 bM bO most pre C W W' h ho ht hu hs hk, k⟩
theorem jT6 (w0 : World) (bM bO : Nat) (most : Int) (c : Code) : Abides (Qc1 w0 bM bO most c) :=
 fun pre C W W' ⟨e, h, k⟩ ho ht hu hs hk => ⟨e, jh6 w0 bM bO most pre C W W' h ho ht hu hs hk, k⟩
set_option maxRecDepth 100000 in
theorem zA6 {w0 : World} {bM bO : Nat} {most : Int} {pre : List (List T4)} {C : Nat → Prop} {W : World} {h : List T4} {sz : Nat} {v : Value} {rows : List TR} (hI : zA5 w0 bM bO most pre C W) (hpre : pre.length ≤ 1000000) (hH : H2 W sz v rows h) (hlt : ∀ b, C b → b < sz) (hsz : sz ≤ W.heap.size) (hbo : bO < w0.heap.size + 3) (hne : bM ≠ bO) (hsb : w0.heap.size + 3 ≤ sz) (hbw : w0.heap.size ≤ bO) :
  ∃ xo A cp W3, Boxed W bO 42 xo ∧ (Builtin.append_ #[42, 42] 42 #[xo, .slice (some ⟨W.heap.size, 0, none⟩) 1 1]).run Try.prog (W.alloc (.cells #[v] 22)) = .ok (.slice A (pre.length + 1) cp) W3 ∧
   W3.cell? ⟨bO, 0, none⟩ = some xo ∧ W3.frozen? ⟨bO, 0, none⟩ = false ∧ (W3.setCell ⟨bO, 0, none⟩ (.slice A (pre.length + 1) cp)).cell? ⟨bO, 0, none⟩ = some (.slice A (pre.length + 1) cp) ∧ (W3.setCell ⟨bO, 0, none⟩ (.slice A (pre.length + 1) cp)).cell? ⟨bM, 0, none⟩ = some (.int .i64 most) ∧
   ∃ C', zA5 w0 bM bO most (pre ++ [h]) C' (W3.setCell ⟨bO, 0, none⟩ (.slice A (pre.length + 1) cp)) ∧ Kp C sz W (W3.setCell ⟨bO, 0, none⟩ (.slice A (pre.length + 1) cp)) ∧ (∀ b, b < sz → C' b → C b) ∧ ∀ b, C' b → b < (W3.setCell ⟨bO, 0, none⟩ (.slice A (pre.length + 1) cp)).heap.size := by
 obtain ⟨h1, h2, h3, h4, h5, h6, xo, its, h7, h8, h9⟩ := hI
 have hil : its.length = pre.length := by rw [← h8, List.length_map]
 obtain ⟨W2, hW2⟩ : ∃ W2, W.alloc (.cells #[v] 22) = W2 := ⟨_, rfl⟩
 have hb2 : Below W.heap.size W W2 := by rw [← hW2]; exact (Below.refl _ _).alloc (Nat.le_refl _) _
 have hs2 : W2.heap.size = W.heap.size + 1 := by rw [← hW2]; simp
 have hz : W2.heap[W.heap.size]? = some (.cells #[v] 22 (0, 0)) := by rw [← hW2]; exact alloc_at W _
 have h7' : LS (w0.heap.size + 3) xo its C W2 := h7.same fun b hb => hb2.block b (by have := hlt b hb; omega)
 have hH2 : H2 W2 sz v rows h := hH.below hb2
 obtain ⟨xo', W3, hr, hg, hat, hls⟩ := h7'.append (x := ⟨v, rows, sz, h⟩) hz hH2 (by omega) (fun b hb => (H2.zA4 (x := ⟨v, rows, sz, h⟩) hH b hb).1) hlt hsb (by omega) (H2.slice hH)
 have hown3 := (hls (fun _ => True) (fun _ _ => trivial) (fun _ _ => trivial) (fun _ _ => trivial)).row
 obtain ⟨A, cp, rfl⟩ : ∃ A cp, xo' = .slice A (pre.length + 1) cp := by
  rcases hown3.2 with ⟨_, h0⟩ | ⟨g, cp, cur, e, _⟩
  ·simp at h0
  ·rw [List.length_append, List.length_singleton, hil] at e
   exact ⟨_, cp, e⟩
 have hO2 : W2.heap[bO]? = _ := (hb2.block bO (Array.getElem?_eq_some_iff.1 h9).1).trans h9
 have hM2 : W2.heap[bM]? = _ := (hb2.block bM (Array.getElem?_eq_some_iff.1 h5).1).trans h5
 have hO3 := (hg.block bO (Array.getElem?_eq_some_iff.1 hO2).1 (own_ne h7'.row hO2 (by decide)).symm).trans hO2
 have hM3 := (hg.block bM (Array.getElem?_eq_some_iff.1 hM2).1 (own_ne h7'.row hM2 (by decide)).symm).trans hM2
 have c0 := Lib.cell_of_heap hO3 0
 simp only [List.getElem?_toArray, List.getElem?_cons_zero] at c0
 have hg4 := qb7 W3 bO 0 (.slice A (pre.length + 1) cp)
 have hO4 := qd9 W3 bO 0 _ _ _ (.slice A (pre.length + 1) cp) hO3
 simp only [List.setIfInBounds_toArray, List.set_cons_zero] at hO4
 have hM4 := (hg4.block bM (Array.getElem?_eq_some_iff.1 hM3).1 (by intro e; injection e with e; exact hne e)).trans hM3
 have c1 := Lib.cell_of_heap hM4 0
 simp only [List.getElem?_toArray, List.getElem?_cons_zero] at c1
 have c2 := Lib.cell_of_heap hO4 0
 simp only [List.getElem?_toArray, List.getElem?_cons_zero] at c2
 refine ⟨xo, A, cp, W3, h9, by rw [hW2]; exact hr, c0, Lib.frozen_of_heap hO3 0, c2, c1, ?_⟩
 obtain ⟨W4, hW4⟩ : ∃ W4, W3.setCell ⟨bO, 0, none⟩ (.slice A (pre.length + 1) cp) = W4 := ⟨_, rfl⟩
 rw [hW4] at hg4 hO4 hM4 ⊢
 have hs3 := hg.size
 have hs4 := hg4.size
 have zV3 : ∀ b, Value.ownBlock (.slice A (pre.length + 1) cp) = some b → (C b ∨ b = W2.heap.size) ∧ b < W3.heap.size := by
  intro b hb
  refine ⟨?_, (hown3.lt b hb).2⟩
  rcases hat with e | e
  ·rw [e] at hb; exact .inl (h7'.own b hb)
  ·rw [e] at hb; cases hb; exact .inr rfl
 have jq2 : LS (w0.heap.size + 3) (.slice A (pre.length + 1) cp) (its ++ [⟨v, rows, sz, h⟩]) (fun b => C b ∨ (⟨v, rows, sz, h⟩ : IT).has b ∨ Value.ownBlock (.slice A (pre.length + 1) cp) = some b) W3 := hls _ (fun b hb => .inl hb) (fun b hb => .inr (.inl hb)) (fun b hb => .inr (.inr hb))
 have hne4 : ∀ b, (⟨v, rows, sz, h⟩ : IT).has b → sz ≤ b ∧ b < W.heap.size := H2.zA4 (x := ⟨v, rows, sz, h⟩) hH
 have hls5 : LS (w0.heap.size + 3) (.slice A (pre.length + 1) cp) (its ++ [⟨v, rows, sz, h⟩]) (fun b => C b ∨ (⟨v, rows, sz, h⟩ : IT).has b ∨ Value.ownBlock (.slice A (pre.length + 1) cp) = some b) W4 := by
  have hbO : ∀ y ∈ its ++ [(⟨v, rows, sz, h⟩ : IT)], ∀ b, y.has b → b ≠ bO := fun y hy b hb e => by
   have := (jq2.lo y hy).1
   have := ((jq2.lo y hy).2 b hb).1
   omega
  refine ⟨qj1 jq2.row fun k hk => hg4.block k (jq2.row.lt k hk).2 (fun e => ?_), fun y hy => jH5 (jq2.h2 y hy) (fun k hk => hg4.block k ((jq2.h2 y hy).1.lt k hk).2 (fun e => hbO y hy k (.inl hk) (by injection e))) (fun r hr' => hg4.block r.g ((jq2.h2 y hy).2.lt r hr').2 (fun e => hbO y hy r.g (.inr ⟨r, hr', rfl⟩) (by injection e))), jq2.lo, jq2.sep, jq2.own⟩
  injection e with e
  have := (jq2.row.lt k hk).1
  omega
 refine ⟨fun b => C b ∨ (⟨v, rows, sz, h⟩ : IT).has b ∨ Value.ownBlock (.slice A (pre.length + 1) cp) = some b, ⟨.inl h1, .inl h2, fun b hb => .inl (h3 b hb), ?_, hM4, by omega, _, _, hls5, by rw [List.map_append, h8]; rfl, hO4⟩, ⟨by rw [hg4.os, hg.os, hb2.os], by rw [hg4.tape, hg.tape, hb2.tape], by rw [hg4.output, hg.output, hb2.output], by omega, fun b hb hcb => ?_⟩, fun b hb hc => ?_, fun b hc => ?_⟩
 ·exact ((h4.trans (hb2.mono h4.size)).grown hg (by have := h4.size; omega) (fun k hk => by have := (h7'.row.lt k hk).1; omega)).grown hg4 (by have := h4.size; omega) (fun k hk => by cases hk; exact hbw)
 ·rw [hg4.block b (by omega) (fun e => hcb (by injection e with e; rw [e]; exact h2)), hg.block b (by omega) (fun e => hcb (h7'.own b e.symm)), hb2.block b (by omega)]
 ·rcases hc with hc | hc | hc
  ·exact hc
  ·have := (hne4 b hc).1; omega
  ·rcases (zV3 b hc).1 with h | h
   ·exact h
   ·omega
 ·rcases hc with hc | hc | hc
  ·have := hlt b hc; omega
  ·have := (hne4 b hc).2; omega
  ·have := (zV3 b hc).2; omega
end Go.Proofs.Ytngkneknopenmaa.qf6
end
section
namespace Go.Proofs.Ytngkneknopenmaa.qf6
open Go Go.Lib Go.RowKit Go.Shelf Go.Proofs.Ytngkneknopenmaa Go.Proofs.Ytngkneknopenmaa.zM Go.Proofs.Ytngkneknopenmaa.qa9 Go.Proofs.Ytngkneknopenmaa.qb8
attribute [local go_sem] Oper.semAt_some
theorem jT7 (f : FuncId) (c d : Array Value) (w : World) : (binOp .eql 93 (.func (.func f) c d) .nilFunc).run Try.prog w = .ok (.bool false) w := by
 have h : binOp .eql 93 (.func (.func f) c d) .nilFunc = (do pure (.bool (← Op.equal 93 (.func (.func f) c d) .nilFunc))) := by unfold binOp; rfl
 rw [h]
 have hd : Op.maxDepth = (Op.maxDepth - 1) + 1 := rfl
 unfold Op.equal
 rw [hd]
 unfold Op.equalIn
 simp [go_sem]
theorem qy5 {F : Fence} {nF : Nat} {P : Program} {w : World} {ops : Array Oper} {rest : List Oper} {o : Oper} {a : Act} {Q : Exit → Act → World → Prop} (hg : o.guard = none) (s x : Operand) (t : TypeId) (hop : o.op = Op.call { callee := Callee.builtin Builtin.append, args := #[s, x], argTypes := #[t, t] })
  (v y : Value) (hs : a.eval s = v) (hx : a.eval x = y) (ty : TypeId) (hty : o.type = ty) {v' : Value} {w' : World} (hrun : (Builtin.append_ #[t, t] ty #[v, y]).run P w = .ok v' w') (hK : wpListIn F nF P ops Q rest (a.put o.dst v') w') :
  wpListIn F nF P ops Q (o :: rest) a w := by
 subst hty
 refine wpListIn_plain hg fun K hK' => ?_
 unfold Oper.wpIn
 refine ⟨by simp [Oper.about, hop, resolve, Target.leads, Sem.run_pure], ?_⟩
 rw [Oper.semAt_plain F _ _ (by rw [hop]; intro c hc'; cases hc')]
 simp [execOp, hop, resolve, invoke, builtin, hs, hx, hrun, Result.andThen]
 exact hK' _ _ hK
def Listed (base : Nat) (e : Ending) (ll : List (List T4)) (W : World) : Prop := ∃ (v : Value) (its : List IT) (C : Nat → Prop), e = .returned v ∧ LS base v its C W ∧ its.map IT.h = ll
set_option maxHeartbeats 1000000 in
theorem jq3 {S T O K n m most : Int} {L : List (List T4)} (hn : n ≤ 1000) (hm : m ≤ 1000000) (hL : qw8 S T O K n m = L) (hmost : most ≤ 1000000) (hok : qF2 S T O K n m = false → ∀ h ∈ jj0 S K n m, zT h = 0) (w : World) :
  Calls Try.prog 24 #[.agg #[.int .i64 S, .int .i64 T, .int .i64 O, .int .i64 K], .int .i64 n, .int .i64 m, .int .i64 most] w fun e w' => Listed (w.heap.size + 3) e (L.take (max most 1).toNat) w' ∧ Below w.heap.size w w' := by
 refine (callsIn_wide (n := 0)).1 ?_
 refine callsIn_of_wp_marks Try.func24 rfl trivial ?_ rfl
 simp only [Try.ntmps24, List.size_toArray, List.length_cons, List.length_nil, Nat.reduceAdd, Nat.reduceSub, Array.replicate_succ, Array.replicate_zero, List.push_toArray, List.append_toArray, List.nil_append, List.cons_append]
 gi_wp2_with fail
 refine ⟨trivial, rfl, (callsIn_wide.2 (jq1 S T O K n m _)).mono ?_⟩
 rintro e w1 ⟨rfl, hb⟩
 obtain ⟨e0, e1, e2⟩ := zt2 w (.cells #[.int .i64 S, .int .i64 T, .int .i64 O, .int .i64 K] 41) (.cells #[.int .i64 most] 3) (.cells #[.slice none 0 0] 42)
 have hb1 : Below w.heap.size w w1 := ((((Below.refl _ w).alloc (Nat.le_refl _) _).alloc (by simp) _).alloc (by simp; omega) _).trans (hb.mono (by simp; omega))
 have hM1 := (hb.block (w.heap.size + 1) (by simp)).trans e1
 have hO1 := (hb.block (w.heap.size + 1 + 1) (by simp)).trans e2
 have hs1 : w.heap.size + 3 ≤ w1.heap.size := by have := hb.size; simpa using this
 have HB1 := Lib.hid hb1
 have HM1 := Lib.hid hM1
 have HO1 := Lib.hid hO1
 have HS1 := Lib.hid hs1
 clear hb e0 e1 e2 hb1 hM1 hO1 hs1
 unfold jq0
 obtain ⟨bP, hbP⟩ : ∃ bP, w.heap.size = bP := ⟨_, rfl⟩
 obtain ⟨bM, hbM⟩ : ∃ bM, w.heap.size + 1 = bM := ⟨_, rfl⟩
 obtain ⟨bO, hbO⟩ : ∃ bO, w.heap.size + 1 + 1 = bO := ⟨_, rfl⟩
 rw [hbO, hbM, hbP]
 have HOK := Lib.hid hok
 have HLL := Lib.hid hL
 have HBB := Lib.hid (show w.heap.size = bP ∧ w.heap.size + 1 = bM ∧ w.heap.size + 1 + 1 = bO from ⟨hbP, hbM, hbO⟩)
 rw [hbM] at HM1
 rw [hbO] at HO1
 clear hok hL
 clear hbP hbM hbO
 simp only []
 rename_i hK
 refine hK _ _ ?_
 repeat gi_step
 rw [jT7]
 gi_wp2_with fail
 clear hK
 refine (jT1 hn hm HLL.out HOK.out rfl (Qc0 w bM bO most) (Qc1 w bM bO most) (jT5 w bM bO most) (jT6 w bM bO most) (fun b => b < w.heap.size ∨ b = bM ∨ b = bO) ⟨⟨.inr (.inl rfl), .inr (.inr rfl), fun b hb => .inl hb, HB1.out, HM1.out, HS1.out, _, [], LS.nil _ _ _, rfl, HO1.out⟩, by simp; omega⟩ (fun b hb => by have h1 := HS1.out; have h2 := HBB.out; rcases hb with hb | rfl | rfl <;> omega) (fun v => { tmps := #[.agg #[.int .i64 S, .int .i64 T, .int .i64 O, .int .i64 K], .int .i64 n, .int .i64 m, .int .i64 most, .pointer (some ⟨bP, 0, none⟩), undef, undef, .pointer (some ⟨bM, 0, none⟩), .slice none 0 0, .pointer (some ⟨bO, 0, none⟩), jq0 S T O K n m, v, .agg #[.int .i64 S, .int .i64 T, .int .i64 O, .int .i64 K], .int .i64 n, .int .i64 m, jq0 S T O K n m, jq0 S T O K n m, .bool false, jq0 S T O K n m, v, undef, undef, undef, undef, undef, undef, undef, undef, undef], defers := [] }) ?_ ?_ ?_ ?_)
 ·intro l v W K' hK
  gi_wp2
  exact hK
 ·rintro l pre h C sz v rows W hpre ⟨hI, hlen⟩ hH hlt hsz
  have hpl : pre.length ≤ 1000000 := by omega
  have hsb : w.heap.size + 3 ≤ sz := by
   have h1 := HBB.out
   have := hlt bO hI.2.1
   omega
  obtain ⟨Av, cv, rfl, hcv, _⟩ := hH.rd
  obtain ⟨xo, A, cp, W3, hx0, hrun, c3, f3, hO4, cM, C', hI', hkp, hc1, hc2⟩ := zA6 hI hpl hH hlt hsz (by have := HBB.out; omega) (by have := HBB.out; omega) hsb (by have := HBB.out; omega)
  have c0 := Lib.cell_of_heap hx0 0
  simp only [List.getElem?_toArray, List.getElem?_cons_zero] at c0
  obtain ⟨q, hq⟩ : ∃ q, pre.length + 1 = q := ⟨_, rfl⟩
  obtain ⟨W4, hW4⟩ : ∃ W4, W3.setCell ⟨bO, 0, none⟩ (.slice A (pre.length + 1) cp) = W4 := ⟨_, rfl⟩
  rw [hW4] at cM hI' hkp hc2 hO4
  rw [hq] at hrun hO4 hW4
  have hq1 : ((pre ++ [h]).length : Int) = (q : Int) := by rw [List.length_append, List.length_singleton, hq]
  have hqb : (q : Int) ≤ 1000001 := by omega
  generalize hR : jH3 (Qc0 w bM bO most) (Qc1 w bM bO most) (pre ++ [h]) C sz W = R
  have HR := Lib.hid hR
  have HRUN := Lib.hid hrun
  clear hrun
  have HI' := Lib.hid hI'
  have HKP := Lib.hid hkp
  have HC := Lib.hid (And.intro hc1 hc2)
  have HQ := Lib.hid hq1
  have HLN := Lib.hid hlen
  have HQ2 := Lib.hid hq
  clear hR hI' hkp hc1 hc2 hq1 hI hH hlt hpre hx0 hcv hsz hsb hpl hlen hq
  by_cases hge : (q : Int) ≥ most
  ·gi_wp2_with (gi_at_builtin; refine qy5 rfl _ _ _ rfl _ _ rfl rfl _ rfl HRUN.out ?_)
   rw [← HR.out]
   exact ⟨C', ⟨rfl, HI'.out, by have := HQ.out; have := HLN.out; have := HQ2.out; omega⟩, HKP.out, HC.out.1, HC.out.2⟩
  ·gi_wp2_with (gi_at_builtin; refine qy5 rfl _ _ _ rfl _ _ rfl rfl _ rfl HRUN.out ?_)
   rw [← HR.out]
   exact ⟨C', ⟨HI'.out, by have := HQ.out; have := HLN.out; have := HQ2.out; omega⟩, HKP.out, HC.out.1, HC.out.2⟩
 ·rintro D C W ⟨⟨h1, h2, h3, h4, h5, h6, xo, its, h7, h8, h9⟩, hlen⟩ hlt hD hDD
  have c0 := Lib.cell_of_heap h9 0
  simp only [List.getElem?_toArray, List.getElem?_cons_zero] at c0
  have HLS := Lib.hid h7
  have HMP := Lib.hid h8
  have HB := Lib.hid h4
  have HD := Lib.hid hDD
  have HDC := Lib.hid hD
  have HDw := Lib.hid (show w.heap.size ≤ D from Nat.le_of_not_lt (fun h => hD (h3 D h)))
  have HLN := Lib.hid hlen
  clear h1 h2 h3 h4 h5 h6 h7 h8 h9 hlt hD hDD hlen
  dsimp only
  gi_wp2
  refine ⟨by simp, .inl ⟨_, _, rfl, run_takeDeferred HD.out, ?_⟩⟩
  have hls : LS (w.heap.size + 3) xo its C (W.putObj D (Obj.deferred none)) := HLS.out.same fun b hb => World.putObj_heap_other (by rintro rfl; exact HDC.out hb)
  exact ⟨_, results_tmp rfl _ _ _, ⟨xo, its, C, rfl, hls, by rw [HMP.out, List.take_of_length_le (by have := HLN.out; omega)]⟩, HB.out.trans (belowK_b (w := w) (Nat.le_refl _) W D _ _ HDw.out HD.out rfl rfl)⟩
 ·rintro D c pre C W hpre ⟨rfl, ⟨h1, h2, h3, h4, h5, h6, xo, its, h7, h8, h9⟩, hlen⟩ hlt hD hDD
  have c0 := Lib.cell_of_heap h9 0
  simp only [List.getElem?_toArray, List.getElem?_cons_zero] at c0
  have HLS := Lib.hid h7
  have HMP := Lib.hid h8
  have HB := Lib.hid h4
  have HD := Lib.hid hDD
  have HDC := Lib.hid hD
  have HDw := Lib.hid (show w.heap.size ≤ D from Nat.le_of_not_lt (fun h => hD (h3 D h)))
  have HLN := Lib.hid hlen
  have HPR := Lib.hid hpre
  clear h1 h2 h3 h4 h5 h6 h7 h8 h9 hlt hD hDD hlen hpre
  gi_wp2
  refine ⟨by simp, .inl ⟨_, _, rfl, run_takeDeferred HD.out, ?_⟩⟩
  have hls : LS (w.heap.size + 3) xo its C (W.putObj D (Obj.deferred none)) := HLS.out.same fun b hb => World.putObj_heap_other (by rintro rfl; exact HDC.out hb)
  exact ⟨_, results_tmp rfl _ _ _, ⟨xo, its, C, rfl, hls, by rw [HMP.out, List.prefix_iff_eq_take.1 HPR.out, show (max most 1).toNat = pre.length by have := HLN.out; omega]⟩, HB.out.trans (belowK_b (w := w) (Nat.le_refl _) W D _ _ HDw.out HD.out rfl rfl)⟩
end Go.Proofs.Ytngkneknopenmaa.qf6
end
section
namespace Go.Proofs.Ytngkneknopenmaa.qf6
open Go Go.Lib Go.RowKit Go.Shelf Go.Proofs.Ytngkneknopenmaa Go.Proofs.Ytngkneknopenmaa.zM Go.Proofs.Ytngkneknopenmaa.qa9 Go.Proofs.Ytngkneknopenmaa.qb8
theorem Qc2 : (qw8 1 1 1 1 1 1).length = 2 := by decide +kernel
theorem len0 : (qw8 1 1 1 1 0 0).length = 1 := by decide +kernel
theorem len2 : (qw8 1 1 1 1 1 2).length = 0 := by decide +kernel
theorem LS.slice {base : Nat} {v : Value} {its : List IT} {C : Nat → Prop} {W : World} (s : LS base v its C W) : ∃ A c, v = .slice A its.length c ∧ its.length ≤ c := by
 rcases s.row.2 with ⟨rfl, h0⟩ | ⟨g, cp, cur, rfl, _, _, h1, _⟩
 ·exact ⟨none, 0, by rw [h0], by omega⟩
 ·exact ⟨_, cp, rfl, h1⟩
set_option maxHeartbeats 4000000 in
set_option maxRecDepth 100000 in
theorem jq4 (w : World) : Calls Try.prog 21 #[] w fun e w' => e = .returned (.bool true) ∧ Below w.heap.size w w' := by
 have hx := alloc_at w (.cells #[.int .i64 1, .int .i64 1, .int .i64 1, .int .i64 1] 41)
 have hb0 := (Below.refl w.heap.size w).alloc (Nat.le_refl _) (.cells #[.int .i64 1, .int .i64 1, .int .i64 1, .int .i64 1] 41)
 obtain ⟨W, hW⟩ : ∃ W, w.alloc (.cells #[.int .i64 1, .int .i64 1, .int .i64 1, .int .i64 1] 41) = W := ⟨_, rfl⟩
 rw [hW] at hx hb0
 have HX := Lib.hid hx
 have HB := Lib.hid hb0
 have hl := jq3 (S := 1) (T := 1) (O := 1) (K := 1) (n := 1) (m := 1) (most := 100) (L := qw8 1 1 1 1 1 1) (by omega) (by omega) rfl (by omega) (jH4 (by omega) (by omega)) W
 have HL := Lib.hid hl
 have y0 := Lib.cell_of_heap hx 0
 have y1 := Lib.cell_of_heap hx 1
 have y2 := Lib.cell_of_heap hx 2
 have y3 := Lib.cell_of_heap hx 3
 simp only [List.getElem?_toArray, List.getElem?_cons_zero, List.getElem?_cons_succ] at y0 y1 y2 y3
 clear hx hb0 hl
 go_enter Try.func21, Try.ntmps21
 go_upto_region 3 with (go_at_call 24; (with_reducible refine HL.out.mono ?_); rintro e w1 ⟨⟨v, its, C, rfl, hls, hmp⟩, hb1⟩)
 obtain ⟨A, c, rfl, _⟩ := LS.slice hls
 have hlen : its.length = 2 := by
  have := congrArg List.length hmp
  rw [List.length_map, List.length_take, Qc2] at this
  exact this
 rw [hlen]
 have hx1 := (hb1.block _ (Array.getElem?_eq_some_iff.1 HX.out).1).trans HX.out
 have HX1 := Lib.hid hx1
 have HB1 := Lib.hid (HB.out.trans (hb1.mono HB.out.size))
 have hc1 := qN1 (S := 1) (T := 1) (O := 1) (K := 1) (n := 1) (m := 1) (L := qw8 1 1 1 1 1 1) (by omega) (by omega) rfl (by rw [Qc2]; omega) (jH4 (by omega) (by omega)) w1
 rw [Qc2] at hc1
 have HC1 := Lib.hid hc1
 have hc2 := fun w2 => qN1 (S := 1) (T := 1) (O := 1) (K := 1) (n := 0) (m := 0) (L := qw8 1 1 1 1 0 0) (by omega) (by omega) rfl (by rw [len0]; omega) (jH4 (by omega) (by omega)) w2
 rw [len0] at hc2
 have HC2 := Lib.hid hc2
 have hc3 := fun w3 => qN1 (S := 1) (T := 1) (O := 1) (K := 1) (n := 1) (m := 2) (L := qw8 1 1 1 1 1 2) (by omega) (by omega) rfl (by rw [len2]; omega) (jH4 (by omega) (by omega)) w3
 rw [len2] at hc3
 have HC3 := Lib.hid hc3
 have x0 := Lib.cell_of_heap hx1 0
 have x1 := Lib.cell_of_heap hx1 1
 have x2 := Lib.cell_of_heap hx1 2
 have x3 := Lib.cell_of_heap hx1 3
 simp only [List.getElem?_toArray, List.getElem?_cons_zero, List.getElem?_cons_succ] at x0 x1 x2 x3
 clear hls hmp hb1 hx1 hc1 hc2 hc3 HL HX hlen hW y0 y1 y2 y3
 go_wp2_with fail
 refine HC1.out.mono ?_
 rintro e w2 ⟨rfl, hb2⟩
 have HX2 := Lib.hid ((hb2.block _ (Array.getElem?_eq_some_iff.1 HX1.out).1).trans HX1.out)
 have HB2 := Lib.hid (HB1.out.trans (hb2.mono HB1.out.size))
 clear hb2 x0 x1 x2 x3
 have x0 := Lib.cell_of_heap HX2.out 0
 have x1 := Lib.cell_of_heap HX2.out 1
 have x2 := Lib.cell_of_heap HX2.out 2
 have x3 := Lib.cell_of_heap HX2.out 3
 simp only [List.getElem?_toArray, List.getElem?_cons_zero, List.getElem?_cons_succ] at x0 x1 x2 x3
 go_wp2_with fail
 refine (HC2.out _).mono ?_
 rintro e w3 ⟨rfl, hb3⟩
 have HX3 := Lib.hid ((hb3.block _ (Array.getElem?_eq_some_iff.1 HX2.out).1).trans HX2.out)
 have HB3 := Lib.hid (HB2.out.trans (hb3.mono HB2.out.size))
 clear hb3 x0 x1 x2 x3
 have x0 := Lib.cell_of_heap HX3.out 0
 have x1 := Lib.cell_of_heap HX3.out 1
 have x2 := Lib.cell_of_heap HX3.out 2
 have x3 := Lib.cell_of_heap HX3.out 3
 simp only [List.getElem?_toArray, List.getElem?_cons_zero, List.getElem?_cons_succ] at x0 x1 x2 x3
 go_wp2_with fail
 refine (HC3.out _).mono ?_
 rintro e w4 ⟨rfl, hb4⟩
 have HX4 := Lib.hid ((hb4.block _ (Array.getElem?_eq_some_iff.1 HX3.out).1).trans HX3.out)
 have HB4 := Lib.hid (HB3.out.trans (hb4.mono HB3.out.size))
 clear hb4 x0 x1 x2 x3
 have x0 := Lib.cell_of_heap HX4.out 0
 have x1 := Lib.cell_of_heap HX4.out 1
 have x2 := Lib.cell_of_heap HX4.out 2
 have x3 := Lib.cell_of_heap HX4.out 3
 simp only [List.getElem?_toArray, List.getElem?_cons_zero, List.getElem?_cons_succ] at x0 x1 x2 x3
 go_wp2_with fail
 go_ret
 exact ⟨rfl, HB4.out⟩
end Go.Proofs.Ytngkneknopenmaa.qf6
end
