/- Texts of this claim, joined by a program of this session: the declarations that its theorem uses. -/
import Derived.Test.YtngkneknopenmaaZN10
import Derived.Test.YtngkneknopenmaaZN13
import Derived.WideKeyEntry
section
namespace Go.Proofs.Ytngkneknopenmaa.IntMap
open Go Go.Maps Go.RowKit
open Go.ChangeMaps (setBlock heap_setBlock_same heap_setBlock_other modify_eq_set)
open Go.WideElems (Fit findIdx_born findIdx_arr modify_last set_self)
theorem made_or_found {P : Program} {w : World} {t k e : TypeId} {H : Type} {R : Value → Option (DataW H × List MemPlace)} {b : Nat} {es : Array MapEntry} {clock : Nat} (K : Keyed P k) (ht : P.underlying t = some (.map k e)) {z : Value} (hz : ∀ u : World, (zeroValue e).run P u = .ok z u)
  (hb : w.heap[b]? = some (.map es clock)) (F : Fit P k R es clock) {key : Value} {kl : Lit} (hkey : keyOf P k key = some kl) :
  ∃ (v0 : Value) (st : Nat) (es1 : Array MapEntry) (c1 : Nat), (Instr.mapEntry t (.map (some b)) key).run P w = .ok (.tuple #[v0, goInt st]) (setBlock w b (.map es1 c1)) ∧
   ∀ (w2 : World) (val : Value), w2.heap[b]? = some (.map es1 c1) → ∃ es' c', (Instr.entryStore t (.map (some b)) (goInt st) val).run P w2 = .ok () (setBlock w2 b (.map es' c')) ∧ (Instr.mapUpdate t (.map (some b)) key val).run P w = .ok () (setBlock w b (.map es' c')) := by
 obtain ⟨s1, s2, _⟩ := F.stamped
 rcases K.find w hkey es.toList F.keys with ⟨h1, _⟩ | ⟨j, e0, h1, h2, h3⟩
 ·refine ⟨z, clock, es.push ⟨key, z, clock⟩, clock + 1, by simp [Instr.mapEntry, run_underlying ht, MapKept.run_getObj_map hb, K.check w false hkey, h1, hz, MapKept.run_setObj_map _ hb, Result.andThen, setBlock], fun w2 val hw2 => ⟨es.push ⟨key, val, clock⟩, clock + 1, ?_, by simp [Instr.mapUpdate, run_underlying ht, MapKept.run_getObj_map hb, K.check w false hkey, h1, MapKept.run_setObj_map _ hb, Result.andThen, setBlock]⟩⟩
  have hnd : ((es.push ⟨key, z, clock⟩).toList.map (·.born)).Nodup := by
   rw [Array.toList_push, List.map_append]
   refine List.nodup_append.2 ⟨s2, by simp, fun a ha c hc e1 => ?_⟩
   obtain ⟨x, hx, rfl⟩ := List.mem_map.1 ha
   have := s1 x hx
   simp at hc
   omega
  have hidx : (es.push ⟨key, z, clock⟩).findIdx? (fun e => ((e.born : Nat) : Int) == ((clock : Nat) : Int)) = some es.size := by
   rw [findIdx_arr]
   exact findIdx_born (e0 := ⟨key, z, clock⟩) hnd (by simp)
  have hmod : (es.push ⟨key, z, clock⟩).modify es.size (fun e => { e with val := val }) = es.push ⟨key, val, clock⟩ := by
   apply Array.ext'
   rw [Array.toList_modify, Array.toList_push, Array.toList_push, ← Array.length_toList, modify_last]
  simp [Instr.entryStore, MapKept.run_getObj_map hw2, asInt, asIntOf, goInt, hidx, hmod, MapKept.run_setObj_map _ hw2, Result.andThen, setBlock]
 ·have hj : es[j]? = some e0 := by simpa using h2
  have hsame : es.modify j (fun e => { e with key := key }) = es := by
   apply Array.ext'
   rw [Array.toList_modify, modify_eq_set _ _ _ _ h2, show ({ e0 with key := key } : MapEntry) = e0 by rw [← h3]]
   exact set_self _ _ _ h2
  refine ⟨e0.val, e0.born, es, clock, by simp [Instr.mapEntry, run_underlying ht, MapKept.run_getObj_map hb, K.check w false hkey, h1, hj, h3, K.stays w hkey, hsame, MapKept.run_setObj_map _ hb, Result.andThen, setBlock], fun w2 val hw2 => ⟨es.modify j (fun e' => { e' with key := key, val := val }), clock, ?_, by simp [Instr.mapUpdate, run_underlying ht, MapKept.run_getObj_map hb, K.check w false hkey, h1, hj, h3, K.stays w hkey, MapKept.run_setObj_map _ hb, Result.andThen, setBlock]⟩⟩
  have hidx : es.findIdx? (fun e => ((e.born : Nat) : Int) == ((e0.born : Nat) : Int)) = some j := by
   rw [findIdx_arr]
   exact findIdx_born s2 h2
  have hmod : es.modify j (fun e => { e with val := val }) = es.modify j (fun e' => { e' with key := key, val := val }) := by
   apply Array.ext'
   rw [Array.toList_modify, Array.toList_modify, modify_eq_set _ _ _ _ h2, modify_eq_set _ _ _ _ h2, ← h3]
  simp [Instr.entryStore, MapKept.run_getObj_map hw2, asInt, asIntOf, goInt, hidx, hmod, MapKept.run_setObj_map _ hw2, Result.andThen, setBlock]
theorem setBlock_twice (w : World) (b : Nat) (o o' : Obj) : setBlock (setBlock w b o) b o' = setBlock w b o' := by
 unfold setBlock
 simp
theorem setBlock_grown {w : World} {b : Nat} {es : Array MapEntry} {c : Nat} (hb : w.heap[b]? = some (.map es c)) (es' : Array MapEntry) (c' : Nat) : w.grownBy (setBlock w b (.map es' c')) (some b) :=
 ⟨rfl, rfl, rfl, by simp [setBlock], fun i _ hi => heap_setBlock_other hb _ (fun e => hi (by rw [e]))⟩
theorem IM.entry {P : Program} {w : World} {t k e : TypeId} {b s : Nat} {f : Int → Option Value} (h : IM P k w b f s) (ht : P.underlying t = some (.map k e)) (hk : P.underlying k = some (.int .i64)) {z : Value} (hz : ∀ u : World, (zeroValue e).run P u = .ok z u) (hs : s < maxLen) {x : Int} (hx : (Lit.int .i64 x).wf = true) (val : Value) :
  ∃ (v0 : Value) (st : Nat) (w1 w2 : World), (Instr.mapEntry t (.map (some b)) (.int .i64 x)).run P w = .ok (.tuple #[v0, goInt st]) w1 ∧ w.grownBy w1 (some b) ∧ w1.heap.size = w.heap.size ∧
   (Instr.entryStore t (.map (some b)) (goInt st) val).run P w1 = .ok () w2 ∧ w.grownBy w2 (some b) ∧ w2.heap.size = w.heap.size ∧ IM P k w2 b (upd f x val) (if (f x).isSome then s else s + 1) := by
 obtain ⟨w', hrun, him, hg⟩ := h.store ht hk hs hx val
 obtain ⟨D, ⟨es, clock, hb, F, hs', hD⟩, hsz, ha⟩ := h
 obtain ⟨v0, st, es1, c1, h1, h2⟩ := made_or_found (int_keyed hk) ht hz hb F (key_of hk hx)
 obtain ⟨es', c', h3, h4⟩ := h2 (setBlock w b (.map es1 c1)) val (heap_setBlock_same hb _)
 rw [setBlock_twice] at h3
 rw [hrun] at h4
 cases h4
 exact ⟨v0, st, _, _, h1, setBlock_grown hb _ _, by simp [setBlock], h3, hg, by simp [setBlock], him⟩
end Go.Proofs.Ytngkneknopenmaa.IntMap
end
section
namespace Go.Proofs.Ytngkneknopenmaa.Hist
open Go Go.RowKit Go.Proofs.Ytngkneknopenmaa.Row3 Go.Proofs.Ytngkneknopenmaa.IntMap
def intsV (l : List Int) : List Value := l.map (Value.int .i64)
theorem own_ne {w : World} {base n size p : Nat} {e e' : TypeId} {v : Value} {xs : List Value} {cs : Array Value} {fr : Nat × Nat} (h : w.ownsRow base e size v n xs) (hp : w.heap[p]? = some (.cells cs e' fr)) (hne : e ≠ e') : v.ownBlock ≠ some p := by
 rcases h.2 with ⟨rfl, _⟩ | ⟨g, cp, cur, rfl, _, hh, _⟩
 ·simp [Value.ownBlock]
 ·intro e2
  simp [Value.ownBlock] at e2
  subst e2
  rw [hh] at hp
  simp at hp
  exact hne hp.2.1
theorem own_ne_map {w : World} {base n size b s : Nat} {e : TypeId} {v : Value} {xs : List Value} {f : Int → Option Value} (h : w.ownsRow base e size v n xs) (hm : IM Try.prog 3 w b f s) : v.ownBlock ≠ some b := by
 rcases h.2 with ⟨rfl, _⟩ | ⟨g, cp, cur, rfl, _, hh, _⟩
 ·simp [Value.ownBlock]
 ·intro e2
  simp [Value.ownBlock] at e2
  subst e2
  obtain ⟨es, cl, h2⟩ := im_map hm
  rw [hh] at h2
  cases h2
theorem kept_of {w w' : World} {base n size : Nat} {e : TypeId} {v : Value} {xs : List Value} {row : Option Nat} (h : w.ownsRow base e size v n xs) (hg : w.grownBy w' row) (hne : ∀ k, v.ownBlock = some k → row ≠ some k) : w'.ownsRow base e size v n xs :=
 h.kept hg (by
  cases hu : v.ownBlock with
  | none => exact .inl rfl
  | some k => exact .inr (fun e => hne k hu e.symm))
theorem SaysAll.ne_of {w : World} {base : Nat} {rows : List TR} {h : List T4} (hs : SaysAll w base rows h) : ∀ r ∈ rows, ∃ cs, w.heap[r.g]? = some (.cells cs 51 (0, 0)) := by
 intro r hr
 obtain ⟨i, hi⟩ := List.mem_iff_getElem?.1 hr
 have hil := (List.getElem?_eq_some_iff.1 hi).1
 obtain ⟨_, _, _, _, _, _, rst, g, _⟩ := hs.2.1 i r _ hi (List.getElem?_eq_getElem (by rw [← hs.1]; exact hil))
 exact ⟨_, g⟩
structure AS (w0 : World) (base bk bs bv : Nat) (W : World) (y : List T4) (rows : List TR) (xo xw xi : Value) (lw li : List Int) (fK fS fV : Int → Option Int) (sK sS sV : Nat) : Prop where
 out : H2 W base xo rows y
 was : W.ownsRow base 3 1 xw lw.length (intsV lw)
 is : W.ownsRow base 3 1 xi li.length (intsV li)
 ap : ∀ k, xw.ownBlock = some k → xi.ownBlock ≠ some k
 K : IM Try.prog 3 W bk (nI fK) sK
 S : IM Try.prog 3 W bs (nI fS) sS
 V : IM Try.prog 3 W bv (nI fV) sV
 lt : bk < base ∧ bs < base ∧ bv < base
 ne : bk ≠ bs ∧ bk ≠ bv ∧ bs ≠ bv
 lo : w0.heap.size ≤ bk ∧ w0.heap.size ≤ bs ∧ w0.heap.size ≤ bv
 bel : Below w0.heap.size w0 W
 bz : base ≤ W.heap.size
variable {w0 W W' : World} {base bk bs bv sK sS sV : Nat} {y : List T4} {rows : List TR} {xo xw xi : Value} {lw li : List Int} {fK fS fV : Int → Option Int}
theorem AS.base_lo (a : AS w0 base bk bs bv W y rows xo xw xi lw li fK fS fV sK sS sV) : w0.heap.size ≤ base := by have := a.lt.1; have := a.lo.1; omega
theorem AS.below (a : AS w0 base bk bs bv W y rows xo xw xi lw li fK fS fV sK sS sV) (hb : Below W.heap.size W W') : AS w0 base bk bs bv W' y rows xo xw xi lw li fK fS fV sK sS sV :=
 ⟨a.out.below hb, kept_of (row := none) a.was (below_grown hb) (by simp), kept_of (row := none) a.is (below_grown hb) (by simp), a.ap, a.K.below hb, a.S.below hb, a.V.below hb, a.lt, a.ne, a.lo,
  a.bel.trans (hb.mono (a.bel.size)), Nat.le_trans a.bz hb.size⟩
theorem AS.append_was (a : AS w0 base bk bs bv W y rows xo xw xi lw li fK fS fV sK sS sV) {z : Nat} {b c : Int} (hz : W.heap[z]? = some (.cells #[.int .i64 b, .int .i64 c] 3 (0, 0))) (hl : lw.length ≤ 100000) :
  ∃ v' W', (Builtin.append_ #[29, 29] 29 #[xw, .slice (some ⟨z, 0, none⟩) 2 2]).run Try.prog W = .ok v' W' ∧ AS w0 base bk bs bv W' y rows xo v' xi (lw ++ [b, c]) li fK fS fV sK sS sV ∧ W.grownBy W' xw.ownBlock := by
 obtain ⟨i0, hii, hz0, hz1, hz2⟩ := info_parts intinfoN
 obtain ⟨v', W', hr, hown, hg, hnil, hat⟩ := run_append_own_at (P := Try.prog) W base 29 29 3 i0 (.int .i64 0) 1 8 Try.underlying29 hii hz0 hz1 hz2 rfl (by decide) xw lw.length _ a.was ⟨z, 0, none⟩ 2 2 [.int .i64 b, .int .i64 c] rfl (fun j u hj => by
   rw [add_zero, Lib.cell_of_heap hz]
   simpa using hj) (fun u hu => by simp at hu; rcases hu with rfl | rfl <;> rfl) (by unfold maxLen; omega) (by omega) a.bz
 have hlo : ∀ k, xw.ownBlock = some k → base ≤ k := fun k hk => (a.was.lt k hk).1
 refine ⟨v', W', hr, ⟨⟨kept_of a.out.1 hg (fun k hk e => ?_), a.out.2.grown hg (fun r hr e => ?_)⟩, (show _ from by have e2 : (lw ++ [b, c]).length = lw.length + 2 := (by simp); rw [e2]; unfold intsV; rw [List.map_append]; exact hown),
  kept_of a.is hg (fun k hk e => a.ap k e hk), fun k hk e => ?_, a.K.kept hg (own_ne_map a.was a.K).symm, a.S.kept hg (own_ne_map a.was a.S).symm, a.V.kept hg (own_ne_map a.was a.V).symm, a.lt, a.ne, a.lo,
  a.bel.grown hg a.bel.size (fun k hk => Nat.le_trans a.base_lo (hlo k hk)), Nat.le_trans a.bz hg.size⟩, hg⟩
 ·rcases a.out.1.2 with ⟨h, _⟩ | ⟨g, cp, cur, h, _, hh, _⟩
  ·rw [h] at hk; simp [Value.ownBlock] at hk
  ·rw [h] at hk
   simp [Value.ownBlock] at hk
   subst hk
   exact own_ne a.was hh (by decide) e
 ·obtain ⟨cs, hc⟩ := a.out.2.ne_of r hr
  exact own_ne a.was hc (by decide) e.symm
 ·rcases hat with h | h
  ·rw [h] at hk; exact a.ap k hk e
  ·rw [h] at hk
   cases hk
   have := (a.is.lt _ e).2
   omega
theorem AS.append_is (a : AS w0 base bk bs bv W y rows xo xw xi lw li fK fS fV sK sS sV) {z : Nat} {b c : Int} (hz : W.heap[z]? = some (.cells #[.int .i64 b, .int .i64 c] 3 (0, 0))) (hl : li.length ≤ 100000) :
  ∃ v' W', (Builtin.append_ #[29, 29] 29 #[xi, .slice (some ⟨z, 0, none⟩) 2 2]).run Try.prog W = .ok v' W' ∧ AS w0 base bk bs bv W' y rows xo xw v' lw (li ++ [b, c]) fK fS fV sK sS sV ∧ W.grownBy W' xi.ownBlock := by
 have a2 : AS w0 base bk bs bv W y rows xo xi xw li lw fK fS fV sK sS sV := ⟨a.out, a.is, a.was, fun k h1 h2 => a.ap k h2 h1, a.K, a.S, a.V, a.lt, a.ne, a.lo, a.bel, a.bz⟩
 obtain ⟨v', W', hr, b, hg⟩ := a2.append_was hz hl
 exact ⟨v', W', hr, ⟨b.out, b.is, b.was, fun k h1 h2 => b.ap k h2 h1, b.K, b.S, b.V, b.lt, b.ne, b.lo, b.bel, b.bz⟩, hg⟩
theorem AS.map_apart (a : AS w0 base bk bs bv W y rows xo xw xi lw li fK fS fV sK sS sV) {b : Nat} (hlo : w0.heap.size ≤ b) (hm : ∃ f s, IM Try.prog 3 W b f s) (hg : W.grownBy W' (some b)) :
  H2 W' base xo rows y ∧ W'.ownsRow base 3 1 xw lw.length (intsV lw) ∧ W'.ownsRow base 3 1 xi li.length (intsV li) ∧ Below w0.heap.size w0 W' := by
 obtain ⟨f, s, hm⟩ := hm
 refine ⟨⟨kept_of a.out.1 hg (fun k hk e => ?_), a.out.2.grown hg (fun r hr e => ?_)⟩, kept_of a.was hg (fun k hk e => ?_), kept_of a.is hg (fun k hk e => ?_), a.bel.grown hg a.bel.size (fun k hk => by cases hk; exact hlo)⟩
 ·injection e with e; subst e; exact own_ne_map a.out.1 hm hk
 ·obtain ⟨cs, hc⟩ := a.out.2.ne_of r hr
  injection e with e
  obtain ⟨es, cl, h2⟩ := im_map hm
  rw [← e, hc] at h2
  cases h2
 ·injection e with e; subst e; exact own_ne_map a.was hm hk
 ·injection e with e; subst e; exact own_ne_map a.is hm hk
theorem AS.putS (a : AS w0 base bk bs bv W y rows xo xw xi lw li fK fS fV sK sS sV) {f' : Int → Option Int} {s' : Nat} (hg : W.grownBy W' (some bs)) (hm : IM Try.prog 3 W' bs (nI f') s') : AS w0 base bk bs bv W' y rows xo xw xi lw li fK f' fV sK s' sV := by
 obtain ⟨h1, h2, h3, h4⟩ := a.map_apart a.lo.2.1 ⟨_, _, a.S⟩ hg
 exact ⟨h1, h2, h3, a.ap, a.K.kept hg (fun e => a.ne.1 (by injection e)), hm, a.V.kept hg (fun e => a.ne.2.2 (by injection e with e; exact e.symm)), a.lt, a.ne, a.lo, h4, Nat.le_trans a.bz hg.size⟩
theorem AS.putK (a : AS w0 base bk bs bv W y rows xo xw xi lw li fK fS fV sK sS sV) {f' : Int → Option Int} {s' : Nat} (hg : W.grownBy W' (some bk)) (hm : IM Try.prog 3 W' bk (nI f') s') : AS w0 base bk bs bv W' y rows xo xw xi lw li f' fS fV s' sS sV := by
 obtain ⟨h1, h2, h3, h4⟩ := a.map_apart a.lo.1 ⟨_, _, a.K⟩ hg
 exact ⟨h1, h2, h3, a.ap, hm, a.S.kept hg (fun e => a.ne.1 (by injection e with e; exact e.symm)), a.V.kept hg (fun e => a.ne.2.1 (by injection e with e; exact e.symm)), a.lt, a.ne, a.lo, h4, Nat.le_trans a.bz hg.size⟩
theorem AS.putV (a : AS w0 base bk bs bv W y rows xo xw xi lw li fK fS fV sK sS sV) {f' : Int → Option Int} {s' : Nat} (hg : W.grownBy W' (some bv)) (hm : IM Try.prog 3 W' bv (nI f') s') : AS w0 base bk bs bv W' y rows xo xw xi lw li fK fS f' sK sS s' := by
 obtain ⟨h1, h2, h3, h4⟩ := a.map_apart a.lo.2.2 ⟨_, _, a.V⟩ hg
 exact ⟨h1, h2, h3, a.ap, a.K.kept hg (fun e => a.ne.2.1 (by injection e)), a.S.kept hg (fun e => a.ne.2.2 (by injection e)), hm, a.lt, a.ne, a.lo, h4, Nat.le_trans a.bz hg.size⟩
theorem AS.append_out (a : AS w0 base bk bs bv W y rows xo xw xi lw li fK fS fV sK sS sV) {z : Nat} {r : TR} {u : T4} (hz : W.heap[z]? = some (.cells #[.int .i64 r.s, .int .i64 r.b, .int .i64 r.c, .slice (some ⟨r.g, 0, none⟩) r.n r.cp] 55 (0, 0))) (hs : Says W base r u) (hf : ∀ x ∈ rows, x.g ≠ r.g) (hl : rows.length ≤ 100000) :
  ∃ v' W', (Builtin.append_ #[22, 22] 22 #[xo, .slice (some ⟨z, 0, none⟩) 1 1]).run Try.prog W = .ok v' W' ∧ AS w0 base bk bs bv W' (y ++ [u]) (rows ++ [r]) v' xw xi lw li fK fS fV sK sS sV ∧ W.grownBy W' xo.ownBlock ∧ Says W' base r u := by
 obtain ⟨i0, hii, hz0, hz1, hz2⟩ := info_parts txninfo
 obtain ⟨v', W', hr, hown, hg, hnil, hat⟩ := run_append_own_at (P := Try.prog) W base 22 22 55 i0 (.agg #[.int .i64 0, .int .i64 0, .int .i64 0, .slice none 0 0]) 4 48 Try.underlying22 hii hz0 hz1 hz2 rfl (by decide) xo rows.length _ a.out.1 ⟨z, 0, none⟩ 1 1 (TR.cells r) rfl (fun j u hj => by
   rw [add_zero, Lib.cell_of_heap hz]
   simpa [TR.cells] using hj) (fun u hu => by simp [TR.cells] at hu; rcases hu with rfl | rfl | rfl | rfl <;> rfl) (by unfold maxLen; omega) (by omega) a.bz
 have hsr : ∀ {g : Nat} {cs : Array Value}, W.heap[g]? = some (.cells cs 51 (0, 0)) → xo.ownBlock ≠ some g := fun h => own_ne a.out.1 h (by decide)
 have hs2 : Says W' base r u := by
  refine hs.move (hg.block _ ?_ ?_)
  ·obtain ⟨_, _, _, _, _, _, h⟩ := hs; exact h.lt
  ·obtain ⟨_, _, _, _, _, _, rst, g, _⟩ := hs
   exact fun e => hsr g e.symm
 refine ⟨v', W', hr, ⟨⟨by rw [List.length_append]; rw [← flatT_snoc] at hown; exact hown, (a.out.2.grown hg (fun x hx e => ?_)).snoc hs2 hf⟩, kept_of a.was hg (fun k hk e => ?_), kept_of a.is hg (fun k hk e => ?_), a.ap, a.K.kept hg (own_ne_map a.out.1 a.K).symm, a.S.kept hg (own_ne_map a.out.1 a.S).symm, a.V.kept hg (own_ne_map a.out.1 a.V).symm, a.lt, a.ne, a.lo,
  a.bel.grown hg a.bel.size (fun k hk => Nat.le_trans a.base_lo (a.out.1.lt k hk).1), Nat.le_trans a.bz hg.size⟩, hg, hs2⟩
 ·obtain ⟨cs, hc⟩ := a.out.2.ne_of x hx
  exact hsr hc e.symm
 ·rcases a.was.2 with ⟨h, _⟩ | ⟨g, cp, cur, h, _, hh, _⟩
  ·rw [h] at hk; simp [Value.ownBlock] at hk
  ·rw [h] at hk
   simp [Value.ownBlock] at hk
   subst hk
   exact own_ne a.out.1 hh (by decide) e
 ·rcases a.is.2 with ⟨h, _⟩ | ⟨g, cp, cur, h, _, hh, _⟩
  ·rw [h] at hk; simp [Value.ownBlock] at hk
  ·rw [h] at hk
   simp [Value.ownBlock] at hk
   subst hk
   exact own_ne a.out.1 hh (by decide) e
end Go.Proofs.Ytngkneknopenmaa.Hist
end
section
namespace Go.Proofs.Ytngkneknopenmaa.Hist
open Go Go.RowKit Go.Proofs.Ytngkneknopenmaa.Row3 Go.Proofs.Ytngkneknopenmaa.IntMap
def KeyOk (f : Int → Option Int) (l : List Int) (g : Int → Int) : Prop := (∀ x ∈ l, f x = some (g x)) ∧ WfM f
theorem KeyOk.nil (g : Int → Int) : KeyOk (fun _ => none) [] g := ⟨fun x h => (by cases h), fun x y h => (by cases h)⟩
theorem KeyOk.put {f : Int → Option Int} {l : List Int} {g : Int → Int} (h : KeyOk f l g) {x : Int} (hw : Wf (g x)) : KeyOk (fun y => if y = x then some (g x) else f y) (l ++ [x]) g := by
 refine ⟨fun y hy => ?_, fun a b hab => ?_⟩
 ·dsimp only
  by_cases e : y = x
  ·rw [if_pos e, e]
  ·rw [if_neg e]
   rcases List.mem_append.1 hy with hy | hy
   ·exact h.1 y hy
   ·simp at hy; exact absurd hy e
 ·dsimp only at hab
  by_cases e : a = x
  ·rw [if_pos e] at hab; cases hab; exact hw
  ·rw [if_neg e] at hab; exact h.2 a b hab
theorem KeyOk.inj {f : Int → Option Int} {l : List Int} {g : Int → Int} (h : KeyOk f l g) (hw : ∀ x ∈ l, Wf x) (hi : InjM f) : InjL g l :=
 fun x hx y hy e => hi x y (g x) (hw x hx) (hw y hy) (h.1 x hx) (by rw [h.1 y hy, e])
theorem keysL_snoc (d : List T4) (t : T4) : qa4 (d ++ [t]) = qa4 d ++ t.ops.map (·.k) := by simp [qa4, qb5]
theorem allV_snoc (d : List T4) (t : T4) : allV (d ++ [t]) = allV d ++ t.ops.map (·.v) := by simp [allV]
theorem sessL_snoc (d : List T4) (t : T4) : qbk (d ++ [t]) = qbk d ++ [t.s] := by simp [qbk]
theorem kept_mono {ρ : Ren} {d : List T4} (h : Kept (qap d) ((qap d).map ρ.R)) : ∀ x ∈ qap d, ∀ y ∈ qap d, (x < y ↔ ρ.R x < ρ.R y) := by
 intro x hx y hy
 obtain ⟨i, hi⟩ := List.mem_iff_getElem?.1 hx
 obtain ⟨k, hk⟩ := List.mem_iff_getElem?.1 hy
 exact h i k x y _ _ hi hk (by rw [List.getElem?_map, hi]; rfl) (by rw [List.getElem?_map, hk]; rfl)
theorem wfTx_of {h : List T4} (hm : MayP h) {t : T4} (ht : t ∈ h) : WfTx t := by
 obtain ⟨a1, a2, a3, a4, a5, a6, a7, a8⟩ := (rightT_iff t).1 (hm.1 t ht)
 refine ⟨wf64 (by omega) (by omega), wf64 (by omega) (by omega), wf64 (by omega) (by omega), fun o ho => ?_⟩
 obtain ⟨b1, b2, b3, b4, _⟩ := (rightO_iff o).1 (a8 o ho)
 exact ⟨wf64 (by omega) (by omega), wf64 (by omega) (by omega)⟩
theorem pick_mem {h : List T4} {ix : List Nat} (hb : ∀ i ∈ ix, i < h.length) {t : T4} (ht : t ∈ pick h ix) : t ∈ h := by
 unfold pick at ht
 obtain ⟨i, hi, rfl⟩ := List.mem_map.1 ht
 rw [List.getD_eq_getElem?_getD, List.getElem?_eq_getElem (hb i hi)]
 exact List.getElem_mem _
def Applied (h : List T4) (w' : World) (v : Value) : Prop := ∃ (y : List T4) (A' : Option Addr) (c' : Nat), v = .slice A' y.length c' ∧ y.length ≤ c' ∧ RdT w' A' y ∧ qa3 y = 0 ∧ qbg y = qbg h
def PostA (h : List T4) (e : Ending) (w' : World) : Prop := ∃ (v : Value) (r : Bool), e = .returned (.tuple #[v, .bool r]) ∧ (r = true → Applied h w' v)
theorem applied_of {h : List T4} {ix : List Nat} {ρ : Ren} {fK fS fV : Int → Option Int} (hc : qa3 h = 0) (hn : ix.Nodup) (hb : ∀ i ∈ ix, i < h.length) (hl : ix.length = h.length)
  (kK : KeyOk fK (qa4 (pick h ix)) ρ.K) (kS : KeyOk fS (qbk (pick h ix)) ρ.S) (kV : KeyOk fV (allV (pick h ix)) (valR ρ)) (iK : InjM fK) (iS : InjM fS) (iV : InjM fV)
  (hk : Kept (qap (pick h ix)) ((qap (pick h ix)).map ρ.R)) (hy : qa3 ((pick h ix).map (renT ρ)) = 0) : qbg ((pick h ix).map (renT ρ)) = qbg h := by
 have hm := (check_zero' hc).2.2
 have hw : ∀ t ∈ pick h ix, WfTx t := fun t ht => wfTx_of hm (pick_mem hb ht)
 refine applied hm (pick_perm (perm_range hn hb hl)) (kS.inj (fun x hx => ?_) iS) (kK.inj (fun x hx => ?_) iK) (kV.inj (fun x hx => ?_) iV) (kept_mono hk) hy
 ·obtain ⟨t, ht, rfl⟩ := mem_sessL.1 hx; exact (hw t ht).1
 ·obtain ⟨t, ht, o, ho, rfl⟩ := mem_keysL.1 hx; exact ((hw t ht).2.2.2 o ho).1
 ·obtain ⟨t, ht, o, ho, rfl⟩ := mem_allV.1 hx; exact ((hw t ht).2.2.2 o ho).2
theorem own_rdI {w : World} {base : Nat} {v : Value} {l : List Int} (h : w.ownsRow base 3 1 v l.length (intsV l)) : ∃ A c, v = .slice A l.length c ∧ RdI w A l := by
 rcases h.2 with ⟨rfl, h0⟩ | ⟨g, cp, cur, rfl, hg, hh, h1, h2, h3, h4⟩
 ·exact ⟨none, 0, by rw [h0], fun hp => by omega⟩
 ·refine ⟨_, cp, rfl, fun hp => ⟨_, rfl, fun i x hx => ?_⟩⟩
  have hi := (List.getElem?_eq_some_iff.1 hx).1
  rw [add_zero, h.cellAt i (by omega)]
  unfold intsV
  rw [List.getElem?_map, hx]
  rfl
end Go.Proofs.Ytngkneknopenmaa.Hist
end
section
namespace Go.Proofs.Ytngkneknopenmaa.Hist
set_option linter.unusedSimpArgs false
open Go.TailRegion (pu ta sa sz ss wpAnyT_next qa5)
open Go Go.RowKit Go.Proofs.Ytngkneknopenmaa.Row3 Go.Proofs.Ytngkneknopenmaa.IntMap
def TC (p : Nat) (adr : Addr) (A3 : Option Addr) (no c3 bK bS bV bR : Nat) (sl : Value) (t : T4) (W : World) : Prop :=
 W.cell? adr = some (.int .i64 t.s) ∧ W.cell? ⟨adr.block, adr.off + 1, none⟩ = some (.int .i64 t.b) ∧ W.cell? ⟨adr.block, adr.off + 2, none⟩ = some (.int .i64 t.c) ∧ W.cell? ⟨adr.block, adr.off + 3, none⟩ = some (.slice A3 no c3) ∧
  W.cell? ⟨p, 0, none⟩ = some (.map (some bK)) ∧ W.cell? ⟨p, 1, none⟩ = some (.map (some bS)) ∧ W.cell? ⟨p, 2, none⟩ = some (.map (some bV)) ∧ W.cell? ⟨p, 3, none⟩ = some (.map (some bR)) ∧ W.cell? ⟨p, 4, none⟩ = some sl
theorem ow_ne {W : World} {g cp p : Nat} {ops : List O3} {cs : Array Value} {e' : TypeId} {fr : Nat × Nat} (h : OW W g cp ops) (hp : W.heap[p]? = some (.cells cs e' fr)) (hne : 51 ≠ e') : g ≠ p := by
 rintro rfl
 obtain ⟨rest, h, _⟩ := h
 have h' : W.heap[g]? = some (.cells (flat ops ++ rest).toArray 51 (0, 0)) := h
 rw [hp] at h'
 simp at h'
 exact hne h'.2.1.symm
def TD (p q : Nat) (b c b' c' : Int) (W : World) : Prop := W.cell? ⟨p, 1, none⟩ = some (.int .i64 b) ∧ W.cell? ⟨p, 2, none⟩ = some (.int .i64 c) ∧ W.cell? ⟨q, 1, none⟩ = some (.int .i64 b') ∧ W.cell? ⟨q, 2, none⟩ = some (.int .i64 c')
theorem qcn {p q : Nat} {s b c s' b' c' : Int} {v v' : Value} {W : World} (h : W.heap[p]? = some (.cells #[.int .i64 s, .int .i64 b, .int .i64 c, v] 55 (0, 0))) (k : W.heap[q]? = some (.cells #[.int .i64 s', .int .i64 b', .int .i64 c', v'] 55 (0, 0))) : TD p q b c b' c' W := by
 have x1 := Lib.cell_of_heap h 1
 have x2 := Lib.cell_of_heap h 2
 have y1 := Lib.cell_of_heap k 1
 have y2 := Lib.cell_of_heap k 2
 simp only [List.getElem?_toArray, List.getElem?_cons_zero, List.getElem?_cons_succ] at x1 x2 y1 y2
 exact ⟨x1, x2, y1, y2⟩
theorem ow_kept {W W' : World} {g cp base n : Nat} {ops : List O3} {v : Value} {xs : List Value} (h : OW W g cp ops) (ho : W.ownsRow base 3 1 v n xs) (hg : W.grownBy W' v.ownBlock) : OW W' g cp ops := by
 refine h.move (hg.block g h.lt (fun e => ?_))
 obtain ⟨rest, h, _⟩ := h
 have h' : W.heap[g]? = some (.cells (flat ops ++ rest).toArray 51 (0, 0)) := h
 exact own_ne ho h' (by decide) e.symm
theorem qbr {W : World} {b s p : Nat} {f : Int → Option Value} {cs : Array Value} {ty : TypeId} {fr : Nat × Nat} (hm : IM Try.prog 3 W b f s) (hp : W.heap[p]? = some (.cells cs ty fr)) : some p ≠ some b := by
 intro e
 injection e with e
 subst e
 obtain ⟨es, cl, h⟩ := im_map hm
 rw [hp] at h
 cases h
theorem ow_cells {W : World} {g cp : Nat} {ops : List O3} (h : OW W g cp ops) : ∃ cs, W.heap[g]? = some (.cells cs 51 (0, 0)) := by
 obtain ⟨rest, h, _⟩ := h
 exact ⟨_, h⟩
theorem ow_im {W W' : World} {g cp b s : Nat} {ops : List O3} {f : Int → Option Value} (h : OW W g cp ops) (hm : IM Try.prog 3 W b f s) (hg : W.grownBy W' (some b)) : OW W' g cp ops := by
 obtain ⟨cs, hc⟩ := ow_cells h
 exact h.move (hg.block g h.lt (qbr hm hc))
def TE (pO p g j no cp : Nat) (o : O3) (kk vv : Int) (W : World) : Prop := W.cell? ⟨pO, 1, none⟩ = some (.int .i64 o.k) ∧ W.cell? ⟨pO, 2, none⟩ = some (.int .i64 o.v) ∧ W.cell? ⟨p, 3, none⟩ = some (.slice (some ⟨g, 0, none⟩) no cp) ∧ W.cell? ⟨g, j * 3 + 1, none⟩ = some (.int .i64 kk) ∧ W.cell? ⟨g, j * 3 + 2, none⟩ = some (.int .i64 vv)
theorem te_of {pO p g j no cp : Nat} {o o' : O3} {ops : List O3} {s b c : Int} {W : World} (hO : W.heap[pO]? = some (.cells #[.bool o.w, .int .i64 o.k, .int .i64 o.v] 51 (0, 0))) (hp : W.heap[p]? = some (.cells #[.int .i64 s, .int .i64 b, .int .i64 c, .slice (some ⟨g, 0, none⟩) no cp] 55 (0, 0))) (ho : OW W g cp ops) (hj : ops[j]? = some o') : TE pO p g j no cp o o'.k o'.v W := by
 have x1 := Lib.cell_of_heap hO 1
 have x2 := Lib.cell_of_heap hO 2
 have y3 := Lib.cell_of_heap hp 3
 simp only [List.getElem?_toArray, List.getElem?_cons_zero, List.getElem?_cons_succ] at x1 x2 y3
 obtain ⟨rest, h, _⟩ := ho
 obtain ⟨_, z1, z2⟩ := h.cells j o' hj
 exact ⟨x1, x2, y3, z1, z2⟩
set_option maxHeartbeats 16000000 in
set_option maxRecDepth 100000 in
theorem apply_calls {bK bS bV bR cap m c4 : Nat} {A A4 : Option Addr} {h : List T4} {lO : List Int} {gK gS gV gR : Int → Option Int} {w : World} (hcap : h.length ≤ cap) (hc : qa3 h = 0) (hr : RdT w A h) (hM : Maps4 w bK bS bV bR gK gS gV gR) (hm : lO.length = m) (hmc : m ≤ c4) (hm2 : m ≤ 100000) (hO : RdI w A4 lO) :
  Calls Try.prog 19 #[.slice A h.length cap, .agg #[.map (some bK), .map (some bS), .map (some bV), .map (some bR), .slice A4 m c4]] w fun e w' => PostA h e w' ∧ Below w.heap.size w w' := by
 obtain ⟨n, hn⟩ : ∃ n, h.length = n := ⟨_, rfl⟩
 have hz := check_zero' hc
 have hn64 : n ≤ 64 := by rw [← hn]; exact hz.1
 have HN := Lib.hid hn
 have HC := Lib.hid hc
 have HZ := Lib.hid hz
 have HCAP := Lib.hid hcap
 have HR := Lib.hid hr
 have hbe0 := (Below.refl w.heap.size w).alloc (Nat.le_refl _) (.cells #[.map (some bK), .map (some bS), .map (some bV), .map (some bR), .slice A4 m c4] 36)
 have hbx := alloc_at w (.cells #[.map (some bK), .map (some bS), .map (some bV), .map (some bR), .slice A4 m c4] 36)
 obtain ⟨W, hW⟩ : ∃ W, w.alloc (.cells #[.map (some bK), .map (some bS), .map (some bV), .map (some bR), .slice A4 m c4] 36) = W := ⟨_, rfl⟩
 rw [hW] at hbe0 hbx
 have HORD := Lib.hid (order_calls (bK := bK) (bS := bS) (bV := bV) (bR := bR) (n := n) hm hmc hm2 hn64 (hO.below hbe0))
 have HM := Lib.hid (hM.below hbe0)
 have HB := Lib.hid hbe0
 have HBX := Lib.hid hbx
 rw [hn]
 have x0 := Lib.cell_of_heap hbx 0
 have x1 := Lib.cell_of_heap hbx 1
 have x2 := Lib.cell_of_heap hbx 2
 have x3 := Lib.cell_of_heap hbx 3
 have x4 := Lib.cell_of_heap hbx 4
 simp only [List.getElem?_toArray, List.getElem?_cons_zero, List.getElem?_cons_succ] at x0 x1 x2 x3 x4
 clear hn hz hc hcap hr hbe0 hbx hM hm hO
 go_enter Try.func19, Try.ntmps19
 go_upto_region 2 with (go_at_call 46; (with_reducible refine HORD.out.mono ?_); rintro e w1 ⟨⟨v, r, rfl, ho⟩, hb1⟩)
 clear x0 x1 x2 x3 x4 HORD
 have HB1 := Lib.hid hb1
 cases r with
 | false =>
  clear ho hb1
  go_wp2_with fail
  go_ret2
  exact ⟨⟨_, false, rfl, fun h => by cases h⟩, HB.out.trans (HB1.out.mono HB.out.size)⟩
 | true =>
  obtain ⟨ix, A', c', rfl, hic, hrd, hnd, hlt, hlen⟩ := ho rfl
  have HIX := Lib.hid (show ix.Nodup ∧ (∀ i ∈ ix, i < n) ∧ ix.length = n ∧ ix.length ≤ c' ∧ RdI w1 A' (castL ix) from ⟨hnd, hlt, hlen, hic, hrd⟩)
  have HB1' := Lib.hid hb1
  have HW1 := Lib.hid (HB.out.trans (hb1.mono HB.out.size))
  have hck := check_calls A cap h HCAP.out (by have := HZ.out.1; omega) (by have := HZ.out.2.1; omega) w1 (HR.out.below HW1.out)
  rw [HN.out, HC.out] at hck
  have HCK := Lib.hid hck
  clear hck
  rw [hlen]
  clear ho hnd hlt hlen hic hrd hb1
  have hmm := @run_makeMap Try.prog
  go_wp2_with (go_at_call 32; (with_reducible refine HCK.out.mono ?_); rintro e w2 ⟨rfl, hb2⟩)
  clear hmm HCK HB1
  have HW2 := Lib.hid (HW1.out.trans (hb2.mono HW1.out.size))
  obtain ⟨bk, hbk⟩ : ∃ bk, w2.heap.size = bk := ⟨_, rfl⟩
  obtain ⟨W3, hW3⟩ : ∃ W3, ((w2.alloc (.map #[] 0)).alloc (.map #[] 0)).alloc (.map #[] 0) = W3 := ⟨_, rfl⟩
  have hs3 : W3.heap.size = bk + 3 := by rw [← hW3, ← hbk]; simp
  have hb3 : Below w2.heap.size w2 W3 := by rw [← hW3]; exact (((Below.refl _ _).alloc (Nat.le_refl _) _).alloc (by simp) _).alloc (by simp; omega) _
  have him1 : IM Try.prog 3 W3 bk (nI fun _ => none) 0 := by rw [← hW3, ← hbk]; exact ((IM.made w2 _ _).alloc _).alloc _
  have him2 : IM Try.prog 3 W3 (bk + 1) (nI fun _ => none) 0 := by
   have := (IM.made (w2.alloc (.map #[] 0)) Try.prog 3).alloc (.map #[] 0)
   rw [show (w2.alloc (.map #[] 0)).heap.size = bk + 1 by rw [← hbk]; simp] at this
   rw [← hW3]; exact this
  have him3 : IM Try.prog 3 W3 (bk + 2) (nI fun _ => none) 0 := by
   have := IM.made ((w2.alloc (.map #[] 0)).alloc (.map #[] 0)) Try.prog 3
   rw [show ((w2.alloc (.map #[] 0)).alloc (.map #[] 0)).heap.size = bk + 2 by rw [← hbk]; simp] at this
   rw [← hW3]; exact this
  have hbw3 := HW2.out.trans (hb3.mono HW2.out.size)
  have hlo : w.heap.size ≤ bk := by rw [← hbk]; exact HW2.out.size
  have has : AS w (bk + 3) bk (bk + 1) (bk + 2) W3 [] [] (.slice none 0 0) (.slice none 0 0) (.slice none 0 0) [] [] (fun _ => none) (fun _ => none) (fun _ => none) 0 0 0 :=
   ⟨⟨World.ownsRow_nil _ _ _ _, SaysAll.nil _ _⟩, World.ownsRow_nil _ _ _ _, World.ownsRow_nil _ _ _ _, (fun k h => by cases h), him1, him2, him3, by omega, by omega, by omega, hbw3, by omega⟩
  have HAS := Lib.hid has
  have HS3 := Lib.hid hbk
  have HB23 := Lib.hid hb3
  have HB12 := Lib.hid hb2
  have hbx3 := ((HB12.out.block w.heap.size (by have := HB1'.out.size; have := (Array.getElem?_eq_some_iff.1 HBX.out).1; omega)).trans (HB1'.out.block _ (Array.getElem?_eq_some_iff.1 HBX.out).1)).trans HBX.out
  have HBX2 := Lib.hid hbx3
  have HM2 := Lib.hid ((HM.out.below HB1'.out).below HB12.out)
  rw [hbk, hW3]
  clear hs3 hb3 him1 him2 him3 hbw3 has hb2 HW2 hbk hW3 hbx3 HM
  go_loopw [11, 12, 13, 39] (fun xw xi xo v wr => ∃ (i : Nat) (rows : List TR) (fK fS fV : Int → Option Int) (sK sS sV : Nat), i ≤ n ∧ v = .int .i64 ((i : Nat) : Int) ∧ Below w2.heap.size w2 wr ∧
   AS w (bk + 3) bk (bk + 1) (bk + 2) wr ((pick h (ix.take i)).map (renT (qbp gK gS gV gR))) rows xo xw xi (qap (pick h (ix.take i))) ((qap (pick h (ix.take i))).map (qbp gK gS gV gR).R) fK fS fV sK sS sV ∧
   KeyOk fK (qa4 (pick h (ix.take i))) (qbp gK gS gV gR).K ∧ KeyOk fS (qbk (pick h (ix.take i))) (qbp gK gS gV gR).S ∧ KeyOk fV (allV (pick h (ix.take i))) (valR (qbp gK gS gV gR)) ∧ sK ≤ i * 64 ∧ sS ≤ i ∧ sV ≤ i * 64) (fun _ _ _ v _ => n - (intOf v).toNat)
  case atStart => exact ⟨0, [], _, _, _, 0, 0, 0, Nat.zero_le _, rfl, HB23.out, HAS.out, KeyOk.nil _, KeyOk.nil _, KeyOk.nil _, Nat.zero_le _, Nat.zero_le _, Nat.zero_le _⟩
  case round =>
   clear HAS
   obtain ⟨i, rows, fK, fS, fV, sK, sS, sV, hi, rfl, hb3, has, kK, kS, kV, hsK, hsS, hsV⟩ := hrel
   have HAS := Lib.hid has
   have HB3 := Lib.hid hb3
   have HK3 := Lib.hid (show KeyOk fK (qa4 (pick h (ix.take i))) (qbp gK gS gV gR).K ∧ KeyOk fS (qbk (pick h (ix.take i))) (qbp gK gS gV gR).S ∧ KeyOk fV (allV (pick h (ix.take i))) (valR (qbp gK gS gV gR)) from ⟨kK, kS, kV⟩)
   clear has kK kS kV
   by_cases hlt : i < n
   ·have hltz : (i : Int) < (n : Int) := by omega
    obtain ⟨hnd, hall, hlen, hic, hrd⟩ := HIX.out
    obtain ⟨adx, rfl, hcx⟩ := hrd (by simp [castL]; omega)
    obtain ⟨k, hk⟩ : ∃ k, ix[i]? = some k := ⟨_, List.getElem?_eq_getElem (by omega)⟩
    have hkn : k < n := hall k (List.mem_of_getElem? hk)
    have hkz : (k : Int) < (n : Int) := by omega
    have cx := cell_below hb3 (cell_below HB12.out (hcx i (k : Int) (by unfold castL; rw [List.getElem?_map, hk]; rfl)))
    obtain ⟨ad, rfl, hch⟩ := HR.out (by rw [HN.out]; omega)
    obtain ⟨t, ht⟩ : ∃ t, h[k]? = some t := ⟨_, List.getElem?_eq_getElem (by rw [HN.out]; exact hkn)⟩
    obtain ⟨A3, c3, y0, y1, y2, y3, hl3, hro⟩ := hch k t ht
    have hbw : Below w.heap.size w wr := (HW1.out.trans (HB12.out.mono HW1.out.size)).trans (hb3.mono (Nat.le_trans HW1.out.size HB12.out.size))
    obtain ⟨no, hno⟩ : ∃ no, t.ops.length = no := ⟨_, rfl⟩
    rw [hno] at y3 hl3
    have htm : t ∈ h := List.mem_of_getElem? ht
    obtain ⟨_, _, _, _, _, hno1, hno2, _⟩ := (rightT_iff t).1 (HZ.out.2.2.1 t htm)
    have HT := Lib.hid (show WfTx t ∧ t.ops.length = no ∧ 1 ≤ no ∧ no ≤ 64 from ⟨wfTx_of HZ.out.2.2 htm, hno, by omega, by omega⟩)
    have HRO := Lib.hid (hro.below hbw)
    have HROW := Lib.hid hro
    have HM5 := Lib.hid (HM2.out.below hb3)
    have HTK := Lib.hid (show pick h (ix.take (i + 1)) = pick h (ix.take i) ++ [t] by rw [List.take_add_one, hk]; rw [show (ix.take i ++ (some k).toList) = ix.take i ++ [k] from rfl, pick_snoc, List.getD_eq_getElem?_getD, ht]; rfl)
    have hAB : ∀ X : World, Below wr.heap.size wr X → TC w.heap.size (ad.add (k * 4)) A3 no c3 bK bS bV bR (.slice A4 m c4) t X := fun X hb => by
     have hb' : Below w.heap.size w X := hbw.trans (hb.mono hbw.size)
     have a0 := ((hb3.trans (hb.mono hb3.size)).block _ (Array.getElem?_eq_some_iff.1 HBX2.out).1).trans HBX2.out
     have x0 := Lib.cell_of_heap a0 0
     have x1 := Lib.cell_of_heap a0 1
     have x2 := Lib.cell_of_heap a0 2
     have x3 := Lib.cell_of_heap a0 3
     have x4 := Lib.cell_of_heap a0 4
     simp only [List.getElem?_toArray, List.getElem?_cons_zero, List.getElem?_cons_succ] at x0 x1 x2 x3 x4
     exact ⟨cell_below hb' y0, cell_below hb' y1, cell_below hb' y2, cell_below hb' y3, x0, x1, x2, x3, x4⟩
    have HAB := Lib.hid hAB
    clear hnd hall hlen hic hrd hcx hch y0 y1 y2 y3 hro ht hk hbw htm hAB hb3 hl3 hno
    go_upto_region 10 with fail
    clear cx
    go_cut [16, 17] (fun v16 v17 wx => ∃ p10 p11 g cp, v16 = .pointer (some ⟨p10, 0, none⟩) ∧ v17 = .pointer (some ⟨p11, 0, none⟩) ∧ wx.heap[p10]? = some (.cells #[.int .i64 t.s, .int .i64 t.b, .int .i64 t.c, .slice A3 no c3] 55 (0, 0)) ∧
     wx.heap[p11]? = some (.cells #[.int .i64 (toF gS t.s), .int .i64 (toF gR t.b), .int .i64 (toF gR t.c), .slice (some ⟨g, 0, none⟩) no cp] 55 (0, 0)) ∧ OW wx g cp (t.ops.map (renO (qbp gK gS gV gR))) ∧ no ≤ cp ∧ wr.heap.size ≤ g ∧ wr.heap.size ≤ p10 ∧ wr.heap.size ≤ p11 ∧ p10 ≠ p11 ∧ Below wr.heap.size wr wx)
    case first =>
     refine TailRegion.wp_region_tail [] (TC w.heap.size (ad.add (k * 4)) A3 no c3 bK bS bV bR (.slice A4 m c4) t) (by kernel_rfl) ?_
     have hV0 : Below wr.heap.size wr wr.drew := (Below.refl _ _).drew
     obtain ⟨V0, hV⟩ : ∃ V0, wr.drew = V0 := ⟨_, rfl⟩
     rw [hV] at hV0 ⊢
     have HV0 := Lib.hid hV0
     have hAA : TC w.heap.size (ad.add (k * 4)) A3 no c3 bK bS bV bR (.slice A4 m c4) t V0 := HAB.out _ hV0
     clear hV hV0
     refine pu (i := 0) (v := .slice (some ad) n cap) rfl (fun _ => by go_simp) ?_
     simp only [Act.put, sa, sz, ss]
     refine pu (i := 1) (v := .int .i64 (k : Int)) rfl (fun _ => by go_simp) ?_
     simp only [Act.put, sa, sz, ss]
     refine pu (i := 2) (v := .pointer (some (ad.add (k * 4)))) rfl (fun _ => by go_simp) ?_
     simp only [Act.put, sa, sz, ss]
     refine ta (i := 3) (v := .agg #[.int .i64 t.s, .int .i64 t.b, .int .i64 t.c, .slice A3 no c3]) rfl (fun _ hW => by obtain ⟨q0, q1, q2, q3, q4, q5, q6, q7, q8⟩ := hW; go_simp) hAA ?_
     simp only [Act.put, sa, sz, ss]
     refine pu (i := 5) (v := .slice (some ad) n cap) rfl (fun _ => by go_simp) ?_
     simp only [Act.put, sa, sz, ss]
     refine pu (i := 6) (v := .int .i64 (k : Int)) rfl (fun _ => by go_simp) ?_
     simp only [Act.put, sa, sz, ss]
     refine pu (i := 7) (v := .pointer (some (ad.add (k * 4)))) rfl (fun _ => by go_simp) ?_
     simp only [Act.put, sa, sz, ss]
     refine ta (i := 8) (v := .agg #[.int .i64 t.s, .int .i64 t.b, .int .i64 t.c, .slice A3 no c3]) rfl (fun _ hW => by obtain ⟨q0, q1, q2, q3, q4, q5, q6, q7, q8⟩ := hW; go_simp) hAA ?_
     simp only [Act.put, sa, sz, ss]
     refine ta (i := 4) (v := .agg #[.map (some bK), .map (some bS), .map (some bV), .map (some bR), .slice A4 m c4]) rfl (fun _ hW => by obtain ⟨q0, q1, q2, q3, q4, q5, q6, q7, q8⟩ := hW; go_simp) hAA ?_
     simp only [Act.put, sa, sz, ss]
     clear hAA
     refine qa5 (l := [9, 10, 11]) (by kernel_rfl) (by simp) ?_
     intro i hi K7 hK7
     simp only [List.mem_cons, List.not_mem_nil, or_false] at hi
     rcases hi with rfl | rfl | rfl
     focus
      have HK7 := Lib.hid hK7
      clear hK7
      refine TailRegion.wpOp_of rfl rfl ?_
      (try simp only [List.getElem_toArray, List.getElem_cons_succ, List.getElem_cons_zero])
      unfold Oper.wp
      go_simp
      go_at_call 47
      refine (txn_calls HT.out.1 (HM5.out.below HV0.out) HT.out.2.1 HT.out.2.2.1 HT.out.2.2.2 (HRO.out.below HV0.out)).mono ?_
      rintro e V1 ⟨⟨g, cp, rfl, how, hcp, hgl⟩, hbC⟩
      have hbn : Below wr.heap.size wr V1 := HV0.out.trans (hbC.mono HV0.out.size)
      have HGL := Lib.hid (show wr.heap.size ≤ g ∧ no ≤ cp from ⟨Nat.le_trans HV0.out.size hgl, hcp⟩)
      have HOW1 := Lib.hid how
      refine HK7.out _ _ ⟨fun _ _ => HAB.out _ hbn, ?_⟩
      have HV1 := Lib.hid hbn
      clear HK7 K7 hbn how hcp hgl hbC
      (try simp only [Act.put, sa, sz, ss])
      refine qa5 (l := [10, 11]) (by kernel_rfl) (by simp) ?_
      intro i hi K7 hK7
      simp only [List.mem_cons, List.not_mem_nil, or_false] at hi
      rcases hi with rfl | rfl
      focus
       have HK7 := Lib.hid hK7
       clear hK7
       refine TailRegion.wpOp_of rfl rfl ?_
       (try simp only [List.getElem_toArray, List.getElem_cons_succ, List.getElem_cons_zero])
       unfold Oper.wp
       go_simp
       obtain ⟨p10, hp10⟩ : ∃ p, V1.heap.size = p := ⟨_, rfl⟩
       obtain ⟨V2, hN⟩ : ∃ N, V1.alloc (.cells #[.int .i64 0, .int .i64 0, .int .i64 0, .slice none 0 0] 55) = N := ⟨_, rfl⟩
       have hz : V2.heap[p10]? = some (.cells #[.int .i64 0, .int .i64 0, .int .i64 0, .slice none 0 0] 55) := by rw [← hN, ← hp10]; exact alloc_at _ _
       have hbA : Below V1.heap.size V1 V2 := by rw [← hN]; exact (Below.refl _ _).alloc (Nat.le_refl _) _
       have hbn : Below wr.heap.size wr V2 := HV1.out.trans (hbA.mono HV1.out.size)
       rw [hN]
       rw [hp10]
       have HOW2 := Lib.hid (HOW1.out.below hbA)
       have HP10_2 := Lib.hid hz
       have HLO10 := Lib.hid (show wr.heap.size ≤ p10 from by rw [← hp10]; exact HV1.out.size)
       refine HK7.out _ _ ⟨fun _ _ => HAB.out _ hbn, ?_⟩
       have HV2 := Lib.hid hbn
       clear HK7 K7 hbn hz hbA hN hp10
       (try simp only [Act.put, sa, sz, ss])
       refine qa5 (l := [11]) (by kernel_rfl) (by simp) ?_
       intro i hi K7 hK7
       simp only [List.mem_cons, List.not_mem_nil, or_false] at hi
       subst hi
       have HK7 := Lib.hid hK7
       clear hK7
       refine TailRegion.wpOp_of rfl rfl ?_
       (try simp only [List.getElem_toArray, List.getElem_cons_succ, List.getElem_cons_zero])
       unfold Oper.wp
       go_simp
       obtain ⟨p11, hp11⟩ : ∃ p, V2.heap.size = p := ⟨_, rfl⟩
       obtain ⟨V3, hN⟩ : ∃ N, V2.alloc (.cells #[.int .i64 0, .int .i64 0, .int .i64 0, .slice none 0 0] 55) = N := ⟨_, rfl⟩
       have hz : V3.heap[p11]? = some (.cells #[.int .i64 0, .int .i64 0, .int .i64 0, .slice none 0 0] 55) := by rw [← hN, ← hp11]; exact alloc_at _ _
       have hbA : Below V2.heap.size V2 V3 := by rw [← hN]; exact (Below.refl _ _).alloc (Nat.le_refl _) _
       have hbn : Below wr.heap.size wr V3 := HV2.out.trans (hbA.mono HV2.out.size)
       rw [hN]
       rw [hp11]
       have HNE := Lib.hid (show p10 ≠ p11 from fun e => by have := (Array.getElem?_eq_some_iff.1 HP10_2.out).1; omega)
       have HP10_3 := Lib.hid ((hbA.block _ (Array.getElem?_eq_some_iff.1 HP10_2.out).1).trans HP10_2.out)
       have HOW3 := Lib.hid (HOW2.out.below hbA)
       have HP11_3 := Lib.hid hz
       have HLO11 := Lib.hid (show wr.heap.size ≤ p11 from by rw [← hp11]; exact HV2.out.size)
       refine HK7.out _ _ ⟨fun _ _ => HAB.out _ hbn, ?_⟩
       have HV3 := Lib.hid hbn
       clear HK7 K7 hbn hz hbA hN hp11
       (try simp only [Act.put, sa, sz, ss])
       skip
      rotate_left 1
      focus
       have HK7 := Lib.hid hK7
       clear hK7
       refine TailRegion.wpOp_of rfl rfl ?_
       (try simp only [List.getElem_toArray, List.getElem_cons_succ, List.getElem_cons_zero])
       unfold Oper.wp
       go_simp
       obtain ⟨p11, hp11⟩ : ∃ p, V1.heap.size = p := ⟨_, rfl⟩
       obtain ⟨V2, hN⟩ : ∃ N, V1.alloc (.cells #[.int .i64 0, .int .i64 0, .int .i64 0, .slice none 0 0] 55) = N := ⟨_, rfl⟩
       have hz : V2.heap[p11]? = some (.cells #[.int .i64 0, .int .i64 0, .int .i64 0, .slice none 0 0] 55) := by rw [← hN, ← hp11]; exact alloc_at _ _
       have hbA : Below V1.heap.size V1 V2 := by rw [← hN]; exact (Below.refl _ _).alloc (Nat.le_refl _) _
       have hbn : Below wr.heap.size wr V2 := HV1.out.trans (hbA.mono HV1.out.size)
       rw [hN]
       rw [hp11]
       have HOW2 := Lib.hid (HOW1.out.below hbA)
       have HP11_2 := Lib.hid hz
       have HLO11 := Lib.hid (show wr.heap.size ≤ p11 from by rw [← hp11]; exact HV1.out.size)
       refine HK7.out _ _ ⟨fun _ _ => HAB.out _ hbn, ?_⟩
       have HV2 := Lib.hid hbn
       clear HK7 K7 hbn hz hbA hN hp11
       (try simp only [Act.put, sa, sz, ss])
       refine qa5 (l := [10]) (by kernel_rfl) (by simp) ?_
       intro i hi K7 hK7
       simp only [List.mem_cons, List.not_mem_nil, or_false] at hi
       subst hi
       have HK7 := Lib.hid hK7
       clear hK7
       refine TailRegion.wpOp_of rfl rfl ?_
       (try simp only [List.getElem_toArray, List.getElem_cons_succ, List.getElem_cons_zero])
       unfold Oper.wp
       go_simp
       obtain ⟨p10, hp10⟩ : ∃ p, V2.heap.size = p := ⟨_, rfl⟩
       obtain ⟨V3, hN⟩ : ∃ N, V2.alloc (.cells #[.int .i64 0, .int .i64 0, .int .i64 0, .slice none 0 0] 55) = N := ⟨_, rfl⟩
       have hz : V3.heap[p10]? = some (.cells #[.int .i64 0, .int .i64 0, .int .i64 0, .slice none 0 0] 55) := by rw [← hN, ← hp10]; exact alloc_at _ _
       have hbA : Below V2.heap.size V2 V3 := by rw [← hN]; exact (Below.refl _ _).alloc (Nat.le_refl _) _
       have hbn : Below wr.heap.size wr V3 := HV2.out.trans (hbA.mono HV2.out.size)
       rw [hN]
       rw [hp10]
       have HNE := Lib.hid (show p11 ≠ p10 from fun e => by have := (Array.getElem?_eq_some_iff.1 HP11_2.out).1; omega)
       have HP11_3 := Lib.hid ((hbA.block _ (Array.getElem?_eq_some_iff.1 HP11_2.out).1).trans HP11_2.out)
       have HOW3 := Lib.hid (HOW2.out.below hbA)
       have HP10_3 := Lib.hid hz
       have HLO10 := Lib.hid (show wr.heap.size ≤ p10 from by rw [← hp10]; exact HV2.out.size)
       refine HK7.out _ _ ⟨fun _ _ => HAB.out _ hbn, ?_⟩
       have HV3 := Lib.hid hbn
       clear HK7 K7 hbn hz hbA hN hp10
       (try simp only [Act.put, sa, sz, ss])
       replace HNE := Lib.hid HNE.out.symm
      rotate_left 1
     rotate_left 2
     focus
      have HK7 := Lib.hid hK7
      clear hK7
      refine TailRegion.wpOp_of rfl rfl ?_
      (try simp only [List.getElem_toArray, List.getElem_cons_succ, List.getElem_cons_zero])
      unfold Oper.wp
      go_simp
      obtain ⟨p10, hp10⟩ : ∃ p, V0.heap.size = p := ⟨_, rfl⟩
      obtain ⟨V1, hN⟩ : ∃ N, V0.alloc (.cells #[.int .i64 0, .int .i64 0, .int .i64 0, .slice none 0 0] 55) = N := ⟨_, rfl⟩
      have hz : V1.heap[p10]? = some (.cells #[.int .i64 0, .int .i64 0, .int .i64 0, .slice none 0 0] 55) := by rw [← hN, ← hp10]; exact alloc_at _ _
      have hbA : Below V0.heap.size V0 V1 := by rw [← hN]; exact (Below.refl _ _).alloc (Nat.le_refl _) _
      have hbn : Below wr.heap.size wr V1 := HV0.out.trans (hbA.mono HV0.out.size)
      rw [hN]
      rw [hp10]
      have HP10_1 := Lib.hid hz
      have HLO10 := Lib.hid (show wr.heap.size ≤ p10 from by rw [← hp10]; exact HV0.out.size)
      refine HK7.out _ _ ⟨fun _ _ => HAB.out _ hbn, ?_⟩
      have HV1 := Lib.hid hbn
      clear HK7 K7 hbn hz hbA hN hp10
      (try simp only [Act.put, sa, sz, ss])
      refine qa5 (l := [9, 11]) (by kernel_rfl) (by simp) ?_
      intro i hi K7 hK7
      simp only [List.mem_cons, List.not_mem_nil, or_false] at hi
      rcases hi with rfl | rfl
      focus
       have HK7 := Lib.hid hK7
       clear hK7
       refine TailRegion.wpOp_of rfl rfl ?_
       (try simp only [List.getElem_toArray, List.getElem_cons_succ, List.getElem_cons_zero])
       unfold Oper.wp
       go_simp
       go_at_call 47
       refine (txn_calls HT.out.1 (HM5.out.below HV1.out) HT.out.2.1 HT.out.2.2.1 HT.out.2.2.2 (HRO.out.below HV1.out)).mono ?_
       rintro e V2 ⟨⟨g, cp, rfl, how, hcp, hgl⟩, hbC⟩
       have hbn : Below wr.heap.size wr V2 := HV1.out.trans (hbC.mono HV1.out.size)
       have HGL := Lib.hid (show wr.heap.size ≤ g ∧ no ≤ cp from ⟨Nat.le_trans HV1.out.size hgl, hcp⟩)
       have HP10_2 := Lib.hid ((hbC.block _ (Array.getElem?_eq_some_iff.1 HP10_1.out).1).trans HP10_1.out)
       have HOW2 := Lib.hid how
       refine HK7.out _ _ ⟨fun _ _ => HAB.out _ hbn, ?_⟩
       have HV2 := Lib.hid hbn
       clear HK7 K7 hbn how hcp hgl hbC
       (try simp only [Act.put, sa, sz, ss])
       refine qa5 (l := [11]) (by kernel_rfl) (by simp) ?_
       intro i hi K7 hK7
       simp only [List.mem_cons, List.not_mem_nil, or_false] at hi
       subst hi
       have HK7 := Lib.hid hK7
       clear hK7
       refine TailRegion.wpOp_of rfl rfl ?_
       (try simp only [List.getElem_toArray, List.getElem_cons_succ, List.getElem_cons_zero])
       unfold Oper.wp
       go_simp
       obtain ⟨p11, hp11⟩ : ∃ p, V2.heap.size = p := ⟨_, rfl⟩
       obtain ⟨V3, hN⟩ : ∃ N, V2.alloc (.cells #[.int .i64 0, .int .i64 0, .int .i64 0, .slice none 0 0] 55) = N := ⟨_, rfl⟩
       have hz : V3.heap[p11]? = some (.cells #[.int .i64 0, .int .i64 0, .int .i64 0, .slice none 0 0] 55) := by rw [← hN, ← hp11]; exact alloc_at _ _
       have hbA : Below V2.heap.size V2 V3 := by rw [← hN]; exact (Below.refl _ _).alloc (Nat.le_refl _) _
       have hbn : Below wr.heap.size wr V3 := HV2.out.trans (hbA.mono HV2.out.size)
       rw [hN]
       rw [hp11]
       have HNE := Lib.hid (show p10 ≠ p11 from fun e => by have := (Array.getElem?_eq_some_iff.1 HP10_2.out).1; omega)
       have HP10_3 := Lib.hid ((hbA.block _ (Array.getElem?_eq_some_iff.1 HP10_2.out).1).trans HP10_2.out)
       have HOW3 := Lib.hid (HOW2.out.below hbA)
       have HP11_3 := Lib.hid hz
       have HLO11 := Lib.hid (show wr.heap.size ≤ p11 from by rw [← hp11]; exact HV2.out.size)
       refine HK7.out _ _ ⟨fun _ _ => HAB.out _ hbn, ?_⟩
       have HV3 := Lib.hid hbn
       clear HK7 K7 hbn hz hbA hN hp11
       (try simp only [Act.put, sa, sz, ss])
       skip
      rotate_left 1
      focus
       have HK7 := Lib.hid hK7
       clear hK7
       refine TailRegion.wpOp_of rfl rfl ?_
       (try simp only [List.getElem_toArray, List.getElem_cons_succ, List.getElem_cons_zero])
       unfold Oper.wp
       go_simp
       obtain ⟨p11, hp11⟩ : ∃ p, V1.heap.size = p := ⟨_, rfl⟩
       obtain ⟨V2, hN⟩ : ∃ N, V1.alloc (.cells #[.int .i64 0, .int .i64 0, .int .i64 0, .slice none 0 0] 55) = N := ⟨_, rfl⟩
       have hz : V2.heap[p11]? = some (.cells #[.int .i64 0, .int .i64 0, .int .i64 0, .slice none 0 0] 55) := by rw [← hN, ← hp11]; exact alloc_at _ _
       have hbA : Below V1.heap.size V1 V2 := by rw [← hN]; exact (Below.refl _ _).alloc (Nat.le_refl _) _
       have hbn : Below wr.heap.size wr V2 := HV1.out.trans (hbA.mono HV1.out.size)
       rw [hN]
       rw [hp11]
       have HNE := Lib.hid (show p10 ≠ p11 from fun e => by have := (Array.getElem?_eq_some_iff.1 HP10_1.out).1; omega)
       have HP10_2 := Lib.hid ((hbA.block _ (Array.getElem?_eq_some_iff.1 HP10_1.out).1).trans HP10_1.out)
       have HP11_2 := Lib.hid hz
       have HLO11 := Lib.hid (show wr.heap.size ≤ p11 from by rw [← hp11]; exact HV1.out.size)
       refine HK7.out _ _ ⟨fun _ _ => HAB.out _ hbn, ?_⟩
       have HV2 := Lib.hid hbn
       clear HK7 K7 hbn hz hbA hN hp11
       (try simp only [Act.put, sa, sz, ss])
       refine qa5 (l := [9]) (by kernel_rfl) (by simp) ?_
       intro i hi K7 hK7
       simp only [List.mem_cons, List.not_mem_nil, or_false] at hi
       subst hi
       have HK7 := Lib.hid hK7
       clear hK7
       refine TailRegion.wpOp_of rfl rfl ?_
       (try simp only [List.getElem_toArray, List.getElem_cons_succ, List.getElem_cons_zero])
       unfold Oper.wp
       go_simp
       go_at_call 47
       refine (txn_calls HT.out.1 (HM5.out.below HV2.out) HT.out.2.1 HT.out.2.2.1 HT.out.2.2.2 (HRO.out.below HV2.out)).mono ?_
       rintro e V3 ⟨⟨g, cp, rfl, how, hcp, hgl⟩, hbC⟩
       have hbn : Below wr.heap.size wr V3 := HV2.out.trans (hbC.mono HV2.out.size)
       have HGL := Lib.hid (show wr.heap.size ≤ g ∧ no ≤ cp from ⟨Nat.le_trans HV2.out.size hgl, hcp⟩)
       have HP10_3 := Lib.hid ((hbC.block _ (Array.getElem?_eq_some_iff.1 HP10_2.out).1).trans HP10_2.out)
       have HP11_3 := Lib.hid ((hbC.block _ (Array.getElem?_eq_some_iff.1 HP11_2.out).1).trans HP11_2.out)
       have HOW3 := Lib.hid how
       refine HK7.out _ _ ⟨fun _ _ => HAB.out _ hbn, ?_⟩
       have HV3 := Lib.hid hbn
       clear HK7 K7 hbn how hcp hgl hbC
       (try simp only [Act.put, sa, sz, ss])
       skip
      rotate_left 1
     rotate_left 2
     focus
      have HK7 := Lib.hid hK7
      clear hK7
      refine TailRegion.wpOp_of rfl rfl ?_
      (try simp only [List.getElem_toArray, List.getElem_cons_succ, List.getElem_cons_zero])
      unfold Oper.wp
      go_simp
      obtain ⟨p11, hp11⟩ : ∃ p, V0.heap.size = p := ⟨_, rfl⟩
      obtain ⟨V1, hN⟩ : ∃ N, V0.alloc (.cells #[.int .i64 0, .int .i64 0, .int .i64 0, .slice none 0 0] 55) = N := ⟨_, rfl⟩
      have hz : V1.heap[p11]? = some (.cells #[.int .i64 0, .int .i64 0, .int .i64 0, .slice none 0 0] 55) := by rw [← hN, ← hp11]; exact alloc_at _ _
      have hbA : Below V0.heap.size V0 V1 := by rw [← hN]; exact (Below.refl _ _).alloc (Nat.le_refl _) _
      have hbn : Below wr.heap.size wr V1 := HV0.out.trans (hbA.mono HV0.out.size)
      rw [hN]
      rw [hp11]
      have HP11_1 := Lib.hid hz
      have HLO11 := Lib.hid (show wr.heap.size ≤ p11 from by rw [← hp11]; exact HV0.out.size)
      refine HK7.out _ _ ⟨fun _ _ => HAB.out _ hbn, ?_⟩
      have HV1 := Lib.hid hbn
      clear HK7 K7 hbn hz hbA hN hp11
      (try simp only [Act.put, sa, sz, ss])
      refine qa5 (l := [9, 10]) (by kernel_rfl) (by simp) ?_
      intro i hi K7 hK7
      simp only [List.mem_cons, List.not_mem_nil, or_false] at hi
      rcases hi with rfl | rfl
      focus
       have HK7 := Lib.hid hK7
       clear hK7
       refine TailRegion.wpOp_of rfl rfl ?_
       (try simp only [List.getElem_toArray, List.getElem_cons_succ, List.getElem_cons_zero])
       unfold Oper.wp
       go_simp
       go_at_call 47
       refine (txn_calls HT.out.1 (HM5.out.below HV1.out) HT.out.2.1 HT.out.2.2.1 HT.out.2.2.2 (HRO.out.below HV1.out)).mono ?_
       rintro e V2 ⟨⟨g, cp, rfl, how, hcp, hgl⟩, hbC⟩
       have hbn : Below wr.heap.size wr V2 := HV1.out.trans (hbC.mono HV1.out.size)
       have HGL := Lib.hid (show wr.heap.size ≤ g ∧ no ≤ cp from ⟨Nat.le_trans HV1.out.size hgl, hcp⟩)
       have HP11_2 := Lib.hid ((hbC.block _ (Array.getElem?_eq_some_iff.1 HP11_1.out).1).trans HP11_1.out)
       have HOW2 := Lib.hid how
       refine HK7.out _ _ ⟨fun _ _ => HAB.out _ hbn, ?_⟩
       have HV2 := Lib.hid hbn
       clear HK7 K7 hbn how hcp hgl hbC
       (try simp only [Act.put, sa, sz, ss])
       refine qa5 (l := [10]) (by kernel_rfl) (by simp) ?_
       intro i hi K7 hK7
       simp only [List.mem_cons, List.not_mem_nil, or_false] at hi
       subst hi
       have HK7 := Lib.hid hK7
       clear hK7
       refine TailRegion.wpOp_of rfl rfl ?_
       (try simp only [List.getElem_toArray, List.getElem_cons_succ, List.getElem_cons_zero])
       unfold Oper.wp
       go_simp
       obtain ⟨p10, hp10⟩ : ∃ p, V2.heap.size = p := ⟨_, rfl⟩
       obtain ⟨V3, hN⟩ : ∃ N, V2.alloc (.cells #[.int .i64 0, .int .i64 0, .int .i64 0, .slice none 0 0] 55) = N := ⟨_, rfl⟩
       have hz : V3.heap[p10]? = some (.cells #[.int .i64 0, .int .i64 0, .int .i64 0, .slice none 0 0] 55) := by rw [← hN, ← hp10]; exact alloc_at _ _
       have hbA : Below V2.heap.size V2 V3 := by rw [← hN]; exact (Below.refl _ _).alloc (Nat.le_refl _) _
       have hbn : Below wr.heap.size wr V3 := HV2.out.trans (hbA.mono HV2.out.size)
       rw [hN]
       rw [hp10]
       have HNE := Lib.hid (show p11 ≠ p10 from fun e => by have := (Array.getElem?_eq_some_iff.1 HP11_2.out).1; omega)
       have HP11_3 := Lib.hid ((hbA.block _ (Array.getElem?_eq_some_iff.1 HP11_2.out).1).trans HP11_2.out)
       have HOW3 := Lib.hid (HOW2.out.below hbA)
       have HP10_3 := Lib.hid hz
       have HLO10 := Lib.hid (show wr.heap.size ≤ p10 from by rw [← hp10]; exact HV2.out.size)
       refine HK7.out _ _ ⟨fun _ _ => HAB.out _ hbn, ?_⟩
       have HV3 := Lib.hid hbn
       clear HK7 K7 hbn hz hbA hN hp10
       (try simp only [Act.put, sa, sz, ss])
       replace HNE := Lib.hid HNE.out.symm
      rotate_left 1
      focus
       have HK7 := Lib.hid hK7
       clear hK7
       refine TailRegion.wpOp_of rfl rfl ?_
       (try simp only [List.getElem_toArray, List.getElem_cons_succ, List.getElem_cons_zero])
       unfold Oper.wp
       go_simp
       obtain ⟨p10, hp10⟩ : ∃ p, V1.heap.size = p := ⟨_, rfl⟩
       obtain ⟨V2, hN⟩ : ∃ N, V1.alloc (.cells #[.int .i64 0, .int .i64 0, .int .i64 0, .slice none 0 0] 55) = N := ⟨_, rfl⟩
       have hz : V2.heap[p10]? = some (.cells #[.int .i64 0, .int .i64 0, .int .i64 0, .slice none 0 0] 55) := by rw [← hN, ← hp10]; exact alloc_at _ _
       have hbA : Below V1.heap.size V1 V2 := by rw [← hN]; exact (Below.refl _ _).alloc (Nat.le_refl _) _
       have hbn : Below wr.heap.size wr V2 := HV1.out.trans (hbA.mono HV1.out.size)
       rw [hN]
       rw [hp10]
       have HNE := Lib.hid (show p11 ≠ p10 from fun e => by have := (Array.getElem?_eq_some_iff.1 HP11_1.out).1; omega)
       have HP11_2 := Lib.hid ((hbA.block _ (Array.getElem?_eq_some_iff.1 HP11_1.out).1).trans HP11_1.out)
       have HP10_2 := Lib.hid hz
       have HLO10 := Lib.hid (show wr.heap.size ≤ p10 from by rw [← hp10]; exact HV1.out.size)
       refine HK7.out _ _ ⟨fun _ _ => HAB.out _ hbn, ?_⟩
       have HV2 := Lib.hid hbn
       clear HK7 K7 hbn hz hbA hN hp10
       (try simp only [Act.put, sa, sz, ss])
       refine qa5 (l := [9]) (by kernel_rfl) (by simp) ?_
       intro i hi K7 hK7
       simp only [List.mem_cons, List.not_mem_nil, or_false] at hi
       subst hi
       have HK7 := Lib.hid hK7
       clear hK7
       refine TailRegion.wpOp_of rfl rfl ?_
       (try simp only [List.getElem_toArray, List.getElem_cons_succ, List.getElem_cons_zero])
       unfold Oper.wp
       go_simp
       go_at_call 47
       refine (txn_calls HT.out.1 (HM5.out.below HV2.out) HT.out.2.1 HT.out.2.2.1 HT.out.2.2.2 (HRO.out.below HV2.out)).mono ?_
       rintro e V3 ⟨⟨g, cp, rfl, how, hcp, hgl⟩, hbC⟩
       have hbn : Below wr.heap.size wr V3 := HV2.out.trans (hbC.mono HV2.out.size)
       have HGL := Lib.hid (show wr.heap.size ≤ g ∧ no ≤ cp from ⟨Nat.le_trans HV2.out.size hgl, hcp⟩)
       have HP10_3 := Lib.hid ((hbC.block _ (Array.getElem?_eq_some_iff.1 HP10_2.out).1).trans HP10_2.out)
       have HP11_3 := Lib.hid ((hbC.block _ (Array.getElem?_eq_some_iff.1 HP11_2.out).1).trans HP11_2.out)
       have HOW3 := Lib.hid how
       refine HK7.out _ _ ⟨fun _ _ => HAB.out _ hbn, ?_⟩
       have HV3 := Lib.hid hbn
       clear HK7 K7 hbn how hcp hgl hbC
       (try simp only [Act.put, sa, sz, ss])
       replace HNE := Lib.hid HNE.out.symm
      rotate_left 1
     rotate_left 2
     all_goals
      have cc0 := Lib.cell_of_heap HP10_3.out 0
      have cc1 := Lib.cell_of_heap HP10_3.out 1
      have cc2 := Lib.cell_of_heap HP10_3.out 2
      have cc3 := Lib.cell_of_heap HP10_3.out 3
      have f0 := Lib.frozen_of_heap HP10_3.out 0
      have f1 := Lib.frozen_of_heap HP10_3.out 1
      have f2 := Lib.frozen_of_heap HP10_3.out 2
      have f3 := Lib.frozen_of_heap HP10_3.out 3
      simp only [List.getElem?_toArray, List.getElem?_cons_zero, List.getElem?_cons_succ] at cc0 cc1 cc2 cc3
      refine wpAnyT_next (i := 12) rfl (by kernel_rfl) rfl ?_
      intro K7 hK7
      have HK7 := Lib.hid hK7
      clear hK7
      (try simp only [List.getElem_toArray, List.getElem_cons_succ, List.getElem_cons_zero])
      unfold Oper.wp
      go_simp
      have hq := put4_heap HP10_3.out t.s t.b t.c (.slice A3 no c3)
      have hg := put4_grown V3 p10 t.s t.b t.c (.slice A3 no c3)
      obtain ⟨X1, hX1⟩ : ∃ X, put4 V3 p10 t.s t.b t.c (.slice A3 no c3) = X := ⟨_, rfl⟩
      have hX1' := hX1
      unfold put4 at hX1'
      rw [hX1']
      rw [hX1] at hq hg
      have hbX : Below wr.heap.size wr X1 := HV3.out.grown hg HV3.out.size (fun j hj => by cases hj; exact HLO10.out)
      refine HK7.out _ _ ⟨fun _ _ => HAB.out _ hbX, ?_⟩
      have HXB := Lib.hid hbX
      have HXQ := Lib.hid hq
      have HX11 := Lib.hid ((hg.block p11 (Array.getElem?_eq_some_iff.1 HP11_3.out).1 (by intro e; injection e with e; exact HNE.out e.symm)).trans HP11_3.out)
      have HXO := Lib.hid (HOW3.out.move (hg.block g HOW3.out.lt (by intro e; injection e with e; exact ow_ne HOW3.out HP10_3.out (by decide) e)))
      clear HK7 K7 cc0 cc1 cc2 cc3 f0 f1 f2 f3 hq hg hX1 hX1' hbX
      (try simp only [Act.put, sa, sz, ss])
      have cc0 := Lib.cell_of_heap HX11.out 0
      have cc1 := Lib.cell_of_heap HX11.out 1
      have cc2 := Lib.cell_of_heap HX11.out 2
      have cc3 := Lib.cell_of_heap HX11.out 3
      have f0 := Lib.frozen_of_heap HX11.out 0
      have f1 := Lib.frozen_of_heap HX11.out 1
      have f2 := Lib.frozen_of_heap HX11.out 2
      have f3 := Lib.frozen_of_heap HX11.out 3
      simp only [List.getElem?_toArray, List.getElem?_cons_zero, List.getElem?_cons_succ] at cc0 cc1 cc2 cc3
      refine wpAnyT_next (i := 13) rfl (by kernel_rfl) rfl ?_
      intro K7 hK7
      have HK7 := Lib.hid hK7
      clear hK7
      (try simp only [List.getElem_toArray, List.getElem_cons_succ, List.getElem_cons_zero])
      unfold Oper.wp
      go_simp
      have hq := put4_heap HX11.out (toF gS t.s) (toF gR t.b) (toF gR t.c) (.slice (some ⟨g, 0, none⟩) no cp)
      have hg := put4_grown X1 p11 (toF gS t.s) (toF gR t.b) (toF gR t.c) (.slice (some ⟨g, 0, none⟩) no cp)
      obtain ⟨X2, hX2⟩ : ∃ X, put4 X1 p11 (toF gS t.s) (toF gR t.b) (toF gR t.c) (.slice (some ⟨g, 0, none⟩) no cp) = X := ⟨_, rfl⟩
      have hX2' := hX2
      unfold put4 at hX2'
      rw [hX2']
      rw [hX2] at hq hg
      have hbX : Below wr.heap.size wr X2 := HXB.out.grown hg HXB.out.size (fun j hj => by cases hj; exact HLO11.out)
      refine HK7.out _ _ ⟨fun _ _ => HAB.out _ hbX, ?_⟩
      have HXB2 := Lib.hid hbX
      have HXQ2 := Lib.hid hq
      have HXP := Lib.hid ((hg.block p10 (Array.getElem?_eq_some_iff.1 HXQ.out).1 (by intro e; injection e with e; exact HNE.out e)).trans HXQ.out)
      have HXO2 := Lib.hid (HXO.out.move (hg.block g HXO.out.lt (by intro e; injection e with e; exact ow_ne HXO.out HX11.out (by decide) e)))
      clear HK7 K7 cc0 cc1 cc2 cc3 f0 f1 f2 f3 hq hg hX2 hX2' hbX
      (try simp only [Act.put, sa, sz, ss])
      refine TailRegion.wpAnyT_done (by kernel_rfl) ?_ _
      go_wp2_with fail
      go_meet
      exact ⟨p10, p11, g, cp, rfl, rfl, HXP.out, HXQ2.out, HXO2.out, HGL.out.2, HGL.out.1, HLO10.out, HLO11.out, HNE.out, HXB2.out⟩
    case rest =>
     obtain ⟨p10, p11, g, cp, rfl, rfl, hp10, hp11, how, hcp, hg0, hp0, hp1, hpn, hbc⟩ := hcut
     have hasC := HAS.out.below hbc
     obtain ⟨zz, hzz⟩ : ∃ z, wc.heap.size = z := ⟨_, rfl⟩
     obtain ⟨wl, hwl⟩ : ∃ wl, wc.alloc (.cells #[.int .i64 (toF gS t.s), .int .i64 (toF gR t.b), .int .i64 (toF gR t.c), .slice (some ⟨g, 0, none⟩) no cp] 55) = wl := ⟨_, rfl⟩
     have hbl : Below wc.heap.size wc wl := by rw [← hwl]; exact (Below.refl _ _).alloc (Nat.le_refl _) _
     have hzl : wl.heap[zz]? = some (.cells #[.int .i64 (toF gS t.s), .int .i64 (toF gR t.b), .int .i64 (toF gR t.c), .slice (some ⟨g, 0, none⟩) no cp] 55 (0, 0)) := by rw [← hwl, ← hzz]; exact alloc_at _ _
     obtain ⟨v8, w8, hr8, has8, hg8, hsy8⟩ := (hasC.below hbl).append_out (r := ⟨toF gS t.s, toF gR t.b, toF gR t.c, g, no, cp⟩) (u := renT (qbp gK gS gV gR) t) hzl
      ⟨rfl, rfl, rfl, by show no = ((t.ops.map _).length); rw [List.length_map, HT.out.2.1], hcp, Nat.le_trans HAS.out.bz hg0, how.below hbl⟩ (fun x hx e => by have := (HAS.out.out.2.lt x hx).2; dsimp only at e; omega) (by have := HAS.out.out.2.1; rw [List.length_map] at this; unfold pick at this; rw [List.length_map, List.length_take] at this; omega)
     have hb8 : Below w2.heap.size w2 w8 := ((HB3.out.trans (hbc.mono HB3.out.size)).trans (hbl.mono (Nat.le_trans HB3.out.size hbc.size))).grown hg8 (Nat.le_trans (Nat.le_trans HB3.out.size hbc.size) hbl.size) (fun j hj => by have := (HAS.out.out.1.lt j hj).1; have := HS3.out; omega)
     have hp10' := (hg8.block p10 (by have := (Array.getElem?_eq_some_iff.1 hp10).1; have := hbl.size; omega) (fun e => by have := (HAS.out.out.1.lt _ e.symm).2; omega)).trans ((hbl.block p10 (Array.getElem?_eq_some_iff.1 hp10).1).trans hp10)
     have hp11' := (hg8.block p11 (by have := (Array.getElem?_eq_some_iff.1 hp11).1; have := hbl.size; omega) (fun e => by have := (HAS.out.out.1.lt _ e.symm).2; omega)).trans ((hbl.block p11 (Array.getElem?_eq_some_iff.1 hp11).1).trans hp11)
     have how8 : OW w8 g cp (t.ops.map (renO (qbp gK gS gV gR))) := by obtain ⟨_, _, _, _, _, _, h⟩ := hsy8; exact h
     have c0 := Lib.cell_of_heap hp11 0
     have c1 := Lib.cell_of_heap hp11 1
     have c2 := Lib.cell_of_heap hp11 2
     have c3' := Lib.cell_of_heap hp11 3
     simp only [List.getElem?_toArray, List.getElem?_cons_zero, List.getElem?_cons_succ] at c0 c1 c2 c3'
     have HR8 := Lib.hid hr8
     have HA8 := Lib.hid has8
     have HB8 := Lib.hid hb8
     have HP8 := Lib.hid hp10'
     have HQ8 := Lib.hid hp11'
     have HO8 := Lib.hid how8
     have HWL := Lib.hid hwl
     have HZZ := Lib.hid hzz
     clear hp10 hp11 how hg0 hp0 hp1 hpn hbc hasC hzz hwl hbl hzl hr8 has8 hg8 hsy8 hb8 hp10' hp11' how8 HAS HB3
     go_upto_region 12 with (at_builtin; rw [HWL.out, HZZ.out]; refine TailRegion.wpList_append_run rfl _ _ _ rfl _ _ rfl rfl _ rfl HR8.out ?_)
     have d0 := Lib.cell_of_heap HP8.out 0
     have e0 := Lib.cell_of_heap HQ8.out 0
     simp only [List.getElem?_toArray, List.getElem?_cons_zero, List.getElem?_cons_succ] at d0 e0
     have HWS := Lib.hid (show (Lit.int .i64 t.s).wf = true from HT.out.1.1)
     clear HWL HZZ HR8 c0 c1 c2 c3'
     go_upto_region 13 with (at_mapUpdate; refine wpList_store HA8.out.S rfl _ _ _ 34 3 rfl Try.underlying34 Try.underlying3 (by unfold maxLen; omega) rfl t.s (.int .i64 (toF gS t.s)) rfl rfl HWS.out ?_; intro w9 him9 hg9)
     rw [← nI_upd] at him9
     have HA9 := Lib.hid (HA8.out.putS hg9 him9)
     have HB9 := Lib.hid (HB8.out.grown hg9 HB8.out.size (fun j hj => by cases hj; have := HS3.out; omega))
     have HP9 := Lib.hid ((hg9.block _ (Array.getElem?_eq_some_iff.1 HP8.out).1 (qbr HA8.out.S HP8.out)).trans HP8.out)
     have HQ9 := Lib.hid ((hg9.block _ (Array.getElem?_eq_some_iff.1 HQ8.out).1 (qbr HA8.out.S HQ8.out)).trans HQ8.out)
     have HO9 := Lib.hid (ow_im HO8.out HA8.out.S hg9)
     have hsl : (qap (pick h (ix.take i))).length ≤ 100000 := by rw [stampsL_length]; unfold pick; rw [List.length_map, List.length_take]; omega
     have HLW := Lib.hid (show (qap (pick h (ix.take i))).length ≤ 100000 ∧ ((qap (pick h (ix.take i))).map (qbp gK gS gV gR).R).length ≤ 100000 from ⟨hsl, by rw [List.length_map]; exact hsl⟩)
     clear him9 hg9 d0 e0 HA8 HB8 HP8 HQ8 HO8 hsl
     go_frame
     go_cut [11, 12] (fun v11 v12 wx => AS w (bk + 3) bk (bk + 1) (bk + 2) wx ((pick h (ix.take i)).map (renT (qbp gK gS gV gR)) ++ [renT (qbp gK gS gV gR) t]) (rows ++ [⟨toF gS t.s, toF gR t.b, toF gR t.c, g, no, cp⟩]) v8 v11 v12 (qap (pick h (ix.take i)) ++ [t.b, t.c]) ((qap (pick h (ix.take i))).map (qbp gK gS gV gR).R ++ [toF gR t.b, toF gR t.c]) fK (fun y => if y = t.s then some (toF gS t.s) else fS y) fV sK (if ((nI fS t.s).isSome) = true then sS else sS + 1) sV ∧ Below w2.heap.size w2 wx ∧
      wx.heap[p10]? = some (.cells #[.int .i64 t.s, .int .i64 t.b, .int .i64 t.c, .slice A3 no c3] 55 (0, 0)) ∧ wx.heap[p11]? = some (.cells #[.int .i64 (toF gS t.s), .int .i64 (toF gR t.b), .int .i64 (toF gR t.c), .slice (some ⟨g, 0, none⟩) no cp] 55 (0, 0)) ∧ OW wx g cp (t.ops.map (renO (qbp gK gS gV gR))))
     case first =>
      refine TailRegion.wp_region_tail [] (TD p10 p11 t.b t.c (toF gR t.b) (toF gR t.c)) (by kernel_rfl) ?_
      obtain ⟨V0, hV⟩ : ∃ V0, w9.drew = V0 := ⟨_, rfl⟩
      have hV0 : Below w9.heap.size w9 V0 := by rw [← hV]; exact (Below.refl _ _).drew
      have HA0 := Lib.hid (HA9.out.below hV0)
      have HV0 := Lib.hid (HB9.out.trans (hV0.mono HB9.out.size))
      have HP0 := Lib.hid ((hV0.block _ (Array.getElem?_eq_some_iff.1 HP9.out).1).trans HP9.out)
      have HQ0 := Lib.hid ((hV0.block _ (Array.getElem?_eq_some_iff.1 HQ9.out).1).trans HQ9.out)
      have HO0 := Lib.hid (HO9.out.below hV0)
      have hAA : TD p10 p11 t.b t.c (toF gR t.b) (toF gR t.c) V0 := qcn HP0.out HQ0.out
      rw [hV]
      clear hV hV0 HA9 HB9 HP9 HQ9 HO9
      refine pu (i := 0) (v := u11) rfl (fun _ => by go_simp) ?_
      simp only [Act.put, sa, sz, ss]
      refine pu (i := 1) (v := .pointer (some ⟨p10, 1, none⟩)) rfl (fun _ => by go_simp) ?_
      simp only [Act.put, sa, sz, ss]
      refine ta (i := 2) (v := .int .i64 t.b) rfl (fun _ hW => by obtain ⟨q0, q1, q2, q3⟩ := hW; go_simp) hAA ?_
      simp only [Act.put, sa, sz, ss]
      refine pu (i := 3) (v := .pointer (some ⟨p10, 2, none⟩)) rfl (fun _ => by go_simp) ?_
      simp only [Act.put, sa, sz, ss]
      refine ta (i := 4) (v := .int .i64 t.c) rfl (fun _ hW => by obtain ⟨q0, q1, q2, q3⟩ := hW; go_simp) hAA ?_
      simp only [Act.put, sa, sz, ss]
      refine pu (i := 7) (v := u12) rfl (fun _ => by go_simp) ?_
      simp only [Act.put, sa, sz, ss]
      refine pu (i := 8) (v := .pointer (some ⟨p11, 1, none⟩)) rfl (fun _ => by go_simp) ?_
      simp only [Act.put, sa, sz, ss]
      refine ta (i := 9) (v := .int .i64 (toF gR t.b)) rfl (fun _ hW => by obtain ⟨q0, q1, q2, q3⟩ := hW; go_simp) hAA ?_
      simp only [Act.put, sa, sz, ss]
      refine pu (i := 10) (v := .pointer (some ⟨p11, 2, none⟩)) rfl (fun _ => by go_simp) ?_
      simp only [Act.put, sa, sz, ss]
      refine ta (i := 11) (v := .int .i64 (toF gR t.c)) rfl (fun _ hW => by obtain ⟨q0, q1, q2, q3⟩ := hW; go_simp) hAA ?_
      simp only [Act.put, sa, sz, ss]
      clear hAA
      refine qa5 (l := [5, 12]) (by kernel_rfl) (by simp) ?_
      intro i hi K7 hK7
      simp only [List.mem_cons, List.not_mem_nil, or_false] at hi
      rcases hi with rfl | rfl
      ·have HK7 := Lib.hid hK7
       clear hK7
       refine TailRegion.wpOp_of rfl rfl ?_
       (try simp only [List.getElem_toArray, List.getElem_cons_succ, List.getElem_cons_zero])
       unfold Oper.wp
       go_simp
       obtain ⟨z5, hz5⟩ : ∃ p, V0.heap.size = p := ⟨_, rfl⟩
       obtain ⟨V1, hN⟩ : ∃ N, V0.alloc (.cells #[.int .i64 t.b, .int .i64 t.c] 3) = N := ⟨_, rfl⟩
       have hz : V1.heap[z5]? = some (.cells #[.int .i64 t.b, .int .i64 t.c] 3) := by rw [← hN, ← hz5]; exact alloc_at _ _
       have hbA : Below V0.heap.size V0 V1 := by rw [← hN]; exact (Below.refl _ _).alloc (Nat.le_refl _) _
       rw [hN]
       rw [hz5]
       have HZ5_1 := Lib.hid hz
       have HA1 := Lib.hid (HA0.out.below hbA)
       have HV1 := Lib.hid (HV0.out.trans (hbA.mono HV0.out.size))
       have HP1 := Lib.hid ((hbA.block _ (Array.getElem?_eq_some_iff.1 HP0.out).1).trans HP0.out)
       have HQ1 := Lib.hid ((hbA.block _ (Array.getElem?_eq_some_iff.1 HQ0.out).1).trans HQ0.out)
       have HO1 := Lib.hid (HO0.out.below hbA)
       refine HK7.out _ _ ⟨fun _ _ => qcn HP1.out HQ1.out, ?_⟩
       clear HK7 K7 hz hbA hN hz5
       (try simp only [Act.put, sa, sz, ss])
       refine qa5 (l := [6, 12]) (by kernel_rfl) (by simp) ?_
       intro i hi K7 hK7
       simp only [List.mem_cons, List.not_mem_nil, or_false] at hi
       rcases hi with rfl | rfl
       ·have HK7 := Lib.hid hK7
        clear hK7
        refine TailRegion.wpOp_of rfl rfl ?_
        (try simp only [List.getElem_toArray, List.getElem_cons_succ, List.getElem_cons_zero])
        obtain ⟨x6, V2, hr, has', hg⟩ := HA1.out.append_was HZ5_1.out HLW.out.1
        refine TailRegion.wp_append_run _ _ _ rfl _ _ rfl rfl _ rfl hr ?_
        have HA2 := Lib.hid has'
        have HV2 := Lib.hid (HV1.out.grown hg HV1.out.size (fun j hj => by have := (HA1.out.was.lt j hj).1; have := HS3.out; omega))
        have HP2 := Lib.hid ((hg.block _ (Array.getElem?_eq_some_iff.1 HP1.out).1 (own_ne HA1.out.was HP1.out (by decide)).symm).trans HP1.out)
        have HQ2 := Lib.hid ((hg.block _ (Array.getElem?_eq_some_iff.1 HQ1.out).1 (own_ne HA1.out.was HQ1.out (by decide)).symm).trans HQ1.out)
        have HO2 := Lib.hid (ow_kept HO1.out HA1.out.was hg)
        refine HK7.out _ _ ⟨fun _ _ => qcn HP2.out HQ2.out, ?_⟩
        clear HK7 K7 hr has' hg
        (try simp only [Act.put, sa, sz, ss])
        refine qa5 (l := [12]) (by kernel_rfl) (by simp) ?_
        intro i hi K7 hK7
        simp only [List.mem_cons, List.not_mem_nil, or_false] at hi
        subst hi
        have HK7 := Lib.hid hK7
        clear hK7
        refine TailRegion.wpOp_of rfl rfl ?_
        (try simp only [List.getElem_toArray, List.getElem_cons_succ, List.getElem_cons_zero])
        unfold Oper.wp
        go_simp
        obtain ⟨z12, hz12⟩ : ∃ p, V2.heap.size = p := ⟨_, rfl⟩
        obtain ⟨V3, hN⟩ : ∃ N, V2.alloc (.cells #[.int .i64 (toF gR t.b), .int .i64 (toF gR t.c)] 3) = N := ⟨_, rfl⟩
        have hz : V3.heap[z12]? = some (.cells #[.int .i64 (toF gR t.b), .int .i64 (toF gR t.c)] 3) := by rw [← hN, ← hz12]; exact alloc_at _ _
        have hbA : Below V2.heap.size V2 V3 := by rw [← hN]; exact (Below.refl _ _).alloc (Nat.le_refl _) _
        rw [hN]
        rw [hz12]
        have HZ12_3 := Lib.hid hz
        have HA3 := Lib.hid (HA2.out.below hbA)
        have HV3 := Lib.hid (HV2.out.trans (hbA.mono HV2.out.size))
        have HP3 := Lib.hid ((hbA.block _ (Array.getElem?_eq_some_iff.1 HP2.out).1).trans HP2.out)
        have HQ3 := Lib.hid ((hbA.block _ (Array.getElem?_eq_some_iff.1 HQ2.out).1).trans HQ2.out)
        have HO3 := Lib.hid (HO2.out.below hbA)
        refine HK7.out _ _ ⟨fun _ _ => qcn HP3.out HQ3.out, ?_⟩
        clear HK7 K7 hz hbA hN hz12
        (try simp only [Act.put, sa, sz, ss])
        refine qa5 (l := [13]) (by kernel_rfl) (by simp) ?_
        intro i hi K7 hK7
        simp only [List.mem_cons, List.not_mem_nil, or_false] at hi
        subst hi
        have HK7 := Lib.hid hK7
        clear hK7
        refine TailRegion.wpOp_of rfl rfl ?_
        (try simp only [List.getElem_toArray, List.getElem_cons_succ, List.getElem_cons_zero])
        obtain ⟨x13, V4, hr, has', hg⟩ := HA3.out.append_is HZ12_3.out HLW.out.2
        refine TailRegion.wp_append_run _ _ _ rfl _ _ rfl rfl _ rfl hr ?_
        have HA4 := Lib.hid has'
        have HV4 := Lib.hid (HV3.out.grown hg HV3.out.size (fun j hj => by have := (HA3.out.is.lt j hj).1; have := HS3.out; omega))
        have HP4 := Lib.hid ((hg.block _ (Array.getElem?_eq_some_iff.1 HP3.out).1 (own_ne HA3.out.is HP3.out (by decide)).symm).trans HP3.out)
        have HQ4 := Lib.hid ((hg.block _ (Array.getElem?_eq_some_iff.1 HQ3.out).1 (own_ne HA3.out.is HQ3.out (by decide)).symm).trans HQ3.out)
        have HO4 := Lib.hid (ow_kept HO3.out HA3.out.is hg)
        refine HK7.out _ _ ⟨fun _ _ => qcn HP4.out HQ4.out, ?_⟩
        clear HK7 K7 hr has' hg
        (try simp only [Act.put, sa, sz, ss])
        refine pu (i := 14) (v := x6) rfl (fun _ => by go_simp) ?_
        simp only [Act.put, sa, sz, ss]
        refine pu (i := 15) (v := x13) rfl (fun _ => by go_simp) ?_
        simp only [Act.put, sa, sz, ss]
        (try simp only [List.getElem_toArray, List.getElem_cons_succ, List.getElem_cons_zero, Act.put, sa, sz, ss])
        refine TailRegion.wpAnyT_done (by kernel_rfl) ?_ _
        go_wp2_with fail
        go_meet
        exact ⟨HA4.out, HV4.out, HP4.out, HQ4.out, HO4.out⟩
       ·have HK7 := Lib.hid hK7
        clear hK7
        refine TailRegion.wpOp_of rfl rfl ?_
        (try simp only [List.getElem_toArray, List.getElem_cons_succ, List.getElem_cons_zero])
        unfold Oper.wp
        go_simp
        obtain ⟨z12, hz12⟩ : ∃ p, V1.heap.size = p := ⟨_, rfl⟩
        obtain ⟨V2, hN⟩ : ∃ N, V1.alloc (.cells #[.int .i64 (toF gR t.b), .int .i64 (toF gR t.c)] 3) = N := ⟨_, rfl⟩
        have hz : V2.heap[z12]? = some (.cells #[.int .i64 (toF gR t.b), .int .i64 (toF gR t.c)] 3) := by rw [← hN, ← hz12]; exact alloc_at _ _
        have hbA : Below V1.heap.size V1 V2 := by rw [← hN]; exact (Below.refl _ _).alloc (Nat.le_refl _) _
        rw [hN]
        rw [hz12]
        have HZ12_2 := Lib.hid hz
        have HA2 := Lib.hid (HA1.out.below hbA)
        have HV2 := Lib.hid (HV1.out.trans (hbA.mono HV1.out.size))
        have HLT := Lib.hid (show ∀ j, u11.ownBlock = some j → j < z12 from fun j hj => by rw [← hz12]; exact (HA1.out.was.lt j hj).2)
        have HZ5_2 := Lib.hid ((hbA.block _ (Array.getElem?_eq_some_iff.1 HZ5_1.out).1).trans HZ5_1.out)
        have HP2 := Lib.hid ((hbA.block _ (Array.getElem?_eq_some_iff.1 HP1.out).1).trans HP1.out)
        have HQ2 := Lib.hid ((hbA.block _ (Array.getElem?_eq_some_iff.1 HQ1.out).1).trans HQ1.out)
        have HO2 := Lib.hid (HO1.out.below hbA)
        refine HK7.out _ _ ⟨fun _ _ => qcn HP2.out HQ2.out, ?_⟩
        clear HK7 K7 hz hbA hN hz12
        (try simp only [Act.put, sa, sz, ss])
        refine qa5 (l := [6]) (by kernel_rfl) (by simp) ?_
        intro i hi K7 hK7
        simp only [List.mem_cons, List.not_mem_nil, or_false] at hi
        subst hi
        have HK7 := Lib.hid hK7
        clear hK7
        refine TailRegion.wpOp_of rfl rfl ?_
        (try simp only [List.getElem_toArray, List.getElem_cons_succ, List.getElem_cons_zero])
        obtain ⟨x6, V3, hr, has', hg⟩ := HA2.out.append_was HZ5_2.out HLW.out.1
        refine TailRegion.wp_append_run _ _ _ rfl _ _ rfl rfl _ rfl hr ?_
        have HA3 := Lib.hid has'
        have HV3 := Lib.hid (HV2.out.grown hg HV2.out.size (fun j hj => by have := (HA2.out.was.lt j hj).1; have := HS3.out; omega))
        have HP3 := Lib.hid ((hg.block _ (Array.getElem?_eq_some_iff.1 HP2.out).1 (own_ne HA2.out.was HP2.out (by decide)).symm).trans HP2.out)
        have HQ3 := Lib.hid ((hg.block _ (Array.getElem?_eq_some_iff.1 HQ2.out).1 (own_ne HA2.out.was HQ2.out (by decide)).symm).trans HQ2.out)
        have HO3 := Lib.hid (ow_kept HO2.out HA2.out.was hg)
        have HZ12_3 := Lib.hid ((hg.block z12 (Array.getElem?_eq_some_iff.1 HZ12_2.out).1 (fun e => by have := HLT.out _ e.symm; omega)).trans HZ12_2.out)
        refine HK7.out _ _ ⟨fun _ _ => qcn HP3.out HQ3.out, ?_⟩
        clear HK7 K7 hr has' hg
        (try simp only [Act.put, sa, sz, ss])
        refine qa5 (l := [13]) (by kernel_rfl) (by simp) ?_
        intro i hi K7 hK7
        simp only [List.mem_cons, List.not_mem_nil, or_false] at hi
        subst hi
        have HK7 := Lib.hid hK7
        clear hK7
        refine TailRegion.wpOp_of rfl rfl ?_
        (try simp only [List.getElem_toArray, List.getElem_cons_succ, List.getElem_cons_zero])
        obtain ⟨x13, V4, hr, has', hg⟩ := HA3.out.append_is HZ12_3.out HLW.out.2
        refine TailRegion.wp_append_run _ _ _ rfl _ _ rfl rfl _ rfl hr ?_
        have HA4 := Lib.hid has'
        have HV4 := Lib.hid (HV3.out.grown hg HV3.out.size (fun j hj => by have := (HA3.out.is.lt j hj).1; have := HS3.out; omega))
        have HP4 := Lib.hid ((hg.block _ (Array.getElem?_eq_some_iff.1 HP3.out).1 (own_ne HA3.out.is HP3.out (by decide)).symm).trans HP3.out)
        have HQ4 := Lib.hid ((hg.block _ (Array.getElem?_eq_some_iff.1 HQ3.out).1 (own_ne HA3.out.is HQ3.out (by decide)).symm).trans HQ3.out)
        have HO4 := Lib.hid (ow_kept HO3.out HA3.out.is hg)
        refine HK7.out _ _ ⟨fun _ _ => qcn HP4.out HQ4.out, ?_⟩
        clear HK7 K7 hr has' hg
        (try simp only [Act.put, sa, sz, ss])
        refine pu (i := 14) (v := x6) rfl (fun _ => by go_simp) ?_
        simp only [Act.put, sa, sz, ss]
        refine pu (i := 15) (v := x13) rfl (fun _ => by go_simp) ?_
        simp only [Act.put, sa, sz, ss]
        (try simp only [List.getElem_toArray, List.getElem_cons_succ, List.getElem_cons_zero, Act.put, sa, sz, ss])
        refine TailRegion.wpAnyT_done (by kernel_rfl) ?_ _
        go_wp2_with fail
        go_meet
        exact ⟨HA4.out, HV4.out, HP4.out, HQ4.out, HO4.out⟩
      ·have HK7 := Lib.hid hK7
       clear hK7
       refine TailRegion.wpOp_of rfl rfl ?_
       (try simp only [List.getElem_toArray, List.getElem_cons_succ, List.getElem_cons_zero])
       unfold Oper.wp
       go_simp
       obtain ⟨z12, hz12⟩ : ∃ p, V0.heap.size = p := ⟨_, rfl⟩
       obtain ⟨V1, hN⟩ : ∃ N, V0.alloc (.cells #[.int .i64 (toF gR t.b), .int .i64 (toF gR t.c)] 3) = N := ⟨_, rfl⟩
       have hz : V1.heap[z12]? = some (.cells #[.int .i64 (toF gR t.b), .int .i64 (toF gR t.c)] 3) := by rw [← hN, ← hz12]; exact alloc_at _ _
       have hbA : Below V0.heap.size V0 V1 := by rw [← hN]; exact (Below.refl _ _).alloc (Nat.le_refl _) _
       rw [hN]
       rw [hz12]
       have HZ12_1 := Lib.hid hz
       have HA1 := Lib.hid (HA0.out.below hbA)
       have HV1 := Lib.hid (HV0.out.trans (hbA.mono HV0.out.size))
       have HLT := Lib.hid (show ∀ j, u11.ownBlock = some j → j < z12 from fun j hj => by rw [← hz12]; exact (HA0.out.was.lt j hj).2)
       have HP1 := Lib.hid ((hbA.block _ (Array.getElem?_eq_some_iff.1 HP0.out).1).trans HP0.out)
       have HQ1 := Lib.hid ((hbA.block _ (Array.getElem?_eq_some_iff.1 HQ0.out).1).trans HQ0.out)
       have HO1 := Lib.hid (HO0.out.below hbA)
       refine HK7.out _ _ ⟨fun _ _ => qcn HP1.out HQ1.out, ?_⟩
       clear HK7 K7 hz hbA hN hz12
       (try simp only [Act.put, sa, sz, ss])
       refine qa5 (l := [5]) (by kernel_rfl) (by simp) ?_
       intro i hi K7 hK7
       simp only [List.mem_cons, List.not_mem_nil, or_false] at hi
       subst hi
       have HK7 := Lib.hid hK7
       clear hK7
       refine TailRegion.wpOp_of rfl rfl ?_
       (try simp only [List.getElem_toArray, List.getElem_cons_succ, List.getElem_cons_zero])
       unfold Oper.wp
       go_simp
       obtain ⟨z5, hz5⟩ : ∃ p, V1.heap.size = p := ⟨_, rfl⟩
       obtain ⟨V2, hN⟩ : ∃ N, V1.alloc (.cells #[.int .i64 t.b, .int .i64 t.c] 3) = N := ⟨_, rfl⟩
       have hz : V2.heap[z5]? = some (.cells #[.int .i64 t.b, .int .i64 t.c] 3) := by rw [← hN, ← hz5]; exact alloc_at _ _
       have hbA : Below V1.heap.size V1 V2 := by rw [← hN]; exact (Below.refl _ _).alloc (Nat.le_refl _) _
       rw [hN]
       rw [hz5]
       have HZ5_2 := Lib.hid hz
       have HA2 := Lib.hid (HA1.out.below hbA)
       have HV2 := Lib.hid (HV1.out.trans (hbA.mono HV1.out.size))
       have HZ12_2 := Lib.hid ((hbA.block _ (Array.getElem?_eq_some_iff.1 HZ12_1.out).1).trans HZ12_1.out)
       have HP2 := Lib.hid ((hbA.block _ (Array.getElem?_eq_some_iff.1 HP1.out).1).trans HP1.out)
       have HQ2 := Lib.hid ((hbA.block _ (Array.getElem?_eq_some_iff.1 HQ1.out).1).trans HQ1.out)
       have HO2 := Lib.hid (HO1.out.below hbA)
       refine HK7.out _ _ ⟨fun _ _ => qcn HP2.out HQ2.out, ?_⟩
       clear HK7 K7 hz hbA hN hz5
       (try simp only [Act.put, sa, sz, ss])
       refine qa5 (l := [6]) (by kernel_rfl) (by simp) ?_
       intro i hi K7 hK7
       simp only [List.mem_cons, List.not_mem_nil, or_false] at hi
       subst hi
       have HK7 := Lib.hid hK7
       clear hK7
       refine TailRegion.wpOp_of rfl rfl ?_
       (try simp only [List.getElem_toArray, List.getElem_cons_succ, List.getElem_cons_zero])
       obtain ⟨x6, V3, hr, has', hg⟩ := HA2.out.append_was HZ5_2.out HLW.out.1
       refine TailRegion.wp_append_run _ _ _ rfl _ _ rfl rfl _ rfl hr ?_
       have HA3 := Lib.hid has'
       have HV3 := Lib.hid (HV2.out.grown hg HV2.out.size (fun j hj => by have := (HA2.out.was.lt j hj).1; have := HS3.out; omega))
       have HP3 := Lib.hid ((hg.block _ (Array.getElem?_eq_some_iff.1 HP2.out).1 (own_ne HA2.out.was HP2.out (by decide)).symm).trans HP2.out)
       have HQ3 := Lib.hid ((hg.block _ (Array.getElem?_eq_some_iff.1 HQ2.out).1 (own_ne HA2.out.was HQ2.out (by decide)).symm).trans HQ2.out)
       have HO3 := Lib.hid (ow_kept HO2.out HA2.out.was hg)
       have HZ12_3 := Lib.hid ((hg.block z12 (Array.getElem?_eq_some_iff.1 HZ12_2.out).1 (fun e => by have := HLT.out _ e.symm; omega)).trans HZ12_2.out)
       refine HK7.out _ _ ⟨fun _ _ => qcn HP3.out HQ3.out, ?_⟩
       clear HK7 K7 hr has' hg
       (try simp only [Act.put, sa, sz, ss])
       refine qa5 (l := [13]) (by kernel_rfl) (by simp) ?_
       intro i hi K7 hK7
       simp only [List.mem_cons, List.not_mem_nil, or_false] at hi
       subst hi
       have HK7 := Lib.hid hK7
       clear hK7
       refine TailRegion.wpOp_of rfl rfl ?_
       (try simp only [List.getElem_toArray, List.getElem_cons_succ, List.getElem_cons_zero])
       obtain ⟨x13, V4, hr, has', hg⟩ := HA3.out.append_is HZ12_3.out HLW.out.2
       refine TailRegion.wp_append_run _ _ _ rfl _ _ rfl rfl _ rfl hr ?_
       have HA4 := Lib.hid has'
       have HV4 := Lib.hid (HV3.out.grown hg HV3.out.size (fun j hj => by have := (HA3.out.is.lt j hj).1; have := HS3.out; omega))
       have HP4 := Lib.hid ((hg.block _ (Array.getElem?_eq_some_iff.1 HP3.out).1 (own_ne HA3.out.is HP3.out (by decide)).symm).trans HP3.out)
       have HQ4 := Lib.hid ((hg.block _ (Array.getElem?_eq_some_iff.1 HQ3.out).1 (own_ne HA3.out.is HQ3.out (by decide)).symm).trans HQ3.out)
       have HO4 := Lib.hid (ow_kept HO3.out HA3.out.is hg)
       refine HK7.out _ _ ⟨fun _ _ => qcn HP4.out HQ4.out, ?_⟩
       clear HK7 K7 hr has' hg
       (try simp only [Act.put, sa, sz, ss])
       refine pu (i := 14) (v := x6) rfl (fun _ => by go_simp) ?_
       simp only [Act.put, sa, sz, ss]
       refine pu (i := 15) (v := x13) rfl (fun _ => by go_simp) ?_
       simp only [Act.put, sa, sz, ss]
       (try simp only [List.getElem_toArray, List.getElem_cons_succ, List.getElem_cons_zero, Act.put, sa, sz, ss])
       refine TailRegion.wpAnyT_done (by kernel_rfl) ?_ _
       go_wp2_with fail
       go_meet
       exact ⟨HA4.out, HV4.out, HP4.out, HQ4.out, HO4.out⟩
     case rest =>
      obtain ⟨hasR, hbR, hpR, hqR, howR⟩ := hcut
      have HAR := Lib.hid hasR
      have HBR := Lib.hid hbR
      have HPR := Lib.hid hpR
      have HQR := Lib.hid hqR
      have HOR := Lib.hid howR
      have d3 := Lib.cell_of_heap hpR 3
      simp only [List.getElem?_toArray, List.getElem?_cons_zero, List.getElem?_cons_succ] at d3
      clear hasR hbR hpR hqR howR HA9 HB9 HP9 HQ9 HO9
      go_wp2_with fail
      clear d3
      go_loopw [79] (fun v ws => ∃ (j : Nat) (fK' fV' : Int → Option Int) (sK' sV' : Nat), j ≤ no ∧ v = .int .i64 ((j : Nat) : Int) ∧ AS w (bk + 3) bk (bk + 1) (bk + 2) ws ((pick h (ix.take i)).map (renT (qbp gK gS gV gR)) ++ [renT (qbp gK gS gV gR) t]) (rows ++ [⟨toF gS t.s, toF gR t.b, toF gR t.c, g, no, cp⟩]) v8 u11 u12 (qap (pick h (ix.take i)) ++ [t.b, t.c]) ((qap (pick h (ix.take i))).map (qbp gK gS gV gR).R ++ [toF gR t.b, toF gR t.c]) fK' (fun y => if y = t.s then some (toF gS t.s) else fS y) fV' sK' (if ((nI fS t.s).isSome) = true then sS else sS + 1) sV' ∧ Below w2.heap.size w2 ws ∧
       ws.heap[p10]? = some (.cells #[.int .i64 t.s, .int .i64 t.b, .int .i64 t.c, .slice A3 no c3] 55 (0, 0)) ∧ ws.heap[p11]? = some (.cells #[.int .i64 (toF gS t.s), .int .i64 (toF gR t.b), .int .i64 (toF gR t.c), .slice (some ⟨g, 0, none⟩) no cp] 55 (0, 0)) ∧ OW ws g cp (t.ops.map (renO (qbp gK gS gV gR))) ∧
       KeyOk fK' (qa4 (pick h (ix.take i)) ++ (t.ops.take j).map (·.k)) (qbp gK gS gV gR).K ∧ KeyOk fV' (allV (pick h (ix.take i)) ++ (t.ops.take j).map (·.v)) (valR (qbp gK gS gV gR)) ∧ sK' ≤ i * 64 + j ∧ sV' ≤ i * 64 + j) (fun v _ => no - (intOf v).toNat)
      case atStart => exact ⟨0, fK, fV, sK, sV, Nat.zero_le _, rfl, HAR.out, HBR.out, HPR.out, HQR.out, HOR.out, by simpa using HK3.out.1, by simpa using HK3.out.2.2, by omega, by omega⟩
      case round =>
       clear HAR HBR HPR HQR HOR
       obtain ⟨j, fK', fV', sK', sV', hj, rfl, has, hbS, hpS, hqS, howS, kK, kV, hsK', hsV'⟩ := hrel
       have HAS := Lib.hid has
       have HBS := Lib.hid hbS
       have HPS := Lib.hid hpS
       have HQS := Lib.hid hqS
       have HOS := Lib.hid howS
       have HKK := Lib.hid kK
       have HKV := Lib.hid kV
       clear has hbS hpS hqS howS kK kV
       by_cases hjt : j < no
       ·have hjz : (j : Int) < (no : Int) := by omega
        have hno64 := HT.out.2.2.2
        obtain ⟨ao, rfl, hco⟩ := HROW.out (by rw [HT.out.2.1]; omega)
        obtain ⟨o, ho⟩ : ∃ o, t.ops[j]? = some o := ⟨_, List.getElem?_eq_getElem (by rw [HT.out.2.1]; exact hjt)⟩
        obtain ⟨y0, y1, y2⟩ := hco j o ho
        replace y0 := cell_below HAS.out.bel y0
        replace y1 := cell_below HAS.out.bel y1
        replace y2 := cell_below HAS.out.bel y2
        have HOT := Lib.hid (show t.ops.take (j + 1) = t.ops.take j ++ [o] by rw [List.take_add_one, ho]; rfl)
        have HOJ := Lib.hid (show (t.ops.map (renO (qbp gK gS gV gR)))[j]? = some (renO (qbp gK gS gV gR) o) by rw [List.getElem?_map, ho]; rfl)
        have HWO := Lib.hid (show (Lit.int .i64 o.k).wf = true ∧ (Lit.int .i64 o.v).wf = true from HT.out.1.2.2.2 o (List.mem_of_getElem? ho))
        have HWK := Lib.hid (show Wf (toF gK o.k) ∧ Wf (valF gV o.v) from ⟨toF_wf HM2.out.wK HWO.out.1, valF_wf HM2.out.wV HWO.out.2⟩)
        clear hco ho
        go_upto_region 17 with fail
        clear y0 y1 y2
        obtain ⟨pO, hpO⟩ : ∃ p, wr.heap.size = p := ⟨_, rfl⟩
        obtain ⟨V1, hV1⟩ : ∃ V, (wr.alloc (.cells #[.bool o.w, .int .i64 o.k, .int .i64 o.v] 51)).drew = V := ⟨_, rfl⟩
        have hbv : Below wr.heap.size wr V1 := by rw [← hV1]; exact ((Below.refl _ _).alloc (Nat.le_refl _) _).drew
        have hpv : V1.heap[pO]? = some (.cells #[.bool o.w, .int .i64 o.k, .int .i64 o.v] 51 (0, 0)) := by rw [← hV1, ← hpO]; exact alloc_at wr _
        have HA1 := Lib.hid (HAS.out.below hbv)
        have HBV := Lib.hid (HBS.out.trans (hbv.mono HBS.out.size))
        have HPV := Lib.hid hpv
        have HDV := Lib.hid ((hbv.block _ (Array.getElem?_eq_some_iff.1 HQS.out).1).trans HQS.out)
        have HQV := Lib.hid ((hbv.block _ (Array.getElem?_eq_some_iff.1 HPS.out).1).trans HPS.out)
        have HOV := Lib.hid (HOS.out.below hbv)
        have HSK := Lib.hid (show sK' < maxLen ∧ sV' < maxLen from by have := HT.out.2.2.2; unfold maxLen; constructor <;> omega)
        have HZV := Lib.hid (show ∀ u : World, (zeroValue 3).run Try.prog u = .ok (.int .i64 0) u from fun _ => by kernel_rfl)
        obtain ⟨va, na, X1, X2, ra1, ga1, za1, ra2, ga2, za2, ima⟩ := HA1.out.K.entry Try.underlying34 Try.underlying3 (z := .int .i64 0) HZV.out HSK.out.1 HWO.out.1 (.int .i64 (toF gK o.k))
        rw [← nI_upd] at ima
        have HPX1 := Lib.hid ((ga1.block _ (Array.getElem?_eq_some_iff.1 HPV.out).1 (qbr HA1.out.K HPV.out)).trans HPV.out)
        have HQX1 := Lib.hid ((ga1.block _ (Array.getElem?_eq_some_iff.1 HQV.out).1 (qbr HA1.out.K HQV.out)).trans HQV.out)
        have HDX1 := Lib.hid ((ga1.block _ (Array.getElem?_eq_some_iff.1 HDV.out).1 (qbr HA1.out.K HDV.out)).trans HDV.out)
        have HOX1 := Lib.hid (ow_im HOV.out HA1.out.K ga1)
        have HPX2 := Lib.hid ((ga2.block _ (Array.getElem?_eq_some_iff.1 HPV.out).1 (qbr HA1.out.K HPV.out)).trans HPV.out)
        have HQX2 := Lib.hid ((ga2.block _ (Array.getElem?_eq_some_iff.1 HQV.out).1 (qbr HA1.out.K HQV.out)).trans HQV.out)
        have HDX2 := Lib.hid ((ga2.block _ (Array.getElem?_eq_some_iff.1 HDV.out).1 (qbr HA1.out.K HDV.out)).trans HDV.out)
        have HOX2 := Lib.hid (ow_im HOV.out HA1.out.K ga2)
        have HA2 := Lib.hid (HA1.out.putK ga2 ima)
        have HB2 := Lib.hid (HBV.out.grown ga2 HBV.out.size (fun q hq => by cases hq; have := HS3.out; omega))
        have HRA1 := Lib.hid (show (Instr.mapEntry 34 (.map (some bk)) (.int .i64 o.k)).run Try.prog V1 = .ok (.tuple #[va, .int .i64 (na : Int)]) X1 from ra1)
        have HRA := Lib.hid (show (Instr.entryStore 34 (.map (some bk)) (.int .i64 (na : Int)) (.int .i64 (toF gK o.k))).run Try.prog X1 = .ok () X2 from ra2)
        clear ga1 ga2 ima za1 za2 ra1 ra2
        obtain ⟨vb, sb, X3, X4, rb1, gb1, zb1, rb2, gb2, zb2, imb⟩ := HA2.out.V.entry Try.underlying34 Try.underlying3 (z := .int .i64 0) HZV.out HSK.out.2 HWO.out.2 (.int .i64 (valF gV o.v))
        rw [← nI_upd] at imb
        have HPX3 := Lib.hid ((gb1.block _ (Array.getElem?_eq_some_iff.1 HPX2.out).1 (qbr HA2.out.V HPX2.out)).trans HPX2.out)
        have HQX3 := Lib.hid ((gb1.block _ (Array.getElem?_eq_some_iff.1 HQX2.out).1 (qbr HA2.out.V HQX2.out)).trans HQX2.out)
        have HDX3 := Lib.hid ((gb1.block _ (Array.getElem?_eq_some_iff.1 HDX2.out).1 (qbr HA2.out.V HDX2.out)).trans HDX2.out)
        have HOX3 := Lib.hid (ow_im HOX2.out HA2.out.V gb1)
        have HPX4 := Lib.hid ((gb2.block _ (Array.getElem?_eq_some_iff.1 HPX2.out).1 (qbr HA2.out.V HPX2.out)).trans HPX2.out)
        have HQX4 := Lib.hid ((gb2.block _ (Array.getElem?_eq_some_iff.1 HQX2.out).1 (qbr HA2.out.V HQX2.out)).trans HQX2.out)
        have HDX4 := Lib.hid ((gb2.block _ (Array.getElem?_eq_some_iff.1 HDX2.out).1 (qbr HA2.out.V HDX2.out)).trans HDX2.out)
        have HOX4 := Lib.hid (ow_im HOX2.out HA2.out.V gb2)
        have HA4 := Lib.hid (HA2.out.putV gb2 imb)
        have HB4 := Lib.hid (HB2.out.grown gb2 HB2.out.size (fun q hq => by cases hq; have := HS3.out; omega))
        have HRB1 := Lib.hid (show (Instr.mapEntry 34 (.map (some (bk + 1 + 1))) (.int .i64 o.v)).run Try.prog X2 = .ok (.tuple #[vb, .int .i64 (sb : Int)]) X3 from rb1)
        have HRB := Lib.hid (show (Instr.entryStore 34 (.map (some (bk + 1 + 1))) (.int .i64 (sb : Int)) (.int .i64 (valF gV o.v))).run Try.prog X3 = .ok () X4 from rb2)
        clear gb1 gb2 imb zb1 zb2 rb1 rb2
        refine TailRegion.wp_region_tail [] (TE pO p11 g j no cp o (toF gK o.k) (valF gV o.v)) (by kernel_rfl) ?_
        rw [hV1]
        rw [hpO]
        have hAA : TE pO p11 g j no cp o (toF gK o.k) (valF gV o.v) V1 := te_of HPV.out HDV.out HOV.out HOJ.out
        clear hV1 hbv hpv hpO HAS HBS HPS HQS HOS
        refine pu (i := 0) (v := .map (some bk)) rfl (fun _ => by go_simp) ?_
        simp only [Act.put, sa, sz, ss]
        refine pu (i := 1) (v := .pointer (some ⟨pO, 1, none⟩)) rfl (fun _ => by go_simp) ?_
        simp only [Act.put, sa, sz, ss]
        refine ta (i := 2) (v := .int .i64 o.k) rfl (fun _ hW => by obtain ⟨q0, q1, q2, q3, q4⟩ := hW; go_simp) hAA ?_
        simp only [Act.put, sa, sz, ss]
        refine pu (i := 3) (v := .map (some (bk + 1 + 1))) rfl (fun _ => by go_simp) ?_
        simp only [Act.put, sa, sz, ss]
        refine pu (i := 4) (v := .pointer (some ⟨pO, 2, none⟩)) rfl (fun _ => by go_simp) ?_
        simp only [Act.put, sa, sz, ss]
        refine ta (i := 5) (v := .int .i64 o.v) rfl (fun _ hW => by obtain ⟨q0, q1, q2, q3, q4⟩ := hW; go_simp) hAA ?_
        simp only [Act.put, sa, sz, ss]
        refine pu (i := 6) (v := .pointer (some ⟨p11, 3, none⟩)) rfl (fun _ => by go_simp) ?_
        simp only [Act.put, sa, sz, ss]
        refine ta (i := 7) (v := .slice (some ⟨g, 0, none⟩) no cp) rfl (fun _ hW => by obtain ⟨q0, q1, q2, q3, q4⟩ := hW; go_simp) hAA ?_
        simp only [Act.put, sa, sz, ss]
        refine pu (i := 8) (v := .int .i64 (j : Int)) rfl (fun _ => by go_simp) ?_
        simp only [Act.put, sa, sz, ss]
        refine pu (i := 9) (v := .pointer (some ⟨g, j * 3, none⟩)) rfl (fun _ => by go_simp) ?_
        simp only [Act.put, sa, sz, ss]
        refine pu (i := 10) (v := .pointer (some ⟨g, j * 3 + 1, none⟩)) rfl (fun _ => by go_simp) ?_
        simp only [Act.put, sa, sz, ss]
        refine ta (i := 11) (v := .int .i64 (toF gK o.k)) rfl (fun _ hW => by obtain ⟨q0, q1, q2, q3, q4⟩ := hW; go_simp) hAA ?_
        simp only [Act.put, sa, sz, ss]
        refine pu (i := 12) (v := .pointer (some ⟨p11, 3, none⟩)) rfl (fun _ => by go_simp) ?_
        simp only [Act.put, sa, sz, ss]
        refine ta (i := 13) (v := .slice (some ⟨g, 0, none⟩) no cp) rfl (fun _ hW => by obtain ⟨q0, q1, q2, q3, q4⟩ := hW; go_simp) hAA ?_
        simp only [Act.put, sa, sz, ss]
        refine pu (i := 14) (v := .int .i64 (j : Int)) rfl (fun _ => by go_simp) ?_
        simp only [Act.put, sa, sz, ss]
        refine pu (i := 15) (v := .pointer (some ⟨g, j * 3, none⟩)) rfl (fun _ => by go_simp) ?_
        simp only [Act.put, sa, sz, ss]
        refine pu (i := 16) (v := .pointer (some ⟨g, j * 3 + 2, none⟩)) rfl (fun _ => by go_simp) ?_
        simp only [Act.put, sa, sz, ss]
        refine ta (i := 17) (v := .int .i64 (valF gV o.v)) rfl (fun _ hW => by obtain ⟨q0, q1, q2, q3, q4⟩ := hW; go_simp) hAA ?_
        simp only [Act.put, sa, sz, ss]
        clear hAA
        refine wpAnyT_next (i := 18) rfl (by kernel_rfl) rfl ?_
        intro K7 hK7
        have HK7 := Lib.hid hK7
        clear hK7
        have rr := HRA1.out
        (try simp only [List.getElem_toArray, List.getElem_cons_succ, List.getElem_cons_zero])
        unfold Oper.wp
        go_simp
        clear rr
        refine HK7.out _ _ ⟨fun _ _ => te_of HPX1.out HDX1.out HOX1.out HOJ.out, ?_⟩
        clear HK7 K7
        (try simp only [Act.put, sa, sz, ss])
        refine pu (i := 19) (v := .int .i64 (na : Int)) rfl (fun _ => by go_simp) ?_
        simp only [Act.put, sa, sz, ss]
        refine wpAnyT_next (i := 20) rfl (by kernel_rfl) rfl ?_
        intro K7 hK7
        have HK7 := Lib.hid hK7
        clear hK7
        have rr := HRA.out
        (try simp only [List.getElem_toArray, List.getElem_cons_succ, List.getElem_cons_zero])
        unfold Oper.wp
        go_simp
        clear rr
        refine HK7.out _ _ ⟨fun _ _ => te_of HPX2.out HDX2.out HOX2.out HOJ.out, ?_⟩
        clear HK7 K7
        (try simp only [Act.put, sa, sz, ss])
        refine wpAnyT_next (i := 21) rfl (by kernel_rfl) rfl ?_
        intro K7 hK7
        have HK7 := Lib.hid hK7
        clear hK7
        have rr := HRB1.out
        (try simp only [List.getElem_toArray, List.getElem_cons_succ, List.getElem_cons_zero])
        unfold Oper.wp
        go_simp
        clear rr
        refine HK7.out _ _ ⟨fun _ _ => te_of HPX3.out HDX3.out HOX3.out HOJ.out, ?_⟩
        clear HK7 K7
        (try simp only [Act.put, sa, sz, ss])
        refine pu (i := 22) (v := .int .i64 (sb : Int)) rfl (fun _ => by go_simp) ?_
        simp only [Act.put, sa, sz, ss]
        refine wpAnyT_next (i := 23) rfl (by kernel_rfl) rfl ?_
        intro K7 hK7
        have HK7 := Lib.hid hK7
        clear hK7
        have rr := HRB.out
        (try simp only [List.getElem_toArray, List.getElem_cons_succ, List.getElem_cons_zero])
        unfold Oper.wp
        go_simp
        clear rr
        refine HK7.out _ _ ⟨fun _ _ => te_of HPX4.out HDX4.out HOX4.out HOJ.out, ?_⟩
        clear HK7 K7
        (try simp only [Act.put, sa, sz, ss])
        refine TailRegion.wpAnyT_done (by kernel_rfl) ?_ _
        go_wp2_with fail
        go_roundw
        case rel =>
         refine ⟨j + 1, _, _, _, _, by omega, by go_num, HA4.out, HB4.out, HQX4.out, HDX4.out, HOX4.out, ?_, ?_, ?_, ?_⟩
         ·rw [HOT.out, List.map_append, ← List.append_assoc]; exact HKK.out.put (x := o.k) HWK.out.1
         ·rw [HOT.out, List.map_append, ← List.append_assoc]; exact HKV.out.put (x := o.v) HWK.out.2
         ·split <;> omega
         ·split <;> omega
        case measure => (simp [intOf]; try omega)
       ·have hjn : j = no := by omega
        subst hjn
        have htk : t.ops.take j = t.ops := List.take_of_length_le (by rw [HT.out.2.1]; exact Nat.le_refl _)
        have hno64 := HT.out.2.2.2
        have hsS9 : (if ((nI fS t.s).isSome) = true then sS else sS + 1) ≤ i + 1 := by split <;> omega
        have HE := Lib.hid (show KeyOk fK' (qa4 (pick h (ix.take (i + 1)))) (qbp gK gS gV gR).K ∧ KeyOk (fun y => if y = t.s then some (toF gS t.s) else fS y) (qbk (pick h (ix.take (i + 1)))) (qbp gK gS gV gR).S ∧ KeyOk fV' (allV (pick h (ix.take (i + 1)))) (valR (qbp gK gS gV gR)) from by
         rw [HTK.out, keysL_snoc, sessL_snoc, allV_snoc]
         have a1 := HKK.out
         have a2 := HKV.out
         rw [htk] at a1 a2
         exact ⟨a1, HK3.out.2.1.put (x := t.s) (toF_wf HM2.out.wS HT.out.1.1), a2⟩)
        have HAE := Lib.hid (show AS w (bk + 3) bk (bk + 1) (bk + 2) wr ((pick h (ix.take (i + 1))).map (renT (qbp gK gS gV gR))) (rows ++ [⟨toF gS t.s, toF gR t.b, toF gR t.c, g, j, cp⟩]) v8 u11 u12 (qap (pick h (ix.take (i + 1)))) ((qap (pick h (ix.take (i + 1)))).map (qbp gK gS gV gR).R) fK' (fun y => if y = t.s then some (toF gS t.s) else fS y) fV' sK' (if ((nI fS t.s).isSome) = true then sS else sS + 1) sV' from by
         rw [HTK.out, stampsL_snoc, List.map_append, List.map_append]
         exact HAS.out)
        clear htk HAS HPS HQS HOS
        go_wp2_with fail
        go_roundw
        case rel => exact ⟨i + 1, _, _, _, _, _, _, _, by omega, by go_num, HBS.out, HAE.out, HE.out.1, HE.out.2.1, HE.out.2.2, by omega, hsS9, by omega⟩
        case measure => (simp [intOf]; try omega)
   ·have hin : i = n := by omega
    subst hin
    obtain ⟨hnd, hall, hlen, hic, hrd⟩ := HIX.out
    have htk : ix.take i = ix := List.take_of_length_le (by rw [hlen]; exact Nat.le_refl _)
    rw [htk] at HAS HK3
    have hA := HAS.out
    obtain ⟨Aw, cw, rfl, hrw⟩ := own_rdI hA.was
    obtain ⟨Ai, ci, rfl, hri⟩ := own_rdI hA.is
    obtain ⟨Ao, co, rfl, hlo', hro⟩ := hA.out.rd
    obtain ⟨nS, hnS⟩ : ∃ q, (qap (pick h ix)).length = q := ⟨_, rfl⟩
    have hnS2 : ((qap (pick h ix)).map (qbp gK gS gV gR).R).length = nS := by rw [List.length_map, hnS]
    have hnY : ((pick h ix).map (renT (qbp gK gS gV gR))).length = i := by rw [List.length_map]; unfold pick; rw [List.length_map, hlen]
    have hnS3 : nS ≤ 100000 := by rw [← hnS, stampsL_length]; unfold pick; rw [List.length_map, hlen]; omega
    obtain ⟨y, hy⟩ : ∃ y, (pick h ix).map (renT (qbp gK gS gV gR)) = y := ⟨_, rfl⟩
    have hcnt : qar y ≤ 1024 := by rw [← hy, countT_ren, count_perm (pick_perm (perm_range hnd (by rw [HN.out]; exact hall) (by rw [HN.out]; exact hlen)))]; exact HZ.out.2.1
    rw [hy] at hnY hro hlo'
    rw [hnS, hnS2, hy, hnY]
    rw [hnY] at hlo'
    have HAF := Lib.hid (HAS.out)
    have HAP := Lib.hid (show ∀ iK : InjM fK, InjM fS → InjM fV → Kept (qap (pick h ix)) ((qap (pick h ix)).map (qbp gK gS gV gR).R) → qa3 y = 0 → qbg y = qbg h from fun iK iS iV kk hz => by
     rw [← hy] at hz ⊢
     exact applied_of HC.out hnd (by rw [HN.out]; exact hall) (by rw [HN.out]; exact hlen) HK3.out.1 HK3.out.2.1 HK3.out.2.2 iK iS iV kk hz)
    have HWF := Lib.hid (show WfM fK ∧ WfM fS ∧ WfM fV ∧ sK ≤ 10000 ∧ sS ≤ 10000 ∧ sV ≤ 10000 from ⟨HK3.out.1.2, HK3.out.2.1.2, HK3.out.2.2.2, by omega, by omega, by omega⟩)
    have HLEN := Lib.hid (show (qap (pick h ix)).length = nS ∧ ((qap (pick h ix)).map (qbp gK gS gV gR).R).length = nS ∧ y.length = i ∧ nS ≤ 100000 ∧ qar y ≤ 1024 ∧ i ≤ co from ⟨hnS, hnS2, hnY, hnS3, hcnt, hlo'⟩)
    have HRW := Lib.hid hrw
    have HRI := Lib.hid hri
    have HRO := Lib.hid hro
    have HBE := Lib.hid hA.bel
    have HN1 := Lib.hid (names_calls HWF.out.1 HWF.out.2.2.2.1 hA.K)
    have HST := Lib.hid (show ∀ w7 : World, Below wr.heap.size wr w7 → Calls Try.prog 49 #[.slice Aw nS cw, .slice Ai nS ci] w7 fun e w' => (∃ r : Bool, e = .returned (.bool r) ∧ (r = true → Kept (qap (pick h ix)) ((qap (pick h ix)).map (qbp gK gS gV gR).R))) ∧ Below w7.heap.size w7 w' from fun w7 hb => by
     have := stamps_law Aw Ai cw ci (qap (pick h ix)) ((qap (pick h ix)).map (qbp gK gS gV gR).R) (by rw [HLEN.out.1, HLEN.out.2.1]) (by rw [HLEN.out.1]; exact HLEN.out.2.2.2.1) w7 (HRW.out.below hb) (HRI.out.below hb)
     rw [HLEN.out.1, HLEN.out.2.1] at this
     exact this)
    obtain ⟨cy, hcy⟩ : ∃ c, qa3 y = c := ⟨_, rfl⟩
    have HCY := Lib.hid hcy
    have HCK := Lib.hid (show ∀ w8 : World, Below wr.heap.size wr w8 → Calls Try.prog 32 #[.slice Ao i co] w8 fun e w' => e = .returned (.int .i64 cy) ∧ Below w8.heap.size w8 w' from fun w8 hb => by
     have := check_calls Ao co y (by rw [HLEN.out.2.2.1]; exact HLEN.out.2.2.2.2.2) (by rw [HLEN.out.2.2.1]; omega) (by have := HLEN.out.2.2.2.2.1; omega) w8 (HRO.out.below hb)
     rw [HLEN.out.2.2.1, HCY.out] at this
     exact this)
    clear hnd hall hlen hic hrd htk hA hrw hri hro hlo' hnS hnS2 hnY hnS3 hcnt hy hcy HAS HK3
    have HV := Lib.hid (show (cy = 0 ∧ (cy == 0) = true) ∨ (cy == 0) = false from by by_cases h : cy = 0; exact .inl ⟨h, by simp [h]⟩; exact .inr (by simp [h]))
    have hlast : ∀ q : Bool, (cy == 0) = q → True := fun _ _ => trivial
    clear hlast
    have fin : ∀ w' : World, Below wr.heap.size wr w' → Below w.heap.size w w' := fun w' hb => HBE.out.trans (hb.mono HBE.out.size)
    have FIN := Lib.hid fin
    clear fin
    go_wp2_with fail
    refine HN1.out.mono ?_
    rintro e w5 ⟨⟨r5, rfl, h5⟩, hb5⟩
    have B5 := Lib.hid hb5
    clear hb5
    cases r5 with
    | false =>
     clear h5
     go_wp2_with fail
     go_ret2
     exact ⟨⟨_, false, rfl, fun h => by cases h⟩, FIN.out _ B5.out⟩
    | true =>
     have H5 := Lib.hid (h5 rfl)
     clear h5
     have HN2 := Lib.hid (names_calls HWF.out.2.1 HWF.out.2.2.2.2.1 (HAF.out.below B5.out).S)
     go_wp2_with fail
     refine HN2.out.mono ?_
     rintro e w6 ⟨⟨r6, rfl, h6⟩, hb6⟩
     have B6 := Lib.hid (B5.out.trans (hb6.mono B5.out.size))
     clear hb6
     cases r6 with
     | false =>
      clear h6
      go_wp2_with fail
      go_ret2
      exact ⟨⟨_, false, rfl, fun h => by cases h⟩, FIN.out _ B6.out⟩
     | true =>
      have H6 := Lib.hid (h6 rfl)
      clear h6
      have HN3 := Lib.hid (names_calls HWF.out.2.2.1 HWF.out.2.2.2.2.2 (HAF.out.below B6.out).V)
      go_wp2_with fail
      refine HN3.out.mono ?_
      rintro e w7 ⟨⟨r7, rfl, h7⟩, hb7⟩
      have B7 := Lib.hid (B6.out.trans (hb7.mono B6.out.size))
      clear hb7
      cases r7 with
      | false =>
       clear h7
       go_wp2_with fail
       go_ret2
       exact ⟨⟨_, false, rfl, fun h => by cases h⟩, FIN.out _ B7.out⟩
      | true =>
       have H7 := Lib.hid (h7 rfl)
       clear h7
       have HST7 := Lib.hid (HST.out _ B7.out)
       go_wp2_with fail
       refine HST7.out.mono ?_
       rintro e w8 ⟨⟨r8, rfl, h8⟩, hb8⟩
       have B8 := Lib.hid (B7.out.trans (hb8.mono B7.out.size))
       clear hb8
       cases r8 with
       | false =>
        clear h8
        go_wp2_with fail
        go_ret2
        exact ⟨⟨_, false, rfl, fun h => by cases h⟩, FIN.out _ B8.out⟩
       | true =>
        have H8 := Lib.hid (h8 rfl)
        clear h8
        have HCK8 := Lib.hid (HCK.out _ B8.out)
        go_wp2_with fail
        refine HCK8.out.mono ?_
        rintro e w9 ⟨rfl, hb9⟩
        have B9 := Lib.hid (B8.out.trans (hb9.mono B8.out.size))
        clear hb9
        rcases HV.out with ⟨h0, hv⟩ | hv
        ·have H0 := Lib.hid h0
         clear h0
         go_wp2_with fail
         go_ret2
         exact ⟨⟨_, true, rfl, fun _ => ⟨y, Ao, co, by rw [HLEN.out.2.2.1]; rfl, by rw [HLEN.out.2.2.1]; exact HLEN.out.2.2.2.2.2, HRO.out.below B9.out, HCY.out.trans H0.out, HAP.out H5.out H6.out H7.out H8.out (HCY.out.trans H0.out)⟩⟩, FIN.out _ B9.out⟩
        ·go_wp2_with fail
         go_ret2
         exact ⟨⟨_, false, rfl, fun h => by cases h⟩, FIN.out _ B9.out⟩
end Go.Proofs.Ytngkneknopenmaa.Hist
end
