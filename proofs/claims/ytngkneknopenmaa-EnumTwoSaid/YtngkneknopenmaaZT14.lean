/- qr3 of this claim, joined by a program of this session: the zS that its theorem uses. -/
import Derived.Test.YtngkneknopenmaaZT10
import Derived.Test.YtngkneknopenmaaZT12
import Derived.WideKeyEntry
set_option linter.unusedVariables false
set_option linter.unusedSimpArgs false
section
namespace Go.Proofs.Ytngkneknopenmaa.qi7
open Go Go.Maps Go.RowKit
open Go.ChangeMaps (setBlock heap_setBlock_same heap_setBlock_other modify_eq_set)
open Go.WideElems (Fit findIdx_born findIdx_arr modify_last set_self)
theorem jw4 {P : Program} {w : World} {t k e : TypeId} {H : Type} {R : Value → Option (DataW H × List MemPlace)} {b : Nat} {es : Array MapEntry} {clock : Nat} (K : Keyed P k) (ht : P.underlying t = some (.map k e)) {z : Value} (hz : ∀ u : World, (zeroValue e).run P u = .ok z u)
  (hb : w.heap[b]? = some (.map es clock)) (F : Fit P k R es clock) {key : Value} {kl : Lit} (hkey : keyOf P k key = some kl) :
  ∃ (v0 : Value) (st : Nat) (es1 : Array MapEntry) (c1 : Nat), (Instr.mapEntry t (.map (some b)) key).run P w = .ok (.tuple #[v0, goInt st]) (setBlock w b (.map es1 c1)) ∧
   ∀ (w2 : World) (val : Value), w2.heap[b]? = some (.map es1 c1) → ∃ es' c', (Instr.entryStore t (.map (some b)) (goInt st) val).run P w2 = .ok () (setBlock w2 b (.map es' c')) ∧ (Instr.mapUpdate t (.map (some b)) key val).run P w = .ok () (setBlock w b (.map es' c')) := by
 obtain ⟨s1, s2, _⟩ := F.stamped
 rcases K.find w hkey es.toList F.keys with ⟨h1, _⟩ | ⟨j, e0, h1, h2, h3⟩
 ·refine ⟨z, clock, es.push ⟨key, z, clock⟩, clock + 1, by simp [Instr.mapEntry, run_underlying ht, MapKept.run_getObj_map hb, K.check w false hkey, h1, hz, MapKept.run_setObj_map _ hb, Result.andThen, setBlock], fun w2 val hw2 => ⟨es.push ⟨key, val, clock⟩, clock + 1, ?_, by simp [Instr.mapUpdate, run_underlying ht, MapKept.run_getObj_map hb, K.check w false hkey, h1, MapKept.run_setObj_map _ hb, Result.andThen, setBlock]⟩⟩
  have hnd : ((es.push ⟨key, z, clock⟩).toList.map (·.born)).Nodup := by
   rw [Array.toList_push, List.map_append]
   refine List.nodup_append.2 ⟨s2, by simp, fun a ha c hc e1 => ?_⟩
   obtain ⟨x, hx, rfl⟩ := List.mem_map.1 ha
   have := s1 x hx
   simp at hc
   omega
  have hidx : (es.push ⟨key, z, clock⟩).findIdx? (fun e => ((e.born : Nat) : Int) == ((clock : Nat) : Int)) = some es.size := by
   rw [findIdx_arr]
   exact findIdx_born (e0 := ⟨key, z, clock⟩) hnd (by simp)
  have hmod : (es.push ⟨key, z, clock⟩).modify es.size (fun e => { e with val := val }) = es.push ⟨key, val, clock⟩ := by
   apply Array.ext'
   rw [Array.toList_modify, Array.toList_push, Array.toList_push, ← Array.length_toList, modify_last]
  simp [Instr.entryStore, MapKept.run_getObj_map hw2, asInt, asIntOf, goInt, hidx, hmod, MapKept.run_setObj_map _ hw2, Result.andThen, setBlock]
 ·have hj : es[j]? = some e0 := by simpa using h2
  have hsame : es.modify j (fun e => { e with key := key }) = es := by
   apply Array.ext'
   rw [Array.toList_modify, modify_eq_set _ _ _ _ h2, show ({ e0 with key := key } : MapEntry) = e0 by rw [← h3]]
   exact set_self _ _ _ h2
  refine ⟨e0.val, e0.born, es, clock, by simp [Instr.mapEntry, run_underlying ht, MapKept.run_getObj_map hb, K.check w false hkey, h1, hj, h3, K.stays w hkey, hsame, MapKept.run_setObj_map _ hb, Result.andThen, setBlock], fun w2 val hw2 => ⟨es.modify j (fun e' => { e' with key := key, val := val }), clock, ?_, by simp [Instr.mapUpdate, run_underlying ht, MapKept.run_getObj_map hb, K.check w false hkey, h1, hj, h3, K.stays w hkey, MapKept.run_setObj_map _ hb, Result.andThen, setBlock]⟩⟩
  have hidx : es.findIdx? (fun e => ((e.born : Nat) : Int) == ((e0.born : Nat) : Int)) = some j := by
   rw [findIdx_arr]
   exact findIdx_born s2 h2
  have hmod : es.modify j (fun e => { e with val := val }) = es.modify j (fun e' => { e' with key := key, val := val }) := by
   apply Array.ext'
   rw [Array.toList_modify, Array.toList_modify, modify_eq_set _ _ _ _ h2, modify_eq_set _ _ _ _ h2, ← h3]
  simp [Instr.entryStore, MapKept.run_getObj_map hw2, asInt, asIntOf, goInt, hidx, hmod, MapKept.run_setObj_map _ hw2, Result.andThen, setBlock]
theorem jp0 (w : World) (b : Nat) (o o' : Obj) : setBlock (setBlock w b o) b o' = setBlock w b o' := by
 unfold setBlock
 simp
theorem jp1 {w : World} {b : Nat} {es : Array MapEntry} {c : Nat} (hb : w.heap[b]? = some (.map es c)) (es' : Array MapEntry) (c' : Nat) : w.grownBy (setBlock w b (.map es' c')) (some b) :=
 ⟨rfl, rfl, rfl, by simp [setBlock], fun i _ hi => heap_setBlock_other hb _ (fun e => hi (by rw [e]))⟩
theorem IM.entry {P : Program} {w : World} {t k e : TypeId} {b s : Nat} {f : Int → Option Value} (h : IM P k w b f s) (ht : P.underlying t = some (.map k e)) (hk : P.underlying k = some (.int .i64)) {z : Value} (hz : ∀ u : World, (zeroValue e).run P u = .ok z u) (hs : s < maxLen) {x : Int} (hx : (Lit.int .i64 x).wf = true) (val : Value) :
  ∃ (v0 : Value) (st : Nat) (w1 w2 : World), (Instr.mapEntry t (.map (some b)) (.int .i64 x)).run P w = .ok (.tuple #[v0, goInt st]) w1 ∧ w.grownBy w1 (some b) ∧ w1.heap.size = w.heap.size ∧
   (Instr.entryStore t (.map (some b)) (goInt st) val).run P w1 = .ok () w2 ∧ w.grownBy w2 (some b) ∧ w2.heap.size = w.heap.size ∧ IM P k w2 b (upd f x val) (if (f x).isSome then s else s + 1) := by
 obtain ⟨w', hrun, him, hg⟩ := h.store ht hk hs hx val
 obtain ⟨D, ⟨es, clock, hb, F, hs', hD⟩, hsz, ha⟩ := h
 obtain ⟨v0, st, es1, c1, h1, h2⟩ := jw4 (int_keyed hk) ht hz hb F (za7 hk hx)
 obtain ⟨es', c', h3, h4⟩ := h2 (setBlock w b (.map es1 c1)) val (heap_setBlock_same hb _)
 rw [jp0] at h3
 rw [hrun] at h4
 cases h4
 exact ⟨v0, st, _, _, h1, jp1 hb _ _, by simp [setBlock], h3, hg, by simp [setBlock], him⟩
end Go.Proofs.Ytngkneknopenmaa.qi7
end
section
namespace Go.Proofs.Ytngkneknopenmaa.zM
open Go Go.RowKit Go.Proofs.Ytngkneknopenmaa.qa9 Go.Proofs.Ytngkneknopenmaa.qi7
def jp2 (l : List Int) : List Value := l.map (Value.int .i64)
theorem own_ne {w : World} {base n size p : Nat} {e e' : TypeId} {v : Value} {xs : List Value} {cs : Array Value} {fr : Nat × Nat} (h : w.ownsRow base e size v n xs) (hp : w.heap[p]? = some (.cells cs e' fr)) (hne : e ≠ e') : v.ownBlock ≠ some p := by
 rcases h.2 with ⟨rfl, _⟩ | ⟨g, cp, cur, rfl, _, hh, _⟩
 ·simp [Value.ownBlock]
 ·intro e2
  simp [Value.ownBlock] at e2
  subst e2
  rw [hh] at hp
  simp at hp
  exact hne hp.2.1
theorem zj4 {w w' : World} {base n size : Nat} {e : TypeId} {v : Value} {xs : List Value} {row : Option Nat} (h : w.ownsRow base e size v n xs) (hg : w.grownBy w' row) (hne : ∀ k, v.ownBlock = some k → row ≠ some k) : w'.ownsRow base e size v n xs :=
 h.kept hg (by
  cases hu : v.ownBlock with
  | none => exact .inl rfl
  | some k => exact .inr (fun e => hne k hu e.symm))
theorem qc7.ne_of {w : World} {base : Nat} {rows : List TR} {h : List T4} (hs : qc7 w base rows h) : ∀ r ∈ rows, ∃ cs, w.heap[r.g]? = some (.cells cs 51 (0, 0)) := by
 intro r hr
 obtain ⟨i, hi⟩ := List.mem_iff_getElem?.1 hr
 have hil := (List.getElem?_eq_some_iff.1 hi).1
 obtain ⟨_, _, _, _, _, _, rst, g, _⟩ := hs.2.1 i r _ hi (List.getElem?_eq_getElem (by rw [← hs.1]; exact hil))
 exact ⟨_, g⟩
structure AS (w0 : World) (base bk bs bv : Nat) (W : World) (y : List T4) (rows : List TR) (xo xw xi : Value) (lw li : List Int) (fK fS fV : Int → Option Int) (sK sS sV : Nat) : Prop where
 out : H2 W base xo rows y
 was : W.ownsRow base 3 1 xw lw.length (jp2 lw)
 is : W.ownsRow base 3 1 xi li.length (jp2 li)
 ap : ∀ k, xw.ownBlock = some k → xi.ownBlock ≠ some k
 K : IM Try.prog 3 W bk (nI fK) sK
 S : IM Try.prog 3 W bs (nI fS) sS
 V : IM Try.prog 3 W bv (nI fV) sV
 lt : bk < base ∧ bs < base ∧ bv < base
 ne : bk ≠ bs ∧ bk ≠ bv ∧ bs ≠ bv
 lo : w0.heap.size ≤ bk ∧ w0.heap.size ≤ bs ∧ w0.heap.size ≤ bv
 bel : Below w0.heap.size w0 W
 bz : base ≤ W.heap.size
variable {w0 W W' : World} {base bk bs bv sK sS sV : Nat} {y : List T4} {rows : List TR} {xo xw xi : Value} {lw li : List Int} {fK fS fV : Int → Option Int}
theorem AS.below (a : AS w0 base bk bs bv W y rows xo xw xi lw li fK fS fV sK sS sV) (hb : Below W.heap.size W W') : AS w0 base bk bs bv W' y rows xo xw xi lw li fK fS fV sK sS sV :=
 ⟨a.out.below hb, zj4 (row := none) a.was (below_grown hb) (by simp), zj4 (row := none) a.is (below_grown hb) (by simp), a.ap, a.K.below hb, a.S.below hb, a.V.below hb, a.lt, a.ne, a.lo,
  a.bel.trans (hb.mono (a.bel.size)), Nat.le_trans a.bz hb.size⟩
end Go.Proofs.Ytngkneknopenmaa.zM
end
section
namespace Go.Proofs.Ytngkneknopenmaa.zM
open Go Go.RowKit Go.Proofs.Ytngkneknopenmaa.qa9 Go.Proofs.Ytngkneknopenmaa.qi7
def jR2 (f : Int → Option Int) (l : List Int) (g : Int → Int) : Prop := (∀ x ∈ l, f x = some (g x)) ∧ WfM f
theorem jR2.put {f : Int → Option Int} {l : List Int} {g : Int → Int} (h : jR2 f l g) {x : Int} (hw : Wf (g x)) : jR2 (fun y => if y = x then some (g x) else f y) (l ++ [x]) g := by
 refine ⟨fun y hy => ?_, fun a b hab => ?_⟩
 ·dsimp only
  by_cases e : y = x
  ·rw [if_pos e, e]
  ·rw [if_neg e]
   rcases List.mem_append.1 hy with hy | hy
   ·exact h.1 y hy
   ·simp at hy; exact absurd hy e
 ·dsimp only at hab
  by_cases e : a = x
  ·rw [if_pos e] at hab; cases hab; exact hw
  ·rw [if_neg e] at hab; exact h.2 a b hab
theorem jR2.inj {f : Int → Option Int} {l : List Int} {g : Int → Int} (h : jR2 f l g) (hw : ∀ x ∈ l, Wf x) (hi : InjM f) : zu1 g l :=
 fun x hx y hy e => hi x y (g x) (hw x hx) (hw y hy) (h.1 x hx) (by rw [h.1 y hy, e])
end Go.Proofs.Ytngkneknopenmaa.zM
end
section
namespace Go.Proofs.Ytngkneknopenmaa.zM
set_option linter.unusedSimpArgs false
open Go.qU (pu ta sa sz ss zX qQ8)
open Go Go.RowKit Go.Proofs.Ytngkneknopenmaa.qa9 Go.Proofs.Ytngkneknopenmaa.qi7
def TC (p : Nat) (adr : Addr) (A3 : Option Addr) (no c3 bK bS bV bR : Nat) (sl : Value) (t : T4) (W : World) : Prop :=
 W.cell? adr = some (.int .i64 t.s) ∧ W.cell? ⟨adr.block, adr.off + 1, none⟩ = some (.int .i64 t.b) ∧ W.cell? ⟨adr.block, adr.off + 2, none⟩ = some (.int .i64 t.c) ∧ W.cell? ⟨adr.block, adr.off + 3, none⟩ = some (.slice A3 no c3) ∧
  W.cell? ⟨p, 0, none⟩ = some (.map (some bK)) ∧ W.cell? ⟨p, 1, none⟩ = some (.map (some bS)) ∧ W.cell? ⟨p, 2, none⟩ = some (.map (some bV)) ∧ W.cell? ⟨p, 3, none⟩ = some (.map (some bR)) ∧ W.cell? ⟨p, 4, none⟩ = some sl
end Go.Proofs.Ytngkneknopenmaa.zM
end
section
namespace Go.Proofs.Ytngkneknopenmaa.zM
open Go Go.Lib Go.RowKit Go.Proofs.Ytngkneknopenmaa Go.Proofs.Ytngkneknopenmaa.qa9
attribute [local go_sem high] K.zz1
theorem decO (a b : Bool) (k l v x : Int) : (a == b && (k == l && (v == x))) = decide ((⟨a, k, v⟩ : O3) = ⟨b, l, x⟩) := by
 by_cases h1 : a = b <;> by_cases h2 : k = l <;> by_cases h3 : v = x <;> simp [h1, h2, h3]
theorem Qm9 {α : Type} [DecidableEq α] {a b : List α} {i : Nat} {x y : α} (h1 : a[i]? = some x) (h2 : b[i]? = some y) (hne : x ≠ y) : decide (a = b) = false := by
 refine decide_eq_false fun e => hne ?_
 rw [e, h2] at h1
 exact (Option.some.inj h1).symm
end Go.Proofs.Ytngkneknopenmaa.zM
end
