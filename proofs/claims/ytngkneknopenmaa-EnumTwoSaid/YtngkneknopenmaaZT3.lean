/- qr3 of this claim, joined by a program of this session: the zS that its theorem uses. -/
import Derived.Maps.OwnSet
import Derived.Maps.RangeWalk
import Derived.Below
set_option linter.unusedVariables false
set_option linter.unusedSimpArgs false
section
namespace Go.Proofs.Ytngkneknopenmaa.qi7
open Go Go.Maps Go.RowKit
def jr2 (v : Value) : Option (DataW Value × List MemPlace) := some (.held v, [])
def jI1 (D : DataW Value) (f : Int → Option Value) : Prop :=
 ∀ x : Int, (∀ v, f x = some v → has D (.int .i64 x) = true ∧ ∀ z, D.atKey (.int .i64 x) z = .held v) ∧ (f x = none → has D (.int .i64 x) = false)
def IM (P : Program) (k : TypeId) (w : World) (b : Nat) (f : Int → Option Value) (s : Nat) : Prop :=
 ∃ D : DataW Value, w.ownsMap P k jr2 b s D ∧ size D = s ∧ jI1 D f
def upd (f : Int → Option Value) (x : Int) (v : Value) : Int → Option Value := fun y => if y = x then some v else f y
variable {P : Program} {k e t : TypeId} {w w' : World} {b s : Nat} {f : Int → Option Value}
theorem IM.made (w : World) (P : Program) (k : TypeId) : IM P k (w.alloc (.map #[] 0)) w.heap.size (fun _ => none) 0 :=
 ⟨.map [], World.ownsMap_made w P k jr2, rfl, fun x => ⟨fun v h => by simp at h, fun _ => rfl⟩⟩
theorem IM.lt (h : IM P k w b f s) : b < w.heap.size := by obtain ⟨D, h, _⟩ := h; exact h.lt
theorem IM.kept {row : Option Nat} (h : IM P k w b f s) (hg : w.grownBy w' row) (hne : some b ≠ row) : IM P k w' b f s := by
 obtain ⟨D, h1, h2⟩ := h
 exact ⟨D, h1.kept hg hne, h2⟩
theorem IM.below (h : IM P k w b f s) (hb : Below w.heap.size w w') : IM P k w' b f s :=
 h.kept (row := none) ⟨hb.os, hb.tape, hb.output, hb.size, fun i hi _ => hb.block i hi⟩ (by simp)
theorem IM.alloc (h : IM P k w b f s) (o : Obj) : IM P k (w.alloc o) b f s := h.below ((Below.refl _ _).alloc (Nat.le_refl _) o)
theorem IM.move (h : IM P k w b f s) (hb : w'.heap[b]? = w.heap[b]?) : IM P k w' b f s := by
 obtain ⟨D, ⟨es, clock, h1, h2⟩, h3⟩ := h
 exact ⟨D, ⟨es, clock, hb.trans h1, h2⟩, h3⟩
theorem za7 (hk : P.underlying k = some (.int .i64)) {x : Int} (hx : (Lit.int .i64 x).wf = true) : keyOf P k (.int .i64 x) = some (.int .i64 x) := keyOf_int_mk hk hx
theorem IM.look (h : IM P k w b f s) (ht : P.underlying t = some (.map k e)) (hk : P.underlying k = some (.int .i64)) {z : Value} (hz : (zeroValue e).run P w = .ok z w) (c : Bool) {x : Int} (hx : (Lit.int .i64 x).wf = true) :
  (Instr.lookup t (.map (some b)) (.int .i64 x) c).run P w = .ok (if c then .tuple #[(f x).getD z, .bool (f x).isSome] else (f x).getD z) w := by
 obtain ⟨D, ⟨es, clock, hb, F, hs, hD⟩, hsz, ha⟩ := h
 obtain ⟨a1, a2⟩ := ha x
 rcases fit_look c (int_keyed hk) ht hz hb F (za7 hk hx) with ⟨hrun, _, hat⟩ | ⟨e0, y, _, _, hrun, hRv, hat, _⟩
 ·rw [← hD] at hat
  have hn := has_false_of_atKey hat
  cases hf : f x with
  | none => rw [hrun]; rfl
  | some v => rw [(a1 v hf).1] at hn; cases hn
 ·rw [← hD] at hat
  have hn := has_true_of_atKey hat
  cases hf : f x with
  | none => rw [a2 hf] at hn; cases hn
  | some v =>
   have h1 := (a1 v hf).2 .nil
   rw [hat .nil] at h1
   have h2 : y.1 = .held e0.val := by
    have := congrArg (Option.map Prod.fst) hRv
    simpa [jr2] using this.symm
   rw [h2] at h1
   cases h1
   rw [hrun]; rfl
theorem zk0 (x : Int) : WideAt.IsKeyLit (.int .i64 x) := trivial
theorem zc8 {D : DataW Value} (hm : Maps.IsMap D) (ha : jI1 D f) (x : Int) (v : Value) : jI1 (D.put (.int .i64 x) (.held v)) (upd f x v) := by
 intro y
 by_cases hyx : y = x
 ·subst hyx
  refine ⟨fun u hu => ?_, fun h => by simp [upd] at h⟩
  have : v = u := by simpa [upd] using hu
  subst this
  exact ⟨has_put_same hm (zk0 y) _, fun z => atKey_put_same hm (zk0 y) _ _⟩
 ·have hne : (Lit.int .i64 y) ≠ .int .i64 x := fun h => hyx (by injection h)
  have he : upd f x v y = f y := by simp [upd, hyx]
  rw [he]
  refine ⟨fun u hu => ⟨?_, fun z => ?_⟩, fun h => ?_⟩
  ·rw [has_put_other hne]; exact ((ha y).1 u hu).1
  ·rw [atKey_put_other hne]; exact ((ha y).1 u hu).2 z
  ·rw [has_put_other hne]; exact (ha y).2 h
theorem IM.store (h : IM P k w b f s) (ht : P.underlying t = some (.map k e)) (hk : P.underlying k = some (.int .i64)) (hs : s < maxLen) {x : Int} (hx : (Lit.int .i64 x).wf = true) (v : Value) :
  ∃ w', (Instr.mapUpdate t (.map (some b)) (.int .i64 x) v).run P w = .ok () w' ∧ IM P k w' b (upd f x v) (if (f x).isSome then s else s + 1) ∧ w.grownBy w' (some b) := by
 obtain ⟨D, hown, hsz, ha⟩ := h
 obtain ⟨w', hrun, hown', hg⟩ := hown.update (int_keyed hk) ht hs (za7 hk hx) (d := .held v) (ps := []) (val := v) rfl
 refine ⟨w', hrun, ⟨D.put (.int .i64 x) (.held v), ?_, ?_, zc8 hown.isMap ha x v⟩, hg⟩
 all_goals
  have hsp := size_put (k := .int .i64 x) (hown.tidy (int_keyed hk)) (DataW.held v)
  have hi : has D (.int .i64 x) = (f x).isSome := by
   cases hf : f x with
   | none => exact (ha x).2 hf
   | some u => exact ((ha x).1 u hf).1
  rw [hi, hsz] at hsp
 ·obtain ⟨es, clock, hb, F, hs', hD⟩ := hown'
  refine ⟨es, clock, hb, F, ?_, hD⟩
  have : size (D.put (.int .i64 x) (.held v)) = es.size := by rw [hD]; exact length_read es
  rw [← this, hsp]
  exact Nat.le_refl _
 ·exact hsp
theorem zH {ops : Array Oper} {rest : List Oper} {o : Oper} {a : Act} {Q : Exit → Act → World → Prop} (h : IM P k w b f s)
  (hg : o.guard = none) (m x : Operand) (t e : TypeId) (c : Bool) (hop : o.op = Op.lookup t m x c) (ht : P.underlying t = some (.map k e)) (hk : P.underlying k = some (.int .i64))
  (z : Value) (hz : ∀ w, (zeroValue e).run P w = .ok z w) (hm : a.eval m = .map (some b)) (key : Int) (hx : a.eval x = .int .i64 key) (hwf : (Lit.int .i64 key).wf = true)
  (val : Value) (hval : (if c then .tuple #[(f key).getD z, .bool (f key).isSome] else (f key).getD z) = val)
  (hK : wpList P ops Q rest (a.put o.dst val) w) : wpList P ops Q (o :: rest) a w := by
 refine wpList_plain hg fun K' hK' => ?_
 have hrun := h.look ht hk (hz w) c hwf
 rw [hval] at hrun
 unfold Oper.wp
 simp [execOp, hop, hm, hx, hrun, Result.andThen]
 exact hK' _ _ hK
theorem qg7 {ops : Array Oper} {rest : List Oper} {o : Oper} {a : Act} {Q : Exit → Act → World → Prop} (h : IM P k w b f s)
  (hg : o.guard = none) (m x v : Operand) (t e : TypeId) (hop : o.op = Op.mapUpdate t m x v) (ht : P.underlying t = some (.map k e)) (hk : P.underlying k = some (.int .i64)) (hs : s < maxLen)
  (hm : a.eval m = .map (some b)) (key : Int) (val : Value) (hx : a.eval x = .int .i64 key) (hv : a.eval v = val) (hwf : (Lit.int .i64 key).wf = true)
  (hK : ∀ w', IM P k w' b (upd f key val) (if (f key).isSome then s else s + 1) → w.grownBy w' (some b) → wpList P ops Q rest (a.put o.dst undef) w') :
  wpList P ops Q (o :: rest) a w := by
 refine wpList_plain hg fun K' hK' => ?_
 obtain ⟨w', hrun, r1, r2⟩ := h.store ht hk hs hwf val
 unfold Oper.wp
 simp [execOp, hop, hm, hx, hv, hrun, Result.andThen]
 exact hK' _ _ (hK w' r1 r2)
theorem IM.len (h : IM P k w b f s) (ht : P.underlying t = some (.map k e)) (ty : TypeId) : (Builtin.len_ #[t] ty #[.map (some b)]).run P w = .ok (.int .i64 s) w := by
 obtain ⟨D, hown, hsz, _⟩ := h
 have := hown.len ht ty
 rw [hsz] at this
 exact this
def RG (P : Program) (k : TypeId) (w : World) (b r : Nat) (f : Int → Option Value) (s : Nat) (left : Int → Bool) (cnt : Nat) : Prop :=
 ∃ (D : DataW Value) (l : Lit → Bool), w.ranges P k jr2 b r s D l cnt ∧ size D = s ∧ jI1 D f ∧ ∀ x : Int, (Lit.int .i64 x).wf = true → l (.int .i64 x) = left x
theorem RG.left {left : Int → Bool} {r cnt : Nat} (h : RG P k w b r f s left cnt) : w.rangeLeft b r = cnt := by
 obtain ⟨D, l, h1, _⟩ := h
 exact h1.left_eq
theorem RG.lt {left : Int → Bool} {r cnt : Nat} (h : RG P k w b r f s left cnt) : r < w.heap.size := by
 obtain ⟨D, l, h1, _⟩ := h
 exact h1.lt
theorem RG.kept {left : Int → Bool} {r cnt : Nat} {row : Option Nat} (h : RG P k w b r f s left cnt) (hg : w.grownBy w' row) (hb : some b ≠ row) (hr : some r ≠ row) : RG P k w' b r f s left cnt := by
 obtain ⟨D, l, h1, h2⟩ := h
 exact ⟨D, l, h1.kept hg hb hr, h2⟩
theorem RG.below {left : Int → Bool} {r cnt : Nat} (h : RG P k w b r f s left cnt) (hb : Below w.heap.size w w') : RG P k w' b r f s left cnt :=
 h.kept (row := none) ⟨hb.os, hb.tape, hb.output, hb.size, fun i hi _ => hb.block i hi⟩ (by simp) (by simp)
theorem jI2 {ops : Array Oper} {rest : List Oper} {o : Oper} {a : Act} {Q : Exit → Act → World → Prop} (h : IM P k w b f s)
  (hg : o.guard = none) (m : Operand) (t e : TypeId) (hop : o.op = Op.range t m) (ht : P.underlying t = some (.map k e)) (hk : P.underlying k = some (.int .i64))
  (hm : a.eval m = .map (some b))
  (hK : ∀ w', RG P k w' b w.heap.size f s (fun x => (f x).isSome) s → w.grownBy w' none → w'.heap.size = w.heap.size + 1 → wpList P ops Q rest (a.put o.dst (.pointer (some ⟨w.heap.size, 0, none⟩))) w') :
  wpList P ops Q (o :: rest) a w := by
 obtain ⟨D, hown, hsz, ha⟩ := h
 refine wpList_range_own w hg m t hop k e (int_keyed hk) ht jr2 b s D hm hown (fun w' hr hgr hs => ?_)
 refine hK w' ⟨D, has D, by rw [hsz] at hr; exact hr, hsz, ha, fun x _ => ?_⟩ hgr hs
 show has D (.int .i64 x) = (f x).isSome
 cases hf : f x with
 | none => exact (ha x).2 hf
 | some u => exact ((ha x).1 u hf).1
theorem jU1 {ops : Array Oper} {rest : List Oper} {o : Oper} {a : Act} {Q : Exit → Act → World → Prop} {left : Int → Bool} {r cnt : Nat} (h : RG P k w b r f s left cnt)
  (hg : o.guard = none) (it : Operand) (hop : o.op = Op.next it false) (hk : P.underlying k = some (.int .i64)) (hit : a.eval it = .pointer (some ⟨r, 0, none⟩))
  (hDone : cnt = 0 → (∀ x : Int, (Lit.int .i64 x).wf = true → left x = false) → wpList P ops Q rest (a.put o.dst (.tuple #[.bool false])) w)
  (hMore : ∀ (x : Int) (c : Value) (w' : World) (cnt' : Nat), (Lit.int .i64 x).wf = true → left x = true → f x = some c → RG P k w' b r f s (fun y => left y && !decide (y = x)) cnt' → cnt' < cnt →
   w.grownBy w' (some r) → w'.heap.size = w.heap.size → (Instr.entry (.pointer (some ⟨r, 0, none⟩))).run P w' = .ok (.tuple #[.int .i64 x, c]) w' → wpList P ops Q rest (a.put o.dst (.tuple #[.bool true, .int .i64 x, c])) w') :
  wpList P ops Q (o :: rest) a w := by
 obtain ⟨D, l, hr, hsz, ha, hl⟩ := h
 refine wpList_next_ranges w hg it hop k (int_keyed hk) jr2 (Value.int .i64) (fun v : Value => v) (fun key kl hkey => by obtain ⟨x, rfl, _⟩ := keyOf_int_inv hk hkey; exact ⟨x, rfl⟩) (fun v y hv => ⟨v, rfl⟩) b r s D l cnt hit hr
  (fun h0 hl0 => hDone h0 (fun x hx => by rw [← hl x hx]; exact hl0 _)) (fun x c kl y w' cnt' hkey hlk hv hat hrg hlt hgr hszw hen => ?_)
 obtain ⟨x', ex, rfl, hwx⟩ := keyOf_int_inv hk hkey
 cases ex
 have hy : y.1 = .held c := by
  have := congrArg (Option.map Prod.fst) hv
  simpa [jr2] using this.symm
 refine hMore x c w' cnt' hwx (by rw [← hl x hwx]; exact hlk) ?_ ⟨D, _, hrg, hsz, ha, fun z hz => ?_⟩ hlt hgr hszw hen
 ·have hn := has_true_of_atKey hat
  cases hf : f x with
  | none => rw [(ha x).2 hf] at hn; cases hn
  | some v =>
   have h1 := ((ha x).1 v hf).2 .nil
   rw [hat .nil, hy] at h1
   cases h1
   rfl
 ·simp only [hl z hz]
  congr 1
  by_cases hzx : z = x
  ·subst hzx; simp [Lit.sameKey]
  ·simp [Lit.sameKey, hzx]
end Go.Proofs.Ytngkneknopenmaa.qi7
end
