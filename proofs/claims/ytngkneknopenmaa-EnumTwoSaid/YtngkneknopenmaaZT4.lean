/- qr3 of this claim, joined by a program of this session: the zS that its theorem uses. -/
import Derived.Test.YtngkneknopenmaaProg
import Derived.Below
import Derived.Deep.Draws
import Derived.WalkKit
import Derived.KernelRfl
import Derived.Laws.AppendOwn
import Derived.Maps.AppendAt
import Derived.Lib.Builder
set_option linter.unusedVariables false
set_option linter.unusedSimpArgs false
section
namespace Go.Proofs.Ytngkneknopenmaa.qa9
open Go Go.RowKit
structure O3 where
 w : Bool
 k : Int
 v : Int
deriving DecidableEq
instance : Inhabited O3 := ⟨⟨false, 0, 0⟩⟩
def O3.cells (o : O3) : List Value := [.bool o.w, .int .i64 o.k, .int .i64 o.v]
def flat (xs : List O3) : List Value := xs.flatMap O3.cells
theorem jh2 (xs : List O3) : (flat xs).length = xs.length * 3 := by
 induction xs with
 | nil => rfl
 | cons x xs ih =>
  have : flat (x :: xs) = x.cells ++ flat xs := rfl
  rw [this, List.length_append, ih]
  simp [O3.cells]
  omega
theorem flat_get (xs : List O3) (rest : List Value) : ∀ (i : Nat) (o : O3), xs[i]? = some o →
  (flat xs ++ rest)[i * 3]? = some (.bool o.w) ∧ (flat xs ++ rest)[i * 3 + 1]? = some (.int .i64 o.k) ∧ (flat xs ++ rest)[i * 3 + 2]? = some (.int .i64 o.v) := by
 induction xs with
 | nil => intro i o h; simp at h
 | cons x xs ih =>
  intro i o h
  have e : flat (x :: xs) ++ rest = .bool x.w :: .int .i64 x.k :: .int .i64 x.v :: (flat xs ++ rest) := rfl
  rw [e]
  cases i with
  | zero => simp at h; subst h; simp
  | succ i =>
   have h' : xs[i]? = some o := by simpa using h
   obtain ⟨a, b, c⟩ := ih i o h'
   have e1 : (i + 1) * 3 = i * 3 + 1 + 1 + 1 := by omega
   rw [e1]
   refine ⟨by simpa using a, ?_, ?_⟩
   ·have : i * 3 + 1 + 1 + 1 + 1 = (i * 3 + 1) + 1 + 1 + 1 := by omega
    rw [this]; simpa using b
   ·have : i * 3 + 1 + 1 + 1 + 2 = (i * 3 + 2) + 1 + 1 + 1 := by omega
    rw [this]; simpa using c
theorem zC0 (xs : List O3) (rest : List Value) : ∀ (i : Nat) (o : O3), i < xs.length →
  (((flat xs ++ rest).set (i * 3) (.bool o.w)).set (i * 3 + 1) (.int .i64 o.k)).set (i * 3 + 2) (.int .i64 o.v) = flat (xs.set i o) ++ rest := by
 induction xs with
 | nil => intro i o h; simp at h
 | cons x xs ih =>
  intro i o h
  have e : flat (x :: xs) ++ rest = .bool x.w :: .int .i64 x.k :: .int .i64 x.v :: (flat xs ++ rest) := rfl
  rw [e]
  cases i with
  | zero => rfl
  | succ i =>
   have e1 : (i + 1) * 3 = i * 3 + 1 + 1 + 1 := by omega
   have e2 : i * 3 + 1 + 1 + 1 + 1 = (i * 3 + 1) + 1 + 1 + 1 := by omega
   have e3 : i * 3 + 1 + 1 + 1 + 2 = (i * 3 + 2) + 1 + 1 + 1 := by omega
   rw [e1, e2, e3]
   simp only [List.set_cons_succ]
   rw [ih i o (by simpa using h)]
   rfl
def swp (xs : List O3) (i j : Nat) : List O3 := (xs.set i (xs.getD j default)).set j (xs.getD i default)
theorem zC1 (xs : List O3) (i j : Nat) (hi : i < xs.length) (hj : j < xs.length) : (swp xs i j).Perm xs := by
 have h := Array.swap_perm (xs := xs.toArray) (i := i) (j := j) (by simpa using hi) (by simpa using hj)
 have h2 := h.toList
 simp only [Array.toList_swap] at h2
 unfold swp
 simpa [List.getD_eq_getElem?_getD, hi, hj] using h2
def RW (g : Nat) (rest : List Value) (xs : List O3) (w : World) : Prop := w.heap[g]? = some (.cells (flat xs ++ rest).toArray 51 (0, 0))
variable {g : Nat} {rest : List Value} {xs : List O3} {w w' : World}
theorem RW.lt (h : RW g rest xs w) : g < w.heap.size := (Array.getElem?_eq_some_iff.1 h).1
theorem RW.below (h : RW g rest xs w) (hb : Below w.heap.size w w') : RW g rest xs w' := (hb.block _ h.lt).trans h
theorem RW.cells (h : RW g rest xs w) (i : Nat) (o : O3) (ho : xs[i]? = some o) :
  w.cell? ⟨g, i * 3, none⟩ = some (.bool o.w) ∧ w.cell? ⟨g, i * 3 + 1, none⟩ = some (.int .i64 o.k) ∧ w.cell? ⟨g, i * 3 + 2, none⟩ = some (.int .i64 o.v) := by
 obtain ⟨a, b, c⟩ := flat_get xs rest i o ho
 have h' : w.heap[g]? = some (.cells (flat xs ++ rest).toArray 51 (0, 0)) := h
 unfold World.cell?
 simp only [h']
 refine ⟨?_, ?_, ?_⟩ <;> simpa
theorem RW.free (h : RW g rest xs w) (i : Nat) : w.frozen? ⟨g, i, none⟩ = false := by
 have h' : w.heap[g]? = some (.cells (flat xs ++ rest).toArray 51 (0, 0)) := h
 unfold World.frozen?
 simp only [h']
 simp
theorem qd9 (w : World) (g i : Nat) (cs : Array Value) (t : TypeId) (fr : Nat × Nat) (v : Value) (h : w.heap[g]? = some (.cells cs t fr)) :
  (w.setCell ⟨g, i, none⟩ v).heap[g]? = some (.cells (cs.setIfInBounds i v) t fr) := by
 unfold World.setCell
 simp [Array.getElem?_modify, h]
theorem qb7 (w : World) (g i : Nat) (v : Value) : w.grownBy (w.setCell ⟨g, i, none⟩ v) (some g) :=
 ⟨rfl, rfl, rfl, by simp, fun k _ hk => Below.heap_setCell w ⟨g, i, none⟩ v k (fun e => hk (by rw [e]))⟩
def jI3 (w : World) (g i : Nat) (o : O3) : World := ((w.setCell ⟨g, i * 3, none⟩ (.bool o.w)).setCell ⟨g, i * 3 + 1, none⟩ (.int .i64 o.k)).setCell ⟨g, i * 3 + 2, none⟩ (.int .i64 o.v)
theorem RW.put (h : RW g rest xs w) (i : Nat) (o : O3) (hi : i < xs.length) : RW g rest (xs.set i o) (jI3 w g i o) := by
 unfold RW jI3
 rw [qd9 _ _ _ _ _ _ _ (qd9 _ _ _ _ _ _ _ (qd9 _ _ _ _ _ _ _ h))]
 rw [← zC0 xs rest i o hi]
 simp
theorem jr3 (w : World) (g i : Nat) (o : O3) : w.grownBy (jI3 w g i o) (some g) :=
 World.grownBy.trans (World.grownBy.trans (qb7 _ _ _ _) (qb7 _ _ _ _)) (qb7 _ _ _ _)
theorem below_grown {row : Option Nat} (hb : Below w.heap.size w w') : w.grownBy w' row := ⟨hb.os, hb.tape, hb.output, hb.size, fun i hi _ => hb.block i hi⟩
end Go.Proofs.Ytngkneknopenmaa.qa9
end
section
namespace Go.Proofs.Ytngkneknopenmaa.zM
open Go Go.RowKit Go.Proofs.Ytngkneknopenmaa.qa9
structure T4 where
 s : Int
 b : Int
 c : Int
 ops : List O3
deriving DecidableEq
instance : Inhabited T4 := ⟨⟨0, 0, 0, []⟩⟩
def zC2 (o : O3) : Value := .agg #[.bool o.w, .int .i64 o.k, .int .i64 o.v]
def jr4 (f : Int → Option O3) (o : O3) : Int → Option O3 := if o.w then fun y => if y = o.k then some o else f y else f
def qF3 (ops : List O3) : Int → Option O3 := ops.foldl jr4 (fun _ => none)
theorem jr5 (ops : List O3) (o : O3) : qF3 (ops ++ [o]) = jr4 (qF3 ops) o := by simp [qF3, List.foldl_append]
theorem qz7 (ops : List O3) : ∀ k o, qF3 ops k = some o → o.k = k ∧ o.w = true ∧ o ∈ ops := by
 have : ∀ (ops : List O3) (f : Int → Option O3) (P : O3 → Prop), (∀ k o, f k = some o → o.k = k ∧ o.w = true ∧ P o) → (∀ o ∈ ops, P o) → ∀ k o, ops.foldl jr4 f k = some o → o.k = k ∧ o.w = true ∧ P o := by
  intro ops
  induction ops with
  | nil => intro f P hf _ k o h; exact hf k o h
  | cons p ops ih =>
   intro f P hf hp k o h
   refine ih (jr4 f p) P ?_ (fun o ho => hp o (by simp [ho])) k o h
   intro k o h
   unfold jr4 at h
   split at h
   ·rename_i hw
    dsimp only at h
    split at h
    ·rename_i hk; cases h; exact ⟨hk.symm, hw, hp p (by simp)⟩
    ·exact hf k o h
   ·exact hf k o h
 intro k o h
 exact this ops (fun _ => none) (· ∈ ops) (by simp) (fun _ h => h) k o h
def zq0 (ops l : List O3) : Prop := l.Nodup ∧ ∀ o, o ∈ l ↔ qF3 ops o.k = some o
theorem zq0.perm {ops l l' : List O3} (h : zq0 ops l) (hp : l'.Perm l) : zq0 ops l' := ⟨hp.nodup_iff.2 h.1, fun o => (hp.mem_iff).trans (h.2 o)⟩
def OkO (o : O3) : Prop := 0 ≤ o.k ∧ o.k < 64 ∧ 0 ≤ o.v ∧ o.v ≤ 2147483647
abbrev W3 := Nat × Int × Bool
def jB7 (f : Int → Option W3) (v : Int) (x : W3) : Int → Option W3 := fun y => if y = v then some x else f y
def stepW (i : Nat) (f : Int → Option W3) (o : O3) : Option (Int → Option W3) :=
 if o.w then (match f o.v with | some _ => none | none => some (jB7 f o.v (i, o.k, false))) else some f
def jm6 (i : Nat) : List O3 → (Int → Option W3) → Option (Int → Option W3)
 | [], f => some f
 | o :: r, f => (stepW i f o).bind (jm6 i r)
def mark (f : Int → Option W3) (v : Int) : Int → Option W3 := jB7 f v (((f v).getD (0, 0, false)).1, ((f v).getD (0, 0, false)).2.1, true)
def isLast (ops : List O3) (v : Int) : Bool := ops.any fun o => decide (o.v = v) && decide (qF3 ops o.k = some o)
def qL4 (ops : List O3) (f : Int → Option W3) : Int → Option W3 := fun v => if isLast ops v then some (((f v).getD (0, 0, false)).1, ((f v).getD (0, 0, false)).2.1, true) else f v
theorem jA3 : ∀ (l : List O3) (f : Int → Option W3), l.foldl (fun f o => mark f o.v) f = fun v => if l.any (fun o => decide (o.v = v)) then some (((f v).getD (0, 0, false)).1, ((f v).getD (0, 0, false)).2.1, true) else f v
 | [], f => by simp
 | o :: l, f => by
  rw [List.foldl_cons, jA3 l]
  funext v
  simp only [List.any_cons]
  by_cases ho : o.v = v
  ·subst ho
   simp only [decide_true, Bool.true_or, if_true]
   split <;> simp [mark, jB7]
  ·have h1 : mark f o.v v = f v := by unfold mark jB7; rw [if_neg (fun e => ho e.symm)]
   rw [h1]
   simp [ho]
theorem zq1 {ops l : List O3} (h : zq0 ops l) (f : Int → Option W3) : l.foldl (fun f o => mark f o.v) f = qL4 ops f := by
 rw [jA3]
 funext v
 unfold qL4
 have e : l.any (fun o => decide (o.v = v)) = isLast ops v := by
  unfold isLast
  rw [Bool.eq_iff_iff, List.any_eq_true, List.any_eq_true]
  constructor
  ·rintro ⟨o, ho, hv⟩
   have := (h.2 o).1 ho
   exact ⟨o, (qz7 ops _ _ this).2.2, by simp [this]; simpa using hv⟩
  ·rintro ⟨o, ho, hv⟩
   simp only [Bool.and_eq_true, decide_eq_true_eq] at hv
   exact ⟨o, (h.2 o).2 hv.2, by simpa using hv.1⟩
 rw [e]
def qv4 : Nat → List T4 → (Int → Option W3) → Option (Int → Option W3)
 | _, [], f => some f
 | i, t :: r, f => (jm6 i t.ops f).bind fun g => qv4 (i + 1) r (qL4 t.ops g)
def qg1 (h : List T4) : Option (Int → Option W3) := qv4 0 h fun _ => none
def zm0 (x : W3) : Value := .agg #[.int .i64 (x.1 : Int), .int .i64 x.2.1, .bool x.2.2]
def qr0 (f : Int → Option W3) : Int → Option Value := fun v => (f v).map zm0
def qg5 (seen : Int → Bool) (x : Int) : Int → Bool := fun y => if y = x then true else seen y
def lastT (last : Int → Option Int) (s c : Int) : Int → Option Int := fun y => if y = s then some c else last y
def qe9 : List T4 → (Int → Bool) → (Int → Option Int) → Bool
 | [], _, _ => true
 | t :: r, seen, last =>
  if seen t.b then false else if qg5 seen t.b t.c then false else
  match last t.s with
  | some e => if e > t.b then false else qe9 r (qg5 (qg5 seen t.b) t.c) (lastT last t.s t.c)
  | none => qe9 r (qg5 (qg5 seen t.b) t.c) (lastT last t.s t.c)
def qo2 (o : O3) : Bool := decide (0 ≤ o.k) && decide (o.k < 64) && decide (0 ≤ o.v) && decide (o.v ≤ 2147483647) && (!o.w || decide (0 < o.v))
def qd2 (t : T4) : Bool := decide (0 ≤ t.s) && decide (t.s < 64) && decide (0 ≤ t.b) && decide (t.b < t.c) && decide (t.c ≤ 2147483647) && decide (1 ≤ t.ops.length) && decide (t.ops.length ≤ 64) && t.ops.all qo2
def jL (h : List T4) : Nat := (h.map fun t => t.ops.length).sum
def qo1 (f : Int → Option W3) (o : O3) : Bool := o.w || decide (o.v = 0) || (match f o.v with | some x => decide (x.2.1 = o.k) | none => false)
def zT (h : List T4) : Int :=
 if h.length > 64 ∨ jL h > 1024 then 3 else if !h.all qd2 then 2 else
 match qg1 h with
 | none => 2
 | some f => if !qe9 h (fun _ => false) (fun _ => none) then 2 else if h.all (fun t => t.ops.all (qo1 f)) then 0 else 2
def RdO (w : World) (A : Option Addr) (ops : List O3) : Prop :=
 0 < ops.length → ∃ ad : Addr, A = some ad ∧ ∀ i o, ops[i]? = some o → w.cell? (ad.add (i * 3)) = some (.bool o.w) ∧ w.cell? ⟨(ad.add (i * 3)).block, (ad.add (i * 3)).off + 1, none⟩ = some (.int .i64 o.k) ∧ w.cell? ⟨(ad.add (i * 3)).block, (ad.add (i * 3)).off + 2, none⟩ = some (.int .i64 o.v)
theorem cell_below {w w' : World} (hb : Below w.heap.size w w') {a : Addr} {v : Value} (h : w.cell? a = some v) : w'.cell? a = some v :=
 (hb.cell (World.block_lt_of_cell? w a h)).trans h
theorem RdO.below {w w' : World} {A : Option Addr} {ops : List O3} (h : RdO w A ops) (hb : Below w.heap.size w w') : RdO w' A ops := by
 intro hp
 obtain ⟨ad, rfl, hc⟩ := h hp
 exact ⟨ad, rfl, fun i o ho => by obtain ⟨a, b, c⟩ := hc i o ho; exact ⟨cell_below hb a, cell_below hb b, cell_below hb c⟩⟩
def RdT (w : World) (A : Option Addr) (h : List T4) : Prop :=
 0 < h.length → ∃ ad : Addr, A = some ad ∧ ∀ i t, h[i]? = some t → ∃ A3 c3, w.cell? (ad.add (i * 4)) = some (.int .i64 t.s) ∧ w.cell? ⟨(ad.add (i * 4)).block, (ad.add (i * 4)).off + 1, none⟩ = some (.int .i64 t.b) ∧ w.cell? ⟨(ad.add (i * 4)).block, (ad.add (i * 4)).off + 2, none⟩ = some (.int .i64 t.c) ∧
  w.cell? ⟨(ad.add (i * 4)).block, (ad.add (i * 4)).off + 3, none⟩ = some (.slice A3 t.ops.length c3) ∧ t.ops.length ≤ c3 ∧ RdO w A3 t.ops
theorem RdT.below {w w' : World} {A : Option Addr} {h : List T4} (hr : RdT w A h) (hb : Below w.heap.size w w') : RdT w' A h := by
 intro hp
 obtain ⟨ad, rfl, hc⟩ := hr hp
 refine ⟨ad, rfl, fun i t ht => ?_⟩
 obtain ⟨A3, c3, a, b, c, d, e, f⟩ := hc i t ht
 exact ⟨A3, c3, cell_below hb a, cell_below hb b, cell_below hb c, cell_below hb d, e, f.below hb⟩
end Go.Proofs.Ytngkneknopenmaa.zM
end
