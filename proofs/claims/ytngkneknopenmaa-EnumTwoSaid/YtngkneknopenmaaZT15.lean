/- qr3 of this claim, joined by a program of this session: the zS that its theorem uses. -/
import Derived.Test.YtngkneknopenmaaZT1
import Derived.Test.YtngkneknopenmaaZT12
import Derived.Deep.AppendLies
import Derived.RangeFuncSeq
set_option linter.unusedVariables false
set_option linter.unusedSimpArgs false
section
namespace Go.Proofs.Ytngkneknopenmaa.qf6
open Go Go.Lib Go.RowKit Go.Proofs.Ytngkneknopenmaa Go.Proofs.Ytngkneknopenmaa.zM Go.Proofs.Ytngkneknopenmaa.qa9
structure ER where
 s : Int
 b : Int
 c : Int
 v : Value
 ops : List O3
def ER.t (r : ER) : T4 := ⟨r.s, r.b, r.c, r.ops⟩
def ER.cells (r : ER) : List Value := [.int .i64 r.s, .int .i64 r.b, .int .i64 r.c, r.v]
def qc9 (rows : List ER) : List Value := rows.flatMap ER.cells
theorem qZ5 (rows : List ER) : (qc9 rows).length = rows.length * 4 := by
 induction rows with
 | nil => rfl
 | cons x xs ih =>
  have : qc9 (x :: xs) = x.cells ++ qc9 xs := rfl
  rw [this, List.length_append, ih]
  simp [ER.cells]
  omega
theorem qZ6 (a b : List ER) : qc9 (a ++ b) = qc9 a ++ qc9 b := by simp [qc9, List.flatMap_append]
theorem za8 (rows : List ER) (k : Nat) (h : k ≤ rows.length) : (qc9 rows).take (k * 4) = qc9 (rows.take k) := by
 have e : qc9 rows = qc9 (rows.take k) ++ qc9 (rows.drop k) := by rw [← qZ6, List.take_append_drop]
 have hl : (qc9 (rows.take k)).length = k * 4 := by rw [qZ5, List.length_take, Nat.min_eq_left h]
 rw [e, List.take_append_of_le_length (by omega), List.take_of_length_le (by omega)]
theorem jR3 : ∀ (rows : List ER) (j i : Nat) (r : ER), rows[j]? = some r → i < 4 → (qc9 rows)[j * 4 + i]? = r.cells[i]?
 | x :: xs, 0, i, r, h, hi => by
  simp at h
  subst h
  show (x.cells ++ qc9 xs)[0 * 4 + i]? = _
  rw [List.getElem?_append_left (by show _ < 4; omega), Nat.zero_mul, Nat.zero_add]
 | x :: xs, j + 1, i, r, h, hi => by
  show (x.cells ++ qc9 xs)[(j + 1) * 4 + i]? = _
  have hl : x.cells.length = 4 := rfl
  rw [List.getElem?_append_right (by omega), hl, show (j + 1) * 4 + i - 4 = j * 4 + i by omega]
  exact jR3 xs j i r (by simpa using h) hi
theorem jf5 : ∀ (rows : List ER) (j i : Nat) (r r' : ER) (v : Value), rows[j]? = some r → i < 4 → r'.cells = r.cells.set i v → (qc9 rows).set (j * 4 + i) v = qc9 (rows.set j r')
 | x :: xs, 0, i, r, r', v, h, hi, e => by
  simp at h
  subst h
  show (x.cells ++ qc9 xs).set (0 * 4 + i) v = r'.cells ++ qc9 xs
  rw [List.set_append_left _ _ (by show _ < 4; omega), Nat.zero_mul, Nat.zero_add, e]
 | x :: xs, j + 1, i, r, r', v, h, hi, e => by
  show (x.cells ++ qc9 xs).set ((j + 1) * 4 + i) v = x.cells ++ qc9 (xs.set j r')
  have hl : x.cells.length = 4 := rfl
  rw [List.set_append_right _ _ (by omega), hl, show (j + 1) * 4 + i - 4 = j * 4 + i by omega, jf5 xs j i r r' v (by simpa using h) hi e]
structure Par where
 S : Int
 T : Int
 O : Int
 K : Int
 n : Int
 m : Int
def Par.cells (p : Par) (V yv : Value) : Array Value := #[.int .i64 p.S, .int .i64 p.T, .int .i64 p.O, .int .i64 p.K, .int .i64 p.n, .int .i64 p.m, V, yv]
structure EB (w : World) (bX : Nat) (p : Par) (yv V : Value) (rows : List ER) : Prop where
 hx : w.heap[bX]? = some (.cells (p.cells V yv) 114 (0, 0))
 own : w.ownsRow (bX + 1) 55 4 V rows.length (qc9 rows)
 ops : ∀ r ∈ rows, w.ownsRow (bX + 1) 51 3 r.v r.ops.length (flat r.ops)
 apV : ∀ r ∈ rows, ∀ g, r.v.ownBlock = some g → V.ownBlock ≠ some g
 ap : ∀ (i j : Nat) (r r' : ER), i ≠ j → rows[i]? = some r → rows[j]? = some r' → ∀ g, r.v.ownBlock = some g → r'.v.ownBlock ≠ some g
def Ow (bX : Nat) (V : Value) (rows : List ER) : Nat → Prop := fun b => b = bX ∨ V.ownBlock = some b ∨ ∃ r ∈ rows, r.v.ownBlock = some b
structure Fr (C E : Nat → Prop) (w : World) (C' E' : Nat → Prop) (w' : World) : Prop where
 os : w'.os = w.os
 tape : w'.tape = w.tape
 output : w'.output = w.output
 size : w.heap.size ≤ w'.heap.size
 keep : ∀ b, b < w.heap.size → ¬ C b → ¬ E b → w'.heap[b]? = w.heap[b]?
 cl : ∀ b, b < w.heap.size → C' b → C b
 ow : ∀ b, b < w.heap.size → E' b → E b
theorem Fr.refl (C E : Nat → Prop) (w : World) : Fr C E w C E w := ⟨rfl, rfl, rfl, Nat.le_refl _, fun _ _ _ _ => rfl, fun _ _ h => h, fun _ _ h => h⟩
theorem Fr.trans {C E C' E' C2 E2 : Nat → Prop} {w w' w2 : World} (h : Fr C E w C' E' w') (k : Fr C' E' w' C2 E2 w2) : Fr C E w C2 E2 w2 where
 os := k.os.trans h.os
 tape := k.tape.trans h.tape
 output := k.output.trans h.output
 size := Nat.le_trans h.size k.size
 keep b hb hc he := by
  have := h.size
  rw [k.keep b (by omega) (fun x => hc (h.cl b hb x)) (fun x => he (h.ow b hb x))]
  exact h.keep b hb hc he
 cl b hb hc := h.cl b hb (k.cl b (by have := h.size; omega) hc)
 ow b hb hc := h.ow b hb (k.ow b (by have := h.size; omega) hc)
structure Sep (C E : Nat → Prop) (w : World) : Prop where
 lt : ∀ b, C b → b < w.heap.size
 ap : ∀ b, E b → ¬ C b
def Abides (J : List (List T4) → (Nat → Prop) → World → Prop) : Prop :=
 ∀ pre C w w', J pre C w → w'.os = w.os → w'.tape = w.tape → w'.output = w.output → w.heap.size ≤ w'.heap.size → (∀ b, C b → w'.heap[b]? = w.heap[b]?) → J pre C w'
def qp3 (Jx : List (List T4) → World → Prop) : Prop := ∀ pre w w', Jx pre w → Below w.heap.size w w' → Jx pre w'
structure Kp (C : Nat → Prop) (sz : Nat) (w w' : World) : Prop where
 os : w'.os = w.os
 tape : w'.tape = w.tape
 output : w'.output = w.output
 size : w.heap.size ≤ w'.heap.size
 keep : ∀ b, b < sz → ¬ C b → w'.heap[b]? = w.heap[b]?
def qp4 (yv : Value) (L : List (List T4)) (J : List (List T4) → (Nat → Prop) → World → Prop) (Jx : List (List T4) → World → Prop) : Prop :=
 ∃ l, yv = .func (.yield l) #[] #[] ∧ ∀ (m : Nat) (pre : List (List T4)) (h : List T4) (C : Nat → Prop) (sz : Nat) (v : Value) (rows : List TR) (w : World),
  (pre ++ [h]) <+: L → J pre C w → H2 w sz v rows h → (∀ b, C b → b < sz) → sz ≤ w.heap.size →
  YieldAt Fence.wide m Try.prog l #[v] w fun e w' =>
   (e = .returned (.bool true) ∧ ∃ C', J (pre ++ [h]) C' w' ∧ Kp C sz w w' ∧ (∀ b, b < sz → C' b → C b) ∧ ∀ b, C' b → b < w'.heap.size) ∨
   (e = .returned (.bool false) ∧ Jx (pre ++ [h]) w')
def qF1 (J : List (List T4) → (Nat → Prop) → World → Prop) (Jx : List (List T4) → World → Prop) (pre outs : List (List T4)) (C E : Nat → Prop) (w : World) (G : (Nat → Prop) → (Nat → Prop) → World → Prop) (e : Ending) (w' : World) : Prop :=
 (e = .returned (.bool true) ∧ ∃ C' E', J (pre ++ outs) C' w' ∧ Sep C' E' w' ∧ Fr C E w C' E' w' ∧ G C' E' w') ∨
 (e = .returned (.bool false) ∧ ∃ q, q <+: outs ∧ Jx (pre ++ q) w')
end Go.Proofs.Ytngkneknopenmaa.qf6
end
section
namespace Go.Proofs.Ytngkneknopenmaa.qf6
open Go Go.Lib Go.RowKit Go.Proofs.Ytngkneknopenmaa Go.Proofs.Ytngkneknopenmaa.zM Go.Proofs.Ytngkneknopenmaa.qa9 Go.Proofs.Ytngkneknopenmaa.qb8
def opsOf (rows : List ER) : List O3 := rows.flatMap ER.ops
def lens (rows : List ER) : List Nat := rows.map fun r => r.ops.length
def off (cs : List Nat) (i : Nat) : Nat := (cs.take i).sum
theorem qM7 (cs : List Nat) : off cs 0 = 0 := by simp [off]
theorem qZ7 {cs : List Nat} {i k : Nat} (h : cs[i]? = some k) : off cs (i + 1) = off cs i + k := by
 unfold off
 rw [List.take_add_one, h]
 simp
theorem zj5 {cs : List Nat} {n : Nat} (h : cs.length = n) : off cs n = cs.sum := by
 unfold off
 rw [List.take_of_length_le (by omega)]
theorem jG8 (cs : List Nat) : ∀ i, off cs i ≤ cs.sum := by
 intro i
 unfold off
 have e : cs.sum = (cs.take i).sum + (cs.drop i).sum := by rw [← List.sum_append_nat, List.take_append_drop]
 omega
theorem qx8 {cs : List Nat} {i k : Nat} (h : cs[i]? = some k) : off cs i + k ≤ cs.sum := by
 rw [← qZ7 h]
 exact jG8 cs _
theorem qZ8 (rows : List ER) : (opsOf rows).length = (lens rows).sum := by
 unfold opsOf lens
 rw [List.length_flatMap]
theorem qB0 : ∀ (rows : List ER) (i k : Nat) (r : ER), rows[i]? = some r → k < r.ops.length → (opsOf rows)[off (lens rows) i + k]? = r.ops[k]?
 | x :: xs, 0, k, r, h, hk => by
  simp at h
  subst h
  show (x.ops ++ opsOf xs)[off _ 0 + k]? = _
  rw [qM7, Nat.zero_add, List.getElem?_append_left hk]
 | x :: xs, i + 1, k, r, h, hk => by
  show (x.ops ++ opsOf xs)[off (x.ops.length :: lens xs) (i + 1) + k]? = _
  have e : off (x.ops.length :: lens xs) (i + 1) = x.ops.length + off (lens xs) i := by simp [off]
  rw [e, List.getElem?_append_right (by omega), show x.ops.length + off (lens xs) i + k - x.ops.length = off (lens xs) i + k by omega]
  exact qB0 xs i k r (by simpa using h) hk
theorem jf6 : ∀ (rows : List ER) (i k : Nat) (r r' : ER) (o : O3), rows[i]? = some r → k < r.ops.length → r'.ops = r.ops.set k o → opsOf (rows.set i r') = (opsOf rows).set (off (lens rows) i + k) o
 | x :: xs, 0, k, r, r', o, h, hk, e => by
  simp at h
  subst h
  show r'.ops ++ opsOf xs = (x.ops ++ opsOf xs).set (off _ 0 + k) o
  rw [qM7, Nat.zero_add, List.set_append_left _ _ hk, e]
 | x :: xs, i + 1, k, r, r', o, h, hk, e => by
  show x.ops ++ opsOf (xs.set i r') = (x.ops ++ opsOf xs).set (off (x.ops.length :: lens xs) (i + 1) + k) o
  have e1 : off (x.ops.length :: lens xs) (i + 1) = x.ops.length + off (lens xs) i := by simp [off]
  rw [e1, List.set_append_right _ _ (by omega), show x.ops.length + off (lens xs) i + k - x.ops.length = off (lens xs) i + k by omega, jf6 xs i k r r' o (by simpa using h) hk e]
theorem qp5 {α β : Type} (f : α → β) : ∀ (l : List α) (i : Nat) (x y : α), l[i]? = some x → f y = f x → (l.set i y).map f = l.map f
 | a :: l, 0, x, y, h, e => by simp at h; subst h; simp [e]
 | a :: l, i + 1, x, y, h, e => by simp [qp5 f l i x y (by simpa using h) e]
theorem jR4 (rows : List ER) (i : Nat) (r r' : ER) (h : rows[i]? = some r) (e : r'.ops.length = r.ops.length) : lens (rows.set i r') = lens rows := qp5 _ rows i r r' h e
def head (r : ER) : Int × Int × Int := (r.s, r.b, r.c)
theorem jf7 (rows : List ER) (i : Nat) (r r' : ER) (h : rows[i]? = some r) (e : head r' = head r) : (rows.set i r').map head = rows.map head := qp5 _ rows i r r' h e
def jw5 : List (Int × Int × Int) → List Nat → List O3 → List T4
 | x :: hd, k :: cs, fl => ⟨x.1, x.2.1, x.2.2, fl.take k⟩ :: jw5 hd cs (fl.drop k)
 | _, _, _ => []
theorem jy8 : ∀ rows : List ER, jw5 (rows.map head) (lens rows) (opsOf rows) = rows.map ER.t
 | [] => rfl
 | x :: xs => by
  show (⟨x.s, x.b, x.c, (x.ops ++ opsOf xs).take x.ops.length⟩ : T4) :: jw5 (xs.map head) (lens xs) ((x.ops ++ opsOf xs).drop x.ops.length) = x.t :: xs.map ER.t
  rw [List.take_left, List.drop_left, jy8 xs]
  rfl
def jy9 (o : O3) : Bool × Int := (o.w, o.k)
def jz3 (x : Bool × Nat) : Bool × Int := (x.1, (x.2 : Int))
def mkO (x : Bool × Nat) (v : Nat) : O3 := ⟨x.1, (x.2 : Int), (v : Int)⟩
def mkF (ks : List (Bool × Nat)) (vs : List Nat) : List O3 := List.zipWith mkO ks vs
structure qH8 (hd : List (Int × Int × Int)) (cs : List Nat) (ks : List (Bool × Nat)) (acc : List Nat) (rows : List ER) : Prop where
 hds : rows.map head = hd
 len : lens rows = cs
 kin : (opsOf rows).map jy9 = ks.map jz3
 wri : ∀ (q : Nat) (o : O3), (opsOf rows)[q]? = some o → o.w = true → o.v = (q : Int) + 1
 val : ((opsOf rows).take acc.length).map O3.v = acc.map fun v : Nat => (v : Int)
theorem qH8.total {hd : List (Int × Int × Int)} {cs : List Nat} {ks : List (Bool × Nat)} {acc : List Nat} {rows : List ER} (h : qH8 hd cs ks acc rows) : ks.length = cs.sum ∧ (opsOf rows).length = ks.length := by
 have h1 := congrArg List.length h.kin
 rw [List.length_map, List.length_map] at h1
 have h2 := qZ8 rows
 rw [h.len] at h2
 omega
theorem qH8.leaf {hd : List (Int × Int × Int)} {cs : List Nat} {ks : List (Bool × Nat)} {acc : List Nat} {rows : List ER} (h : qH8 hd cs ks acc rows) (hl : acc.length = ks.length) : rows.map ER.t = jw5 hd cs (mkF ks acc) := by
 rw [← jy8 rows, h.hds, h.len]
 congr 1
 have ht := h.total
 have hv := h.val
 rw [List.take_of_length_le (by omega)] at hv
 apply List.ext_getElem?
 intro q
 have hk : ((opsOf rows).map jy9)[q]? = (ks.map jz3)[q]? := by rw [h.kin]
 have hw : ((opsOf rows).map O3.v)[q]? = (acc.map fun v : Nat => (v : Int))[q]? := by rw [hv]
 rw [List.getElem?_map, List.getElem?_map] at hk hw
 unfold mkF
 rw [List.getElem?_zipWith]
 cases ho : (opsOf rows)[q]? with
 | none =>
  rw [ho] at hk
  cases hkq : ks[q]? with
  | none => rfl
  | some x => rw [hkq] at hk; simp at hk
 | some o =>
  rw [ho] at hk hw
  cases hkq : ks[q]? with
  | none => rw [hkq] at hk; simp at hk
  | some x =>
   cases haq : acc[q]? with
   | none => rw [haq] at hw; simp at hw
   | some v =>
    rw [hkq] at hk
    rw [haq] at hw
    simp [jy9, jz3] at hk hw
    obtain ⟨a, b, c⟩ := o
    simp only at hk hw
    simp [mkO, hk, hw]
theorem qH8.step {hd : List (Int × Int × Int)} {cs : List Nat} {ks : List (Bool × Nat)} {acc : List Nat} {rows : List ER} (h : qH8 hd cs ks acc rows) {i k : Nat} {r : ER} {o : O3} (hr : rows[i]? = some r) (ho : r.ops[k]? = some o) (hp : acc.length = off cs i + k) (hw : o.w = false) (v : Nat) (r' : ER) (e : r' = { r with ops := r.ops.set k { o with v := (v : Int) } }) :
  qH8 hd cs ks (acc ++ [v]) (rows.set i r') := by
 have hk : k < r.ops.length := (List.getElem?_eq_some_iff.1 ho).1
 have hat := qB0 rows i k r hr hk
 rw [h.len, ← hp, ho] at hat
 have hset := jf6 rows i k r r' { o with v := (v : Int) } hr hk (by rw [e])
 rw [h.len, ← hp] at hset
 have hal : acc.length < (opsOf rows).length := (List.getElem?_eq_some_iff.1 hat).1
 constructor
 ·rw [jf7 rows i r r' hr (by rw [e]; rfl)]; exact h.hds
 ·rw [jR4 rows i r r' hr (by rw [e]; simp)]; exact h.len
 ·rw [hset, ← h.kin]
  exact qp5 _ _ _ o _ hat rfl
 ·intro q x hx hxw
  rw [hset, List.getElem?_set] at hx
  split at hx
  ·rename_i e
   obtain rfl := Option.some.inj hx
   simp only at hxw
   rw [hw] at hxw
   cases hxw
  ·exact h.wri q x hx hxw
 ·rw [hset, List.length_append, List.length_singleton, List.take_add_one, List.getElem?_set_self (by simpa using hal), List.map_append, List.map_append, ← h.val, List.take_set_of_le (Nat.le_refl _)]
  rfl
theorem qH8.pass {hd : List (Int × Int × Int)} {cs : List Nat} {ks : List (Bool × Nat)} {acc : List Nat} {rows : List ER} (h : qH8 hd cs ks acc rows) {i k : Nat} {r : ER} {o : O3} (hr : rows[i]? = some r) (ho : r.ops[k]? = some o) (hp : acc.length = off cs i + k) (hw : o.w = true) :
  qH8 hd cs ks (acc ++ [acc.length + 1]) rows := by
 have hk : k < r.ops.length := (List.getElem?_eq_some_iff.1 ho).1
 have hat := qB0 rows i k r hr hk
 rw [h.len, ← hp, ho] at hat
 refine ⟨h.hds, h.len, h.kin, h.wri, ?_⟩
 rw [List.length_append, List.length_singleton, List.take_add_one, hat, List.map_append, List.map_append, ← h.val]
 have := h.wri _ o hat hw
 simp [this]
theorem qH8.back {hd : List (Int × Int × Int)} {cs : List Nat} {ks : List (Bool × Nat)} {acc : List Nat} {v : Nat} {rows : List ER} (h : qH8 hd cs ks (acc ++ [v]) rows) : qH8 hd cs ks acc rows := by
 refine ⟨h.hds, h.len, h.kin, h.wri, ?_⟩
 have hv := congrArg (List.take acc.length) h.val
 rw [← List.map_take, List.take_take, List.length_append, List.length_singleton, Nat.min_eq_left (by omega), List.map_append, List.take_left' (by simp)] at hv
 exact hv
structure qT0 (hd : List (Int × Int × Int)) (cs : List Nat) (ks : List (Bool × Nat)) (rows : List ER) : Prop where
 hds : rows.map head = hd
 len : lens rows = cs
 kin : ((opsOf rows).take ks.length).map jy9 = ks.map jz3
 wri : ∀ (q : Nat) (o : O3), q < ks.length → (opsOf rows)[q]? = some o → o.w = true → o.v = (q : Int) + 1
theorem qT0.step {hd : List (Int × Int × Int)} {cs : List Nat} {ks : List (Bool × Nat)} {rows : List ER} (h : qT0 hd cs ks rows) {i k : Nat} {r : ER} (hr : rows[i]? = some r) (hk : k < r.ops.length) (hp : ks.length = off cs i + k) (x : Bool × Nat) (r' : ER) (e : r' = { r with ops := r.ops.set k (mkO x (ks.length + 1)) }) :
  qT0 hd cs (ks ++ [x]) (rows.set i r') := by
 have hat := qB0 rows i k r hr hk
 rw [h.len, ← hp] at hat
 have hal : ks.length < (opsOf rows).length := by
  by_cases c : ks.length < (opsOf rows).length
  ·exact c
  ·rw [List.getElem?_eq_none (by omega), List.getElem?_eq_getElem hk] at hat
   cases hat
 have hset := jf6 rows i k r r' (mkO x (ks.length + 1)) hr hk (by rw [e])
 rw [h.len, ← hp] at hset
 refine ⟨by rw [jf7 rows i r r' hr (by rw [e]; rfl)]; exact h.hds, by rw [jR4 rows i r r' hr (by rw [e]; simp)]; exact h.len, ?_, ?_⟩
 ·rw [hset, List.length_append, List.length_singleton, List.take_add_one, List.getElem?_set_self hal, List.take_set_of_le (Nat.le_refl _), List.map_append, List.map_append, h.kin]
  rfl
 ·intro q o hq ho hw
  rw [hset, List.getElem?_set] at ho
  rw [List.length_append, List.length_singleton] at hq
  split at ho
  ·rename_i e2
   obtain rfl := Option.some.inj ho
   rw [← e2]
   simp [mkO]
  ·exact h.wri q o (by omega) ho hw
theorem qT0.back {hd : List (Int × Int × Int)} {cs : List Nat} {ks : List (Bool × Nat)} {x : Bool × Nat} {rows : List ER} (h : qT0 hd cs (ks ++ [x]) rows) : qT0 hd cs ks rows := by
 refine ⟨h.hds, h.len, ?_, fun q o hq => h.wri q o (by rw [List.length_append]; omega)⟩
 have hv := congrArg (List.take ks.length) h.kin
 rw [← List.map_take, List.take_take, List.length_append, List.length_singleton, Nat.min_eq_left (by omega), List.map_append, List.take_left' (by simp)] at hv
 exact hv
theorem qT0.leaf {hd : List (Int × Int × Int)} {cs : List Nat} {ks : List (Bool × Nat)} {rows : List ER} (h : qT0 hd cs ks rows) (hl : ks.length = cs.sum) : qH8 hd cs ks [] rows := by
 have ht := qZ8 rows
 rw [h.len] at ht
 have hk := h.kin
 rw [List.take_of_length_le (by omega)] at hk
 refine ⟨h.hds, h.len, hk, fun q o ho hw => ?_, by simp⟩
 have := (List.getElem?_eq_some_iff.1 ho).1
 exact h.wri q o (by omega) ho hw
theorem qH8.toK {hd : List (Int × Int × Int)} {cs : List Nat} {ks : List (Bool × Nat)} {acc : List Nat} {rows : List ER} (h : qH8 hd cs ks acc rows) : qT0 hd cs ks rows := by
 refine ⟨h.hds, h.len, ?_, fun q o _ => h.wri q o⟩
 rw [List.take_of_length_le (by have := h.total; omega)]
 exact h.kin
structure qZ9 (hd : List (Int × Int × Int)) (cs : List Nat) (rows : List ER) : Prop where
 hds : rows.map head = hd
 len : (lens rows).take cs.length = cs
def ja0 : O3 := ⟨false, 0, 0⟩
theorem qZ9.step {hd : List (Int × Int × Int)} {cs : List Nat} {rows : List ER} (h : qZ9 hd cs rows) {r : ER} (hr : rows[cs.length]? = some r) (k : Nat) (v : Value) : qZ9 hd (cs ++ [k]) (rows.set cs.length { r with v := v, ops := List.replicate k ja0 }) := by
 have hl : cs.length < (lens rows).length := by unfold lens; rw [List.length_map]; exact (List.getElem?_eq_some_iff.1 hr).1
 refine ⟨(jf7 rows cs.length r { r with v := v, ops := List.replicate k ja0 } hr rfl).trans h.hds, ?_⟩
 have e : lens (rows.set cs.length { r with v := v, ops := List.replicate k ja0 }) = (lens rows).set cs.length k := by unfold lens; rw [List.map_set]; simp
 rw [e, List.length_append, List.length_singleton, List.take_add_one, List.getElem?_set_self hl, List.take_set_of_le (Nat.le_refl _), h.len]
 rfl
theorem qZ9.back {hd : List (Int × Int × Int)} {cs : List Nat} {k : Nat} {rows : List ER} (h : qZ9 hd (cs ++ [k]) rows) : qZ9 hd cs rows := by
 refine ⟨h.hds, ?_⟩
 have hv := congrArg (List.take cs.length) h.len
 rw [List.take_take, List.length_append, List.length_singleton, Nat.min_eq_left (by omega), List.take_left' rfl] at hv
 exact hv
theorem qZ9.leaf {hd : List (Int × Int × Int)} {cs : List Nat} {rows : List ER} (h : qZ9 hd cs rows) (hl : cs.length = rows.length) : qT0 hd cs [] rows := by
 refine ⟨h.hds, ?_, rfl, fun q o hq => absurd hq (Nat.not_lt_zero _)⟩
 have := h.len
 rw [List.take_of_length_le (by unfold lens; rw [List.length_map]; omega)] at this
 exact this
def pairT (r : ER) : Int × Int := (r.b, r.c)
def jR5 (x : Nat × Nat) : Int × Int := ((x.1 : Int), (x.2 : Int))
structure ja1 (z : List (Nat × Nat)) (ss : List Nat) (rows : List ER) : Prop where
 tms : rows.map pairT = z.map jR5
 ses : (rows.map ER.s).take ss.length = ss.map fun s : Nat => (s : Int)
theorem ja1.step {z : List (Nat × Nat)} {ss : List Nat} {rows : List ER} (h : ja1 z ss rows) {r : ER} (hr : rows[ss.length]? = some r) (s : Nat) : ja1 z (ss ++ [s]) (rows.set ss.length { r with s := (s : Int) }) := by
 have hl : ss.length < (rows.map ER.s).length := by rw [List.length_map]; exact (List.getElem?_eq_some_iff.1 hr).1
 refine ⟨(qp5 pairT rows ss.length r { r with s := (s : Int) } hr rfl).trans h.tms, ?_⟩
 rw [List.map_set, List.length_append, List.length_singleton, List.take_add_one, List.getElem?_set_self hl, List.take_set_of_le (Nat.le_refl _), h.ses]
 simp
theorem ja1.back {z : List (Nat × Nat)} {ss : List Nat} {s : Nat} {rows : List ER} (h : ja1 z (ss ++ [s]) rows) : ja1 z ss rows := by
 refine ⟨h.tms, ?_⟩
 have hv := congrArg (List.take ss.length) h.ses
 rw [List.take_take, List.length_append, List.length_singleton, Nat.min_eq_left (by omega), List.map_append, List.take_left' (by simp)] at hv
 exact hv
def qt6 (z : List (Nat × Nat)) (ss : List Nat) : List (Int × Int × Int) := List.zipWith (fun (s : Nat) (x : Nat × Nat) => ((s : Int), (x.1 : Int), (x.2 : Int))) ss z
theorem ja1.leaf {z : List (Nat × Nat)} {ss : List Nat} {rows : List ER} (h : ja1 z ss rows) (hl : ss.length = rows.length) : qZ9 (qt6 z ss) [] rows := by
 refine ⟨?_, rfl⟩
 have h1 := h.ses
 rw [List.take_of_length_le (by rw [List.length_map]; omega)] at h1
 have h2 := h.tms
 unfold qt6
 apply List.ext_getElem?
 intro q
 have a1 : (rows.map ER.s)[q]? = (ss.map fun s : Nat => (s : Int))[q]? := by rw [h1]
 have a2 : (rows.map pairT)[q]? = (z.map jR5)[q]? := by rw [h2]
 rw [List.getElem?_map, List.getElem?_map] at a1 a2
 rw [List.getElem?_map, List.getElem?_zipWith]
 cases hq : rows[q]? with
 | none =>
  rw [hq] at a1
  cases hs : ss[q]? with
  | none => rfl
  | some s => rw [hs] at a1; simp at a1
 | some r =>
  rw [hq] at a1 a2
  cases hs : ss[q]? with
  | none => rw [hs] at a1; simp at a1
  | some s =>
   cases hz : z[q]? with
   | none => rw [hz] at a2; simp at a2
   | some x =>
    rw [hs] at a1
    rw [hz] at a2
    simp [pairT, jR5] at a1 a2
    simp [head, a1, a2]
structure qE4 (op : List Nat) (d : List (Nat × Nat)) (rows : List ER) : Prop where
 len : rows.length = d.length
 bgs : ∀ (i : Nat) (r : ER), rows[i]? = some r → r.b = (bg d i : Int)
 cms : ∀ (i : Nat) (r : ER), rows[i]? = some r → i ∉ op → r.c = (cm d i : Int)
theorem qE4.leaf {d : List (Nat × Nat)} {rows : List ER} (h : qE4 [] d rows) : ja1 d [] rows := by
 refine ⟨?_, by simp⟩
 apply List.ext_getElem?
 intro q
 rw [List.getElem?_map, List.getElem?_map]
 cases hq : rows[q]? with
 | none =>
  have : rows.length ≤ q := List.getElem?_eq_none_iff.1 hq
  rw [List.getElem?_eq_none (by rw [← h.len]; exact this)]
  rfl
 | some r =>
  have hl : q < d.length := by rw [← h.len]; exact (List.getElem?_eq_some_iff.1 hq).1
  have h1 := h.bgs q r hq
  have h2 := h.cms q r hq (by simp)
  unfold bg at h1
  unfold cm at h2
  rw [List.getD_eq_getElem?_getD, List.getElem?_eq_getElem hl, Option.getD_some] at h1 h2
  rw [List.getElem?_eq_getElem hl]
  simp [pairT, jR5, h1, h2]
theorem qE4.begin {op : List Nat} {d : List (Nat × Nat)} {rows : List ER} (h : qE4 op d rows) (t : Nat) (r : ER) (hb : r.b = (t : Int)) : qE4 (op ++ [d.length]) (d ++ [(t, 0)]) (rows ++ [r]) := by
 refine ⟨by simp [h.len], fun i x hx => ?_, fun i x hx ho => ?_⟩
 ·by_cases e : i < rows.length
  ·rw [List.getElem?_append_left e] at hx
   rw [h.bgs i x hx, jd9 (by rw [← h.len]; exact e)]
  ·have hi : i < (rows ++ [r]).length := (List.getElem?_eq_some_iff.1 hx).1
   simp at hi
   obtain rfl : i = rows.length := by omega
   rw [List.getElem?_append_right (Nat.le_refl _)] at hx
   simp at hx
   subst hx
   rw [h.len, zr2, hb]
 ·by_cases e : i < rows.length
  ·rw [List.getElem?_append_left e] at hx
   rw [h.cms i x hx (fun k => ho (by simp [k])), je0 (by rw [← h.len]; exact e)]
  ·have hi : i < (rows ++ [r]).length := (List.getElem?_eq_some_iff.1 hx).1
   simp at hi
   obtain rfl : i = rows.length := by omega
   exact absurd (by simp [h.len]) ho
theorem qE4.zL3 {op : List Nat} {d : List (Nat × Nat)} {rows : List ER} {t : Nat} (h : qE4 (op ++ [d.length]) (d ++ [(t, 0)]) rows) : qE4 op d (rows.take d.length) := by
 have hl := h.len
 rw [List.length_append, List.length_singleton] at hl
 refine ⟨by rw [List.length_take]; omega, fun i x hx => ?_, fun i x hx ho => ?_⟩
 ·rw [List.getElem?_take] at hx
  split at hx
  ·rename_i e
   rw [h.bgs i x hx, jd9 e]
  ·cases hx
 ·rw [List.getElem?_take] at hx
  split at hx
  ·rename_i e
   rw [h.cms i x hx (by simp [ho]; omega), je0 e]
  ·cases hx
theorem qE4.close {op : List Nat} {d : List (Nat × Nat)} {rows : List ER} (hn : op.Nodup) (h : qE4 op d rows) {i : Nat} {r : ER} (hr : rows[i]? = some r) (t : Nat) : qE4 (op.erase i) (d.set i (bg d i, t)) (rows.set i { r with c := (t : Int) }) := by
 have hil : i < rows.length := (List.getElem?_eq_some_iff.1 hr).1
 refine ⟨by simp [h.len], fun j x hx => ?_, fun j x hx ho => ?_⟩
 ·rw [jW2 (x := (bg d i, t)) rfl]
  rw [List.getElem?_set] at hx
  split at hx
  ·rename_i e
   subst e
   obtain rfl := Option.some.inj hx
   exact h.bgs _ r hr
  ·exact h.bgs j x hx
 ·rw [List.getElem?_set] at hx
  split at hx
  ·rename_i e
   subst e
   obtain rfl := Option.some.inj hx
   rw [jx3 (by rw [← h.len]; exact hil)]
  ·rename_i e
   rw [h.cms j x hx (fun k => ho (hn.mem_erase_iff.2 ⟨fun k => e k.symm, k⟩)), je1 e]
theorem qE4.zL4 {op : List Nat} {d : List (Nat × Nat)} {rows : List ER} {i t : Nat} (hi : i ∈ op) (h : qE4 (op.erase i) (d.set i (bg d i, t)) rows) : qE4 op d rows := by
 refine ⟨by have := h.len; simpa using this, fun j x hx => ?_, fun j x hx ho => ?_⟩
 ·rw [h.bgs j x hx, jW2 (x := (bg d i, t)) rfl]
 ·have hne : i ≠ j := fun e => ho (e ▸ hi)
  rw [h.cms j x hx (fun k => ho (List.mem_of_mem_erase k)), je1 hne]
end Go.Proofs.Ytngkneknopenmaa.qf6
end
section
namespace Go.Proofs.Ytngkneknopenmaa.qf6
open Go Go.Lib Go.RowKit Go.Proofs.Ytngkneknopenmaa Go.Proofs.Ytngkneknopenmaa.zM Go.Proofs.Ytngkneknopenmaa.qa9 Go.Proofs.Ytngkneknopenmaa.qb8
theorem qf1 {w w' : World} {base : Nat} {e : TypeId} {size : Nat} {v : Value} {n : Nat} {xs : List Value} (h : w.ownsRow base e size v n xs) (hb : ∀ g, v.ownBlock = some g → w'.heap[g]? = w.heap[g]?) : w'.ownsRow base e size v n xs := by
 refine ⟨h.1, ?_⟩
 rcases h.2 with hn | ⟨g, cap, cur, hv, hg, hh, rest⟩
 ·exact .inl hn
 ·exact .inr ⟨g, cap, cur, hv, hg, (hb g (by rw [hv]; rfl)).trans hh, rest⟩
theorem qa4 (w : World) (a : Addr) (u : Value) {b : Nat} (h : b ≠ a.block) : (w.setCell a u).heap[b]? = w.heap[b]? := Below.heap_setCell w a u b h
variable {w w' : World} {bX : Nat} {p : Par} {yv V : Value} {rows : List ER}
theorem EB.same (h : EB w bX p yv V rows) (hb : ∀ b, Ow bX V rows b → w'.heap[b]? = w.heap[b]?) : EB w' bX p yv V rows :=
 ⟨(hb bX (.inl rfl)).trans h.hx, qf1 h.own (fun g hg => hb g (.inr (.inl hg))), fun r hr => qf1 (h.ops r hr) (fun g hg => hb g (.inr (.inr ⟨r, hr, hg⟩))), h.apV, h.ap⟩
theorem EB.lt (h : EB w bX p yv V rows) : ∀ b, Ow bX V rows b → bX ≤ b ∧ b < w.heap.size := by
 rintro b (rfl | hb | ⟨r, hr, hb⟩)
 ·exact ⟨Nat.le_refl _, (Array.getElem?_eq_some_iff.1 h.hx).1⟩
 ·have := h.own.lt b hb; omega
 ·have := (h.ops r hr).lt b hb; omega
theorem EB.below (h : EB w bX p yv V rows) (hb : Below w.heap.size w w') : EB w' bX p yv V rows := h.same (fun b hb' => hb.block b (h.lt b hb').2)
theorem EB.bXV (h : EB w bX p yv V rows) {g : Nat} (hg : V.ownBlock = some g) : g ≠ bX := by have := h.own.lt g hg; omega
theorem EB.bXr (h : EB w bX p yv V rows) {r : ER} (hr : r ∈ rows) {g : Nat} (hg : r.v.ownBlock = some g) : g ≠ bX := by have := (h.ops r hr).lt g hg; omega
theorem mem_set {r r' : ER} {i : Nat} (h : r ∈ rows.set i r') : r = r' ∨ ∃ j, j ≠ i ∧ rows[j]? = some r := by
 obtain ⟨j, hj⟩ := List.mem_iff_getElem?.1 h
 rw [List.getElem?_set] at hj
 split at hj
 ·rename_i e
  split at hj
  ·exact .inl (Option.some.inj hj).symm
  ·cases hj
 ·rename_i e
  exact .inr ⟨j, fun k => e k.symm, hj⟩
theorem qx9 {r' x : ER} {i j : Nat} (h : (rows.set i r')[j]? = some x) : (j = i ∧ x = r') ∨ (j ≠ i ∧ rows[j]? = some x) := by
 rw [List.getElem?_set] at h
 split at h
 ·rename_i e
  split at h
  ·exact .inl ⟨e.symm, (Option.some.inj h).symm⟩
  ·cases h
 ·rename_i e
  exact .inr ⟨fun k => e k.symm, h⟩
theorem EB.jR6 (h : EB w bX p yv V rows) {g cap i j : Nat} {r r' : ER} {u : Value} (hV : V = .slice (some ⟨g, 0, none⟩) rows.length cap) (hr : rows[i]? = some r) (hj : j < 4) (hc : r'.cells = r.cells.set j u) (hv : r'.v = r.v) (ho : r'.ops = r.ops) :
  EB (w.setCell ⟨g, i * 4 + j, none⟩ u) bX p yv V (rows.set i r') := by
 have hgV : V.ownBlock = some g := by rw [hV]; rfl
 have hst := (show w.ownsRow (bX + 1) 55 4 (.slice (some ⟨g, 0, none⟩) rows.length cap) rows.length (qc9 rows) from hV ▸ h.own).stored (i * 4 + j) u
 have hrm : r ∈ rows := List.mem_of_getElem? hr
 have hset := jf5 rows i j r r' u hr hj hc
 have hother : ∀ x ∈ rows, ∀ b, x.v.ownBlock = some b → (w.setCell ⟨g, i * 4 + j, none⟩ u).heap[b]? = w.heap[b]? := fun x hx b hb => qa4 _ _ _ (fun e => h.apV x hx b hb (by rw [hgV]; exact congrArg some e.symm))
 refine ⟨(qa4 _ _ _ (fun e => h.bXV hgV e.symm)).trans h.hx, ?_, fun x hx => ?_, fun x hx => ?_, ?_⟩
 ·rw [List.length_set, ← hset, hV]; exact hst.1
 ·rcases mem_set hx with rfl | ⟨k, _, hk⟩
  ·rw [hv, ho]; exact qf1 (h.ops r hrm) (hother r hrm)
  ·have hm := List.mem_of_getElem? hk; exact qf1 (h.ops x hm) (hother x hm)
 ·rcases mem_set hx with rfl | ⟨k, _, hk⟩
  ·rw [hv]; exact h.apV r hrm
  ·exact h.apV x (List.mem_of_getElem? hk)
 ·intro a b x y hab hx hy
  rcases qx9 hx with ⟨rfl, rfl⟩ | ⟨ha, hx2⟩
  ·rcases qx9 hy with ⟨rfl, rfl⟩ | ⟨hb, hy2⟩
   ·exact absurd rfl hab
   ·rw [hv]; exact h.ap a b r y hab hr hy2
  ·rcases qx9 hy with ⟨rfl, rfl⟩ | ⟨hb, hy2⟩
   ·rw [hv]; exact h.ap a b x r hab hx2 hr
   ·exact h.ap a b x y hab hx2 hy2
theorem EB.Qa9 (h : EB w bX p yv V rows) {g cap i : Nat} {r : ER} {v2 : Value} {qH9 : List O3} (hV : V = .slice (some ⟨g, 0, none⟩) rows.length cap) (hr : rows[i]? = some r) (ho : w.ownsRow (bX + 1) 51 3 v2 qH9.length (flat qH9)) (hn : ∀ b, v2.ownBlock = some b → ¬ Ow bX V rows b) :
  EB (w.setCell ⟨g, i * 4 + 3, none⟩ v2) bX p yv V (rows.set i { r with v := v2, ops := qH9 }) := by
 have hgV : V.ownBlock = some g := by rw [hV]; rfl
 have hst := (show w.ownsRow (bX + 1) 55 4 (.slice (some ⟨g, 0, none⟩) rows.length cap) rows.length (qc9 rows) from hV ▸ h.own).stored (i * 4 + 3) v2
 have hrm : r ∈ rows := List.mem_of_getElem? hr
 have hset := jf5 rows i 3 r { r with v := v2, ops := qH9 } v2 hr (by omega) rfl
 have hother : ∀ x ∈ rows, ∀ b, x.v.ownBlock = some b → (w.setCell ⟨g, i * 4 + 3, none⟩ v2).heap[b]? = w.heap[b]? := fun x hx b hb => qa4 _ _ _ (fun e => h.apV x hx b hb (by rw [hgV]; exact congrArg some e.symm))
 refine ⟨(qa4 _ _ _ (fun e => h.bXV hgV e.symm)).trans h.hx, ?_, fun x hx => ?_, fun x hx => ?_, ?_⟩
 ·rw [List.length_set, ← hset, hV]; exact hst.1
 ·rcases mem_set hx with rfl | ⟨k, _, hk⟩
  ·exact qf1 ho (fun b hb => qa4 _ _ _ (fun e => hn b hb (.inr (.inl (by rw [hgV]; exact congrArg some e.symm)))))
  ·have hm := List.mem_of_getElem? hk; exact qf1 (h.ops x hm) (hother x hm)
 ·rcases mem_set hx with rfl | ⟨k, _, hk⟩
  ·intro b hb e; exact hn b hb (.inr (.inl e))
  ·exact h.apV x (List.mem_of_getElem? hk)
 ·intro a b x y hab hx hy
  rcases qx9 hx with ⟨rfl, rfl⟩ | ⟨ha, hx2⟩
  ·rcases qx9 hy with ⟨rfl, rfl⟩ | ⟨hb, hy2⟩
   ·exact absurd rfl hab
   ·exact fun c hc e => hn c hc (.inr (.inr ⟨y, List.mem_of_getElem? hy2, e⟩))
  ·rcases qx9 hy with ⟨rfl, rfl⟩ | ⟨hb, hy2⟩
   ·exact fun c hc e => hn c e (.inr (.inr ⟨x, List.mem_of_getElem? hx2, hc⟩))
   ·exact h.ap a b x y hab hx2 hy2
theorem EB.jM6 (h : EB w bX p yv V rows) {g cap i j : Nat} {r : ER} {u : Value} {qH9 : List O3} (hr : rows[i]? = some r) (hv : r.v = .slice (some ⟨g, 0, none⟩) r.ops.length cap) (hf : (flat r.ops).set j u = flat qH9) (hl : qH9.length = r.ops.length) :
  EB (w.setCell ⟨g, j, none⟩ u) bX p yv V (rows.set i { r with ops := qH9 }) := by
 have hrm : r ∈ rows := List.mem_of_getElem? hr
 have hgr : r.v.ownBlock = some g := by rw [hv]; rfl
 have hst := (show w.ownsRow (bX + 1) 51 3 (.slice (some ⟨g, 0, none⟩) r.ops.length cap) r.ops.length (flat r.ops) from hv ▸ h.ops r hrm).stored j u
 have hcells : qc9 (rows.set i { r with ops := qH9 }) = qc9 rows := by
  have : ∀ (l : List ER) (i : Nat), l[i]? = some r → qc9 (l.set i { r with ops := qH9 }) = qc9 l := by
   intro l
   induction l with
   | nil => intro i hi; simp at hi
   | cons a l ih =>
    intro i hi
    cases i with
    | zero => simp at hi; subst hi; rfl
    | succ i => show a.cells ++ qc9 (l.set i _) = a.cells ++ qc9 l; rw [ih i (by simpa using hi)]
  exact this rows i hr
 refine ⟨(qa4 _ _ _ (fun e => h.bXr hrm hgr e.symm)).trans h.hx, ?_, fun x hx => ?_, fun x hx => ?_, ?_⟩
 ·rw [List.length_set, hcells]; exact qf1 h.own (fun b hb => qa4 _ _ _ (fun e => h.apV r hrm g hgr (by rw [hb]; exact congrArg some e)))
 ·rcases mem_set hx with rfl | ⟨k, hki, hk⟩
  ·show World.ownsRow _ _ _ _ r.v qH9.length (flat qH9)
   rw [hl, ← hf, hv]; exact hst.1
  ·have hm := List.mem_of_getElem? hk
   exact qf1 (h.ops x hm) (fun b hb => qa4 _ _ _ (fun e => h.ap k i x r hki hk hr b hb (by rw [hgr]; exact congrArg some e.symm)))
 ·rcases mem_set hx with rfl | ⟨k, _, hk⟩
  ·exact h.apV r hrm
  ·exact h.apV x (List.mem_of_getElem? hk)
 ·intro a b x y hab hx hy
  rcases qx9 hx with ⟨rfl, rfl⟩ | ⟨ha, hx2⟩
  ·rcases qx9 hy with ⟨rfl, rfl⟩ | ⟨hb, hy2⟩
   ·exact absurd rfl hab
   ·exact h.ap a b r y hab hr hy2
  ·rcases qx9 hy with ⟨rfl, rfl⟩ | ⟨hb, hy2⟩
   ·exact h.ap a b x r hab hx2 hr
   ·exact h.ap a b x y hab hx2 hy2
theorem EB.Qb0 (h : EB w bX p yv V rows) {g cap i : Nat} {r : ER} {qH9 : List O3} (hr : rows[i]? = some r) (hv : r.v = .slice (some ⟨g, 0, none⟩) r.ops.length cap) (hl : qH9.length = r.ops.length) (hne : ∀ b, b ≠ g → w'.heap[b]? = w.heap[b]?) (hown : w'.ownsRow (bX + 1) 51 3 r.v qH9.length (flat qH9)) :
  EB w' bX p yv V (rows.set i { r with ops := qH9 }) := by
 have hrm : r ∈ rows := List.mem_of_getElem? hr
 have hgr : r.v.ownBlock = some g := by rw [hv]; rfl
 have hcells : qc9 (rows.set i { r with ops := qH9 }) = qc9 rows := by
  have : ∀ (l : List ER) (i : Nat), l[i]? = some r → qc9 (l.set i { r with ops := qH9 }) = qc9 l := by
   intro l
   induction l with
   | nil => intro i hi; simp at hi
   | cons a l ih =>
    intro i hi
    cases i with
    | zero => simp at hi; subst hi; rfl
    | succ i => show a.cells ++ qc9 (l.set i _) = a.cells ++ qc9 l; rw [ih i (by simpa using hi)]
  exact this rows i hr
 refine ⟨(hne _ (fun e => h.bXr hrm hgr e.symm)).trans h.hx, ?_, fun x hx => ?_, fun x hx => ?_, ?_⟩
 ·rw [List.length_set, hcells]; exact qf1 h.own (fun b hb => hne _ (fun e => h.apV r hrm g hgr (by rw [hb]; exact congrArg some e)))
 ·rcases mem_set hx with rfl | ⟨k, hki, hk⟩
  ·exact hown
  ·have hm := List.mem_of_getElem? hk
   exact qf1 (h.ops x hm) (fun b hb => hne _ (fun e => h.ap k i x r hki hk hr b hb (by rw [hgr]; exact congrArg some e.symm)))
 ·rcases mem_set hx with rfl | ⟨k, _, hk⟩
  ·exact h.apV r hrm
  ·exact h.apV x (List.mem_of_getElem? hk)
 ·intro a b x y hab hx hy
  rcases qx9 hx with ⟨rfl, rfl⟩ | ⟨ha, hx2⟩
  ·rcases qx9 hy with ⟨rfl, rfl⟩ | ⟨hb, hy2⟩
   ·exact absurd rfl hab
   ·exact h.ap a b r y hab hr hy2
  ·rcases qx9 hy with ⟨rfl, rfl⟩ | ⟨hb, hy2⟩
   ·exact h.ap a b x r hab hx2 hr
   ·exact h.ap a b x y hab hx2 hy2
theorem jz4 : ∀ (xs : List O3) (i : Nat) (o : O3), i < xs.length → (((flat xs).set (i * 3) (.bool o.w)).set (i * 3 + 1) (.int .i64 o.k)).set (i * 3 + 2) (.int .i64 o.v) = flat (xs.set i o)
 | x :: xs, 0, o, _ => by
  have e : flat (x :: xs) = [.bool x.w, .int .i64 x.k, .int .i64 x.v] ++ flat xs := rfl
  have e2 : flat ((x :: xs).set 0 o) = [.bool o.w, .int .i64 o.k, .int .i64 o.v] ++ flat xs := rfl
  rw [e, e2]
  rfl
 | x :: xs, i + 1, o, h => by
  have e : flat (x :: xs) = [.bool x.w, .int .i64 x.k, .int .i64 x.v] ++ flat xs := rfl
  have e2 : flat ((x :: xs).set (i + 1) o) = [.bool x.w, .int .i64 x.k, .int .i64 x.v] ++ flat (xs.set i o) := rfl
  rw [e, e2, ← jz4 xs i o (by simpa using h)]
  have hl : ([.bool x.w, .int .i64 x.k, .int .i64 x.v] : List Value).length = 3 := rfl
  rw [List.set_append_right _ _ (by rw [hl]; omega), List.set_append_right _ _ (by rw [hl]; omega), List.set_append_right _ _ (by rw [hl]; omega), hl, show (i + 1) * 3 - 3 = i * 3 by omega, show (i + 1) * 3 + 1 - 3 = i * 3 + 1 by omega, show (i + 1) * 3 + 2 - 3 = i * 3 + 2 by omega]
theorem EB.Qb1 (h : EB w bX p yv V rows) {g cap i k : Nat} {r : ER} {o : O3} (hr : rows[i]? = some r) (hv : r.v = .slice (some ⟨g, 0, none⟩) r.ops.length cap) (hk : k < r.ops.length) :
  EB (((w.setCell ⟨g, k * 3, none⟩ (.bool o.w)).setCell ⟨g, k * 3 + 1, none⟩ (.int .i64 o.k)).setCell ⟨g, k * 3 + 2, none⟩ (.int .i64 o.v)) bX p yv V (rows.set i { r with ops := r.ops.set k o }) := by
 refine h.Qb0 hr hv (by simp) (fun b hb => ?_) ?_
 ·rw [qa4 _ _ _ hb, qa4 _ _ _ hb, qa4 _ _ _ hb]
 ·have h1 := (show w.ownsRow (bX + 1) 51 3 (.slice (some ⟨g, 0, none⟩) r.ops.length cap) r.ops.length (flat r.ops) from hv ▸ h.ops r (List.mem_of_getElem? hr)).stored (k * 3) (.bool o.w)
  have h2 := h1.1.stored (k * 3 + 1) (.int .i64 o.k)
  have h3 := h2.1.stored (k * 3 + 2) (.int .i64 o.v)
  have h4 := h3.1
  rw [jz4 r.ops k o hk] at h4
  rw [hv, List.length_set]
  exact h4
theorem EB.setV (h : EB w bX p yv V rows) {V2 : Value} {zC : List ER} (ho : w.ownsRow (bX + 1) 55 4 V2 zC.length (qc9 zC)) (hops : ∀ r ∈ zC, w.ownsRow (bX + 1) 51 3 r.v r.ops.length (flat r.ops))
  (hap : ∀ r ∈ zC, ∀ g, r.v.ownBlock = some g → V2.ownBlock ≠ some g) (hap2 : ∀ (i j : Nat) (r r' : ER), i ≠ j → zC[i]? = some r → zC[j]? = some r' → ∀ g, r.v.ownBlock = some g → r'.v.ownBlock ≠ some g) :
  EB (w.setCell ⟨bX, 6, none⟩ V2) bX p yv V2 zC := by
 have hb : ∀ b, bX + 1 ≤ b → (w.setCell ⟨bX, 6, none⟩ V2).heap[b]? = w.heap[b]? := fun b hb => qa4 _ _ _ (by show b ≠ bX; omega)
 refine ⟨?_, qf1 ho (fun b hg => hb b (ho.lt b hg).1), fun r hr => qf1 (hops r hr) (fun b hg => hb b ((hops r hr).lt b hg).1), hap, hap2⟩
 rw [qd9 w bX 6 _ _ _ V2 h.hx]
 rfl
theorem EB.take (h : EB w bX p yv V rows) {k : Nat} (hk : k ≤ rows.length) {A : Option Addr} {cap : Nat} (hV : V = .slice A rows.length cap) :
  EB (w.setCell ⟨bX, 6, none⟩ (.slice A k cap)) bX p yv (.slice A k cap) (rows.take k) := by
 have hob : ∀ g, (Value.slice A k cap).ownBlock = some g → V.ownBlock = some g := by
  intro g hg
  rw [hV]
  cases A <;> exact hg
 refine h.setV ?_ (fun r hr => h.ops r (List.mem_of_mem_take hr)) (fun r hr g hg e => h.apV r (List.mem_of_mem_take hr) g hg (hob g e)) ?_
 ·have hl : (rows.take k).length = k := by rw [List.length_take]; omega
  rw [hl, ← za8 rows k hk]
  obtain ⟨h1, h2⟩ := h.own
  refine ⟨by rw [List.length_take, qZ5]; omega, ?_⟩
  rcases h2 with ⟨hv, hn⟩ | ⟨g, cp, cur, hv, hg, hh, hle, hcm, hsz, jW8⟩
  ·rw [hV] at hv
   injection hv with e1 e2 e3
   subst e1 e3
   left
   exact ⟨by rw [show k = 0 by omega], by omega⟩
  ·rw [hV] at hv
   injection hv with e1 e2 e3
   subst e1 e3
   exact .inr ⟨g, cap, cur, rfl, hg, hh, by omega, hcm, hsz, by rw [← jW8, List.take_take, Nat.min_eq_left (by omega)]⟩
 ·intro i j x y hij hx hy
  rw [List.getElem?_take] at hx hy
  split at hx
  ·split at hy
   ·exact h.ap i j x y hij hx hy
   ·cases hy
  ·cases hx
theorem EB.push (h : EB w bX p yv V rows) {w2 : World} {V2 : Value} {r : ER} (hg : w.grownBy w2 V.ownBlock) (ho : w2.ownsRow (bX + 1) 55 4 V2 (rows.length + 1) (qc9 rows ++ r.cells)) (hat : ∀ g, V2.ownBlock = some g → V.ownBlock = some g ∨ w.heap.size ≤ g) (hv : r.v = .slice none 0 0) (hops : r.ops = []) :
  EB (w2.setCell ⟨bX, 6, none⟩ V2) bX p yv V2 (rows ++ [r]) := by
 have k1 : ∀ b, b < w.heap.size → V.ownBlock ≠ some b → w2.heap[b]? = w.heap[b]? := fun b hb hne => hg.block b hb (fun e => hne e.symm)
 have hrv : r.v.ownBlock = none := by rw [hv]; rfl
 have hx2 : w2.heap[bX]? = some (.cells (p.cells V yv) 114 (0, 0)) := (k1 bX (h.lt bX (.inl rfl)).2 (fun e => h.bXV e rfl)).trans h.hx
 have hb : ∀ b, bX + 1 ≤ b → (w2.setCell ⟨bX, 6, none⟩ V2).heap[b]? = w2.heap[b]? := fun b hb => qa4 _ _ _ (by show b ≠ bX; omega)
 have hcut : (rows ++ [r]).length = rows.length + 1 := by simp
 have hfl : qc9 (rows ++ [r]) = qc9 rows ++ r.cells := by rw [qZ6]; simp [qc9]
 have hown2 : w2.ownsRow (bX + 1) 55 4 V2 (rows ++ [r]).length (qc9 (rows ++ [r])) := by rw [hcut, hfl]; exact ho
 have zU4 : ∀ x ∈ rows ++ [r], w2.ownsRow (bX + 1) 51 3 x.v x.ops.length (flat x.ops) := by
  intro x hx
  rcases List.mem_append.1 hx with hx | hx
  ·exact qf1 (h.ops x hx) (fun b hb => k1 b ((h.ops x hx).lt b hb).2 (h.apV x hx b hb))
  ·simp at hx; subst hx; rw [hv, hops]; exact World.ownsRow_nil _ _ _ _
 refine ⟨?_, qf1 hown2 (fun b hg => hb b (hown2.lt b hg).1), fun x hx => qf1 (zU4 x hx) (fun b hg => hb b ((zU4 x hx).lt b hg).1), ?_, ?_⟩
 ·rw [qd9 w2 bX 6 _ _ _ V2 hx2]
  rfl
 ·intro x hx g hgx e
  rcases List.mem_append.1 hx with hx | hx
  ·rcases hat g e with e | e
   ·exact h.apV x hx g hgx e
   ·have := ((h.ops x hx).lt g hgx).2; omega
  ·simp at hx; subst hx; rw [hrv] at hgx; cases hgx
 ·intro i j x y hij hx hy g hgx hgy
  have hx' := List.mem_of_getElem? hx
  have hy' := List.mem_of_getElem? hy
  by_cases ci : i < rows.length
  ·by_cases cj : j < rows.length
   ·rw [List.getElem?_append_left ci] at hx
    rw [List.getElem?_append_left cj] at hy
    exact h.ap i j x y hij hx hy g hgx hgy
   ·rw [List.getElem?_append_right (by omega)] at hy
    have : y = r := by simpa using List.mem_of_getElem? hy
    subst this
    rw [hrv] at hgy
    cases hgy
  ·rw [List.getElem?_append_right (by omega)] at hx
   have : x = r := by simpa using List.mem_of_getElem? hx
   subst this
   rw [hrv] at hgx
   cases hgx
theorem EB.field (h : EB w bX p yv V rows) (j : Nat) : w.cell? ⟨bX, j, none⟩ = (p.cells V yv)[j]? := Lib.cell_of_heap h.hx j
theorem EB.thaw (h : EB w bX p yv V rows) (j : Nat) : w.frozen? ⟨bX, j, none⟩ = false := Lib.frozen_of_heap h.hx j
theorem EB.qo7 (h : EB w bX p yv V rows) {g cap i j : Nat} {r : ER} (hV : V = .slice (some ⟨g, 0, none⟩) rows.length cap) (hr : rows[i]? = some r) (hj : j < 4) : w.cell? ⟨g, i * 4 + j, none⟩ = r.cells[j]? := by
 have hil : i < rows.length := (List.getElem?_eq_some_iff.1 hr).1
 rw [← jR3 rows i j r hr hj]
 exact (show w.ownsRow (bX + 1) 55 4 (.slice (some ⟨g, 0, none⟩) rows.length cap) rows.length (qc9 rows) from hV ▸ h.own).cellAt (i * 4 + j) (by omega)
theorem EB.zz2 (h : EB w bX p yv V rows) {g cap : Nat} (hV : V = .slice (some ⟨g, 0, none⟩) rows.length cap) (j : Nat) : w.frozen? ⟨g, j, none⟩ = false :=
 (show w.ownsRow (bX + 1) 55 4 (.slice (some ⟨g, 0, none⟩) rows.length cap) rows.length (qc9 rows) from hV ▸ h.own).frozenAt j
theorem EB.form (h : EB w bX p yv V rows) (h0 : 0 < rows.length) : ∃ g cap, V = .slice (some ⟨g, 0, none⟩) rows.length cap ∧ rows.length ≤ cap := by
 rcases h.own.2 with ⟨_, e⟩ | ⟨g, cap, _, hv, _, _, hle, _⟩
 ·omega
 ·exact ⟨g, cap, hv, hle⟩
theorem EB.slice (h : EB w bX p yv V rows) : ∃ A cap, V = .slice A rows.length cap ∧ rows.length ≤ cap ∧ cap ≤ maxLen := by
 rcases h.own.2 with ⟨hv, e⟩ | ⟨g, cap, _, hv, _, _, hle, hm, _⟩
 ·exact ⟨none, 0, by rw [hv, e], by omega, by unfold maxLen; omega⟩
 ·exact ⟨_, cap, hv, hle, hm⟩
theorem EB.jR7 (h : EB w bX p yv V rows) {r : ER} (hr : r ∈ rows) (h0 : 0 < r.ops.length) : ∃ g cap, r.v = .slice (some ⟨g, 0, none⟩) r.ops.length cap ∧ r.ops.length ≤ cap := by
 rcases (h.ops r hr).2 with ⟨_, e⟩ | ⟨g, cap, _, hv, _, _, hle, _⟩
 ·omega
 ·exact ⟨g, cap, hv, hle⟩
theorem EB.qM8 (h : EB w bX p yv V rows) {r : ER} (hr : r ∈ rows) : ∃ A cap, r.v = .slice A r.ops.length cap ∧ r.ops.length ≤ cap ∧ cap ≤ maxLen := by
 rcases (h.ops r hr).2 with ⟨hv, e⟩ | ⟨g, cap, _, hv, _, _, hle, hm, _⟩
 ·exact ⟨none, 0, by rw [hv, e], by omega, by unfold maxLen; omega⟩
 ·exact ⟨_, cap, hv, hle, hm⟩
theorem EB.jz5 (h : EB w bX p yv V rows) {r : ER} (hr : r ∈ rows) {g cap k : Nat} {o : O3} (hv : r.v = .slice (some ⟨g, 0, none⟩) r.ops.length cap) (ho : r.ops[k]? = some o) :
  w.cell? ⟨g, k * 3, none⟩ = some (.bool o.w) ∧ w.cell? ⟨g, k * 3 + 1, none⟩ = some (.int .i64 o.k) ∧ w.cell? ⟨g, k * 3 + 2, none⟩ = some (.int .i64 o.v) := by
 have hown := (show w.ownsRow (bX + 1) 51 3 (.slice (some ⟨g, 0, none⟩) r.ops.length cap) r.ops.length (flat r.ops) from hv ▸ h.ops r hr)
 have hk : k < r.ops.length := (List.getElem?_eq_some_iff.1 ho).1
 obtain ⟨a, b, c⟩ := flat_get r.ops [] k o ho
 rw [List.append_nil] at a b c
 exact ⟨(hown.cellAt _ (by omega)).trans a, (hown.cellAt _ (by omega)).trans b, (hown.cellAt _ (by omega)).trans c⟩
theorem EB.zU5 (h : EB w bX p yv V rows) {r : ER} (hr : r ∈ rows) {g cap : Nat} (hv : r.v = .slice (some ⟨g, 0, none⟩) r.ops.length cap) (j : Nat) : w.frozen? ⟨g, j, none⟩ = false :=
 (show w.ownsRow (bX + 1) 51 3 (.slice (some ⟨g, 0, none⟩) r.ops.length cap) r.ops.length (flat r.ops) from hv ▸ h.ops r hr).frozenAt j
end Go.Proofs.Ytngkneknopenmaa.qf6
end
section
namespace Go.Proofs.Ytngkneknopenmaa.qf6
open Go Go.Lib Go.RowKit Go.Proofs.Ytngkneknopenmaa Go.Proofs.Ytngkneknopenmaa.zM Go.Proofs.Ytngkneknopenmaa.qa9 Go.Proofs.Ytngkneknopenmaa.qb8
theorem zz3 (rows : List ER) {i : Nat} {r : ER} (h : rows[i]? = some r) : off (lens rows) (i + 1) = off (lens rows) i + r.ops.length := qZ7 (by unfold lens; rw [List.getElem?_map, h]; rfl)
def RelP (rows : List ER) (w : World) (i : Nat) (u x : Value) (wr : World) : Prop :=
 ∃ j : Nat, j ≤ i ∧ x = .int .i64 ((j : Nat) : Int) ∧ u = .int .i64 ((1 + off (lens rows) j : Nat) : Int) ∧ Below w.heap.size w wr
set_option maxHeartbeats 1000000 in
set_option maxRecDepth 100000 in
theorem jR8 {w : World} {bX : Nat} {p : Par} {yv V : Value} {rows : List ER} (h : EB w bX p yv V rows) (i k : Nat) (hi : i ≤ rows.length) (hb : (lens rows).sum ≤ 1000000) (hk : k ≤ 1000000) (hr : rows.length ≤ 1000000) :
  Calls Try.prog 113 #[.pointer (some ⟨bX, 0, none⟩), .int .i64 i, .int .i64 k] w fun e w' => e = .returned (.int .i64 ((off (lens rows) i + k + 1 : Nat) : Int)) ∧ Below w.heap.size w w' := by
 obtain ⟨A, cap, hV, hcap, hcm⟩ := h.slice
 have c6 := h.field 6
 have HE := Lib.hid h
 have HB := Lib.hid hb
 obtain ⟨n, hn⟩ : ∃ n, rows.length = n := ⟨_, rfl⟩
 have HN := Lib.hid hn
 subst hV
 rw [hn] at c6 hcap hi hr
 simp only [Par.cells, List.getElem?_toArray, List.getElem?_cons_succ, List.getElem?_cons_zero] at c6
 unfold maxLen at hcm
 have hiz : (i : Int) ≤ (cap : Int) := by omega
 clear h hb hn
 go_enter Try.func113, Try.ntmps113
 go_wp2_with fail
 go_loopw [7, 17] (fun u x wr => RelP rows w i u x wr) (fun _ x _ => i - (intOf x).toNat)
 case atStart => exact ⟨0, Nat.zero_le _, rfl, by rw [qM7]; rfl, Below.refl _ _⟩
 case round =>
  obtain ⟨j, hj, rfl, rfl, hb⟩ := hrel
  have HEr := Lib.hid (HE.out.below hb)
  by_cases hlt : j < i
  ·have hltz : (j : Int) < (i : Int) := by omega
   have hjr : j < rows.length := by rw [HN.out]; omega
   obtain ⟨r, hjr⟩ : ∃ r, rows[j]? = some r := ⟨_, List.getElem?_eq_getElem hjr⟩
   obtain ⟨g, cap', hV, _⟩ := HEr.out.form (by rw [HN.out]; omega)
   obtain rfl : A = some ⟨g, 0, none⟩ := by injection hV
   obtain ⟨A3, c3, h3, hc3, hm3⟩ := HEr.out.qM8 (List.mem_of_getElem? hjr)
   have t0 := HEr.out.qo7 rfl hjr (j := 0) (by omega)
   have t1 := HEr.out.qo7 rfl hjr (j := 1) (by omega)
   have t2 := HEr.out.qo7 rfl hjr (j := 2) (by omega)
   have t3 := HEr.out.qo7 rfl hjr (j := 3) (by omega)
   simp only [ER.cells, List.getElem?_cons_succ, List.getElem?_cons_zero, Nat.add_zero] at t0 t1 t2 t3
   rw [h3] at t3
   have hoff := zz3 rows hjr
   have hole := jG8 (lens rows) (j + 1)
   have HOFF := Lib.hid hoff
   have hsum : 1 + off (lens rows) j + r.ops.length ≤ 1000001 := by have := HB.out; omega
   have HB2 := Lib.hid hb
   obtain ⟨q, hq⟩ : ∃ q, 1 + off (lens rows) j = q := ⟨_, rfl⟩
   have HQ := Lib.hid hq
   obtain ⟨m, hm⟩ : ∃ m, r.ops.length = m := ⟨_, rfl⟩
   have HM := Lib.hid hm
   rw [hq] at hsum ⊢
   rw [hm] at hsum t3 hc3
   unfold maxLen at hm3
   clear hb hV hjr hoff hole hq hm h3
   go_wp2_with fail
   go_roundw
   case rel => exact ⟨j + 1, by omega, by go_num, by rw [show 1 + off (lens rows) (j + 1) = q + m by have := HOFF.out; have := HQ.out; have := HM.out; omega]; go_num, HB2.out.alloc HB2.out.size _⟩
   case measure => (simp only [intOf]; omega)
  ·obtain rfl : j = i := by omega
   have hle := jG8 (lens rows) j
   have hs : 1 + off (lens rows) j + k ≤ 3000000 := by have := HB.out; omega
   have HB2 := Lib.hid hb
   obtain ⟨q, hq⟩ : ∃ q, 1 + off (lens rows) j = q := ⟨_, rfl⟩
   have HQ := Lib.hid hq
   rw [hq] at hs ⊢
   clear hb hle hq
   go_wp2_with fail
   go_ret
   exact ⟨by rw [show off (lens rows) j + k + 1 = q + k by have := HQ.out; omega]; go_num, HB2.out⟩
end Go.Proofs.Ytngkneknopenmaa.qf6
end
