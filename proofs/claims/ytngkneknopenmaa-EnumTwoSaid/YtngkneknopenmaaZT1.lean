/- qr3 of this claim, joined by a program of this session: the zS that its theorem uses. -/
import Derived.Lib.Hide
set_option linter.unusedVariables false
set_option linter.unusedSimpArgs false
section
namespace Go.Proofs.Ytngkneknopenmaa.qb8
def qF6 (K : Nat) : Nat → List (Bool × Nat) → Nat → List (List (Bool × Nat))
 | 0, acc, _ => [acc]
 | m + 1, acc, kn => [false, true].flatMap fun w => (List.range (min (kn + 1) K)).flatMap fun key => qF6 K m (acc ++ [(w, key)]) (max kn (key + 1))
def zf9 (K : Nat) : Nat → List (Bool × Nat) → Prop
 | _, [] => True
 | kn, x :: r => x.2 < min (kn + 1) K ∧ zf9 K (max kn (x.2 + 1)) r
theorem qQ9 (K : Nat) : ∀ (m : Nat) (acc : List (Bool × Nat)) (kn : Nat) (z : List (Bool × Nat)), z ∈ qF6 K m acc kn ↔ ∃ r, z = acc ++ r ∧ r.length = m ∧ zf9 K kn r
 | 0, acc, kn, z => by
  simp only [qF6, List.mem_singleton]
  constructor
  ·rintro rfl; exact ⟨[], by simp, rfl, trivial⟩
  ·rintro ⟨r, rfl, hr, _⟩; rw [List.length_eq_zero_iff.1 hr]; simp
 | m + 1, acc, kn, z => by
  simp only [qF6, List.mem_flatMap, List.mem_range]
  constructor
  ·rintro ⟨w, _, key, hk, hz⟩
   obtain ⟨r, rfl, hr, hg⟩ := (qQ9 K m _ _ z).1 hz
   exact ⟨(w, key) :: r, by simp, by simp [hr], hk, hg⟩
  ·rintro ⟨r, rfl, hr, hg⟩
   match r, hr, hg with
   | (w, key) :: r, hr, hg =>
    refine ⟨w, by cases w <;> simp, key, hg.1, (qQ9 K m _ _ _).2 ⟨r, by simp, by simpa using hr, hg.2⟩⟩
def qv9 (key : Nat) : List (Bool × Nat) → Nat → List Nat
 | [], _ => []
 | x :: r, n => if x.1 = true ∧ x.2 = key then n :: qv9 key r (n + 1) else qv9 key r (n + 1)
theorem qV5 (key : Nat) : ∀ (ks : List (Bool × Nat)) (n v : Nat), v ∈ qv9 key ks n ↔ ∃ j, v = n + j ∧ ks[j]? = some (true, key)
 | [], n, v => by simp [qv9]
 | x :: r, n, v => by
  have ih := qV5 key r (n + 1) v
  have tail : (∃ j, v = n + 1 + j ∧ r[j]? = some (true, key)) ↔ ∃ j, v = n + (j + 1) ∧ (x :: r)[j + 1]? = some (true, key) := by
   constructor
   ·rintro ⟨j, rfl, h⟩; exact ⟨j, by omega, by simpa using h⟩
   ·rintro ⟨j, rfl, h⟩; exact ⟨j, by omega, by simpa using h⟩
  unfold qv9
  split
  ·rename_i hx
   rw [List.mem_cons, ih, tail]
   constructor
   ·rintro (rfl | ⟨j, h⟩)
    ·exact ⟨0, rfl, by obtain ⟨a, b⟩ := x; simp at hx ⊢; exact hx⟩
    ·exact ⟨j + 1, h⟩
   ·rintro ⟨j, e, h⟩
    cases j with
    | zero => exact .inl (by omega)
    | succ j => exact .inr ⟨j, e, h⟩
  ·rename_i hx
   rw [ih, tail]
   constructor
   ·rintro ⟨j, h⟩; exact ⟨j + 1, h⟩
   ·rintro ⟨j, e, h⟩
    cases j with
    | zero => simp at h; subst h; simp at hx
    | succ j => exact ⟨j, e, h⟩
def choices (ks : List (Bool × Nat)) (key : Nat) : List Nat := 0 :: qv9 key ks 1
def qv2 (ks : List (Bool × Nat)) : List (Bool × Nat) → List Nat → List (List Nat)
 | [], acc => [acc]
 | (true, _) :: r, acc => qv2 ks r (acc ++ [acc.length + 1])
 | (false, key) :: r, acc => (choices ks key).flatMap fun v => qv2 ks r (acc ++ [v])
def OkV (ks : List (Bool × Nat)) : Nat → List (Bool × Nat) → List Nat → Prop
 | _, [], [] => True
 | n, (true, _) :: r, v :: vs => v = n + 1 ∧ OkV ks (n + 1) r vs
 | n, (false, key) :: r, v :: vs => v ∈ choices ks key ∧ OkV ks (n + 1) r vs
 | _, _, _ => False
theorem qB7 (ks : List (Bool × Nat)) : ∀ (r : List (Bool × Nat)) (acc z : List Nat), z ∈ qv2 ks r acc ↔ ∃ t, z = acc ++ t ∧ OkV ks acc.length r t
 | [], acc, z => by
  simp only [qv2, List.mem_singleton]
  constructor
  ·rintro rfl; exact ⟨[], by simp, trivial⟩
  ·rintro ⟨t, rfl, h⟩
   cases t with
   | nil => simp
   | cons v t => exact h.elim
 | (true, key) :: r, acc, z => by
  rw [qv2, qB7 ks r, List.length_append, List.length_singleton]
  constructor
  ·rintro ⟨t, rfl, h⟩; exact ⟨(acc.length + 1) :: t, by simp, rfl, h⟩
  ·rintro ⟨t, rfl, h⟩
   cases t with
   | nil => exact h.elim
   | cons v t => obtain ⟨rfl, h⟩ := h; exact ⟨t, by simp, h⟩
 | (false, key) :: r, acc, z => by
  rw [qv2, List.mem_flatMap]
  constructor
  ·rintro ⟨v, hv, h⟩
   rw [qB7 ks r, List.length_append, List.length_singleton] at h
   obtain ⟨t, rfl, h⟩ := h
   exact ⟨v :: t, by simp, hv, h⟩
  ·rintro ⟨t, rfl, h⟩
   cases t with
   | nil => exact h.elim
   | cons v t =>
    obtain ⟨hv, h⟩ := h
    refine ⟨v, hv, ?_⟩
    rw [qB7 ks r, List.length_append, List.length_singleton]
    exact ⟨t, by simp, h⟩
theorem OkV.length {ks : List (Bool × Nat)} : ∀ {n : Nat} {r : List (Bool × Nat)} {t : List Nat}, OkV ks n r t → t.length = r.length
 | _, [], [], _ => rfl
 | _, (true, _) :: r, v :: vs, h => by have := OkV.length h.2; simp [this]
 | _, (false, key) :: r, v :: vs, h => by have := OkV.length h.2; simp [this]
 | _, [], v :: vs, h => h.elim
 | _, (true, _) :: r, [], h => h.elim
 | _, (false, _) :: r, [], h => h.elim
theorem jB4 {ks : List (Bool × Nat)} : ∀ {n : Nat} {r : List (Bool × Nat)} {t : List Nat}, OkV ks n r t ↔ t.length = r.length ∧ ∀ (j : Nat) (x : Bool × Nat) (v : Nat), r[j]? = some x → t[j]? = some v → if x.1 = true then v = n + j + 1 else v ∈ choices ks x.2
 | n, [], t => by
  constructor
  ·intro h; exact ⟨h.length, fun j x v hx => by simp at hx⟩
  ·rintro ⟨h, _⟩; rw [List.length_eq_zero_iff.1 h]; trivial
 | n, x :: r, t => by
  cases t with
  | nil =>
   constructor
   ·intro h; have := h.length; simp at this
   ·rintro ⟨h, _⟩; simp at h
  | cons v t =>
   have ih := jB4 (ks := ks) (n := n + 1) (r := r) (t := t)
   obtain ⟨w, key⟩ := x
   have e : OkV ks n ((w, key) :: r) (v :: t) ↔ (if w = true then v = n + 1 else v ∈ choices ks key) ∧ OkV ks (n + 1) r t := by
    cases w <;> simp [OkV]
   rw [e, ih]
   constructor
   ·rintro ⟨h0, hl, h⟩
    refine ⟨by simp [hl], fun j x v' hx hv => ?_⟩
    cases j with
    | zero => simp at hx hv; subst hx hv; simpa using h0
    | succ j =>
     have := h j x v' (by simpa using hx) (by simpa using hv)
     rw [show n + (j + 1) + 1 = n + 1 + j + 1 by omega]
     exact this
   ·rintro ⟨hl, h⟩
    refine ⟨by simpa using h 0 (w, key) v rfl rfl, by simpa using hl, fun j x v' hx hv => ?_⟩
    have := h (j + 1) x v' (by simpa using hx) (by simpa using hv)
    rw [show n + (j + 1) + 1 = n + 1 + j + 1 by omega] at this
    exact this
def qv3 : Nat → Nat → List Nat → List (List Nat)
 | 0, left, acc => if 0 < left then [] else [acc]
 | m + 1, left, acc => (List.range (left - m)).flatMap fun k => qv3 m (left - (k + 1)) (acc ++ [k + 1])
theorem qL1 : ∀ (m left : Nat) (acc z : List Nat), z ∈ qv3 m left acc ↔ ∃ t, z = acc ++ t ∧ t.length = m ∧ t.sum = left ∧ ∀ c ∈ t, 1 ≤ c
 | 0, left, acc, z => by
  unfold qv3
  split
  ·constructor
   ·intro h; simp at h
   ·rintro ⟨t, rfl, h, hs, _⟩; rw [List.length_eq_zero_iff.1 h] at hs; simp at hs; omega
  ·rw [List.mem_singleton]
   constructor
   ·rintro rfl; exact ⟨[], by simp, rfl, by simp; omega, by simp⟩
   ·rintro ⟨t, rfl, h, _⟩; rw [List.length_eq_zero_iff.1 h]; simp
 | m + 1, left, acc, z => by
  simp only [qv3, List.mem_flatMap, List.mem_range]
  constructor
  ·rintro ⟨k, hk, h⟩
   obtain ⟨t, rfl, hl, hs, hp⟩ := (qL1 m _ _ z).1 h
   exact ⟨(k + 1) :: t, by simp, by simp [hl], by simp [hs]; omega, by simp only [List.mem_cons]; rintro c (rfl | hc); omega; exact hp c hc⟩
  ·rintro ⟨t, rfl, hl, hs, hp⟩
   match t, hl, hs, hp with
   | c :: t, hl, hs, hp =>
    have h1 := hp c (by simp)
    have hlen : t.length ≤ t.sum := by
     have hq : ∀ x ∈ t, 1 ≤ x := fun x hx => hp x (by simp [hx])
     clear hs hl hp
     induction t with
     | nil => simp
     | cons a t ih => have := ih (fun x hx => hq x (by simp [hx])); have := hq a (by simp); simp; omega
    simp at hl hs
    refine ⟨c - 1, by omega, (qL1 m _ _ _).2 ⟨t, by rw [show c - 1 + 1 = c by omega]; simp, hl, by omega, fun x hx => hp x (by simp [hx])⟩⟩
def qe1 (ss : List Nat) : Nat := ss.foldl (fun k s => max k (s + 1)) 0
def qL2 (d : List (Nat × Nat)) (ss : List Nat) (s : Nat) : Option Nat := (ss.zip d).foldl (fun o x => if x.1 = s then some x.2.2 else o) none
def qz5 (d : List (Nat × Nat)) (ss : List Nat) (s : Nat) : Bool :=
 match qL2 d ss s with
 | none => true
 | some e => decide (e ≤ (d.getD ss.length (0, 0)).1)
def qV6 (S : Nat) (d : List (Nat × Nat)) : Nat → List Nat → List (List Nat)
 | 0, ss => [ss]
 | m + 1, ss => ((List.range (min (qe1 ss + 1) S)).filter (qz5 d ss)).flatMap fun s => qV6 S d m (ss ++ [s])
def OkS (S : Nat) (d : List (Nat × Nat)) : List Nat → List Nat → Prop
 | _, [] => True
 | ss, s :: r => s < min (qe1 ss + 1) S ∧ qz5 d ss s = true ∧ OkS S d (ss ++ [s]) r
theorem jd8 (S : Nat) (d : List (Nat × Nat)) : ∀ (m : Nat) (ss z : List Nat), z ∈ qV6 S d m ss ↔ ∃ t, z = ss ++ t ∧ t.length = m ∧ OkS S d ss t
 | 0, ss, z => by
  simp only [qV6, List.mem_singleton]
  constructor
  ·rintro rfl; exact ⟨[], by simp, rfl, trivial⟩
  ·rintro ⟨t, rfl, h, _⟩; rw [List.length_eq_zero_iff.1 h]; simp
 | m + 1, ss, z => by
  simp only [qV6, List.mem_flatMap, List.mem_filter, List.mem_range]
  constructor
  ·rintro ⟨s, ⟨h1, h2⟩, h⟩
   obtain ⟨t, rfl, hl, ho⟩ := (jd8 S d m _ z).1 h
   exact ⟨s :: t, by simp, by simp [hl], h1, h2, ho⟩
  ·rintro ⟨t, rfl, hl, ho⟩
   match t, hl, ho with
   | s :: t, hl, ho => exact ⟨s, ⟨ho.1, ho.2.1⟩, (jd8 S d m _ _).2 ⟨t, by simp, by simpa using hl, ho.2.2⟩⟩
end Go.Proofs.Ytngkneknopenmaa.qb8
end
section
namespace Go.Proofs.Ytngkneknopenmaa.qb8
def bg (z : List (Nat × Nat)) (i : Nat) : Nat := (z.getD i (0, 0)).1
def cm (z : List (Nat × Nat)) (i : Nat) : Nat := (z.getD i (0, 0)).2
def qr9 (n S : Nat) : Nat → Nat → List Nat → List (Nat × Nat) → List (List (Nat × Nat))
 | 0, _, _, d => [d]
 | f + 1, t, op, d =>
  (if d.length < n ∧ op.length < S then qr9 n S f (t + 1) (op ++ [d.length]) (d ++ [(t, 0)]) else []) ++
  op.flatMap fun i => qr9 n S f (t + 1) (op.erase i) (d.set i (bg d i, t))
structure Inv (n t : Nat) (op : List Nat) (d : List (Nat × Nat)) : Prop where
 le : d.length ≤ n
 nd : op.Nodup
 lt : ∀ i ∈ op, i < d.length
 ev : t + op.length = 2 * d.length
structure Ext (n t : Nat) (op : List Nat) (d z : List (Nat × Nat)) : Prop where
 len : z.length = n
 bgs : ∀ i, i < d.length → bg z i = bg d i
 cms : ∀ i, i < d.length → i ∉ op → cm z i = cm d i
 ope : ∀ i ∈ op, t ≤ cm z i
 new : ∀ i, d.length ≤ i → i < n → t ≤ bg z i ∧ bg z i < cm z i
 inc : ∀ i j, d.length ≤ i → i < j → j < n → bg z i < bg z j
 cov : ∀ u, t ≤ u → u < 2 * n → (∃ i, d.length ≤ i ∧ i < n ∧ bg z i = u) ∨ ∃ i, (i ∈ op ∨ d.length ≤ i) ∧ i < n ∧ cm z i = u
 dbc : ∀ i j, d.length ≤ i → i < n → (j ∈ op ∨ d.length ≤ j) → j < n → bg z i ≠ cm z j
 dcc : ∀ i j, (i ∈ op ∨ d.length ≤ i) → i < n → (j ∈ op ∨ d.length ≤ j) → j < n → i ≠ j → cm z i ≠ cm z j
theorem jd9 {d e : List (Nat × Nat)} {i : Nat} (h : i < d.length) : bg (d ++ e) i = bg d i := by
 unfold bg; rw [List.getD_eq_getElem?_getD, List.getD_eq_getElem?_getD, List.getElem?_append_left h]
theorem je0 {d e : List (Nat × Nat)} {i : Nat} (h : i < d.length) : cm (d ++ e) i = cm d i := by
 unfold cm; rw [List.getD_eq_getElem?_getD, List.getD_eq_getElem?_getD, List.getElem?_append_left h]
theorem zr2 {d : List (Nat × Nat)} {x : Nat × Nat} : bg (d ++ [x]) d.length = x.1 := by
 unfold bg; rw [List.getD_eq_getElem?_getD]; simp
theorem jW2 {d : List (Nat × Nat)} {i j : Nat} {x : Nat × Nat} (h : x.1 = bg d i) : bg (d.set i x) j = bg d j := by
 unfold bg at *
 rw [List.getD_eq_getElem?_getD, List.getD_eq_getElem?_getD, List.getElem?_set]
 split
 ·rename_i e
  subst e
  split
  ·rename_i hi
   rw [List.getD_eq_getElem?_getD] at h
   rw [Option.getD_some, h]
  ·rename_i hi
   rw [List.getElem?_eq_none (by omega)]
 ·rfl
theorem je1 {d : List (Nat × Nat)} {i j : Nat} {x : Nat × Nat} (h : i ≠ j) : cm (d.set i x) j = cm d j := by
 unfold cm
 rw [List.getD_eq_getElem?_getD, List.getD_eq_getElem?_getD, List.getElem?_set_ne h]
theorem jx3 {d : List (Nat × Nat)} {i : Nat} {x : Nat × Nat} (h : i < d.length) : cm (d.set i x) i = x.2 := by
 unfold cm
 rw [List.getD_eq_getElem?_getD, List.getElem?_set_self h]
 rfl
theorem Inv.begin {n t : Nat} {op : List Nat} {d : List (Nat × Nat)} (h : Inv n t op d) (hm : d.length < n) : Inv n (t + 1) (op ++ [d.length]) (d ++ [(t, 0)]) where
 le := by simp; omega
 nd := by
  rw [List.nodup_append]
  refine ⟨h.nd, by simp, ?_⟩
  intro a ha b hb e
  subst e
  simp at hb
  have := h.lt a ha
  omega
 lt := by
  intro i hi
  rw [List.mem_append] at hi
  rw [List.length_append, List.length_singleton]
  rcases hi with hi | hi
  ·have := h.lt i hi; omega
  ·simp at hi; omega
 ev := by have := h.ev; simp; omega
theorem zl8 {op : List Nat} {i : Nat} (hi : i ∈ op) : (op.erase i).length + 1 = op.length := by
 have := List.length_erase_of_mem hi
 have := List.length_pos_of_mem hi
 omega
theorem Inv.close {n t : Nat} {op : List Nat} {d : List (Nat × Nat)} (h : Inv n t op d) {i : Nat} (hi : i ∈ op) {x : Nat × Nat} : Inv n (t + 1) (op.erase i) (d.set i x) where
 le := by rw [List.length_set]; exact h.le
 nd := h.nd.erase i
 lt := by intro j hj; rw [List.length_set]; exact h.lt j (List.mem_of_mem_erase hj)
 ev := by have := h.ev; have := zl8 hi; rw [List.length_set]; omega
theorem Ext.zr3 {n t : Nat} {op : List Nat} {d z : List (Nat × Nat)} (hm : d.length < n) (h : Ext n (t + 1) (op ++ [d.length]) (d ++ [(t, 0)]) z) : Ext n t op d z := by
 have hlen : (d ++ [(t, 0)]).length = d.length + 1 := by simp
 have hb : bg z d.length = t := by rw [h.bgs _ (by omega), zr2]
 have hc : t < cm z d.length := by have := h.ope d.length (by simp); omega
 have hmem : ∀ j, j ∈ op ∨ d.length ≤ j → j ∈ op ++ [d.length] ∨ (d ++ [(t, 0)]).length ≤ j := by
  intro j hj
  rcases hj with hj | hj
  ·exact .inl (by simp [hj])
  ·by_cases e : j = d.length
   ·exact .inl (by simp [e])
   ·exact .inr (by omega)
 constructor
 ·exact h.len
 ·intro i hl; rw [h.bgs i (by omega), jd9 hl]
 ·intro i hl ho; rw [h.cms i (by omega) (by simp [ho]; omega), je0 hl]
 ·intro i ho; have := h.ope i (by simp [ho]); omega
 ·intro i hl hn
  by_cases e : i = d.length
  ·subst e; omega
  ·have := h.new i (by omega) hn; omega
 ·intro i j hl hij hn
  by_cases e : i = d.length
  ·subst e; have := (h.new j (by omega) hn).1; omega
  ·exact h.inc i j (by omega) hij hn
 ·intro u h1 h2
  by_cases e : u = t
  ·exact .inl ⟨d.length, Nat.le_refl _, hm, by omega⟩
  ·rcases h.cov u (by omega) h2 with ⟨i, a, b, c⟩ | ⟨i, a, b, c⟩
   ·exact .inl ⟨i, by omega, b, c⟩
   ·refine .inr ⟨i, ?_, b, c⟩
    rcases a with a | a
    ·rw [List.mem_append] at a
     rcases a with a | a
     ·exact .inl a
     ·simp at a; exact .inr (by omega)
    ·exact .inr (by omega)
 ·intro i j hl hn hj hjn
  by_cases e : i = d.length
  ·subst e
   rcases hmem j hj with k | k
   ·have := h.ope j k; omega
   ·have := h.new j k hjn; omega
  ·exact h.dbc i j (by omega) hn (hmem j hj) hjn
 ·intro i j hi2 hn hj hjn hne
  exact h.dcc i j (hmem i hi2) hn (hmem j hj) hjn hne
theorem Ext.zr4 {n t : Nat} {op : List Nat} {d z : List (Nat × Nat)} (hi : Inv n t op d) {i : Nat} (hio : i ∈ op) (h : Ext n (t + 1) (op.erase i) (d.set i (bg d i, t)) z) : Ext n t op d z ∧ cm z i = t := by
 have hlen : (d.set i (bg d i, t)).length = d.length := List.length_set ..
 have hil := hi.lt i hio
 have hin : i < n := Nat.lt_of_lt_of_le hil hi.le
 have hnot : i ∉ op.erase i := by rw [hi.nd.mem_erase_iff]; simp
 have hc : cm z i = t := by rw [h.cms i (by omega) hnot, jx3 hil]
 have hmem : ∀ j, j ≠ i → (j ∈ op ∨ d.length ≤ j) → j ∈ op.erase i ∨ (d.set i (bg d i, t)).length ≤ j := by
  intro j hne hj
  rcases hj with hj | hj
  ·exact .inl (hi.nd.mem_erase_iff.2 ⟨hne, hj⟩)
  ·exact .inr (by omega)
 have big : ∀ j, j ≠ i → (j ∈ op ∨ d.length ≤ j) → j < n → t + 1 ≤ cm z j := by
  intro j hne hj hjn
  rcases hmem j hne hj with k | k
  ·exact h.ope j k
  ·have := h.new j k hjn; omega
 refine ⟨?_, hc⟩
 constructor
 ·exact h.len
 ·intro j hl; rw [h.bgs j (by omega), jW2 (x := (bg d i, t)) rfl]
 ·intro j hl ho
  have hne : i ≠ j := fun e => ho (e ▸ hio)
  rw [h.cms j (by omega) (fun k => ho (List.mem_of_mem_erase k)), je1 hne]
 ·intro j ho
  by_cases e : j = i
  ·subst e; omega
  ·have := h.ope j (hi.nd.mem_erase_iff.2 ⟨e, ho⟩); omega
 ·intro j hl hn; have := h.new j (by omega) hn; omega
 ·intro j k hl hjk hn; exact h.inc j k (by omega) hjk hn
 ·intro u h1 h2
  by_cases e : u = t
  ·exact .inr ⟨i, .inl hio, hin, by omega⟩
  ·rcases h.cov u (by omega) h2 with ⟨j, a, b, c⟩ | ⟨j, a, b, c⟩
   ·exact .inl ⟨j, by omega, b, c⟩
   ·refine .inr ⟨j, ?_, b, c⟩
    rcases a with a | a
    ·exact .inl (List.mem_of_mem_erase a)
    ·exact .inr (by omega)
 ·intro j k hl hn hk hkn
  by_cases e : k = i
  ·subst e; have := h.new j (by omega) hn; omega
  ·exact h.dbc j k (by omega) hn (hmem k e hk) hkn
 ·intro j k hj hn hk hkn hne
  by_cases e : j = i
  ·subst e
   have := big k (fun e => hne e.symm) hk hkn
   omega
  ·by_cases e2 : k = i
   ·subst e2
    have := big j e hj hn
    omega
   ·exact h.dcc j k (hmem j e hj) hn (hmem k e2 hk) hkn hne
theorem qE2 (n S : Nat) : ∀ (f t : Nat) (op : List Nat) (d z : List (Nat × Nat)), f + t = 2 * n → Inv n t op d → z ∈ qr9 n S f t op d → Ext n t op d z
 | 0, t, op, d, z, ht, hi, hz => by
  rw [qr9, List.mem_singleton] at hz
  subst hz
  have h1 := hi.le
  have h2 := hi.ev
  have hd : z.length = n := by omega
  have ho : op = [] := List.length_eq_zero_iff.1 (by omega)
  subst ho
  constructor
  ·exact hd
  ·intro i _; rfl
  ·intro i _ _; rfl
  ·intro i h; simp at h
  ·intro i a b; omega
  ·intro i j a b c; omega
  ·intro u a b; omega
  ·intro i j a b; omega
  ·intro i j a b; rcases a with a | a; simp at a; omega
 | f + 1, t, op, d, z, ht, hi, hz => by
  rw [qr9, List.mem_append] at hz
  rcases hz with hz | hz
  ·split at hz
   ·rename_i hc
    exact Ext.zr3 hc.1 (qE2 n S f _ _ _ z (by omega) (hi.begin hc.1) hz)
   ·simp at hz
  ·obtain ⟨i, ho, hz⟩ := List.mem_flatMap.1 hz
   exact (Ext.zr4 hi ho (qE2 n S f _ _ _ z (by omega) (hi.close ho) hz)).1
theorem jx4 (n : Nat) : Inv n 0 [] [] := ⟨by simp, by simp, by simp, by simp⟩
end Go.Proofs.Ytngkneknopenmaa.qb8
end
