/- qr1 of this claim, joined by a program of this session: the zR that its theorem uses. -/
import Derived.Test.YtngkneknopenmaaZO17
import Derived.Test.YtngkneknopenmaaZO18
import Derived.Test.YtngkneknopenmaaZO19
set_option linter.unusedVariables false
set_option linter.unusedSimpArgs false
section
namespace Go.Proofs.Ytngkneknopenmaa.qc7
open Go.Proofs.Ytngkneknopenmaa.zQ Go.Proofs.Ytngkneknopenmaa.qb0 Go.Proofs.Ytngkneknopenmaa.qf6
def qw5 (b : Nat) : Nat → List (List Int)
 | 0 => [[]]
 | m + 1 => (qw5 b m).flatMap fun r => (List.range b).map fun n : Nat => r ++ [(n : Int)]
def opN (k n : Int) : O3 := ⟨n.tmod 2 == 1, (n.tdiv 2).tmod k, (n.tdiv 2).tdiv k⟩
def jv4 (many k v : Nat) : List (List O3) := (qw5 (2 * k * (v + 1)) many).map fun r => r.map (opN k)
def ji3 (ops : List O3) : List T4 := [⟨0, 0, 1, ops⟩]
def jv5 (n k : Nat) : List (List T4) := if k = 0 then [] else ((jv4 n k n).map ji3).filter isR
def jG2 (l want : List (List T4)) (raw : Bool) : Bool := decide (l.length = want.length) && (l.all fun h => decide (h ∈ want)) && decide l.Nodup && (l.all fun x => decide (x.length ≤ 1000) && x.all fun t => decide (t.ops.length ≤ 100000)) && decide (l.length ≤ 10000) && raw
def zL5 (S T O K n m : Int) : Bool := qE8 S T O K n m || (ji0 S K n m).all fun h => decide (zS h = 0)
theorem jG3 {l want : List (List T4)} {S T O K n m : Int} (h : jG2 l want (zL5 S T O K n m) = true) : l.length = want.length ∧ (∀ h ∈ l, h ∈ want) ∧ l.Nodup ∧ (∀ x ∈ l, x.length ≤ 1000 ∧ ∀ t ∈ x, t.ops.length ≤ 100000) ∧ l.length ≤ 10000 ∧ (qE8 S T O K n m = false → ∀ h ∈ ji0 S K n m, zS h = 0) := by
 unfold jG2 zL5 at h
 simp only [Bool.and_eq_true, decide_eq_true_eq, List.all_eq_true, Bool.or_eq_true] at h
 obtain ⟨⟨⟨⟨⟨h1, h2⟩, h3⟩, h4⟩, h5⟩, h6⟩ := h
 refine ⟨h1, h2, h3, h4, h5, fun hn => ?_⟩
 rcases h6 with h6 | h6
 ·rw [hn] at h6; cases h6
 ·exact h6
end Go.Proofs.Ytngkneknopenmaa.qc7
end
section
namespace Go.Proofs.Ytngkneknopenmaa.qc7
open Go.Proofs.Ytngkneknopenmaa.zQ Go.Proofs.Ytngkneknopenmaa.qb0 Go.Proofs.Ytngkneknopenmaa.qf6
def qO5 (n k s : Int) : List (List T4) := if 1 ≤ n ∧ 1 ≤ s then jv5 n.toNat k.toNat else []
theorem zL6 : ∀ a b c : Fin 5, jG2 (qy1 ((c.val : Int) - 2) 1 2 ((b.val : Int) - 2) 1 ((a.val : Int) - 2)) (qO5 ((a.val : Int) - 2) ((b.val : Int) - 2) ((c.val : Int) - 2)) (zL5 ((c.val : Int) - 2) 1 2 ((b.val : Int) - 2) 1 ((a.val : Int) - 2)) = true := by decide +kernel
theorem zz3 {n k s : Int} (h1 : -2 ≤ n) (h2 : n ≤ 2) (h3 : -2 ≤ k) (h4 : k ≤ 2) (h5 : -2 ≤ s) (h6 : s ≤ 2) : jG2 (qy1 s 1 2 k 1 n) (qO5 n k s) (zL5 s 1 2 k 1 n) = true := by
 have := zL6 ⟨(n + 2).toNat, by omega⟩ ⟨(k + 2).toNat, by omega⟩ ⟨(s + 2).toNat, by omega⟩
 simp only at this
 rw [show ((n + 2).toNat : Int) - 2 = n by omega, show ((k + 2).toNat : Int) - 2 = k by omega, show ((s + 2).toNat : Int) - 2 = s by omega] at this
 exact this
end Go.Proofs.Ytngkneknopenmaa.qc7
end
section
namespace Go.Proofs.Ytngkneknopenmaa.Ref23
open Go Go.Lib Go.RowKit Go.Proofs.Ytngkneknopenmaa Go.Proofs.Ytngkneknopenmaa.zQ Go.Proofs.Ytngkneknopenmaa.qb0 Go.Proofs.Ytngkneknopenmaa.qf6
variable {W W' W'' : World} {e e' : TypeId} {base n size : Nat} {v x : Value} {xs : List Value} {α : Type}
def KT (e : TypeId) (W W' : World) : Prop := W.heap.size ≤ W'.heap.size ∧ ∀ (b : Nat) (cs : Array Value) (ty : TypeId) (p : Nat × Nat), W.heap[b]? = some (Obj.cells cs ty p) → ty ≠ e → W'.heap[b]? = some (Obj.cells cs ty p)
theorem KT.of_below (h : Below W.heap.size W W') : KT e W W' := ⟨h.size, fun b _ _ _ hb _ => (h.block b (Array.getElem?_eq_some_iff.1 hb).1).trans hb⟩
theorem KT.trans (h : KT e W W') (k : KT e W' W'') : KT e W W'' := ⟨Nat.le_trans h.1 k.1, fun b cs ty p hb hn => k.2 b cs ty p (h.2 b cs ty p hb hn) hn⟩
theorem KT.own (ho : W.ownsRow base e size x n xs) (hg : W.grownBy W' x.ownBlock) : KT e W W' :=
 ⟨hg.size, fun b _ _ _ hb hn => (hg.block b (Array.getElem?_eq_some_iff.1 hb).1 (own_ne ho hb (fun h => hn h.symm)).symm).trans hb⟩
theorem jj8 (h : W.ownsRow base e' size v n xs) (k : KT e W W') (hne : e' ≠ e) : W'.ownsRow base e' size v n xs := by
 refine qi9 h fun q hq => ?_
 rcases h.2 with ⟨rfl, _⟩ | ⟨g, cp, cur, rfl, _, hh, _⟩
 ·simp [Value.ownBlock] at hq
 ·simp [Value.ownBlock] at hq
  subst hq
  rw [hh]
  exact k.2 g cur e' (0, 0) hh hne
theorem jf4 (h : W.ownsRow base e size v n xs) : W.ownsRow 0 e size v n xs :=
 ⟨h.1, by rcases h.2 with h | ⟨g, cp, cur, h1, _, h2, h3⟩; exact .inl h; exact .inr ⟨g, cp, cur, h1, Nat.zero_le _, h2, h3⟩⟩
def LV (e : TypeId) (Rd : World → Value → α → Prop) (base : Nat) (x : Value) (L : List α) (W : World) : Prop :=
 ∃ vals : List Value, vals.length = L.length ∧ W.ownsRow base e 1 x L.length vals ∧ ∀ (i : Nat) (v : Value) (a : α), vals[i]? = some v → L[i]? = some a → Rd W v a
def qQ0 (e : TypeId) (Rd : World → Value → α → Prop) : Prop := ∀ W W' v a, KT e W W' → Rd W v a → Rd W' v a
variable {Rd : World → Value → α → Prop} {L : List α}
theorem LV.grown {row : Option Nat} (hR : qQ0 e Rd) (h : LV e Rd base x L W) (hg : W.grownBy W' row) (hk : KT e W W') (hne : x.ownBlock = none ∨ x.ownBlock ≠ row) : LV e Rd base x L W' := by
 obtain ⟨vals, h1, h2, h3⟩ := h
 exact ⟨vals, h1, h2.kept hg hne, fun i v a hv ha => hR _ _ _ _ hk (h3 i v a hv ha)⟩
theorem LV.below (hR : qQ0 e Rd) (h : LV e Rd base x L W) (hb : Below W.heap.size W W') : LV e Rd base x L W' := by
 obtain ⟨vals, h1, h2, h3⟩ := h
 exact ⟨vals, h1, qi9 h2 fun q hq => hb.block q (h2.lt q hq).2, fun i v a hv ha => hR _ _ _ _ (KT.of_below hb) (h3 i v a hv ha)⟩
theorem LV.kt (hR : qQ0 e' Rd) (h : LV e Rd base x L W) (hk : KT e' W W') (hne : e ≠ e') : LV e Rd base x L W' := by
 obtain ⟨vals, h1, h2, h3⟩ := h
 exact ⟨vals, h1, jj8 h2 hk hne, fun i v a hv ha => hR _ _ _ _ hk (h3 i v a hv ha)⟩
theorem LV.slice (h : LV e Rd base x L W) : ∃ A c, x = .slice A L.length c ∧ L.length ≤ c := by
 obtain ⟨vals, h1, h2, h3⟩ := h
 rcases h2.2 with ⟨rfl, h0⟩ | ⟨g, cp, cur, rfl, _, _, h4, _⟩
 ·exact ⟨none, 0, by rw [h0], by omega⟩
 ·exact ⟨_, cp, rfl, h4⟩
theorem LV.lt (h : LV e Rd base x L W) : ∀ k, x.ownBlock = some k → base ≤ k ∧ k < W.heap.size := by
 obtain ⟨vals, h1, h2, h3⟩ := h
 exact h2.lt
theorem LV.at {A : Option Addr} {c i : Nat} {a : α} (h : LV e Rd base (.slice A n c) L W) (ha : L[i]? = some a) : ∃ ad v, A = some ad ∧ W.cell? (ad.add i) = some v ∧ Rd W v a := by
 obtain ⟨vals, h1, h2, h3⟩ := h
 have hi := (List.getElem?_eq_some_iff.1 ha).1
 obtain ⟨v, hv⟩ : ∃ v, vals[i]? = some v := ⟨_, List.getElem?_eq_getElem (by omega)⟩
 rcases h2.2 with ⟨_, h0⟩ | ⟨g, cp, cur, e1, _, _, _⟩
 ·omega
 ·injection e1 with e1 e2 e3
  subst e1
  exact ⟨_, v, rfl, h2.cells (g := g) rfl i v hv, h3 i v a hv ha⟩
theorem za8 (h : W.ownsRow base e size v n xs) (hb : Below W.heap.size W W') : W'.ownsRow base e size v n xs := qi9 h fun q hq => hb.block q (h.lt q hq).2
theorem LV.lower {base' : Nat} (h : LV e Rd base x L W) (hb : base' ≤ base) : LV e Rd base' x L W := by
 obtain ⟨vals, h1, h2, h3⟩ := h
 exact ⟨vals, h1, ⟨h2.1, by rcases h2.2 with h | ⟨g, cp, cur, e1, e2, e3⟩; exact .inl h; exact .inr ⟨g, cp, cur, e1, Nat.le_trans hb e2, e3⟩⟩, h3⟩
def SlI (e T : TypeId) : Prop := Try.prog.underlying T = some (.slice e) ∧ (Try.prog.info? e).map (fun i => (i.zero, i.size, i.bytes)) = some (some (.slice none 0 0), 1, 24)
theorem LV.append {T : TypeId} (hI : SlI e T) (hR : qQ0 e Rd) (s : LV e Rd base x L W) {z : Nat} {a : α} (hz : W.heap[z]? = some (.cells #[v] e (0, 0))) (hv : v.oneCell' = true) (hd : Rd W v a) (hb : base ≤ W.heap.size) (hl : L.length ≤ 1000000) :
  ∃ A c W', (Builtin.append_ #[T, T] T #[x, .slice (some ⟨z, 0, none⟩) 1 1]).run Try.prog W = .ok (.slice A (L.length + 1) c) W' ∧ LV e Rd base (.slice A (L.length + 1) c) (L ++ [a]) W' ∧ KT e W W' ∧ W.grownBy W' x.ownBlock := by
 obtain ⟨vals, h1, h2, h3⟩ := s
 obtain ⟨i0, hii, hz0, hz1, hz2⟩ := info_parts hI.2
 obtain ⟨x', W', hr, hown, hg, _, _⟩ := run_append_own_at (P := Try.prog) W base T T e i0 (.slice none 0 0) 1 24 hI.1 hii hz0 hz1 hz2 rfl (by decide) x L.length _ h2 ⟨z, 0, none⟩ 1 1 [v] rfl (fun j u hj => by
   rw [add_zero, Lib.cell_of_heap hz]
   simpa using hj) (fun u hu => by simp at hu; rw [hu]; exact hv) (by unfold maxLen; omega) (by omega) hb
 obtain ⟨A, c, rfl⟩ : ∃ A c, x' = .slice A (L.length + 1) c := by
  rcases hown.2 with ⟨_, h0⟩ | ⟨g, cp, cur, e1, _⟩
  ·simp at h0
  ·exact ⟨_, cp, e1⟩
 have hk := KT.own h2 hg
 refine ⟨A, c, W', hr, ⟨vals ++ [v], by simp [h1], by rw [List.length_append]; exact hown, fun i u b hu hb' => ?_⟩, hk, hg⟩
 by_cases hi : i < L.length
 ·rw [List.getElem?_append_left (by omega)] at hu
  rw [List.getElem?_append_left hi] at hb'
  exact hR _ _ _ _ hk (h3 i u b hu hb')
 ·have hi2 : i = L.length := by
   have := (List.getElem?_eq_some_iff.1 hb').1
   simp at this
   omega
  subst hi2
  rw [List.getElem?_append_right (by omega), h1, Nat.sub_self] at hu
  rw [List.getElem?_append_right (Nat.le_refl _), Nat.sub_self] at hb'
  cases hu
  cases hb'
  exact hR _ _ _ _ hk hd
theorem LV.made (hb : base ≤ W.heap.size) : LV e Rd base (.slice (some ⟨W.heap.size, 0, none⟩) 0 0) ([] : List α) (W.alloc (.cells #[] e)) :=
 ⟨[], rfl, World.ownsRow_made W #[] 0 hb (by unfold maxLen; omega) rfl, fun i v a h => by simp at h⟩
def RdI (W : World) (v : Value) (l : List Int) : Prop := (∃ g c, v = .slice (some ⟨g, 0, none⟩) l.length c) ∧ W.ownsRow 0 3 1 v l.length (jn8 l)
def RdO (W : World) (v : Value) (l : List O3) : Prop := (∃ g c, v = .slice (some ⟨g, 0, none⟩) l.length c) ∧ W.ownsRow 0 51 3 v l.length (flat l)
theorem jy1 (h : (3 : TypeId) ≠ e) : qQ0 e RdI := fun _ _ _ _ k h2 => ⟨h2.1, jj8 h2.2 k h⟩
theorem jf5 (h : (51 : TypeId) ≠ e) : qQ0 e RdO := fun _ _ _ _ k h2 => ⟨h2.1, jj8 h2.2 k h⟩
theorem RdI.below {l : List Int} (h : RdI W v l) (hb : Below W.heap.size W W') : RdI W' v l := ⟨h.1, qi9 h.2 fun q hq => hb.block q (h.2.lt q hq).2⟩
theorem RdO.below {l : List O3} (h : RdO W v l) (hb : Below W.heap.size W W') : RdO W' v l := ⟨h.1, qi9 h.2 fun q hq => hb.block q (h.2.lt q hq).2⟩
theorem zn6 : (Try.prog.info? 3).map (fun i => (i.zero, i.size, i.bytes)) = some (some (.int .i64 0), 1, 8) := by kernel_rfl
theorem zz4 (l : List Int) : ∀ u ∈ jn8 l, u.oneCell' = true := by
 intro u hu
 obtain ⟨y, _, rfl⟩ := List.mem_map.1 hu
 rfl
theorem zz5 {l : List Int} (h : RdI W v l) (hl : l.length ≤ 1000) (m : Int) {p : Nat} (hp : W.heap.size = p) :
  ∃ g c, v = .slice (some ⟨g, 0, none⟩) l.length c ∧ (W.alloc (.cells #[] 3)).heap.size = p + 1 ∧ ∃ g1 c1 W1, (Builtin.append_ #[29, 29] 29 #[.slice (some ⟨p, 0, none⟩) 0 0, v]).run Try.prog (W.alloc (.cells #[] 3)) = .ok (.slice (some ⟨g1, 0, none⟩) l.length c1) W1 ∧
   ∃ v2 W2, (Builtin.append_ #[29, 29] 29 #[.slice (some ⟨g1, 0, none⟩) l.length c1, .slice (some ⟨W1.heap.size, 0, none⟩) 1 1]).run Try.prog (W1.alloc (.cells #[.int .i64 m] 3)) = .ok v2 W2 ∧ RdI W2 v2 (l ++ [m]) ∧ Below W.heap.size W W2 := by
 subst hp
 obtain ⟨i0, hii, hz0, hz1, hz2⟩ := info_parts zn6
 obtain ⟨⟨g, c, rfl⟩, ho⟩ := h
 refine ⟨g, c, rfl, by simp, ?_⟩
 have hb0 := (Below.refl W.heap.size W).alloc (Nat.le_refl _) (.cells #[] 3)
 have h0 : (W.alloc (.cells #[] 3)).ownsRow W.heap.size 3 1 (.slice (some ⟨W.heap.size, 0, none⟩) 0 0) 0 [] := World.ownsRow_made W #[] 0 (Nat.le_refl _) (by unfold maxLen; omega) rfl
 obtain ⟨v1, W1, hr1, hown1, hg1, hn1, Qb0⟩ := run_append_own_at (P := Try.prog) (W.alloc (.cells #[] 3)) W.heap.size 29 29 3 i0 (.int .i64 0) 1 8 Try.underlying29 hii hz0 hz1 hz2 rfl (by decide) _ 0 _ h0 ⟨g, 0, none⟩ l.length c (jn8 l) (by rw [ho.1]) (fun j u hj => (ho.alloc _).cells (g := g) rfl j u hj) (zz4 l) (by unfold maxLen; omega) (by omega) (by simp)
 obtain ⟨g1, c1, rfl⟩ : ∃ g1 c1, v1 = .slice (some ⟨g1, 0, none⟩) l.length c1 := by
  rcases hown1.2 with ⟨e1, _⟩ | ⟨g, cp, cur, e1, _⟩
  ·have := (hn1.1 e1).1
   cases this
  ·exact ⟨g, cp, by rw [e1, Nat.zero_add]⟩
 refine ⟨g1, c1, W1, hr1, ?_⟩
 rw [Nat.zero_add] at hown1
 have hb1 : Below W.heap.size W W1 := hb0.grown hg1 hb0.size (fun k hk => (h0.lt k hk).1)
 have hc := alloc_at W1 (.cells #[.int .i64 m] 3)
 obtain ⟨v2, W2, hr2, hown2, hg2, hn2, Qa3⟩ := run_append_own_at (P := Try.prog) (W1.alloc (.cells #[.int .i64 m] 3)) W.heap.size 29 29 3 i0 (.int .i64 0) 1 8 Try.underlying29 hii hz0 hz1 hz2 rfl (by decide) _ l.length _ (hown1.alloc _) ⟨W1.heap.size, 0, none⟩ 1 1 [.int .i64 m] rfl (fun j u hj => by
   rw [add_zero, Lib.cell_of_heap hc]
   simpa using hj) (by simp [Value.oneCell']) (by unfold maxLen; omega) (by omega) (by have := hb1.size; simp; omega)
 refine ⟨v2, W2, hr2, ⟨?_, ?_⟩, ?_⟩
 ·rcases hown2.2 with ⟨e1, _⟩ | ⟨g, cp, cur, e1, _⟩
  ·have := (hn2.1 e1).1
   cases this
  ·exact ⟨g, cp, by rw [e1, List.length_append]; rfl⟩
 ·have := jf4 hown2
  rw [List.nil_append] at this
  rw [List.length_append, jn8, List.map_append]
  exact this
 ·exact (hb1.alloc hb1.size _).grown hg2 (by have := hb1.size; simp; omega) (fun k hk => (hown1.lt k hk).1)
end Go.Proofs.Ytngkneknopenmaa.Ref23
end
section
namespace Go.Proofs.Ytngkneknopenmaa.Ref23
open Go Go.Lib Go.RowKit Go.Proofs.Ytngkneknopenmaa Go.Proofs.Ytngkneknopenmaa.zQ Go.Proofs.Ytngkneknopenmaa.qb0 Go.Proofs.Ytngkneknopenmaa.qf6 Go.Proofs.Ytngkneknopenmaa.qc7
theorem qz0 (b : Nat) : ∀ m, (qw5 b m).length = b ^ m
 | 0 => rfl
 | m + 1 => by
  have : ∀ l : List (List Int), (l.flatMap fun r => (List.range b).map fun n : Nat => r ++ [(n : Int)]).length = l.length * b := by
   intro l
   induction l with
   | nil => simp
   | cons r l ih => rw [List.flatMap_cons, List.length_append, ih, List.length_map, List.length_range, List.length_cons, Nat.add_mul]; omega
  rw [qw5, this, qz0 b m, Nat.pow_succ]
theorem qO6 (b : Nat) : ∀ m, ∀ r ∈ qw5 b m, r.length = m
 | 0, r, h => by simp [qw5] at h; rw [h]; rfl
 | m + 1, r, h => by
  rw [qw5, List.mem_flatMap] at h
  obtain ⟨q, hq, hr⟩ := h
  obtain ⟨n, _, rfl⟩ := List.mem_map.1 hr
  rw [List.length_append, qO6 b m q hq]
  rfl
theorem jy2 (b : Nat) : ∀ m, ∀ r ∈ qw5 b m, ∀ n ∈ r, 0 ≤ n ∧ n < (b : Int)
 | 0, r, h, n, hn => by simp [qw5] at h; rw [h] at hn; cases hn
 | m + 1, r, h, n, hn => by
  rw [qw5, List.mem_flatMap] at h
  obtain ⟨q, hq, hr⟩ := h
  obtain ⟨x, hx, rfl⟩ := List.mem_map.1 hr
  rcases List.mem_append.1 hn with h1 | h1
  ·exact jy2 b m q hq n h1
  ·simp at h1
   rw [h1]
   have := List.mem_range.1 hx
   omega
def qB0 (b : Nat) (l : List (List Int)) (k j : Nat) : List (List Int) := ((l.take k).flatMap fun r => (List.range b).map fun n : Nat => r ++ [(n : Int)]) ++ match l[k]? with | some r => (List.range j).map fun n : Nat => r ++ [(n : Int)] | none => []
theorem qT0 (b : Nat) (l : List (List Int)) (k : Nat) : qB0 b l k 0 = (l.take k).flatMap fun r => (List.range b).map fun n : Nat => r ++ [(n : Int)] := by
 unfold qB0
 cases l[k]? <;> simp
theorem za9 {b : Nat} {l : List (List Int)} {k j : Nat} {r : List Int} (h : l[k]? = some r) : qB0 b l k (j + 1) = qB0 b l k j ++ [r ++ [(j : Int)]] := by
 unfold qB0
 rw [h, List.append_assoc]
 simp [List.range_succ]
theorem zn7 {b : Nat} {l : List (List Int)} {k : Nat} {r : List Int} (h : l[k]? = some r) : qB0 b l k b = qB0 b l (k + 1) 0 := by
 rw [qT0]
 unfold qB0
 rw [h, List.take_add_one, h]
 simp [List.flatMap_append]
theorem jG4 (b : Nat) (l : List (List Int)) (k j : Nat) (hk : k < l.length) (hj : j ≤ b) : (qB0 b l k j).length ≤ l.length * b := by
 have h1 : ∀ l : List (List Int), (l.flatMap fun r => (List.range b).map fun n : Nat => r ++ [(n : Int)]).length = l.length * b := by
  intro l
  induction l with
  | nil => simp
  | cons r l ih => rw [List.flatMap_cons, List.length_append, ih, List.length_map, List.length_range, List.length_cons, Nat.add_mul]; omega
 unfold qB0
 rw [List.getElem?_eq_getElem hk, List.length_append, h1, List.length_take]
 simp only [List.length_map, List.length_range]
 have : (k + 1) * b ≤ l.length * b := Nat.mul_le_mul_right _ hk
 rw [Nat.add_mul] at this
 have e : min k l.length = k := by omega
 rw [e]
 omega
theorem Qb1 : SlI 29 95 := ⟨Try.underlying95, by kernel_rfl⟩
theorem qM7 : qQ0 29 RdI := jy1 (by decide)
set_option maxHeartbeats 8000000 in
set_option maxRecDepth 100000 in
theorem zb0 {m b : Nat} (hm : m ≤ 100) (hB : ∀ i, i ≤ m → b ^ i ≤ 1000000) (hbm : b ≤ 1000000) (w : World) :
  Calls Try.prog 68 #[.int .i64 (m : Int), .int .i64 (b : Int)] w fun e w' => ∃ x, e = .returned x ∧ LV 29 RdI w.heap.size x (qw5 b m) w' ∧ Below w.heap.size w w' := by
 have HBB := Lib.hid hB
 clear hB
 go_enter Try.func68, Try.ntmps68
 go_upto_region 2 with fail
 have hb0 : Below w.heap.size w (w.alloc (.cells #[] 3)) := (Below.refl _ _).alloc (Nat.le_refl _) _
 have hv0 : RdI (w.alloc (.cells #[] 3)) (.slice (some ⟨w.heap.size, 0, none⟩) 0 0) [] := ⟨⟨_, _, rfl⟩, jf4 (World.ownsRow_made w #[] 0 (Nat.le_refl _) (by unfold maxLen; omega) rfl)⟩
 have hsz0 : (w.alloc (.cells #[] 3)).heap.size = w.heap.size + 1 := by simp
 obtain ⟨W0, hW0⟩ : ∃ W, w.alloc (.cells #[] 3) = W := ⟨_, rfl⟩
 rw [hW0] at hb0 hv0 hsz0 ⊢
 have hb1 := hb0.alloc hb0.size (.cells #[.slice (some ⟨w.heap.size, 0, none⟩) 0 0] 29)
 have hk1 : Below W0.heap.size W0 (W0.alloc (.cells #[.slice (some ⟨w.heap.size, 0, none⟩) 0 0] 29)) := (Below.refl _ _).alloc (Nat.le_refl _) _
 have hc1 := alloc_at W0 (.cells #[.slice (some ⟨w.heap.size, 0, none⟩) 0 0] 29)
 rw [hsz0] at hc1
 have hlv : LV 29 RdI w.heap.size (.slice (some ⟨w.heap.size + 1, 0, none⟩) 1 1) (qw5 b 0) (W0.alloc (.cells #[.slice (some ⟨w.heap.size, 0, none⟩) 0 0] 29)) :=
  ⟨[.slice (some ⟨w.heap.size, 0, none⟩) 0 0], rfl, ⟨rfl, .inr ⟨_, 1, _, rfl, by omega, hc1, by simp [qw5], by unfold maxLen; omega, rfl, rfl⟩⟩, fun i v a hv ha => by
   match i, hv with
   | 0, hv => cases hv; cases ha; exact hv0.below hk1
   | i + 1, hv => simp at hv⟩
 have HB1 := Lib.hid hb1
 have HLV := Lib.hid hlv
 clear hb0 hv0 hsz0 hW0 hb1 hk1 hc1 hlv
 go_wp2_with fail
 go_loopw [5, 6] (fun x v wr => ∃ i : Nat, i ≤ m ∧ v = .int .i64 ((i : Nat) : Int) ∧ LV 29 RdI w.heap.size x (qw5 b i) wr ∧ Below w.heap.size w wr) (fun _ v _ => m - (intOf v).toNat)
 case atStart => exact ⟨0, Nat.zero_le _, rfl, HLV.out, HB1.out⟩
 case round =>
  clear HB1 HLV
  obtain ⟨i, hi, rfl, hlv, hb⟩ := hrel
  have HB := Lib.hid hb
  have HBW := Lib.hid hb.size
  obtain ⟨A, c, rfl, _⟩ := hlv.slice
  by_cases hlt : i < m
  ·have hltz : (i : Int) < (m : Int) := by omega
   have hll := qz0 b i
   have zL7 := HBB.out i (by omega)
   have zz6 := HBB.out (i + 1) hlt
   obtain ⟨L, hL⟩ : ∃ L, qw5 b i = L := ⟨_, rfl⟩
   have hrl := qO6 b i
   have hsucc : qw5 b (i + 1) = qB0 b L L.length 0 := by rw [qT0, List.take_of_length_le (Nat.le_refl _), ← hL]; rfl
   rw [hL] at hlv hll hrl ⊢
   obtain ⟨nl, hnl⟩ : ∃ nl, L.length = nl := ⟨_, rfl⟩
   have hnlb : nl * b ≤ 1000000 := by rw [← hnl, hll]; rw [Nat.pow_succ] at zz6; exact zz6
   have hnl6 : nl ≤ 1000000 := by omega
   rw [hnl] at hlv hsucc ⊢
   have HX := Lib.hid hlv.lt
   have HSU := Lib.hid hsucc
   have HNL := Lib.hid hnl
   have HRL := Lib.hid hrl
   have hbA := (Below.refl wr.heap.size wr).alloc (Nat.le_refl _) (.cells #[] 29)
   have hlv1 := hlv.below qM7 hbA
   have hxn : LV 29 RdI wr.heap.size (.slice (some ⟨wr.heap.size, 0, none⟩) 0 0) (qB0 b L 0 0) (wr.alloc (.cells #[] 29)) := by rw [qT0]; exact LV.made (Nat.le_refl _)
   have HB2 := Lib.hid (HB.out.trans (hbA.mono HB.out.size))
   have HLV := Lib.hid hlv1
   have HXN := Lib.hid hxn
   clear hlv hll zL7 zz6 hL hrl hsucc hnl hbA hlv1 hxn hb
   go_wp2_with fail
   go_loopw [7, 8] (fun xn v ws => ∃ k : Nat, k ≤ nl ∧ v = .int .i64 ((k : Nat) : Int) ∧ LV 29 RdI wr.heap.size xn (qB0 b L k 0) ws ∧ LV 29 RdI w.heap.size (.slice A nl c) L ws ∧ wr.heap.size ≤ ws.heap.size ∧ Below w.heap.size w ws) (fun _ v _ => nl - (intOf v).toNat)
   case atStart => exact ⟨0, Nat.zero_le _, rfl, HXN.out, HLV.out, by simp, HB2.out⟩
   case round =>
    clear HB2 HLV HXN
    rename World => ws
    obtain ⟨k, hk, rfl, hxn, hlv, hsw, hb⟩ := hrel
    have HB := Lib.hid hb
    have HLV := Lib.hid hlv
    have HXN := Lib.hid hxn
    by_cases hkt : k < nl
    ·have hkz : (k : Int) < (nl : Int) := by omega
     obtain ⟨r, hr⟩ : ∃ r, L[k]? = some r := ⟨_, List.getElem?_eq_getElem (by rw [HNL.out]; exact hkt)⟩
     have hrn := HRL.out r (List.mem_of_getElem? hr)
     have HR := Lib.hid hr
     clear hlv hxn hb hr
     go_wp2_with fail
     go_loopw [7, 9] (fun xn v wt => ∃ j : Nat, j ≤ b ∧ v = .int .i64 ((j : Nat) : Int) ∧ LV 29 RdI wr.heap.size xn (qB0 b L k j) wt ∧ LV 29 RdI w.heap.size (.slice A nl c) L wt ∧ wr.heap.size ≤ wt.heap.size ∧ Below w.heap.size w wt) (fun _ v _ => b - (intOf v).toNat)
     case atStart => exact ⟨0, Nat.zero_le _, rfl, HXN.out, HLV.out, hsw, HB.out⟩
     case round =>
      clear HB HLV HXN
      rename World => wt
      obtain ⟨j, hj, rfl, hxn, hlv, hst, hb⟩ := hrel
      by_cases hjt : j < b
      ·have hjz : (j : Int) < (b : Int) := by omega
       obtain ⟨An, cn, rfl, _⟩ := hxn.slice
       obtain ⟨ad, vr, rfl, y0, hvr⟩ := hlv.at HR.out
       obtain ⟨g, cr, rfl, hs1, g1, c1, W1, hr1, v2, W2, hr2, hv2, hbr⟩ := zz5 hvr (by omega) (j : Int) (p := wt.heap.size) rfl
       obtain ⟨⟨g2, c2, rfl⟩, hv2b⟩ := id hv2
       rw [show (r ++ [(j : Int)]).length = i + 1 by rw [List.length_append, hrn]; rfl] at hr2 hv2
       rw [hrn] at y0 hr1 hr2
       have hlen := jG4 b L k j (by rw [HNL.out]; exact hkt) hj
       rw [HNL.out] at hlen
       have hxn2 := (hxn.below qM7 hbr).below qM7 ((Below.refl W2.heap.size W2).alloc (Nat.le_refl _) (.cells #[.slice (some ⟨g2, 0, none⟩) (i + 1) c2] 29))
       have jv6 := hbr.alloc hbr.size (.cells #[.slice (some ⟨g2, 0, none⟩) (i + 1) c2] 29)
       have hcz := alloc_at W2 (.cells #[.slice (some ⟨g2, 0, none⟩) (i + 1) c2] 29)
       obtain ⟨A3, c3, W3, hr3, ja4, hk3, hg3⟩ := hxn2.append Qb1 qM7 hcz rfl (hv2.below ((Below.refl W2.heap.size W2).alloc (Nat.le_refl _) _)) (Nat.le_trans hst jv6.size) (by omega)
       have hlv3 : LV 29 RdI w.heap.size (.slice (some ad) nl c) L W3 := ((hlv.below qM7 jv6)).grown qM7 hg3 hk3 (by
        right
        intro e
        have h1 := HX.out ad.block rfl
        have h2 := hxn.lt ad.block (by rw [← e]; rfl)
        omega)
       have hb3 : Below w.heap.size w W3 := (hb.trans (jv6.mono hb.size)).grown hg3 (Nat.le_trans hb.size jv6.size) (fun q hq => by have := hxn.lt q hq; have := HB.out.size; omega)
       have hs3 : wr.heap.size ≤ W3.heap.size := Nat.le_trans hst (Nat.le_trans jv6.size hg3.size)
       rw [← za9 HR.out] at ja4
       obtain ⟨nx, hnx⟩ : ∃ nx, (qB0 b L k j).length = nx := ⟨_, rfl⟩
       rw [hnx] at hr3 ja4 ⊢
       have y1 := cell_below ((Below.refl wt.heap.size wt).alloc (Nat.le_refl _) (.cells #[] 3)) y0
       have HR1 := Lib.hid hr1
       have HR2 := Lib.hid hr2
       have HR3 := Lib.hid hr3
       have HXN := Lib.hid ja4
       have HLV := Lib.hid hlv3
       have HB3 := Lib.hid hb3
       have HS3 := Lib.hid hs3
       clear hlv hxn hb y0 hr1 hr2 hr3 hxn2 ja4 hlv3 hb3 hs3 hk3 hg3 hcz hbr jv6 hv2 hv2b hvr hnx hs1 hlen hrn hst
       go_wp2_with (first
        | (at_builtin; refine qY.wpList_append_run rfl _ _ _ rfl _ _ rfl rfl _ rfl HR1.out ?_; clear HR1)
        | (at_builtin; refine qY.wpList_append_run rfl _ _ _ rfl _ _ rfl rfl _ rfl HR2.out ?_; clear HR2)
        | (at_builtin; refine qY.wpList_append_run rfl _ _ _ rfl _ _ rfl rfl _ rfl HR3.out ?_; clear HR3))
       go_roundw
       case rel => exact ⟨j + 1, by omega, by go_num, by first | exact HXN.out | skip, HLV.out, HS3.out, HB3.out⟩
       case measure => (simp [intOf]; try omega)
      ·have hjn : j = b := by omega
       subst hjn
       rw [zn7 HR.out] at hxn
       have HXN := Lib.hid hxn
       have HLV := Lib.hid hlv
       have HB := Lib.hid hb
       clear hxn hlv hb
       go_wp2_with fail
       go_roundw
       case rel => exact ⟨k + 1, by omega, by go_num, HXN.out, HLV.out, hst, HB.out⟩
       case measure => (simp [intOf]; try omega)
    ·have hkn : k = nl := by omega
     subst hkn
     rw [← HSU.out] at hxn
     have hxb := hxn.lower HBW.out
     have HXN := Lib.hid hxb
     have HBs := Lib.hid hb
     clear hxn hlv hb hxb
     go_wp2_with fail
     go_roundw
     case rel => exact ⟨i + 1, by omega, by go_num, HXN.out, HBs.out⟩
     case measure => (simp [intOf]; try omega)
  ·have hin : i = m := by omega
   subst hin
   go_wp2_with fail
   go_ret
   exact ⟨_, rfl, hlv, HB.out⟩
end Go.Proofs.Ytngkneknopenmaa.Ref23
end
section
namespace Go.Proofs.Ytngkneknopenmaa.Ref23
open Go.qY (pu ta sa sz ss qa7 jU8)
open Go Go.Lib Go.RowKit Go.Proofs.Ytngkneknopenmaa Go.Proofs.Ytngkneknopenmaa.zQ Go.Proofs.Ytngkneknopenmaa.qb0 Go.Proofs.Ytngkneknopenmaa.qf6 Go.Proofs.Ytngkneknopenmaa.qc7
set_option linter.unusedSimpArgs false
theorem Qm2 : SlI 53 90 := ⟨Try.underlying90, by kernel_rfl⟩
theorem jS3 : qQ0 53 RdO := jf5 (by decide)
theorem zz7 : (Try.prog.info? 51).map (fun i => (i.zero, i.size, i.bytes)) = some (some (.agg #[.bool false, .int .i64 0, .int .i64 0]), 3, 24) := by kernel_rfl
theorem zz8 {base : Nat} {v : Value} {l : List O3} {W : World} (h : W.ownsRow base 51 3 v l.length (flat l)) (hnn : v ≠ .slice none 0 0) (hb : base ≤ W.heap.size) (hl : l.length ≤ 1000) (o : O3) :
  ∃ g c W', (Builtin.append_ #[53, 53] 53 #[v, .slice (some ⟨W.heap.size, 0, none⟩) 1 1]).run Try.prog (W.alloc (.cells #[.bool o.w, .int .i64 o.k, .int .i64 o.v] 51)) = .ok (.slice (some ⟨g, 0, none⟩) (l.length + 1) c) W' ∧
   W'.ownsRow base 51 3 (.slice (some ⟨g, 0, none⟩) (l.length + 1) c) (l ++ [o]).length (flat (l ++ [o])) ∧ (W.alloc (.cells #[.bool o.w, .int .i64 o.k, .int .i64 o.v] 51)).grownBy W' v.ownBlock ∧ KT 51 (W.alloc (.cells #[.bool o.w, .int .i64 o.k, .int .i64 o.v] 51)) W' := by
 obtain ⟨i0, hii, hz0, hz1, hz2⟩ := info_parts zz7
 have hc := alloc_at W (.cells #[.bool o.w, .int .i64 o.k, .int .i64 o.v] 51)
 obtain ⟨v', W', hr, hown, hg, hn, _⟩ := run_append_own_at (P := Try.prog) (W.alloc (.cells #[.bool o.w, .int .i64 o.k, .int .i64 o.v] 51)) base 53 53 51 i0 (.agg #[.bool false, .int .i64 0, .int .i64 0]) 3 24 Try.underlying53 hii hz0 hz1 hz2 rfl (by decide) v l.length _ (h.alloc _) ⟨W.heap.size, 0, none⟩ 1 1 o.cells rfl (fun j u hj => by
   rw [add_zero, Lib.cell_of_heap hc]
   simpa [O3.cells] using hj) (fun u hu => by simp [O3.cells] at hu; rcases hu with rfl | rfl | rfl <;> rfl) (by unfold maxLen; omega) (by omega) (by simp; omega)
 obtain ⟨g, c, rfl⟩ : ∃ g c, v' = .slice (some ⟨g, 0, none⟩) (l.length + 1) c := by
  rcases hown.2 with ⟨e1, _⟩ | ⟨g, cp, cur, e1, _⟩
  ·exact absurd (hn.1 e1).1 hnn
  ·exact ⟨g, cp, e1⟩
 refine ⟨g, c, W', hr, ?_, hg, KT.own (h.alloc _) hg⟩
 rw [List.length_append]
 simpa [flat] using hown
theorem wrI {x : Int} (h0 : -9223372036854775808 ≤ x) (h1 : x ≤ 9223372036854775807) : IntKind.i64.wrap x = x := by simp [IntKind.wrap, IntKind.signed, IntKind.bits]; omega
set_option maxHeartbeats 8000000 in
set_option maxRecDepth 100000 in
theorem jS4 {m k v : Nat} (hm : m ≤ 100) (hk : 1 ≤ k) (hk2 : k ≤ 1000) (hv : v ≤ 100) (hB : ∀ i, i ≤ m → (2 * k * (v + 1)) ^ i ≤ 1000000) (w : World) :
  Calls Try.prog 51 #[.int .i64 (m : Int), .int .i64 (k : Int), .int .i64 (v : Int)] w fun e w' => ∃ x, e = .returned x ∧ LV 53 RdO w.heap.size x (jv4 m k v) w' ∧ Below w.heap.size w w' := by
 have hkv : 2 * k * (v + 1) ≤ 1000000 := by
  have : 2 * k * (v + 1) ≤ 2000 * 101 := Nat.mul_le_mul (by omega) (by omega)
  omega
 have hrw := fun W => zb0 hm hB hkv W
 have hlen := qz0 (2 * k * (v + 1)) m
 have zL7 := hB m (Nat.le_refl _)
 have hrl := qO6 (2 * k * (v + 1)) m
 have hrm := jy2 (2 * k * (v + 1)) m
 have e1 : wrap64 (2 * (k : Int)) = 2 * (k : Int) := zQ.qO7 (by omega) (by omega)
 have e2 : wrap64 ((v : Int) + 1) = (v : Int) + 1 := zQ.qO7 (by omega) (by omega)
 have e3 : wrap64 (2 * (k : Int) * ((v : Int) + 1)) = ((2 * k * (v + 1) : Nat) : Int) := by
  have : 2 * (k : Int) * ((v : Int) + 1) = ((2 * k * (v + 1) : Nat) : Int) := by simp
  rw [this, zQ.qO7 (by omega) (by omega)]
 obtain ⟨L, hL⟩ : ∃ L, qw5 (2 * k * (v + 1)) m = L := ⟨_, rfl⟩
 have hend : jv4 m k v = L.map fun r => r.map (opN k) := by rw [← hL]; rfl
 obtain ⟨B, hBB⟩ : ∃ B, 2 * k * (v + 1) = B := ⟨_, rfl⟩
 rw [hL] at hrw hlen hrl hrm
 rw [hBB] at hrw e3 hrm hkv
 rw [← hlen] at zL7
 have HRW := Lib.hid hrw
 have HRL := Lib.hid hrl
 have HRM := Lib.hid hrm
 have Qb2 := Lib.hid hend
 clear hrw hB hL hlen hrl hrm hend hBB
 go_enter Try.func51, Try.ntmps51
 go_upto_region 3 with (go_at_call 68; (with_reducible refine (HRW.out _).mono ?_); rintro e w1 ⟨xl, rfl, hxl, hb1⟩)
 have hbA := (Below.refl w.heap.size w).alloc (Nat.le_refl _) (.cells #[] 53)
 have hxo : LV 53 RdO w.heap.size (.slice (some ⟨w.heap.size, 0, none⟩) 0 0) [] (w.alloc (.cells #[] 53)) := LV.made (Nat.le_refl _)
 have zz9 := hxo.below jS3 hb1
 have zA0 := hbA.trans (hb1.mono hbA.size)
 have hlt := hxo.lt
 obtain ⟨A, c, rfl, _⟩ := hxl.slice
 obtain ⟨nl, hnl⟩ : ∃ nl, L.length = nl := ⟨_, rfl⟩
 rw [hnl] at hxl zL7 ⊢
 have HXL := Lib.hid hxl
 have HXO := Lib.hid zz9
 have HB1 := Lib.hid zA0
 have HNL := Lib.hid hnl
 have HLO := Lib.hid (show w.heap.size + 1 ≤ (w.alloc (.cells #[] 53)).heap.size by simp)
 clear hbA hxo zz9 zA0 hlt hxl hb1 hnl e1 e2 e3
 obtain ⟨wA, hwA⟩ : ∃ W, w.alloc (.cells #[] 53) = W := ⟨_, rfl⟩
 rw [hwA] at HXL HLO
 clear hwA
 go_wp2_with fail
 go_loopw [7, 9] (fun x u wr => ∃ i : Nat, i ≤ nl ∧ u = .int .i64 ((i : Nat) : Int) ∧ LV 53 RdO w.heap.size x ((L.take i).map fun r => r.map (opN k)) wr ∧ LV 29 RdI wA.heap.size (.slice A nl c) L wr ∧ Below w.heap.size w wr) (fun _ u _ => nl - (intOf u).toNat)
 case atStart => exact ⟨0, Nat.zero_le _, rfl, HXO.out, HXL.out, HB1.out⟩
 case round =>
  clear HXO HXL HB1
  obtain ⟨i, hi, rfl, hxo, hxl, hb⟩ := hrel
  have HB := Lib.hid hb
  by_cases hlt : i < nl
  ·have hltz : (i : Int) < (nl : Int) := by omega
   obtain ⟨r, hr⟩ : ∃ r, L[i]? = some r := ⟨_, List.getElem?_eq_getElem (by rw [HNL.out]; exact hlt)⟩
   have hrn := HRL.out r (List.mem_of_getElem? hr)
   have hts : (L.take (i + 1)).map (fun r => r.map (opN k)) = (L.take i).map (fun r => r.map (opN k)) ++ [r.map (opN k)] := by rw [List.take_add_one, hr, List.map_append]; rfl
   have hbA := (Below.refl wr.heap.size wr).alloc (Nat.le_refl _) (.cells #[] 51)
   have hrow : (wr.alloc (.cells #[] 51)).ownsRow wr.heap.size 51 3 (.slice (some ⟨wr.heap.size, 0, none⟩) 0 0) (([] : List Int).map (opN k)).length (flat (([] : List Int).map (opN k))) := World.ownsRow_made wr #[] 0 (Nat.le_refl _) (by unfold maxLen; omega) rfl
   have HR := Lib.hid hr
   have HRN := Lib.hid hrn
   have HTS := Lib.hid hts
   have jB1 := Lib.hid hrow
   have HBA := Lib.hid hbA
   have Qb3 := hxo.lt
   obtain ⟨Ax, cx, rfl, _⟩ := hxo.slice
   have hli : ((L.take i).map fun r => r.map (opN k)).length = i := by rw [List.length_map, List.length_take, HNL.out]; omega
   rw [hli] at hxo Qb3 ⊢
   have HXO := Lib.hid hxo
   have HXL := Lib.hid hxl
   have HXLT := Lib.hid Qb3
   clear hxo hxl hb hbA hrow hr hts Qb3 hrn hli
   go_wp2_with fail
   go_loopw [10, 11] (fun y u ws => ∃ j : Nat, j ≤ m ∧ u = .int .i64 ((j : Nat) : Int) ∧ (∃ g c, y = .slice (some ⟨g, 0, none⟩) j c) ∧ ws.ownsRow wr.heap.size 51 3 y j (flat ((r.take j).map (opN k))) ∧ Below wr.heap.size wr ws) (fun _ u _ => m - (intOf u).toNat)
   case atStart => exact ⟨0, Nat.zero_le _, rfl, ⟨_, _, rfl⟩, jB1.out, HBA.out⟩
   case round =>
    clear jB1 HBA
    rename World => ws
    obtain ⟨j, hj, rfl, ⟨gy, cy, rfl⟩, hrow, hb⟩ := hrel
    have HBs := Lib.hid hb
    obtain ⟨ad, vr, rfl, y0, hvr⟩ := (HXL.out.below qM7 hb).at HR.out
    obtain ⟨⟨gr, cr, rfl⟩, hro⟩ := hvr
    rw [HRN.out] at y0
    by_cases hjt : j < m
    ·have hjz : (j : Int) < (m : Int) := by omega
     obtain ⟨n, hn⟩ : ∃ n, r[j]? = some n := ⟨_, List.getElem?_eq_getElem (by rw [HRN.out]; exact hjt)⟩
     obtain ⟨hn0, hn1⟩ := HRM.out r (List.mem_of_getElem? HR.out) n (List.mem_of_getElem? hn)
     have y1 := hro.cells (g := gr) rfl j (.int .i64 n) (by unfold jn8; rw [List.getElem?_map, hn]; rfl)
     rw [add_zero] at y1
     have htk : (r.take (j + 1)).map (opN k) = (r.take j).map (opN k) ++ [opN k n] := by rw [List.take_add_one, hn, List.map_append]; rfl
     have hjl : ((r.take j).map (opN k)).length = j := by rw [List.length_map, List.length_take, HRN.out]; omega
     have jB1 := Lib.hid hrow
     have HTK := Lib.hid htk
     have HJL := Lib.hid hjl
     have HN := Lib.hid hn
     clear hrow hb htk hjl hn hro
     go_upto_region 11 with fail
     clear y0 y1
     have hd2 : n.tdiv 2 = n / 2 := Int.tdiv_eq_ediv_of_nonneg hn0
     have hd3 : (n.tdiv 2).tdiv k = n / 2 / k := by rw [hd2]; exact Int.tdiv_eq_ediv_of_nonneg (by omega)
     have hd4 : 0 ≤ n / 2 / k := Int.ediv_nonneg (by omega) (by omega)
     have hd5 : n / 2 / k ≤ n / 2 := Int.ediv_le_self _ (by omega)
     have HD := Lib.hid (show IntKind.i64.wrap (n.tdiv 2) = n.tdiv 2 from wrI (by omega) (by omega))
     have HD3 := Lib.hid (show IntKind.i64.wrap ((n.tdiv 2).tdiv k) = (n.tdiv 2).tdiv k from wrI (by omega) (by omega))
     clear hd2 hd3 hd4 hd5
     refine qY.qz1 [] (fun _ => True) (by kernel_rfl) ?_
     have hV0 : Below ws.heap.size ws ws.drew := (Below.refl _ _).drew
     obtain ⟨V0, hV⟩ : ∃ V0, ws.drew = V0 := ⟨_, rfl⟩
     rw [hV] at hV0 ⊢
     have HV0 := Lib.hid hV0
     clear hV hV0
     refine pu (i := 0) (v := .slice (some ⟨gy, 0, none⟩) j cy) rfl (fun _ => by go_simp) ?_
     simp only [Act.put, sa, sz, ss]
     refine pu (i := 1) (v := .int .i64 n) rfl (fun _ => by go_simp) ?_
     simp only [Act.put, sa, sz, ss]
     refine pu (i := 2) (v := .int .i64 (n.tmod 2)) rfl (fun _ => by go_simp) ?_
     simp only [Act.put, sa, sz, ss]
     refine pu (i := 3) (v := .bool (n.tmod 2 == 1)) rfl (fun _ => by go_simp) ?_
     simp only [Act.put, sa, sz, ss]
     refine pu (i := 4) (v := .int .i64 n) rfl (fun _ => by go_simp) ?_
     simp only [Act.put, sa, sz, ss]
     refine pu (i := 5) (v := .int .i64 (n.tdiv 2)) rfl (fun _ => by go_simp; exact HD.out) ?_
     simp only [Act.put, sa, sz, ss]
     refine pu (i := 6) (v := .int .i64 (k : Int)) rfl (fun _ => by go_simp) ?_
     simp only [Act.put, sa, sz, ss]
     refine pu (i := 7) (v := .int .i64 ((n.tdiv 2).tmod k)) rfl (fun _ => by go_simp; omega) ?_
     simp only [Act.put, sa, sz, ss]
     refine pu (i := 8) (v := .int .i64 n) rfl (fun _ => by go_simp) ?_
     simp only [Act.put, sa, sz, ss]
     refine pu (i := 9) (v := .int .i64 (n.tdiv 2)) rfl (fun _ => by go_simp; exact HD.out) ?_
     simp only [Act.put, sa, sz, ss]
     refine pu (i := 10) (v := .int .i64 (k : Int)) rfl (fun _ => by go_simp) ?_
     simp only [Act.put, sa, sz, ss]
     refine pu (i := 11) (v := .int .i64 ((n.tdiv 2).tdiv k)) rfl (fun _ => by go_simp; first | exact HD3.out | (rw [HD3.out]; simp; omega) | (simp [HD3.out]; omega)) ?_
     simp only [Act.put, sa, sz, ss]
     refine pu (i := 12) (v := .agg #[.bool (n.tmod 2 == 1), .int .i64 ((n.tdiv 2).tmod k), .int .i64 ((n.tdiv 2).tdiv k)]) rfl (fun _ => by go_simp) ?_
     simp only [Act.put, sa, sz, ss]
     have zA1 := za8 jB1.out HV0.out
     have hmo := zz8 (o := opN k n) (l := (r.take j).map (opN k)) (W := V0) (v := .slice (some ⟨gy, 0, none⟩) j cy) (by rw [HJL.out]; exact zA1) (by simp) (Nat.le_trans HBs.out.size HV0.out.size) (by rw [HJL.out]; omega)
     rw [HJL.out, ← HTK.out, List.length_map, List.length_take] at hmo
     obtain ⟨g2, c2, V2, hr2, hown2, hg2, hk2⟩ := hmo
     have hbV := HV0.out.alloc HV0.out.size (.cells #[.bool (opN k n).w, .int .i64 (opN k n).k, .int .i64 (opN k n).v] 51)
     have hmin : min (j + 1) r.length = j + 1 := by rw [HRN.out]; omega
     rw [hmin] at hown2
     have HR2 := Lib.hid hr2
     have Qm3 := Lib.hid hown2
     have HB2 := Lib.hid ((HBs.out.trans (hbV.mono HBs.out.size)).grown hg2 (Nat.le_trans HBs.out.size hbV.size) (fun q hq => (zA1.lt q hq).1))
     clear zA1 hr2 hown2 hg2 hk2 hbV hmin
     refine qa7 (i := 13) rfl (by kernel_rfl) rfl ?_
     intro K7 hK7
     have HK7 := Lib.hid hK7
     clear hK7
     (try simp only [List.getElem_toArray, List.getElem_cons_succ, List.getElem_cons_zero])
     unfold Oper.wp
     go_simp
     refine HK7.out _ _ ⟨fun _ h => h, ?_⟩
     clear HK7 K7
     (try simp only [Act.put, sa, sz, ss])
     refine qa7 (i := 14) rfl (by kernel_rfl) rfl ?_
     intro K7 hK7
     have HK7 := Lib.hid hK7
     clear hK7
     (try simp only [List.getElem_toArray, List.getElem_cons_succ, List.getElem_cons_zero])
     refine qY.wp_append_run _ _ _ rfl _ _ rfl rfl _ rfl HR2.out ?_
     refine HK7.out _ _ ⟨fun _ h => h, ?_⟩
     clear HK7 K7
     (try simp only [Act.put, sa, sz, ss])
     refine pu (i := 15) (v := .slice (some ⟨g2, 0, none⟩) (j + 1) c2) rfl (fun _ => by go_simp) ?_
     simp only [Act.put, sa, sz, ss]
     (try simp only [List.getElem_toArray, List.getElem_cons_succ, List.getElem_cons_zero, Act.put, sa, sz, ss])
     refine qY.qK6 (by kernel_rfl) ?_ _
     go_wp2_with fail
     go_roundw
     case rel => exact ⟨j + 1, by omega, by go_num, ⟨g2, c2, rfl⟩, Qm3.out, HB2.out⟩
     case measure => (simp [intOf]; try omega)
    ·have hjn : j = m := by omega
     subst hjn
     rw [List.take_of_length_le (by rw [HRN.out]; exact Nat.le_refl _)] at hrow
     have hlr : (r.map (opN k)).length = j := by rw [List.length_map, HRN.out]
     have hvo : RdO ws (.slice (some ⟨gy, 0, none⟩) j cy) (r.map (opN k)) := ⟨⟨gy, cy, by rw [hlr]⟩, by rw [hlr]; exact jf4 hrow⟩
     have hb2 := hb.alloc hb.size (.cells #[.slice (some ⟨gy, 0, none⟩) j cy] 53)
     have hb3 := (Below.refl ws.heap.size ws).alloc (Nat.le_refl _) (.cells #[.slice (some ⟨gy, 0, none⟩) j cy] 53)
     have hcz := alloc_at ws (.cells #[.slice (some ⟨gy, 0, none⟩) j cy] 53)
     have hxo2 := HXO.out.below jS3 hb2
     have hli : ((L.take i).map fun r => r.map (opN k)).length = i := by rw [List.length_map, List.length_take, HNL.out]; omega
     obtain ⟨A3, c3, W3, hr3, ja4, hk3, hg3⟩ := hxo2.append Qm2 jS3 hcz rfl (hvo.below hb3) (Nat.le_trans HB.out.size hb2.size) (by rw [hli]; omega)
     rw [hli] at hr3 ja4
     rw [← HTS.out] at ja4
     have zA2 := (HXL.out.below qM7 hb2).kt (jy1 (by decide)) hk3 (by decide)
     have hbw : Below w.heap.size w W3 := (HB.out.trans (hb2.mono HB.out.size)).grown hg3 (Nat.le_trans HB.out.size hb2.size) (fun q hq => (HXLT.out q hq).1)
     have HR3 := Lib.hid hr3
     have HXN := Lib.hid ja4
     have Qb4 := Lib.hid zA2
     have HB3 := Lib.hid hbw
     clear hrow hvo hb2 hb3 hcz hxo2 hr3 ja4 zA2 hbw hk3 hg3 hb hro hlr hli
     go_wp2_with (at_builtin; refine qY.wpList_append_run rfl _ _ _ rfl _ _ rfl rfl _ rfl HR3.out ?_; clear HR3)
     go_roundw
     case rel => exact ⟨i + 1, by omega, by go_num, HXN.out, Qb4.out, HB3.out⟩
     case measure => (simp [intOf]; try omega)
  ·have hin : i = nl := by omega
   subst hin
   rw [List.take_of_length_le (by rw [HNL.out]; exact Nat.le_refl _), ← Qb2.out] at hxo
   go_wp2_with fail
   go_ret
   exact ⟨_, rfl, hxo, HB.out⟩
end Go.Proofs.Ytngkneknopenmaa.Ref23
end
section
namespace Go.Proofs.Ytngkneknopenmaa.Ref23
open Go Go.Lib Go.RowKit Go.Proofs.Ytngkneknopenmaa Go.Proofs.Ytngkneknopenmaa.zQ Go.Proofs.Ytngkneknopenmaa.qb0 Go.Proofs.Ytngkneknopenmaa.qf6 Go.Proofs.Ytngkneknopenmaa.qc7
set_option linter.unusedSimpArgs false
def qT1 (t : T4) (v : Value) : List Value := [.int .i64 t.s, .int .i64 t.b, .int .i64 t.c, v]
def RdH (W : World) (v : Value) (h : List T4) : Prop := (∃ g c, v = .slice (some ⟨g, 0, none⟩) h.length c) ∧ ∃ vos : List Value, vos.length = h.length ∧ W.ownsRow 0 55 4 v h.length ((h.zip vos).flatMap fun p => qT1 p.1 p.2) ∧ ∀ (i : Nat) (vo : Value) (t : T4), vos[i]? = some vo → h[i]? = some t → RdO W vo t.ops
theorem zn8 {e : TypeId} (h1 : (55 : TypeId) ≠ e) (h2 : (51 : TypeId) ≠ e) : qQ0 e RdH := fun _ _ _ _ k ⟨a, vos, b, c, d⟩ => ⟨a, vos, b, jj8 c k h1, fun i vo t hv ht => jf5 h2 _ _ _ _ k (d i vo t hv ht)⟩
theorem zn9 : qQ0 22 RdH := zn8 (by decide) (by decide)
theorem sl_h : SlI 22 42 := ⟨Try.underlying42, by kernel_rfl⟩
theorem RdO.rd {W : World} {v : Value} {l : List O3} (h : RdO W v l) : ∃ g c, v = .slice (some ⟨g, 0, none⟩) l.length c ∧ l.length ≤ c ∧ zQ.RdO W (some ⟨g, 0, none⟩) l := by
 obtain ⟨⟨g, c, rfl⟩, ho⟩ := h
 obtain ⟨h1, _, h2⟩ := OW.ze5 ho
 exact ⟨g, c, rfl, h2, h1.rd⟩
theorem zo0 {h : List T4} {vos : List Value} : ∀ (i : Nat) (t : T4) (vo : Value), h[i]? = some t → vos[i]? = some vo → ∀ k, k < 4 → ((h.zip vos).flatMap fun p => qT1 p.1 p.2)[i * 4 + k]? = (qT1 t vo)[k]? := by
 induction h generalizing vos with
 | nil => intro i t vo h1; simp at h1
 | cons x h ih =>
  intro i t vo h1 h2 k hk
  cases vos with
  | nil => simp at h2
  | cons v vos =>
   cases i with
   | zero =>
    simp at h1 h2
    subst h1 h2
    rw [List.zip_cons_cons, List.flatMap_cons, Nat.zero_mul, Nat.zero_add, List.getElem?_append_left (by simp [qT1]; exact hk)]
   | succ i =>
    rw [List.zip_cons_cons, List.flatMap_cons, List.getElem?_append_right (by simp [qT1]; omega)]
    have := ih i t vo (by simpa using h1) (by simpa using h2) k hk
    rw [← this]
    congr 1
    simp [qT1]
    omega
theorem RdH.rd {W : World} {v : Value} {h : List T4} (hh : RdH W v h) : ∃ A c, v = .slice A h.length c ∧ h.length ≤ c ∧ RdT W A h := by
 obtain ⟨⟨g, c, rfl⟩, vos, hl, ho, hv⟩ := hh
 have hcap : h.length ≤ c := by
  rcases ho.2 with ⟨e, _⟩ | ⟨g', cp, cur, e, _, _, h1, _⟩
  ·cases e
  ·injection e with e1 e2 e3; omega
 refine ⟨_, c, rfl, hcap, fun hp => ⟨_, rfl, fun i t ht => ?_⟩⟩
 have hi := (List.getElem?_eq_some_iff.1 ht).1
 obtain ⟨vo, hvo⟩ : ∃ vo, vos[i]? = some vo := ⟨_, List.getElem?_eq_getElem (by omega)⟩
 obtain ⟨go, co, rfl, hlo, hro⟩ := (hv i vo t hvo ht).rd
 have hc := fun k (hk : k < 4) u (hu : (qT1 t (.slice (some ⟨go, 0, none⟩) t.ops.length co))[k]? = some u) => ho.cells (g := g) rfl (i * 4 + k) u (by rw [zo0 i t _ ht hvo k hk, hu])
 have e0 := hc 0 (by omega) _ rfl
 have e1 := hc 1 (by omega) _ rfl
 have e2 := hc 2 (by omega) _ rfl
 have e3 := hc 3 (by omega) _ rfl
 rw [add_zero] at e0 e1 e2 e3
 rw [add_zero]
 exact ⟨some ⟨go, 0, none⟩, co, e0, e1, e2, e3, hlo, hro⟩
def RdL (W : World) (A : Option Addr) (L : List (List T4)) : Prop := 0 < L.length → ∃ ad, A = some ad ∧ ∀ (i : Nat) (h : List T4), L[i]? = some h → ∃ Ai ci, W.cell? (ad.add i) = some (.slice Ai h.length ci) ∧ h.length ≤ ci ∧ RdT W Ai h
theorem RdL.below {W W' : World} {A : Option Addr} {L : List (List T4)} (h : RdL W A L) (hb : Below W.heap.size W W') : RdL W' A L := fun hp => by
 obtain ⟨ad, e, k⟩ := h hp
 refine ⟨ad, e, fun i x hx => ?_⟩
 obtain ⟨Ai, ci, h1, h2, h3⟩ := k i x hx
 exact ⟨Ai, ci, cell_below hb h1, h2, h3.below hb⟩
theorem RdL.take {W : World} {A : Option Addr} {L : List (List T4)} (h : RdL W A L) (n : Nat) : RdL W A (L.take n) := fun hp => by
 obtain ⟨ad, e, k⟩ := h (by rw [List.length_take] at hp; omega)
 refine ⟨ad, e, fun i x hx => k i x ?_⟩
 rw [List.getElem?_take] at hx
 split at hx
 ·exact hx
 ·cases hx
theorem LV.rdL {base n c : Nat} {A : Option Addr} {L : List (List T4)} {W : World} (h : LV 22 RdH base (.slice A n c) L W) : RdL W A L := fun hp => by
 obtain ⟨vals, h1, h2, h3⟩ := h
 rcases h2.2 with ⟨_, h0⟩ | ⟨g, cp, cur, e1, _, _, _⟩
 ·omega
 ·injection e1 with e1 e2 e3
  subst e1
  refine ⟨_, rfl, fun i x hx => ?_⟩
  have hi := (List.getElem?_eq_some_iff.1 hx).1
  obtain ⟨v, hv⟩ : ∃ v, vals[i]? = some v := ⟨_, List.getElem?_eq_getElem (by omega)⟩
  obtain ⟨Ai, ci, e, k1, k2⟩ := (h3 i v x hv hx).rd
  exact ⟨Ai, ci, e ▸ h2.cells (g := g) rfl i v hv, k1, k2⟩
theorem LS.rdL {base n c : Nat} {A : Option Addr} {its : List IT} {C : Nat → Prop} {W : World} (s : LS base (.slice A n c) its C W) : RdL W A (its.map IT.h) := fun hp => by
 rw [List.length_map] at hp
 rcases s.row.2 with ⟨_, h0⟩ | ⟨g, cp, cur, e, _, h2, _⟩
 ·omega
 ·injection e with e1 e2 e3
  subst e1
  refine ⟨_, rfl, fun i x hx => ?_⟩
  rw [List.getElem?_map] at hx
  obtain ⟨it, hit, rfl⟩ := Option.map_eq_some_iff.1 hx
  obtain ⟨Ai, ci, e, k1, k2⟩ := (s.h2 it (List.mem_of_getElem? hit)).rd
  exact ⟨Ai, ci, e ▸ s.row.cells (g := g) rfl i it.v (by rw [List.getElem?_map, hit]; rfl), k1, k2⟩
set_option maxHeartbeats 4000000 in
set_option maxRecDepth 100000 in
theorem jy3 {A B : Option Addr} {c d : Nat} {L : List (List T4)} {h : List T4} {w : World} (hr : RdL w A L) (hl : L.length ≤ 1000000) (hL : ∀ x ∈ L, x.length ≤ 1000 ∧ ∀ t ∈ x, t.ops.length ≤ 100000) (hh : RdT w B h) (hd : h.length ≤ d) :
  Calls Try.prog 52 #[.slice A L.length c, .slice B h.length d] w fun e w' => e = .returned (.bool (decide (h ∈ L))) ∧ Below w.heap.size w w' := by
 obtain ⟨n, hn⟩ : ∃ n, L.length = n := ⟨_, rfl⟩
 obtain ⟨m, hm⟩ : ∃ n, h.length = n := ⟨_, rfl⟩
 rw [hn] at hl ⊢
 have HN := Lib.hid hn
 have HM := Lib.hid hm
 have HR := Lib.hid hr
 have HH := Lib.hid hh
 have HLL := Lib.hid hL
 have HD := Lib.hid hd
 rw [hm]
 clear hr hL hh hn hm hd
 go_enter Try.func52, Try.ntmps52
 go_wp2_with fail
 go_loopw [5] (fun v wr => ∃ i : Nat, i ≤ n ∧ v = .int .i64 ((i : Nat) : Int) ∧ h ∉ L.take i ∧ Below w.heap.size w wr) (fun v _ => n - (intOf v).toNat)
 case atStart => exact ⟨0, Nat.zero_le _, rfl, by simp, Below.refl _ _⟩
 case round =>
  obtain ⟨i, hi, rfl, hnin, hb⟩ := hrel
  have HNI := Lib.hid hnin
  have HB := Lib.hid hb
  clear hnin
  by_cases hlt : i < n
  ·have hltz : (i : Int) < (n : Int) := by omega
   obtain ⟨ad, rfl, hch⟩ := HR.out (by rw [HN.out]; omega)
   obtain ⟨x, hx⟩ : ∃ x, L[i]? = some x := ⟨_, List.getElem?_eq_getElem (by rw [HN.out]; exact hlt)⟩
   obtain ⟨Ai, ci, y0, hci, hrx⟩ := hch i x hx
   replace y0 := cell_below hb y0
   obtain ⟨hx1, hx2⟩ := HLL.out x (List.mem_of_getElem? hx)
   have hsm := jh1 (hrx.below hb) hci hx1 hx2 (HH.out.below hb) HD.out
   rw [HM.out] at hsm
   obtain ⟨q, hq⟩ : ∃ q, decide (x = h) = q := ⟨_, rfl⟩
   rw [hq] at hsm
   have HSM := Lib.hid hsm
   have HTK := Lib.hid (show L.take (i + 1) = L.take i ++ [x] by rw [List.take_add_one, hx]; rfl)
   have HIN := Lib.hid (show x = h → decide (h ∈ L) = true from fun e => decide_eq_true (e ▸ List.mem_of_getElem? hx))
   have HQ := Lib.hid hq
   clear hch hx hci hrx hsm hq hb
   cases q with
   | true =>
    have HF := Lib.hid (HIN.out (of_decide_eq_true HQ.out))
    go_wp2_with (go_at_call 59; (with_reducible refine HSM.out.mono ?_); rintro e w1 ⟨rfl, hb1⟩; have HB1 := Lib.hid (HB.out.trans (hb1.mono HB.out.size)); clear hb1)
    go_ret
    exact ⟨by rw [HF.out]; rfl, HB1.out⟩
   | false =>
    have HF := Lib.hid (show h ∉ L.take (i + 1) by rw [HTK.out]; simp; exact ⟨HNI.out, fun e => of_decide_eq_false HQ.out e.symm⟩)
    go_wp2_with (go_at_call 59; (with_reducible refine HSM.out.mono ?_); rintro e w1 ⟨rfl, hb1⟩; have HB1 := Lib.hid (HB.out.trans (hb1.mono HB.out.size)); clear hb1)
    go_roundw
    case rel => exact ⟨i + 1, by omega, by go_num, HF.out, HB1.out⟩
    case measure => (simp [intOf]; try omega)
  ·have hin : i = n := by omega
   subst hin
   have HF := Lib.hid (show decide (h ∈ L) = false from decide_eq_false (by have := HNI.out; rwa [List.take_of_length_le (by rw [HN.out]; exact Nat.le_refl _)] at this))
   clear hb
   go_wp2_with fail
   go_ret
   exact ⟨by rw [HF.out]; rfl, HB.out⟩
set_option maxHeartbeats 4000000 in
set_option maxRecDepth 100000 in
theorem qM8 {A B : Option Addr} {c d : Nat} {L M : List (List T4)} {w : World} (hr : RdL w A L) (hc : L.length ≤ c) (hl : L.length ≤ 1000000) (hL : ∀ x ∈ L, x.length ≤ 1000 ∧ ∀ t ∈ x, t.ops.length ≤ 100000) (hM : ∀ x ∈ M, x.length ≤ 1000 ∧ ∀ t ∈ x, t.ops.length ≤ 100000) (hs : RdL w B M) (hlm : L.length = M.length) (hin : ∀ x ∈ L, x ∈ M) (hnd : L.Nodup) :
  Calls Try.prog 23 #[.slice A L.length c, .slice B M.length d] w fun e w' => e = .returned (.bool true) ∧ Below w.heap.size w w' := by
 obtain ⟨n, hn⟩ : ∃ n, L.length = n := ⟨_, rfl⟩
 have hm : M.length = n := by omega
 rw [hn] at hl hc ⊢
 have HN := Lib.hid hn
 have HM := Lib.hid hm
 have HR := Lib.hid hr
 have HS := Lib.hid hs
 have HLL := Lib.hid hL
 have HMM := Lib.hid hM
 have HIN := Lib.hid hin
 have HND := Lib.hid hnd
 rw [hm]
 clear hr hs hL hM hn hm hlm hin hnd
 go_enter Try.func23, Try.ntmps23
 go_wp2_with fail
 go_loopw [14] (fun v wr => ∃ i : Nat, i ≤ n ∧ v = .int .i64 ((i : Nat) : Int) ∧ Below w.heap.size w wr) (fun v _ => n - (intOf v).toNat)
 case atStart => exact ⟨0, Nat.zero_le _, rfl, Below.refl _ _⟩
 case round =>
  obtain ⟨i, hi, rfl, hb⟩ := hrel
  have HB := Lib.hid hb
  by_cases hlt : i < n
  ·have hltz : (i : Int) < (n : Int) := by omega
   obtain ⟨ad, rfl, hch⟩ := HR.out (by rw [HN.out]; omega)
   obtain ⟨x, hx⟩ : ∃ x, L[i]? = some x := ⟨_, List.getElem?_eq_getElem (by rw [HN.out]; exact hlt)⟩
   obtain ⟨Ai, ci, y0, hci, hrx⟩ := hch i x hx
   replace y0 := cell_below hb y0
   have h1 := fun W (hbW : Below w.heap.size w W) => jy3 (A := B) (c := d) (L := M) (h := x) (HS.out.below hbW) (by rw [HM.out]; exact hl) HMM.out (hrx.below hbW) hci
   rw [HM.out, show decide (x ∈ M) = true from decide_eq_true (HIN.out x (List.mem_of_getElem? hx))] at h1
   have h2 := fun W (hbW : Below w.heap.size w W) c' => jy3 (A := some ad) (c := c') (L := L.take i) (h := x) ((HR.out.take i).below hbW) (by rw [List.length_take]; omega) (fun y hy => HLL.out y (List.mem_of_mem_take hy)) (hrx.below hbW) hci
   rw [show (L.take i).length = i by rw [List.length_take, HN.out]; omega, show decide (x ∈ L.take i) = false from decide_eq_false (fun hm => by
    have hp := List.nodup_iff_pairwise_ne.1 HND.out
    rw [List.pairwise_iff_getElem] at hp
    obtain ⟨j, hj, e⟩ := List.mem_take_iff_getElem.1 hm
    have hi2 := List.getElem?_eq_some_iff.1 hx
    exact hp j i (by omega) hi2.1 (by omega) (e.trans hi2.2.symm))] at h2
   have H1 := Lib.hid h1
   have H2 := Lib.hid h2
   clear hch hx hci hrx h1 h2 hb
   go_wp2_with (first
    | (go_at_call 52; (with_reducible refine (H1.out _ HB.out).mono ?_); rintro e w1 ⟨rfl, hb1⟩; have HB1 := Lib.hid (HB.out.trans (hb1.mono HB.out.size)); clear hb1)
    | (go_at_call 52; (with_reducible refine (H2.out _ HB1.out _).mono ?_); rintro e w2 ⟨rfl, hb2⟩; have HB2 := Lib.hid (HB1.out.trans (hb2.mono HB1.out.size)); clear hb2))
   go_roundw
   case rel => exact ⟨i + 1, by omega, by go_num, HB2.out⟩
   case measure => (simp [intOf]; try omega)
  ·have hin : i = n := by omega
   subst hin
   clear hb
   go_wp2_with fail
   go_ret
   exact ⟨rfl, HB.out⟩
end Go.Proofs.Ytngkneknopenmaa.Ref23
end
section
namespace Go.Proofs.Ytngkneknopenmaa.Ref23
open Go Go.Lib Go.RowKit Go.Proofs.Ytngkneknopenmaa Go.Proofs.Ytngkneknopenmaa.zQ Go.Proofs.Ytngkneknopenmaa.qb0 Go.Proofs.Ytngkneknopenmaa.qf6 Go.Proofs.Ytngkneknopenmaa.qc7
set_option linter.unusedSimpArgs false
theorem zL8 {W : World} {v : Value} {ops : List O3} (h : RdO W v ops) : RdH (W.alloc (.cells #[.int .i64 0, .int .i64 0, .int .i64 1, v] 55)) (.slice (some ⟨W.heap.size, 0, none⟩) 1 1) (ji3 ops) := by
 have hb := (Below.refl W.heap.size W).alloc (Nat.le_refl _) (.cells #[.int .i64 0, .int .i64 0, .int .i64 1, v] 55)
 refine ⟨⟨_, _, rfl⟩, [v], rfl, ⟨rfl, .inr ⟨_, 1, _, rfl, Nat.zero_le _, alloc_at W _, Nat.le_refl _, by unfold maxLen; omega, rfl, rfl⟩⟩, fun i vo t hv ht => ?_⟩
 match i, hv with
 | 0, hv => cases hv; cases ht; exact h.below hb
 | i + 1, hv => simp at hv
theorem zb1 {n k : Nat} : ∀ x ∈ jv5 n k, x.length ≤ 1000 ∧ ∀ t ∈ x, t.ops.length ≤ 100000 := by
 intro x hx
 unfold jv5 at hx
 split at hx
 ·cases hx
 ·have h1 := (List.mem_filter.1 hx).2
  unfold isR at h1
  simp at h1
  have := qi7 h1.1
  exact ⟨by omega, fun t ht => Nat.le_trans (zz1 h1.1 t ht) (by omega)⟩
theorem zA3 {m k v : Nat} : ∀ r ∈ jv4 m k v, r.length = m := by
 intro r hr
 obtain ⟨q, hq, rfl⟩ := List.mem_map.1 hr
 rw [List.length_map, qO6 _ _ q hq]
theorem jS5 {m k v : Nat} : (jv4 m k v).length = (2 * k * (v + 1)) ^ m := by unfold jv4; rw [List.length_map, qz0]
def jS6 (L : List (List O3)) (i : Nat) : List (List T4) := ((L.take i).map ji3).filter isR
theorem zo1 {L : List (List O3)} {i : Nat} {r : List O3} (h : L[i]? = some r) : jS6 L (i + 1) = jS6 L i ++ [ji3 r].filter isR := by
 unfold jS6
 rw [List.take_add_one, h, List.map_append, List.filter_append]
 rfl
theorem zL9 (L : List (List O3)) (i : Nat) : (jS6 L i).length ≤ i := Nat.le_trans (List.length_filter_le _ _) (by rw [List.length_map, List.length_take]; omega)
set_option maxHeartbeats 8000000 in
set_option maxRecDepth 100000 in
theorem zo2 {n : Nat} {k : Int} (hn : n ≤ 100) (hk2 : k ≤ 100) (hB : ∀ i, i ≤ n → (2 * k.toNat * (n + 1)) ^ i ≤ 1000000) (w : World) :
  Calls Try.prog 22 #[.int .i64 (n : Int), .int .i64 k] w fun e w' => ∃ x, e = .returned x ∧ LV 22 RdH w.heap.size x (jv5 n k.toNat) w' ∧ Below w.heap.size w w' := by
 have hbA := (Below.refl w.heap.size w).alloc (Nat.le_refl _) (.cells #[] 22)
 have hxo : LV 22 RdH w.heap.size (.slice (some ⟨w.heap.size, 0, none⟩) 0 0) [] (w.alloc (.cells #[] 22)) := LV.made (Nat.le_refl _)
 have HBA := Lib.hid hbA
 have HXO := Lib.hid hxo
 have HBB := Lib.hid hB
 clear hbA hxo hB
 go_enter Try.func22, Try.ntmps22
 by_cases hk : k < 1
 ·have hk0 : k.toNat = 0 := by omega
  go_wp2_with fail
  go_ret
  exact ⟨_, rfl, by rw [show jv5 n k.toNat = [] by unfold jv5; rw [if_pos hk0]]; exact HXO.out, HBA.out⟩
 ·obtain ⟨kn, rfl⟩ : ∃ kn : Nat, k = (kn : Int) := ⟨k.toNat, by omega⟩
  rw [Int.toNat_natCast] at HBB ⊢
  have hkn : ¬ kn = 0 := by omega
  have hrl : ∀ r ∈ jv4 n kn n, r.length = n := zA3
  have hlen : (jv4 n kn n).length ≤ 1000000 := by rw [jS5]; exact HBB.out n (Nat.le_refl _)
  have hop := fun W => jS4 (m := n) (k := kn) (v := n) hn (by omega) (by omega) hn HBB.out W
  have hend : jv5 n kn = ((jv4 n kn n).map ji3).filter isR := by unfold jv5; rw [if_neg hkn]
  obtain ⟨L, hL⟩ : ∃ L, jv4 n kn n = L := ⟨_, rfl⟩
  rw [hL] at hrl hlen hop hend
  have HRL := Lib.hid hrl
  have HOP := Lib.hid hop
  have Qb2 := Lib.hid hend
  clear hrl hop hend hL
  go_upto_region 5 with (go_at_call 51; (with_reducible refine (HOP.out _).mono ?_); rintro e w1 ⟨xl, rfl, hxl, hb1⟩)
  have zz9 := HXO.out.below zn9 hb1
  have zA0 := HBA.out.trans (hb1.mono HBA.out.size)
  obtain ⟨A, c, rfl, _⟩ := hxl.slice
  obtain ⟨nl, hnl⟩ : ∃ nl, L.length = nl := ⟨_, rfl⟩
  rw [hnl] at hxl hlen ⊢
  obtain ⟨wA, hwA⟩ : ∃ W, w.alloc (.cells #[] 22) = W := ⟨_, rfl⟩
  rw [hwA] at hxl
  have HXL := Lib.hid hxl
  have HXO1 := Lib.hid zz9
  have HB1 := Lib.hid zA0
  have HNL := Lib.hid hnl
  clear hxl zz9 zA0 hnl hb1 hwA HXO HBA
  go_wp2_with fail
  go_loopw [5, 7] (fun x u wr => ∃ i : Nat, i ≤ nl ∧ u = .int .i64 ((i : Nat) : Int) ∧ LV 22 RdH w.heap.size x (jS6 L i) wr ∧ LV 53 RdO wA.heap.size (.slice A nl c) L wr ∧ Below w.heap.size w wr) (fun _ u _ => nl - (intOf u).toNat)
  case atStart => exact ⟨0, Nat.zero_le _, rfl, HXO1.out, HXL.out, HB1.out⟩
  case round =>
   clear HXO1 HXL HB1
   obtain ⟨i, hi, rfl, hxo, hxl, hb⟩ := hrel
   have HB := Lib.hid hb
   by_cases hlt : i < nl
   ·have hltz : (i : Int) < (nl : Int) := by omega
    obtain ⟨r, hr⟩ : ∃ r, L[i]? = some r := ⟨_, List.getElem?_eq_getElem (by rw [HNL.out]; exact hlt)⟩
    have hrn := HRL.out r (List.mem_of_getElem? hr)
    obtain ⟨ad, vr, rfl, y0, hvr⟩ := hxl.at hr
    obtain ⟨⟨gr, cr, rfl⟩, hro⟩ := id hvr
    have hh := zL8 hvr
    rw [hrn] at y0 hh
    have hbH := (Below.refl wr.heap.size wr).alloc (Nat.le_refl _) (.cells #[.int .i64 0, .int .i64 0, .int .i64 1, .slice (some ⟨gr, 0, none⟩) n cr] 55)
    obtain ⟨AH, cH, eH, hcH, hrH⟩ := hh.rd
    injection eH with eH1 eH2 eH3
    subst eH1
    subst eH3
    have his := za7 hrH hcH (by show (1 : Nat) ≤ 1000; omega) (fun t ht => by simp [ji3] at ht; rw [ht]; show r.length ≤ 1000; omega)
    rw [show (ji3 r).length = 1 from rfl] at his
    have hts := zo1 hr
    have hli := zL9 L i
    obtain ⟨p, hp⟩ : ∃ p, isR (ji3 r) = p := ⟨_, rfl⟩
    rw [hp] at his
    have HIS := Lib.hid his
    have HH := Lib.hid hh
    have HBH := Lib.hid hbH
    obtain ⟨Ax, cx, rfl, _⟩ := hxo.slice
    obtain ⟨lx, hlx⟩ : ∃ lx, (jS6 L i).length = lx := ⟨_, rfl⟩
    rw [hlx] at hxo hli ⊢
    have HXO := Lib.hid hxo
    have HXL := Lib.hid hxl
    have HLX := Lib.hid hlx
    have HTS := Lib.hid hts
    have HP := Lib.hid hp
    clear hxo hxl hb hr hrn hvr hro hh hbH hcH hrH his hts hp eH2 hlx
    cases p with
    | true =>
     go_upto_region 10 with (go_at_call 35; (with_reducible refine HIS.out.mono ?_); rintro e w2 ⟨rfl, hb2⟩)
     have jv6 := HBH.out.trans (hb2.mono HBH.out.size)
     have hcz := alloc_at w2 (.cells #[.slice (some ⟨wr.heap.size, 0, none⟩) 1 1] 22)
     have hb3 := (Below.refl w2.heap.size w2).alloc (Nat.le_refl _) (.cells #[.slice (some ⟨wr.heap.size, 0, none⟩) 1 1] 22)
     have zo3 := jv6.trans (hb3.mono jv6.size)
     obtain ⟨A3, c3, W3, hr3, ja4, hk3, hg3⟩ := (HXO.out.below zn9 zo3).append sl_h zn9 (a := ji3 r) hcz rfl (zn9 _ _ _ _ (KT.of_below hb3) (zn9 _ _ _ _ (KT.of_below hb2) HH.out)) (Nat.le_trans HB.out.size zo3.size) (by rw [HLX.out]; omega)
     have zA2 := (HXL.out.below jS3 zo3).kt (jf5 (by decide)) hk3 (by decide)
     have hbw := (HB.out.trans (zo3.mono HB.out.size)).grown hg3 (Nat.le_trans HB.out.size zo3.size) (fun q hq => (HXO.out.lt q hq).1)
     rw [show [ji3 r].filter isR = [ji3 r] by simp [HP.out]] at HTS
     rw [← HTS.out] at ja4
     rw [HLX.out] at hr3 ja4
     have HR3 := Lib.hid hr3
     have HXN := Lib.hid ja4
     have Qb4 := Lib.hid zA2
     have HB3 := Lib.hid hbw
     clear hb2 jv6 hcz hb3 zo3 hr3 ja4 hk3 hg3 zA2 hbw
     go_wp2_with (at_builtin; refine qY.wpList_append_run rfl _ _ _ rfl _ _ rfl rfl _ rfl HR3.out ?_; clear HR3)
     go_roundw
     case rel => exact ⟨i + 1, by omega, by go_num, HXN.out, Qb4.out, HB3.out⟩
     case measure => (simp [intOf]; try omega)
    | false =>
     rw [show [ji3 r].filter isR = [] by simp [HP.out], List.append_nil] at HTS
     go_wp2_with (go_at_call 35; (with_reducible refine HIS.out.mono ?_); rintro e w2 ⟨rfl, hb2⟩; have HB2 := Lib.hid (HBH.out.trans (hb2.mono HBH.out.size)); clear hb2)
     go_roundw
     case rel => exact ⟨i + 1, by omega, by go_num, by rw [HTS.out]; exact HXO.out.below zn9 HB2.out, HXL.out.below jS3 HB2.out, HB.out.trans (HB2.out.mono HB.out.size)⟩
     case measure => (simp [intOf]; try omega)
   ·have hin : i = nl := by omega
    subst hin
    rw [show jS6 L i = jv5 n kn by unfold jS6; rw [List.take_of_length_le (by rw [HNL.out]; exact Nat.le_refl _), Qb2.out]] at hxo
    clear hb hxl
    go_wp2_with fail
    go_ret
    exact ⟨_, rfl, hxo, HB.out⟩
end Go.Proofs.Ytngkneknopenmaa.Ref23
end
section
namespace Go.Proofs.Ytngkneknopenmaa.Ref23
open Go Go.Lib Go.RowKit Go.Proofs.Ytngkneknopenmaa Go.Proofs.Ytngkneknopenmaa.zQ Go.Proofs.Ytngkneknopenmaa.qb0 Go.Proofs.Ytngkneknopenmaa.qf6 Go.Proofs.Ytngkneknopenmaa.qc7
set_option linter.unusedSimpArgs false
theorem zA4 (a : Int) : ∃ b : Int, a.tmod 3 = b ∧ -2 ≤ b ∧ b ≤ 2 := ⟨_, rfl, by have := Int.lt_tmod_of_pos a (b := 3) (by omega); omega, by have := Int.tmod_lt_of_pos a (b := 3) (by omega); omega⟩
theorem Qb5 {a : Int} (h : (Lit.int .i8 a).wf = true) : -128 ≤ a ∧ a ≤ 127 := by simpa [Lit.wf, IntKind.min, IntKind.max, IntKind.signed, IntKind.bits] using h
def TC (q : Nat) (S T O K : Int) (W : World) : Prop := W.cell? ⟨q, 0, none⟩ = some (.int .i64 S) ∧ W.cell? ⟨q, 1, none⟩ = some (.int .i64 T) ∧ W.cell? ⟨q, 2, none⟩ = some (.int .i64 O) ∧ W.cell? ⟨q, 3, none⟩ = some (.int .i64 K)
theorem TC.of {q : Nat} {S T O K : Int} {W : World} (h : W.heap[q]? = some (.cells #[.int .i64 S, .int .i64 T, .int .i64 O, .int .i64 K] 41 (0, 0))) : TC q S T O K W := by
 have x0 := Lib.cell_of_heap h 0
 have x1 := Lib.cell_of_heap h 1
 have x2 := Lib.cell_of_heap h 2
 have x3 := Lib.cell_of_heap h 3
 simp only [List.getElem?_toArray, List.getElem?_cons_zero, List.getElem?_cons_succ] at x0 x1 x2 x3
 exact ⟨x0, x1, x2, x3⟩
theorem zM0 (W : World) (A : Option Addr) : RdL W A [] := fun h => by simp at h
set_option maxHeartbeats 8000000 in
set_option maxRecDepth 100000 in
theorem enumOne_walk (a b d : Int) (w : World) (wa : (Lit.int .i8 a).wf = true) (wb : (Lit.int .i8 b).wf = true) (wd : (Lit.int .i8 d).wf = true) :
  Calls Try.prog 6 #[.int .i8 a, .int .i8 b, .int .i8 d] w fun e w' => e = .returned (.bool true) ∧ Below w.heap.size w w' := by
 obtain ⟨a1, a2⟩ := Qb5 wa
 obtain ⟨b1, b2⟩ := Qb5 wb
 obtain ⟨d1, d2⟩ := Qb5 wd
 obtain ⟨n, hn, hn1, hn2⟩ := zA4 a
 obtain ⟨k, hk, hk1, hk2⟩ := zA4 b
 obtain ⟨s, hs, hs1, hs2⟩ := zA4 d
 have g0 := wrI (x := a) (by omega) (by omega)
 have g1 := wrI (x := b) (by omega) (by omega)
 have g2 := wrI (x := d) (by omega) (by omega)
 have HSP := Lib.hid (jp0 w)
 obtain ⟨e1, e2, e3, e4, e5, e6⟩ := jG3 (zz3 hn1 hn2 hk1 hk2 hs1 hs2)
 obtain ⟨L, hL⟩ : ∃ L, qy1 s 1 2 k 1 n = L := ⟨_, rfl⟩
 obtain ⟨M, hM⟩ : ∃ M, qO5 n k s = M := ⟨_, rfl⟩
 have hli := fun V => jo9 (S := s) (T := 1) (O := 2) (K := k) (n := 1) (m := n) (most := 10000) (L := L) (by omega) (by omega) hL (by omega) e6 V
 have hct := fun V => qC5 (S := s) (T := 1) (O := 2) (K := k) (n := 1) (m := n) (L := L) (by omega) (by omega) hL (by rw [hL] at e5; omega) e6 V
 rw [hL, hM] at e1 e2
 rw [hL] at e3 e4 e5
 rw [show L.take (max (10000 : Int) 1).toNat = L from List.take_of_length_le (by omega)] at hli
 have hMs : ∀ x ∈ M, x.length ≤ 1000 ∧ ∀ t ∈ x, t.ops.length ≤ 100000 := by
  rw [← hM]
  unfold qO5
  split
  ·exact zb1
  ·intro x hx; cases hx
 have HLI := Lib.hid hli
 have HCT := Lib.hid hct
 have HE := Lib.hid (show L.length = M.length ∧ (∀ h ∈ L, h ∈ M) ∧ L.Nodup from ⟨e1, e2, e3⟩)
 have HSM := Lib.hid (show (∀ x ∈ L, x.length ≤ 1000 ∧ ∀ t ∈ x, t.ops.length ≤ 100000) ∧ ∀ x ∈ M, x.length ≤ 1000 ∧ ∀ t ∈ x, t.ops.length ≤ 100000 from ⟨e4, hMs⟩)
 have HM := Lib.hid hM
 clear wa wb wd e1 e2 e3 e4 e6 hL hM hli hct hMs
 go_enter Try.func6, Try.ntmps6
 go_upto_region 5 with (go_at_call 21; (with_reducible refine HSP.out.mono ?_); rintro e v1 ⟨rfl, hb1⟩)
 have Qb6 := hb1.alloc hb1.size (.cells #[.int .i64 s, .int .i64 1, .int .i64 2, .int .i64 k] 41)
 have hx5 := alloc_at v1 (.cells #[.int .i64 s, .int .i64 1, .int .i64 2, .int .i64 k] 41)
 obtain ⟨q, hq⟩ : ∃ q, v1.heap.size = q := ⟨_, rfl⟩
 obtain ⟨w5, hw5⟩ : ∃ W, v1.alloc (.cells #[.int .i64 s, .int .i64 1, .int .i64 2, .int .i64 k] 41) = W := ⟨_, rfl⟩
 rw [hq] at hx5
 rw [hw5] at Qb6 hx5
 rw [hq, hw5]
 have HB5 := Lib.hid Qb6
 have HQ := Lib.hid hx5
 clear Qb6 hx5 hq hw5 hb1 hn hk hs g0 g1 g2 HSP
 go_upto_region 6 with fail
 obtain ⟨nm, hnm⟩ : ∃ nm, M.length = nm := ⟨_, rfl⟩
 by_cases h1 : 1 ≤ n ∧ 1 ≤ s
 ·have hMe : M = jv5 n.toNat k.toNat := by rw [← HM.out]; unfold qO5; rw [if_pos h1]
  obtain ⟨h1, h2⟩ := h1
  have hB : ∀ i, i ≤ n.toNat → (2 * k.toNat * (n.toNat + 1)) ^ i ≤ 1000000 := by
   intro i hi
   have hb2 : 2 * k.toNat * (n.toNat + 1) ≤ 12 := by
    have : 2 * k.toNat * (n.toNat + 1) ≤ 4 * 3 := Nat.mul_le_mul (by omega) (by omega)
    exact this
   have : (2 * k.toNat * (n.toNat + 1)) ^ i ≤ 12 ^ i := Nat.pow_le_pow_left hb2 i
   have : (12 : Nat) ^ i ≤ 12 ^ 2 := Nat.pow_le_pow_right (by omega) (by omega)
   omega
  have hon := fun W => zo2 (n := n.toNat) (k := k) (by omega) (by omega) hB W
  rw [show ((n.toNat : Nat) : Int) = n by omega, ← hMe] at hon
  have HON := Lib.hid hon
  clear hB hon hMe
  go_upto_region 8 with (go_at_call 22; (with_reducible refine (HON.out _).mono ?_); rintro e w6 ⟨x, rfl, hxx, hb6⟩)
  obtain ⟨A, c, rfl, _⟩ := hxx.slice
  have hrd := hxx.rdL
  rw [hnm]
  clear hxx HON h1 h2
  have HB6 := Lib.hid (HB5.out.trans (hb6.mono HB5.out.size))
  obtain ⟨x0, x1, x2, x3⟩ := TC.of ((hb6.block _ (Array.getElem?_eq_some_iff.1 HQ.out).1).trans HQ.out)
  have HRD := Lib.hid hrd
  have HTC := Lib.hid (fun W (hb : Below w6.heap.size w6 W) => TC.of ((hb.block q (by have := (Array.getElem?_eq_some_iff.1 HQ.out).1; have := hb6.size; omega)).trans ((hb6.block _ (Array.getElem?_eq_some_iff.1 HQ.out).1).trans HQ.out)))
  have hLM := HE.out.1
  rw [hnm] at hLM
  have HNM := Lib.hid hnm
  have HLN := Lib.hid hLM
  rw [hLM] at HCT
  clear hrd hb6 hnm hLM
  go_wp2_with (first
   | (go_at_call 24; (with_reducible refine (HLI.out _).mono ?_); rintro e w7 ⟨⟨v7, its, C7, rfl, hls, hmp⟩, hb7⟩; obtain ⟨A7, c7, rfl, hc7⟩ := LS.slice hls; have HB7 := Lib.hid hb7; have hl7 : its.length = nm := by { rw [← HLN.out, ← hmp, List.length_map] }; have hr7 := LS.rdL hls; rw [hmp] at hr7; rw [hl7] at hc7 ⊢; have HR7 := Lib.hid hr7; clear hls hmp hb7 hl7 hr7; clear x0 x1 x2 x3)
   | (go_at_call 23; have hsm := qM8 (w := w7) (A := A7) (B := A) (c := c7) (d := c) HR7.out (by rw [HLN.out]; exact hc7) (by omega) HSM.out.1 HSM.out.2 (HRD.out.below HB7.out) HE.out.1 HE.out.2.1 HE.out.2.2; rw [HLN.out, HNM.out] at hsm; (with_reducible refine hsm.mono ?_); clear hsm; rintro e w8 ⟨rfl, hb8⟩; have HB8 := Lib.hid (HB7.out.trans (hb8.mono HB7.out.size)); clear hb8; obtain ⟨x0, x1, x2, x3⟩ := HTC.out _ HB8.out)
   | (go_at_call 25; (with_reducible refine (HCT.out _).mono ?_); rintro e w9 ⟨rfl, hb9⟩; have HB9 := Lib.hid (HB8.out.trans (hb9.mono HB8.out.size)); clear hb9))
  go_ret
  exact ⟨by simp, HB6.out.trans (HB9.out.mono HB6.out.size)⟩
 ·have hMe : M = [] := by rw [← HM.out]; unfold qO5; rw [if_neg h1]
  have hrd : RdL w5 none M := by rw [hMe]; exact zM0 _ _
  have hnm0 : nm = 0 := by rw [← hnm, hMe]; rfl
  have hb6 := Below.refl w5.heap.size w5
  obtain ⟨w6, hw6⟩ : ∃ w6, w5 = w6 := ⟨_, rfl⟩
  obtain ⟨A, hA⟩ : ∃ A : Option Addr, none = A := ⟨_, rfl⟩
  obtain ⟨c, hc⟩ : ∃ c, nm = c := ⟨_, rfl⟩
  have he : Value.slice none 0 0 = Value.slice A nm c := by rw [← hc, ← hA, hnm0]
  rw [hA] at hrd
  have HE0 := Lib.hid he
  have HW6 := Lib.hid hw6
  have zM1 := Lib.hid hrd
  have Qb7 := Lib.hid hb6
  have zM2 := Lib.hid hnm
  clear hMe hnm0 he hw6 hA hc hrd hb6 hnm
  by_cases h2 : 1 ≤ n
  ·have h3 : ¬ 1 ≤ s := fun h => h1 ⟨h2, h⟩
   go_upto_region 8 with fail
   rw [HE0.out]
   have hnm := zM2.out
   have hrd := zM1.out
   have hb6 := Qb7.out
   clear h2 h3 h1 HE0 zM1 Qb7 zM2
   rw [HW6.out] at hrd ⊢
   have hb6 : Below w5.heap.size w5 w6 := HW6.out ▸ Below.refl w5.heap.size w5
   have HB6 := Lib.hid (HB5.out.trans (hb6.mono HB5.out.size))
   obtain ⟨x0, x1, x2, x3⟩ := TC.of ((hb6.block _ (Array.getElem?_eq_some_iff.1 HQ.out).1).trans HQ.out)
   have HRD := Lib.hid hrd
   have HTC := Lib.hid (fun W (hb : Below w6.heap.size w6 W) => TC.of ((hb.block q (by have := (Array.getElem?_eq_some_iff.1 HQ.out).1; have := hb6.size; omega)).trans ((hb6.block _ (Array.getElem?_eq_some_iff.1 HQ.out).1).trans HQ.out)))
   have hLM := HE.out.1
   rw [hnm] at hLM
   have HNM := Lib.hid hnm
   have HLN := Lib.hid hLM
   rw [hLM] at HCT
   clear hrd hb6 hnm hLM
   go_wp2_with (first
    | (go_at_call 24; (with_reducible refine (HLI.out _).mono ?_); rintro e w7 ⟨⟨v7, its, C7, rfl, hls, hmp⟩, hb7⟩; obtain ⟨A7, c7, rfl, hc7⟩ := LS.slice hls; have HB7 := Lib.hid hb7; have hl7 : its.length = nm := by { rw [← HLN.out, ← hmp, List.length_map] }; have hr7 := LS.rdL hls; rw [hmp] at hr7; rw [hl7] at hc7 ⊢; have HR7 := Lib.hid hr7; clear hls hmp hb7 hl7 hr7; clear x0 x1 x2 x3)
    | (go_at_call 23; have hsm := qM8 (w := w7) (A := A7) (B := A) (c := c7) (d := c) HR7.out (by rw [HLN.out]; exact hc7) (by omega) HSM.out.1 HSM.out.2 (HRD.out.below HB7.out) HE.out.1 HE.out.2.1 HE.out.2.2; rw [HLN.out, HNM.out] at hsm; (with_reducible refine hsm.mono ?_); clear hsm; rintro e w8 ⟨rfl, hb8⟩; have HB8 := Lib.hid (HB7.out.trans (hb8.mono HB7.out.size)); clear hb8; obtain ⟨x0, x1, x2, x3⟩ := HTC.out _ HB8.out)
    | (go_at_call 25; (with_reducible refine (HCT.out _).mono ?_); rintro e w9 ⟨rfl, hb9⟩; have HB9 := Lib.hid (HB8.out.trans (hb9.mono HB8.out.size)); clear hb9))
   go_ret
   exact ⟨by simp, HB6.out.trans (HB9.out.mono HB6.out.size)⟩
  ·go_upto_region 8 with fail
   rw [HE0.out]
   have hnm := zM2.out
   have hrd := zM1.out
   clear h2 h1 HE0 zM1 Qb7 zM2
   rw [HW6.out] at hrd ⊢
   have hb6 : Below w5.heap.size w5 w6 := HW6.out ▸ Below.refl w5.heap.size w5
   have HB6 := Lib.hid (HB5.out.trans (hb6.mono HB5.out.size))
   obtain ⟨x0, x1, x2, x3⟩ := TC.of ((hb6.block _ (Array.getElem?_eq_some_iff.1 HQ.out).1).trans HQ.out)
   have HRD := Lib.hid hrd
   have HTC := Lib.hid (fun W (hb : Below w6.heap.size w6 W) => TC.of ((hb.block q (by have := (Array.getElem?_eq_some_iff.1 HQ.out).1; have := hb6.size; omega)).trans ((hb6.block _ (Array.getElem?_eq_some_iff.1 HQ.out).1).trans HQ.out)))
   have hLM := HE.out.1
   rw [hnm] at hLM
   have HNM := Lib.hid hnm
   have HLN := Lib.hid hLM
   rw [hLM] at HCT
   clear hrd hb6 hnm hLM
   go_wp2_with (first
    | (go_at_call 24; (with_reducible refine (HLI.out _).mono ?_); rintro e w7 ⟨⟨v7, its, C7, rfl, hls, hmp⟩, hb7⟩; obtain ⟨A7, c7, rfl, hc7⟩ := LS.slice hls; have HB7 := Lib.hid hb7; have hl7 : its.length = nm := by { rw [← HLN.out, ← hmp, List.length_map] }; have hr7 := LS.rdL hls; rw [hmp] at hr7; rw [hl7] at hc7 ⊢; have HR7 := Lib.hid hr7; clear hls hmp hb7 hl7 hr7; clear x0 x1 x2 x3)
    | (go_at_call 23; have hsm := qM8 (w := w7) (A := A7) (B := A) (c := c7) (d := c) HR7.out (by rw [HLN.out]; exact hc7) (by omega) HSM.out.1 HSM.out.2 (HRD.out.below HB7.out) HE.out.1 HE.out.2.1 HE.out.2.2; rw [HLN.out, HNM.out] at hsm; (with_reducible refine hsm.mono ?_); clear hsm; rintro e w8 ⟨rfl, hb8⟩; have HB8 := Lib.hid (HB7.out.trans (hb8.mono HB7.out.size)); clear hb8; obtain ⟨x0, x1, x2, x3⟩ := HTC.out _ HB8.out)
    | (go_at_call 25; (with_reducible refine (HCT.out _).mono ?_); rintro e w9 ⟨rfl, hb9⟩; have HB9 := Lib.hid (HB8.out.trans (hb9.mono HB8.out.size)); clear hb9))
   go_ret
   exact ⟨by simp, HB6.out.trans (HB9.out.mono HB6.out.size)⟩
end Go.Proofs.Ytngkneknopenmaa.Ref23
end
