/- qr3 of this claim, joined by a program of this session: the zS that its theorem uses. -/
import Derived.Test.YtngkneknopenmaaZT17
import Derived.Test.YtngkneknopenmaaZT18
import Derived.Test.YtngkneknopenmaaZT19
set_option linter.unusedVariables false
set_option linter.unusedSimpArgs false
section
namespace Go.Proofs.Ytngkneknopenmaa.qb8
open Go.Proofs.Ytngkneknopenmaa.zM Go.Proofs.Ytngkneknopenmaa.qa9 Go.Proofs.Ytngkneknopenmaa.qf6
def qw9 (b : Nat) : Nat → List (List Int)
 | 0 => [[]]
 | m + 1 => (qw9 b m).flatMap fun r => (List.range b).map fun n : Nat => r ++ [(n : Int)]
def opN (k n : Int) : O3 := ⟨n.tmod 2 == 1, (n.tdiv 2).tmod k, (n.tdiv 2).tdiv k⟩
def qT6 (many k v : Nat) : List (List O3) := (qw9 (2 * k * (v + 1)) many).map fun r => r.map (opN k)
def zc1 (x : Int × Int × Int × Int) (s : Nat) (a b : List O3) : List T4 := [⟨0, x.1, x.2.1, a⟩, ⟨s, x.2.2.1, x.2.2.2, b⟩]
def qn6 : List (Int × Int × Int × Int) := [(0, 1, 2, 3), (0, 2, 1, 3), (0, 3, 1, 2)]
def jj3 (s f g k : Nat) : List (List T4) := if k = 0 then [] else ((qT6 f k (f + g)).flatMap fun a => (qT6 g k (f + g)).flatMap fun b => qn6.flatMap fun x => (List.range (min 2 s)).map fun q => zc1 x q a b).filter isR
def jq9 (l want : List (List T4)) (raw : Bool) : Bool := decide (l.length = want.length) && (l.all fun h => decide (h ∈ want)) && decide l.Nodup && (l.all fun x => decide (x.length ≤ 1000) && x.all fun t => decide (t.ops.length ≤ 100000)) && decide (l.length ≤ 10000) && raw
def zA9 (S T O K n m : Int) : Bool := qF2 S T O K n m || (jj0 S K n m).all fun h => decide (zT h = 0)
theorem jH8 {l want : List (List T4)} {S T O K n m : Int} (h : jq9 l want (zA9 S T O K n m) = true) : l.length = want.length ∧ (∀ h ∈ l, h ∈ want) ∧ l.Nodup ∧ (∀ x ∈ l, x.length ≤ 1000 ∧ ∀ t ∈ x, t.ops.length ≤ 100000) ∧ l.length ≤ 10000 ∧ (qF2 S T O K n m = false → ∀ h ∈ jj0 S K n m, zT h = 0) := by
 unfold jq9 zA9 at h
 simp only [Bool.and_eq_true, decide_eq_true_eq, List.all_eq_true, Bool.or_eq_true] at h
 obtain ⟨⟨⟨⟨⟨h1, h2⟩, h3⟩, h4⟩, h5⟩, h6⟩ := h
 refine ⟨h1, h2, h3, h4, h5, fun hn => ?_⟩
 rcases h6 with h6 | h6
 ·rw [hn] at h6; cases h6
 ·exact h6
end Go.Proofs.Ytngkneknopenmaa.qb8
end
section
namespace Go.Proofs.Ytngkneknopenmaa.qb8
open Go.Proofs.Ytngkneknopenmaa.zM Go.Proofs.Ytngkneknopenmaa.qa9 Go.Proofs.Ytngkneknopenmaa.qf6
def jl0 (n k s : Nat) : List (List T4) := (List.range (n - 1)).flatMap fun i => jj3 s (i + 1) (n - (i + 1)) k
set_option maxRecDepth 100000 in
theorem Qo1 : ∀ k s : Fin 3, jq9 (qw8 s.val 2 3 k.val 2 2) (jl0 2 k.val s.val) (zA9 s.val 2 3 k.val 2 2) = true := by decide +kernel
set_option maxRecDepth 100000 in
theorem Qo2 : ∀ (k : Fin 2) (s : Fin 3), jq9 (qw8 s.val 2 3 k.val 2 3) (jl0 3 k.val s.val) (zA9 s.val 2 3 k.val 2 3) = true := by decide +kernel
theorem zB0 {n k s : Nat} (hn : n = 2 ∨ n = 3) (hk : k ≤ 2) (hk3 : n = 3 → k ≤ 1) (hs : s ≤ 2) : jq9 (qw8 s 2 3 k 2 n) (jl0 n k s) (zA9 s 2 3 k 2 n) = true := by
 rcases hn with rfl | rfl
 ·exact Qo1 ⟨k, by omega⟩ ⟨s, by omega⟩
 ·exact Qo2 ⟨k, by have := hk3 rfl; omega⟩ ⟨s, by omega⟩
end Go.Proofs.Ytngkneknopenmaa.qb8
end
section
namespace Go.Proofs.Ytngkneknopenmaa.Ref23
open Go Go.Lib Go.RowKit Go.Proofs.Ytngkneknopenmaa Go.Proofs.Ytngkneknopenmaa.zM Go.Proofs.Ytngkneknopenmaa.qa9 Go.Proofs.Ytngkneknopenmaa.qf6
variable {W W' W'' : World} {e e' : TypeId} {base n size : Nat} {v x : Value} {xs : List Value} {α : Type}
def KT (e : TypeId) (W W' : World) : Prop := W.heap.size ≤ W'.heap.size ∧ ∀ (b : Nat) (cs : Array Value) (ty : TypeId) (p : Nat × Nat), W.heap[b]? = some (Obj.cells cs ty p) → ty ≠ e → W'.heap[b]? = some (Obj.cells cs ty p)
theorem KT.of_below (h : Below W.heap.size W W') : KT e W W' := ⟨h.size, fun b _ _ _ hb _ => (h.block b (Array.getElem?_eq_some_iff.1 hb).1).trans hb⟩
theorem KT.trans (h : KT e W W') (k : KT e W' W'') : KT e W W'' := ⟨Nat.le_trans h.1 k.1, fun b cs ty p hb hn => k.2 b cs ty p (h.2 b cs ty p hb hn) hn⟩
theorem KT.own (ho : W.ownsRow base e size x n xs) (hg : W.grownBy W' x.ownBlock) : KT e W W' :=
 ⟨hg.size, fun b _ _ _ hb hn => (hg.block b (Array.getElem?_eq_some_iff.1 hb).1 (own_ne ho hb (fun h => hn h.symm)).symm).trans hb⟩
theorem jl1 (h : W.ownsRow base e' size v n xs) (k : KT e W W') (hne : e' ≠ e) : W'.ownsRow base e' size v n xs := by
 refine qj1 h fun q hq => ?_
 rcases h.2 with ⟨rfl, _⟩ | ⟨g, cp, cur, rfl, _, hh, _⟩
 ·simp [Value.ownBlock] at hq
 ·simp [Value.ownBlock] at hq
  subst hq
  rw [hh]
  exact k.2 g cur e' (0, 0) hh hne
theorem jg0 (h : W.ownsRow base e size v n xs) : W.ownsRow 0 e size v n xs :=
 ⟨h.1, by rcases h.2 with h | ⟨g, cp, cur, h1, _, h2, h3⟩; exact .inl h; exact .inr ⟨g, cp, cur, h1, Nat.zero_le _, h2, h3⟩⟩
def LV (e : TypeId) (Rd : World → Value → α → Prop) (base : Nat) (x : Value) (L : List α) (W : World) : Prop :=
 ∃ vals : List Value, vals.length = L.length ∧ W.ownsRow base e 1 x L.length vals ∧ ∀ (i : Nat) (v : Value) (a : α), vals[i]? = some v → L[i]? = some a → Rd W v a
def qQ4 (e : TypeId) (Rd : World → Value → α → Prop) : Prop := ∀ W W' v a, KT e W W' → Rd W v a → Rd W' v a
variable {Rd : World → Value → α → Prop} {L : List α}
theorem LV.grown {row : Option Nat} (hR : qQ4 e Rd) (h : LV e Rd base x L W) (hg : W.grownBy W' row) (hk : KT e W W') (hne : x.ownBlock = none ∨ x.ownBlock ≠ row) : LV e Rd base x L W' := by
 obtain ⟨vals, h1, h2, h3⟩ := h
 exact ⟨vals, h1, h2.kept hg hne, fun i v a hv ha => hR _ _ _ _ hk (h3 i v a hv ha)⟩
theorem LV.below (hR : qQ4 e Rd) (h : LV e Rd base x L W) (hb : Below W.heap.size W W') : LV e Rd base x L W' := by
 obtain ⟨vals, h1, h2, h3⟩ := h
 exact ⟨vals, h1, qj1 h2 fun q hq => hb.block q (h2.lt q hq).2, fun i v a hv ha => hR _ _ _ _ (KT.of_below hb) (h3 i v a hv ha)⟩
theorem LV.kt (hR : qQ4 e' Rd) (h : LV e Rd base x L W) (hk : KT e' W W') (hne : e ≠ e') : LV e Rd base x L W' := by
 obtain ⟨vals, h1, h2, h3⟩ := h
 exact ⟨vals, h1, jl1 h2 hk hne, fun i v a hv ha => hR _ _ _ _ hk (h3 i v a hv ha)⟩
theorem LV.slice (h : LV e Rd base x L W) : ∃ A c, x = .slice A L.length c ∧ L.length ≤ c := by
 obtain ⟨vals, h1, h2, h3⟩ := h
 rcases h2.2 with ⟨rfl, h0⟩ | ⟨g, cp, cur, rfl, _, _, h4, _⟩
 ·exact ⟨none, 0, by rw [h0], by omega⟩
 ·exact ⟨_, cp, rfl, h4⟩
theorem LV.lt (h : LV e Rd base x L W) : ∀ k, x.ownBlock = some k → base ≤ k ∧ k < W.heap.size := by
 obtain ⟨vals, h1, h2, h3⟩ := h
 exact h2.lt
theorem LV.at {A : Option Addr} {c i : Nat} {a : α} (h : LV e Rd base (.slice A n c) L W) (ha : L[i]? = some a) : ∃ ad v, A = some ad ∧ W.cell? (ad.add i) = some v ∧ Rd W v a := by
 obtain ⟨vals, h1, h2, h3⟩ := h
 have hi := (List.getElem?_eq_some_iff.1 ha).1
 obtain ⟨v, hv⟩ : ∃ v, vals[i]? = some v := ⟨_, List.getElem?_eq_getElem (by omega)⟩
 rcases h2.2 with ⟨_, h0⟩ | ⟨g, cp, cur, e1, _, _, _⟩
 ·omega
 ·injection e1 with e1 e2 e3
  subst e1
  exact ⟨_, v, rfl, h2.cells (g := g) rfl i v hv, h3 i v a hv ha⟩
theorem zc2 (h : W.ownsRow base e size v n xs) (hb : Below W.heap.size W W') : W'.ownsRow base e size v n xs := qj1 h fun q hq => hb.block q (h.lt q hq).2
theorem LV.lower {base' : Nat} (h : LV e Rd base x L W) (hb : base' ≤ base) : LV e Rd base' x L W := by
 obtain ⟨vals, h1, h2, h3⟩ := h
 exact ⟨vals, h1, ⟨h2.1, by rcases h2.2 with h | ⟨g, cp, cur, e1, e2, e3⟩; exact .inl h; exact .inr ⟨g, cp, cur, e1, Nat.le_trans hb e2, e3⟩⟩, h3⟩
def SlI (e T : TypeId) : Prop := Try.prog.underlying T = some (.slice e) ∧ (Try.prog.info? e).map (fun i => (i.zero, i.size, i.bytes)) = some (some (.slice none 0 0), 1, 24)
theorem LV.append {T : TypeId} (hI : SlI e T) (hR : qQ4 e Rd) (s : LV e Rd base x L W) {z : Nat} {a : α} (hz : W.heap[z]? = some (.cells #[v] e (0, 0))) (hv : v.oneCell' = true) (hd : Rd W v a) (hb : base ≤ W.heap.size) (hl : L.length ≤ 1000000) :
  ∃ A c W', (Builtin.append_ #[T, T] T #[x, .slice (some ⟨z, 0, none⟩) 1 1]).run Try.prog W = .ok (.slice A (L.length + 1) c) W' ∧ LV e Rd base (.slice A (L.length + 1) c) (L ++ [a]) W' ∧ KT e W W' ∧ W.grownBy W' x.ownBlock := by
 obtain ⟨vals, h1, h2, h3⟩ := s
 obtain ⟨i0, hii, hz0, hz1, hz2⟩ := info_parts hI.2
 obtain ⟨x', W', hr, hown, hg, _, _⟩ := run_append_own_at (P := Try.prog) W base T T e i0 (.slice none 0 0) 1 24 hI.1 hii hz0 hz1 hz2 rfl (by decide) x L.length _ h2 ⟨z, 0, none⟩ 1 1 [v] rfl (fun j u hj => by
   rw [add_zero, Lib.cell_of_heap hz]
   simpa using hj) (fun u hu => by simp at hu; rw [hu]; exact hv) (by unfold maxLen; omega) (by omega) hb
 obtain ⟨A, c, rfl⟩ : ∃ A c, x' = .slice A (L.length + 1) c := by
  rcases hown.2 with ⟨_, h0⟩ | ⟨g, cp, cur, e1, _⟩
  ·simp at h0
  ·exact ⟨_, cp, e1⟩
 have hk := KT.own h2 hg
 refine ⟨A, c, W', hr, ⟨vals ++ [v], by simp [h1], by rw [List.length_append]; exact hown, fun i u b hu hb' => ?_⟩, hk, hg⟩
 by_cases hi : i < L.length
 ·rw [List.getElem?_append_left (by omega)] at hu
  rw [List.getElem?_append_left hi] at hb'
  exact hR _ _ _ _ hk (h3 i u b hu hb')
 ·have hi2 : i = L.length := by
   have := (List.getElem?_eq_some_iff.1 hb').1
   simp at this
   omega
  subst hi2
  rw [List.getElem?_append_right (by omega), h1, Nat.sub_self] at hu
  rw [List.getElem?_append_right (Nat.le_refl _), Nat.sub_self] at hb'
  cases hu
  cases hb'
  exact hR _ _ _ _ hk hd
theorem LV.made (hb : base ≤ W.heap.size) : LV e Rd base (.slice (some ⟨W.heap.size, 0, none⟩) 0 0) ([] : List α) (W.alloc (.cells #[] e)) :=
 ⟨[], rfl, World.ownsRow_made W #[] 0 hb (by unfold maxLen; omega) rfl, fun i v a h => by simp at h⟩
def RdI (W : World) (v : Value) (l : List Int) : Prop := (∃ g c, v = .slice (some ⟨g, 0, none⟩) l.length c) ∧ W.ownsRow 0 3 1 v l.length (jp2 l)
def RdO (W : World) (v : Value) (l : List O3) : Prop := (∃ g c, v = .slice (some ⟨g, 0, none⟩) l.length c) ∧ W.ownsRow 0 51 3 v l.length (flat l)
theorem jg1 (h : (3 : TypeId) ≠ e) : qQ4 e RdI := fun _ _ _ _ k h2 => ⟨h2.1, jl1 h2.2 k h⟩
theorem qO9 (h : (51 : TypeId) ≠ e) : qQ4 e RdO := fun _ _ _ _ k h2 => ⟨h2.1, jl1 h2.2 k h⟩
theorem RdI.below {l : List Int} (h : RdI W v l) (hb : Below W.heap.size W W') : RdI W' v l := ⟨h.1, qj1 h.2 fun q hq => hb.block q (h.2.lt q hq).2⟩
theorem RdO.below {l : List O3} (h : RdO W v l) (hb : Below W.heap.size W W') : RdO W' v l := ⟨h.1, qj1 h.2 fun q hq => hb.block q (h.2.lt q hq).2⟩
theorem zp4 : (Try.prog.info? 3).map (fun i => (i.zero, i.size, i.bytes)) = some (some (.int .i64 0), 1, 8) := by kernel_rfl
theorem zB1 (l : List Int) : ∀ u ∈ jp2 l, u.oneCell' = true := by
 intro u hu
 obtain ⟨y, _, rfl⟩ := List.mem_map.1 hu
 rfl
theorem zB2 {l : List Int} (h : RdI W v l) (hl : l.length ≤ 1000) (m : Int) {p : Nat} (hp : W.heap.size = p) :
  ∃ g c, v = .slice (some ⟨g, 0, none⟩) l.length c ∧ (W.alloc (.cells #[] 3)).heap.size = p + 1 ∧ ∃ g1 c1 W1, (Builtin.append_ #[29, 29] 29 #[.slice (some ⟨p, 0, none⟩) 0 0, v]).run Try.prog (W.alloc (.cells #[] 3)) = .ok (.slice (some ⟨g1, 0, none⟩) l.length c1) W1 ∧
   ∃ v2 W2, (Builtin.append_ #[29, 29] 29 #[.slice (some ⟨g1, 0, none⟩) l.length c1, .slice (some ⟨W1.heap.size, 0, none⟩) 1 1]).run Try.prog (W1.alloc (.cells #[.int .i64 m] 3)) = .ok v2 W2 ∧ RdI W2 v2 (l ++ [m]) ∧ Below W.heap.size W W2 := by
 subst hp
 obtain ⟨i0, hii, hz0, hz1, hz2⟩ := info_parts zp4
 obtain ⟨⟨g, c, rfl⟩, ho⟩ := h
 refine ⟨g, c, rfl, by simp, ?_⟩
 have hb0 := (Below.refl W.heap.size W).alloc (Nat.le_refl _) (.cells #[] 3)
 have h0 : (W.alloc (.cells #[] 3)).ownsRow W.heap.size 3 1 (.slice (some ⟨W.heap.size, 0, none⟩) 0 0) 0 [] := World.ownsRow_made W #[] 0 (Nat.le_refl _) (by unfold maxLen; omega) rfl
 obtain ⟨v1, W1, hr1, hown1, hg1, hn1, Qc4⟩ := run_append_own_at (P := Try.prog) (W.alloc (.cells #[] 3)) W.heap.size 29 29 3 i0 (.int .i64 0) 1 8 Try.underlying29 hii hz0 hz1 hz2 rfl (by decide) _ 0 _ h0 ⟨g, 0, none⟩ l.length c (jp2 l) (by rw [ho.1]) (fun j u hj => (ho.alloc _).cells (g := g) rfl j u hj) (zB1 l) (by unfold maxLen; omega) (by omega) (by simp)
 obtain ⟨g1, c1, rfl⟩ : ∃ g1 c1, v1 = .slice (some ⟨g1, 0, none⟩) l.length c1 := by
  rcases hown1.2 with ⟨e1, _⟩ | ⟨g, cp, cur, e1, _⟩
  ·have := (hn1.1 e1).1
   cases this
  ·exact ⟨g, cp, by rw [e1, Nat.zero_add]⟩
 refine ⟨g1, c1, W1, hr1, ?_⟩
 rw [Nat.zero_add] at hown1
 have hb1 : Below W.heap.size W W1 := hb0.grown hg1 hb0.size (fun k hk => (h0.lt k hk).1)
 have hc := alloc_at W1 (.cells #[.int .i64 m] 3)
 obtain ⟨v2, W2, hr2, hown2, hg2, hn2, Qb7⟩ := run_append_own_at (P := Try.prog) (W1.alloc (.cells #[.int .i64 m] 3)) W.heap.size 29 29 3 i0 (.int .i64 0) 1 8 Try.underlying29 hii hz0 hz1 hz2 rfl (by decide) _ l.length _ (hown1.alloc _) ⟨W1.heap.size, 0, none⟩ 1 1 [.int .i64 m] rfl (fun j u hj => by
   rw [add_zero, Lib.cell_of_heap hc]
   simpa using hj) (by simp [Value.oneCell']) (by unfold maxLen; omega) (by omega) (by have := hb1.size; simp; omega)
 refine ⟨v2, W2, hr2, ⟨?_, ?_⟩, ?_⟩
 ·rcases hown2.2 with ⟨e1, _⟩ | ⟨g, cp, cur, e1, _⟩
  ·have := (hn2.1 e1).1
   cases this
  ·exact ⟨g, cp, by rw [e1, List.length_append]; rfl⟩
 ·have := jg0 hown2
  rw [List.nil_append] at this
  rw [List.length_append, jp2, List.map_append]
  exact this
 ·exact (hb1.alloc hb1.size _).grown hg2 (by have := hb1.size; simp; omega) (fun k hk => (hown1.lt k hk).1)
end Go.Proofs.Ytngkneknopenmaa.Ref23
end
section
namespace Go.Proofs.Ytngkneknopenmaa.Ref23
open Go Go.Lib Go.RowKit Go.Proofs.Ytngkneknopenmaa Go.Proofs.Ytngkneknopenmaa.zM Go.Proofs.Ytngkneknopenmaa.qa9 Go.Proofs.Ytngkneknopenmaa.qf6 Go.Proofs.Ytngkneknopenmaa.qb8
theorem qz3 (b : Nat) : ∀ m, (qw9 b m).length = b ^ m
 | 0 => rfl
 | m + 1 => by
  have : ∀ l : List (List Int), (l.flatMap fun r => (List.range b).map fun n : Nat => r ++ [(n : Int)]).length = l.length * b := by
   intro l
   induction l with
   | nil => simp
   | cons r l ih => rw [List.flatMap_cons, List.length_append, ih, List.length_map, List.length_range, List.length_cons, Nat.add_mul]; omega
  rw [qw9, this, qz3 b m, Nat.pow_succ]
theorem qP0 (b : Nat) : ∀ m, ∀ r ∈ qw9 b m, r.length = m
 | 0, r, h => by simp [qw9] at h; rw [h]; rfl
 | m + 1, r, h => by
  rw [qw9, List.mem_flatMap] at h
  obtain ⟨q, hq, hr⟩ := h
  obtain ⟨n, _, rfl⟩ := List.mem_map.1 hr
  rw [List.length_append, qP0 b m q hq]
  rfl
theorem jz8 (b : Nat) : ∀ m, ∀ r ∈ qw9 b m, ∀ n ∈ r, 0 ≤ n ∧ n < (b : Int)
 | 0, r, h, n, hn => by simp [qw9] at h; rw [h] at hn; cases hn
 | m + 1, r, h, n, hn => by
  rw [qw9, List.mem_flatMap] at h
  obtain ⟨q, hq, hr⟩ := h
  obtain ⟨x, hx, rfl⟩ := List.mem_map.1 hr
  rcases List.mem_append.1 hn with h1 | h1
  ·exact jz8 b m q hq n h1
  ·simp at h1
   rw [h1]
   have := List.mem_range.1 hx
   omega
def qB3 (b : Nat) (l : List (List Int)) (k j : Nat) : List (List Int) := ((l.take k).flatMap fun r => (List.range b).map fun n : Nat => r ++ [(n : Int)]) ++ match l[k]? with | some r => (List.range j).map fun n : Nat => r ++ [(n : Int)] | none => []
theorem qT7 (b : Nat) (l : List (List Int)) (k : Nat) : qB3 b l k 0 = (l.take k).flatMap fun r => (List.range b).map fun n : Nat => r ++ [(n : Int)] := by
 unfold qB3
 cases l[k]? <;> simp
theorem zc3 {b : Nat} {l : List (List Int)} {k j : Nat} {r : List Int} (h : l[k]? = some r) : qB3 b l k (j + 1) = qB3 b l k j ++ [r ++ [(j : Int)]] := by
 unfold qB3
 rw [h, List.append_assoc]
 simp [List.range_succ]
theorem zp5 {b : Nat} {l : List (List Int)} {k : Nat} {r : List Int} (h : l[k]? = some r) : qB3 b l k b = qB3 b l (k + 1) 0 := by
 rw [qT7]
 unfold qB3
 rw [h, List.take_add_one, h]
 simp [List.flatMap_append]
theorem jH9 (b : Nat) (l : List (List Int)) (k j : Nat) (hk : k < l.length) (hj : j ≤ b) : (qB3 b l k j).length ≤ l.length * b := by
 have h1 : ∀ l : List (List Int), (l.flatMap fun r => (List.range b).map fun n : Nat => r ++ [(n : Int)]).length = l.length * b := by
  intro l
  induction l with
  | nil => simp
  | cons r l ih => rw [List.flatMap_cons, List.length_append, ih, List.length_map, List.length_range, List.length_cons, Nat.add_mul]; omega
 unfold qB3
 rw [List.getElem?_eq_getElem hk, List.length_append, h1, List.length_take]
 simp only [List.length_map, List.length_range]
 have : (k + 1) * b ≤ l.length * b := Nat.mul_le_mul_right _ hk
 rw [Nat.add_mul] at this
 have e : min k l.length = k := by omega
 rw [e]
 omega
theorem Qc5 : SlI 29 95 := ⟨Try.underlying95, by kernel_rfl⟩
theorem qN2 : qQ4 29 RdI := jg1 (by decide)
set_option maxHeartbeats 8000000 in
set_option maxRecDepth 100000 in
theorem zc4 {m b : Nat} (hm : m ≤ 100) (hB : ∀ i, i ≤ m → b ^ i ≤ 1000000) (hbm : b ≤ 1000000) (w : World) :
  Calls Try.prog 68 #[.int .i64 (m : Int), .int .i64 (b : Int)] w fun e w' => ∃ x, e = .returned x ∧ LV 29 RdI w.heap.size x (qw9 b m) w' ∧ Below w.heap.size w w' := by
 have HBB := Lib.hid hB
 clear hB
 go_enter Try.func68, Try.ntmps68
 go_upto_region 2 with fail
 have hb0 : Below w.heap.size w (w.alloc (.cells #[] 3)) := (Below.refl _ _).alloc (Nat.le_refl _) _
 have hv0 : RdI (w.alloc (.cells #[] 3)) (.slice (some ⟨w.heap.size, 0, none⟩) 0 0) [] := ⟨⟨_, _, rfl⟩, jg0 (World.ownsRow_made w #[] 0 (Nat.le_refl _) (by unfold maxLen; omega) rfl)⟩
 have hsz0 : (w.alloc (.cells #[] 3)).heap.size = w.heap.size + 1 := by simp
 obtain ⟨W0, hW0⟩ : ∃ W, w.alloc (.cells #[] 3) = W := ⟨_, rfl⟩
 rw [hW0] at hb0 hv0 hsz0 ⊢
 have hb1 := hb0.alloc hb0.size (.cells #[.slice (some ⟨w.heap.size, 0, none⟩) 0 0] 29)
 have hk1 : Below W0.heap.size W0 (W0.alloc (.cells #[.slice (some ⟨w.heap.size, 0, none⟩) 0 0] 29)) := (Below.refl _ _).alloc (Nat.le_refl _) _
 have hc1 := alloc_at W0 (.cells #[.slice (some ⟨w.heap.size, 0, none⟩) 0 0] 29)
 rw [hsz0] at hc1
 have hlv : LV 29 RdI w.heap.size (.slice (some ⟨w.heap.size + 1, 0, none⟩) 1 1) (qw9 b 0) (W0.alloc (.cells #[.slice (some ⟨w.heap.size, 0, none⟩) 0 0] 29)) :=
  ⟨[.slice (some ⟨w.heap.size, 0, none⟩) 0 0], rfl, ⟨rfl, .inr ⟨_, 1, _, rfl, by omega, hc1, by simp [qw9], by unfold maxLen; omega, rfl, rfl⟩⟩, fun i v a hv ha => by
   match i, hv with
   | 0, hv => cases hv; cases ha; exact hv0.below hk1
   | i + 1, hv => simp at hv⟩
 have HB1 := Lib.hid hb1
 have HLV := Lib.hid hlv
 clear hb0 hv0 hsz0 hW0 hb1 hk1 hc1 hlv
 go_wp2_with fail
 go_loopw [5, 6] (fun x v wr => ∃ i : Nat, i ≤ m ∧ v = .int .i64 ((i : Nat) : Int) ∧ LV 29 RdI w.heap.size x (qw9 b i) wr ∧ Below w.heap.size w wr) (fun _ v _ => m - (intOf v).toNat)
 case atStart => exact ⟨0, Nat.zero_le _, rfl, HLV.out, HB1.out⟩
 case round =>
  clear HB1 HLV
  obtain ⟨i, hi, rfl, hlv, hb⟩ := hrel
  have HB := Lib.hid hb
  have HBW := Lib.hid hb.size
  obtain ⟨A, c, rfl, _⟩ := hlv.slice
  by_cases hlt : i < m
  ·have hltz : (i : Int) < (m : Int) := by omega
   have hll := qz3 b i
   have zN0 := HBB.out i (by omega)
   have zB3 := HBB.out (i + 1) hlt
   obtain ⟨L, hL⟩ : ∃ L, qw9 b i = L := ⟨_, rfl⟩
   have hrl := qP0 b i
   have hsucc : qw9 b (i + 1) = qB3 b L L.length 0 := by rw [qT7, List.take_of_length_le (Nat.le_refl _), ← hL]; rfl
   rw [hL] at hlv hll hrl ⊢
   obtain ⟨nl, hnl⟩ : ∃ nl, L.length = nl := ⟨_, rfl⟩
   have hnlb : nl * b ≤ 1000000 := by rw [← hnl, hll]; rw [Nat.pow_succ] at zB3; exact zB3
   have hnl6 : nl ≤ 1000000 := by omega
   rw [hnl] at hlv hsucc ⊢
   have HX := Lib.hid hlv.lt
   have HSU := Lib.hid hsucc
   have HNL := Lib.hid hnl
   have HRL := Lib.hid hrl
   have hbA := (Below.refl wr.heap.size wr).alloc (Nat.le_refl _) (.cells #[] 29)
   have hlv1 := hlv.below qN2 hbA
   have hxn : LV 29 RdI wr.heap.size (.slice (some ⟨wr.heap.size, 0, none⟩) 0 0) (qB3 b L 0 0) (wr.alloc (.cells #[] 29)) := by rw [qT7]; exact LV.made (Nat.le_refl _)
   have HB2 := Lib.hid (HB.out.trans (hbA.mono HB.out.size))
   have HLV := Lib.hid hlv1
   have HXN := Lib.hid hxn
   clear hlv hll zN0 zB3 hL hrl hsucc hnl hbA hlv1 hxn hb
   go_wp2_with fail
   go_loopw [7, 8] (fun xn v ws => ∃ k : Nat, k ≤ nl ∧ v = .int .i64 ((k : Nat) : Int) ∧ LV 29 RdI wr.heap.size xn (qB3 b L k 0) ws ∧ LV 29 RdI w.heap.size (.slice A nl c) L ws ∧ wr.heap.size ≤ ws.heap.size ∧ Below w.heap.size w ws) (fun _ v _ => nl - (intOf v).toNat)
   case atStart => exact ⟨0, Nat.zero_le _, rfl, HXN.out, HLV.out, by simp, HB2.out⟩
   case round =>
    clear HB2 HLV HXN
    rename World => ws
    obtain ⟨k, hk, rfl, hxn, hlv, hsw, hb⟩ := hrel
    have HB := Lib.hid hb
    have HLV := Lib.hid hlv
    have HXN := Lib.hid hxn
    by_cases hkt : k < nl
    ·have hkz : (k : Int) < (nl : Int) := by omega
     obtain ⟨r, hr⟩ : ∃ r, L[k]? = some r := ⟨_, List.getElem?_eq_getElem (by rw [HNL.out]; exact hkt)⟩
     have hrn := HRL.out r (List.mem_of_getElem? hr)
     have HR := Lib.hid hr
     clear hlv hxn hb hr
     go_wp2_with fail
     go_loopw [7, 9] (fun xn v wt => ∃ j : Nat, j ≤ b ∧ v = .int .i64 ((j : Nat) : Int) ∧ LV 29 RdI wr.heap.size xn (qB3 b L k j) wt ∧ LV 29 RdI w.heap.size (.slice A nl c) L wt ∧ wr.heap.size ≤ wt.heap.size ∧ Below w.heap.size w wt) (fun _ v _ => b - (intOf v).toNat)
     case atStart => exact ⟨0, Nat.zero_le _, rfl, HXN.out, HLV.out, hsw, HB.out⟩
     case round =>
      clear HB HLV HXN
      rename World => wt
      obtain ⟨j, hj, rfl, hxn, hlv, hst, hb⟩ := hrel
      by_cases hjt : j < b
      ·have hjz : (j : Int) < (b : Int) := by omega
       obtain ⟨An, cn, rfl, _⟩ := hxn.slice
       obtain ⟨ad, vr, rfl, y0, hvr⟩ := hlv.at HR.out
       obtain ⟨g, cr, rfl, hs1, g1, c1, W1, hr1, v2, W2, hr2, hv2, hbr⟩ := zB2 hvr (by omega) (j : Int) (p := wt.heap.size) rfl
       obtain ⟨⟨g2, c2, rfl⟩, hv2b⟩ := id hv2
       rw [show (r ++ [(j : Int)]).length = i + 1 by rw [List.length_append, hrn]; rfl] at hr2 hv2
       rw [hrn] at y0 hr1 hr2
       have hlen := jH9 b L k j (by rw [HNL.out]; exact hkt) hj
       rw [HNL.out] at hlen
       have hxn2 := (hxn.below qN2 hbr).below qN2 ((Below.refl W2.heap.size W2).alloc (Nat.le_refl _) (.cells #[.slice (some ⟨g2, 0, none⟩) (i + 1) c2] 29))
       have zp6 := hbr.alloc hbr.size (.cells #[.slice (some ⟨g2, 0, none⟩) (i + 1) c2] 29)
       have hcz := alloc_at W2 (.cells #[.slice (some ⟨g2, 0, none⟩) (i + 1) c2] 29)
       obtain ⟨A3, c3, W3, hr3, jj4, hk3, hg3⟩ := hxn2.append Qc5 qN2 hcz rfl (hv2.below ((Below.refl W2.heap.size W2).alloc (Nat.le_refl _) _)) (Nat.le_trans hst zp6.size) (by omega)
       have hlv3 : LV 29 RdI w.heap.size (.slice (some ad) nl c) L W3 := ((hlv.below qN2 zp6)).grown qN2 hg3 hk3 (by
        right
        intro e
        have h1 := HX.out ad.block rfl
        have h2 := hxn.lt ad.block (by rw [← e]; rfl)
        omega)
       have hb3 : Below w.heap.size w W3 := (hb.trans (zp6.mono hb.size)).grown hg3 (Nat.le_trans hb.size zp6.size) (fun q hq => by have := hxn.lt q hq; have := HB.out.size; omega)
       have hs3 : wr.heap.size ≤ W3.heap.size := Nat.le_trans hst (Nat.le_trans zp6.size hg3.size)
       rw [← zc3 HR.out] at jj4
       obtain ⟨nx, hnx⟩ : ∃ nx, (qB3 b L k j).length = nx := ⟨_, rfl⟩
       rw [hnx] at hr3 jj4 ⊢
       have y1 := cell_below ((Below.refl wt.heap.size wt).alloc (Nat.le_refl _) (.cells #[] 3)) y0
       have HR1 := Lib.hid hr1
       have HR2 := Lib.hid hr2
       have HR3 := Lib.hid hr3
       have HXN := Lib.hid jj4
       have HLV := Lib.hid hlv3
       have HB3 := Lib.hid hb3
       have HS3 := Lib.hid hs3
       clear hlv hxn hb y0 hr1 hr2 hr3 hxn2 jj4 hlv3 hb3 hs3 hk3 hg3 hcz hbr zp6 hv2 hv2b hvr hnx hs1 hlen hrn hst
       go_wp2_with (first
        | (at_builtin; refine qU.wpList_append_run rfl _ _ _ rfl _ _ rfl rfl _ rfl HR1.out ?_; clear HR1)
        | (at_builtin; refine qU.wpList_append_run rfl _ _ _ rfl _ _ rfl rfl _ rfl HR2.out ?_; clear HR2)
        | (at_builtin; refine qU.wpList_append_run rfl _ _ _ rfl _ _ rfl rfl _ rfl HR3.out ?_; clear HR3))
       go_roundw
       case rel => exact ⟨j + 1, by omega, by go_num, by first | exact HXN.out | skip, HLV.out, HS3.out, HB3.out⟩
       case measure => (simp [intOf]; try omega)
      ·have hjn : j = b := by omega
       subst hjn
       rw [zp5 HR.out] at hxn
       have HXN := Lib.hid hxn
       have HLV := Lib.hid hlv
       have HB := Lib.hid hb
       clear hxn hlv hb
       go_wp2_with fail
       go_roundw
       case rel => exact ⟨k + 1, by omega, by go_num, HXN.out, HLV.out, hst, HB.out⟩
       case measure => (simp [intOf]; try omega)
    ·have hkn : k = nl := by omega
     subst hkn
     rw [← HSU.out] at hxn
     have hxb := hxn.lower HBW.out
     have HXN := Lib.hid hxb
     have HBs := Lib.hid hb
     clear hxn hlv hb hxb
     go_wp2_with fail
     go_roundw
     case rel => exact ⟨i + 1, by omega, by go_num, HXN.out, HBs.out⟩
     case measure => (simp [intOf]; try omega)
  ·have hin : i = m := by omega
   subst hin
   go_wp2_with fail
   go_ret
   exact ⟨_, rfl, hlv, HB.out⟩
end Go.Proofs.Ytngkneknopenmaa.Ref23
end
section
namespace Go.Proofs.Ytngkneknopenmaa.Ref23
open Go.qU (pu ta sa sz ss zX qQ8)
open Go Go.Lib Go.RowKit Go.Proofs.Ytngkneknopenmaa Go.Proofs.Ytngkneknopenmaa.zM Go.Proofs.Ytngkneknopenmaa.qa9 Go.Proofs.Ytngkneknopenmaa.qf6 Go.Proofs.Ytngkneknopenmaa.qb8
set_option linter.unusedSimpArgs false
theorem Qo3 : SlI 53 90 := ⟨Try.underlying90, by kernel_rfl⟩
theorem jz9 : qQ4 53 RdO := qO9 (by decide)
theorem zB4 : (Try.prog.info? 51).map (fun i => (i.zero, i.size, i.bytes)) = some (some (.agg #[.bool false, .int .i64 0, .int .i64 0]), 3, 24) := by kernel_rfl
theorem zB5 {base : Nat} {v : Value} {l : List O3} {W : World} (h : W.ownsRow base 51 3 v l.length (flat l)) (hnn : v ≠ .slice none 0 0) (hb : base ≤ W.heap.size) (hl : l.length ≤ 1000) (o : O3) :
  ∃ g c W', (Builtin.append_ #[53, 53] 53 #[v, .slice (some ⟨W.heap.size, 0, none⟩) 1 1]).run Try.prog (W.alloc (.cells #[.bool o.w, .int .i64 o.k, .int .i64 o.v] 51)) = .ok (.slice (some ⟨g, 0, none⟩) (l.length + 1) c) W' ∧
   W'.ownsRow base 51 3 (.slice (some ⟨g, 0, none⟩) (l.length + 1) c) (l ++ [o]).length (flat (l ++ [o])) ∧ (W.alloc (.cells #[.bool o.w, .int .i64 o.k, .int .i64 o.v] 51)).grownBy W' v.ownBlock ∧ KT 51 (W.alloc (.cells #[.bool o.w, .int .i64 o.k, .int .i64 o.v] 51)) W' := by
 obtain ⟨i0, hii, hz0, hz1, hz2⟩ := info_parts zB4
 have hc := alloc_at W (.cells #[.bool o.w, .int .i64 o.k, .int .i64 o.v] 51)
 obtain ⟨v', W', hr, hown, hg, hn, _⟩ := run_append_own_at (P := Try.prog) (W.alloc (.cells #[.bool o.w, .int .i64 o.k, .int .i64 o.v] 51)) base 53 53 51 i0 (.agg #[.bool false, .int .i64 0, .int .i64 0]) 3 24 Try.underlying53 hii hz0 hz1 hz2 rfl (by decide) v l.length _ (h.alloc _) ⟨W.heap.size, 0, none⟩ 1 1 o.cells rfl (fun j u hj => by
   rw [add_zero, Lib.cell_of_heap hc]
   simpa [O3.cells] using hj) (fun u hu => by simp [O3.cells] at hu; rcases hu with rfl | rfl | rfl <;> rfl) (by unfold maxLen; omega) (by omega) (by simp; omega)
 obtain ⟨g, c, rfl⟩ : ∃ g c, v' = .slice (some ⟨g, 0, none⟩) (l.length + 1) c := by
  rcases hown.2 with ⟨e1, _⟩ | ⟨g, cp, cur, e1, _⟩
  ·exact absurd (hn.1 e1).1 hnn
  ·exact ⟨g, cp, e1⟩
 refine ⟨g, c, W', hr, ?_, hg, KT.own (h.alloc _) hg⟩
 rw [List.length_append]
 simpa [flat] using hown
theorem wrI {x : Int} (h0 : -9223372036854775808 ≤ x) (h1 : x ≤ 9223372036854775807) : IntKind.i64.wrap x = x := by simp [IntKind.wrap, IntKind.signed, IntKind.bits]; omega
set_option maxHeartbeats 8000000 in
set_option maxRecDepth 100000 in
theorem jh8 {m k v : Nat} (hm : m ≤ 100) (hk : 1 ≤ k) (hk2 : k ≤ 1000) (hv : v ≤ 100) (hB : ∀ i, i ≤ m → (2 * k * (v + 1)) ^ i ≤ 1000000) (w : World) :
  Calls Try.prog 51 #[.int .i64 (m : Int), .int .i64 (k : Int), .int .i64 (v : Int)] w fun e w' => ∃ x, e = .returned x ∧ LV 53 RdO w.heap.size x (qT6 m k v) w' ∧ Below w.heap.size w w' := by
 have hkv : 2 * k * (v + 1) ≤ 1000000 := by
  have : 2 * k * (v + 1) ≤ 2000 * 101 := Nat.mul_le_mul (by omega) (by omega)
  omega
 have hrw := fun W => zc4 hm hB hkv W
 have hlen := qz3 (2 * k * (v + 1)) m
 have zN0 := hB m (Nat.le_refl _)
 have hrl := qP0 (2 * k * (v + 1)) m
 have hrm := jz8 (2 * k * (v + 1)) m
 have e1 : wrap64 (2 * (k : Int)) = 2 * (k : Int) := zM.qP1 (by omega) (by omega)
 have e2 : wrap64 ((v : Int) + 1) = (v : Int) + 1 := zM.qP1 (by omega) (by omega)
 have e3 : wrap64 (2 * (k : Int) * ((v : Int) + 1)) = ((2 * k * (v + 1) : Nat) : Int) := by
  have : 2 * (k : Int) * ((v : Int) + 1) = ((2 * k * (v + 1) : Nat) : Int) := by simp
  rw [this, zM.qP1 (by omega) (by omega)]
 obtain ⟨L, hL⟩ : ∃ L, qw9 (2 * k * (v + 1)) m = L := ⟨_, rfl⟩
 have hend : qT6 m k v = L.map fun r => r.map (opN k) := by rw [← hL]; rfl
 obtain ⟨B, hBB⟩ : ∃ B, 2 * k * (v + 1) = B := ⟨_, rfl⟩
 rw [hL] at hrw hlen hrl hrm
 rw [hBB] at hrw e3 hrm hkv
 rw [← hlen] at zN0
 have HRW := Lib.hid hrw
 have HRL := Lib.hid hrl
 have HRM := Lib.hid hrm
 have Qc6 := Lib.hid hend
 clear hrw hB hL hlen hrl hrm hend hBB
 go_enter Try.func51, Try.ntmps51
 go_upto_region 3 with (go_at_call 68; (with_reducible refine (HRW.out _).mono ?_); rintro e w1 ⟨xl, rfl, hxl, hb1⟩)
 have hbA := (Below.refl w.heap.size w).alloc (Nat.le_refl _) (.cells #[] 53)
 have hxo : LV 53 RdO w.heap.size (.slice (some ⟨w.heap.size, 0, none⟩) 0 0) [] (w.alloc (.cells #[] 53)) := LV.made (Nat.le_refl _)
 have hxo1 := hxo.below jz9 hb1
 have hbw1 := hbA.trans (hb1.mono hbA.size)
 have hlt := hxo.lt
 obtain ⟨A, c, rfl, _⟩ := hxl.slice
 obtain ⟨nl, hnl⟩ : ∃ nl, L.length = nl := ⟨_, rfl⟩
 rw [hnl] at hxl zN0 ⊢
 have HXL := Lib.hid hxl
 have HXO := Lib.hid hxo1
 have HB1 := Lib.hid hbw1
 have HNL := Lib.hid hnl
 have HLO := Lib.hid (show w.heap.size + 1 ≤ (w.alloc (.cells #[] 53)).heap.size by simp)
 clear hbA hxo hxo1 hbw1 hlt hxl hb1 hnl e1 e2 e3
 obtain ⟨wA, hwA⟩ : ∃ W, w.alloc (.cells #[] 53) = W := ⟨_, rfl⟩
 rw [hwA] at HXL HLO
 clear hwA
 go_wp2_with fail
 go_loopw [7, 9] (fun x u wr => ∃ i : Nat, i ≤ nl ∧ u = .int .i64 ((i : Nat) : Int) ∧ LV 53 RdO w.heap.size x ((L.take i).map fun r => r.map (opN k)) wr ∧ LV 29 RdI wA.heap.size (.slice A nl c) L wr ∧ Below w.heap.size w wr) (fun _ u _ => nl - (intOf u).toNat)
 case atStart => exact ⟨0, Nat.zero_le _, rfl, HXO.out, HXL.out, HB1.out⟩
 case round =>
  clear HXO HXL HB1
  obtain ⟨i, hi, rfl, hxo, hxl, hb⟩ := hrel
  have HB := Lib.hid hb
  by_cases hlt : i < nl
  ·have hltz : (i : Int) < (nl : Int) := by omega
   obtain ⟨r, hr⟩ : ∃ r, L[i]? = some r := ⟨_, List.getElem?_eq_getElem (by rw [HNL.out]; exact hlt)⟩
   have hrn := HRL.out r (List.mem_of_getElem? hr)
   have hts : (L.take (i + 1)).map (fun r => r.map (opN k)) = (L.take i).map (fun r => r.map (opN k)) ++ [r.map (opN k)] := by rw [List.take_add_one, hr, List.map_append]; rfl
   have hbA := (Below.refl wr.heap.size wr).alloc (Nat.le_refl _) (.cells #[] 51)
   have hrow : (wr.alloc (.cells #[] 51)).ownsRow wr.heap.size 51 3 (.slice (some ⟨wr.heap.size, 0, none⟩) 0 0) (([] : List Int).map (opN k)).length (flat (([] : List Int).map (opN k))) := World.ownsRow_made wr #[] 0 (Nat.le_refl _) (by unfold maxLen; omega) rfl
   have HR := Lib.hid hr
   have HRN := Lib.hid hrn
   have HTS := Lib.hid hts
   have jC7 := Lib.hid hrow
   have HBA := Lib.hid hbA
   have Qc7 := hxo.lt
   obtain ⟨Ax, cx, rfl, _⟩ := hxo.slice
   have hli : ((L.take i).map fun r => r.map (opN k)).length = i := by rw [List.length_map, List.length_take, HNL.out]; omega
   rw [hli] at hxo Qc7 ⊢
   have HXO := Lib.hid hxo
   have HXL := Lib.hid hxl
   have HXLT := Lib.hid Qc7
   clear hxo hxl hb hbA hrow hr hts Qc7 hrn hli
   go_wp2_with fail
   go_loopw [10, 11] (fun y u ws => ∃ j : Nat, j ≤ m ∧ u = .int .i64 ((j : Nat) : Int) ∧ (∃ g c, y = .slice (some ⟨g, 0, none⟩) j c) ∧ ws.ownsRow wr.heap.size 51 3 y j (flat ((r.take j).map (opN k))) ∧ Below wr.heap.size wr ws) (fun _ u _ => m - (intOf u).toNat)
   case atStart => exact ⟨0, Nat.zero_le _, rfl, ⟨_, _, rfl⟩, jC7.out, HBA.out⟩
   case round =>
    clear jC7 HBA
    rename World => ws
    obtain ⟨j, hj, rfl, ⟨gy, cy, rfl⟩, hrow, hb⟩ := hrel
    have HBs := Lib.hid hb
    obtain ⟨ad, vr, rfl, y0, hvr⟩ := (HXL.out.below qN2 hb).at HR.out
    obtain ⟨⟨gr, cr, rfl⟩, hro⟩ := hvr
    rw [HRN.out] at y0
    by_cases hjt : j < m
    ·have hjz : (j : Int) < (m : Int) := by omega
     obtain ⟨n, hn⟩ : ∃ n, r[j]? = some n := ⟨_, List.getElem?_eq_getElem (by rw [HRN.out]; exact hjt)⟩
     obtain ⟨hn0, hn1⟩ := HRM.out r (List.mem_of_getElem? HR.out) n (List.mem_of_getElem? hn)
     have y1 := hro.cells (g := gr) rfl j (.int .i64 n) (by unfold jp2; rw [List.getElem?_map, hn]; rfl)
     rw [add_zero] at y1
     have htk : (r.take (j + 1)).map (opN k) = (r.take j).map (opN k) ++ [opN k n] := by rw [List.take_add_one, hn, List.map_append]; rfl
     have hjl : ((r.take j).map (opN k)).length = j := by rw [List.length_map, List.length_take, HRN.out]; omega
     have jC7 := Lib.hid hrow
     have HTK := Lib.hid htk
     have HJL := Lib.hid hjl
     have HN := Lib.hid hn
     clear hrow hb htk hjl hn hro
     go_upto_region 11 with fail
     clear y0 y1
     have hd2 : n.tdiv 2 = n / 2 := Int.tdiv_eq_ediv_of_nonneg hn0
     have hd3 : (n.tdiv 2).tdiv k = n / 2 / k := by rw [hd2]; exact Int.tdiv_eq_ediv_of_nonneg (by omega)
     have hd4 : 0 ≤ n / 2 / k := Int.ediv_nonneg (by omega) (by omega)
     have hd5 : n / 2 / k ≤ n / 2 := Int.ediv_le_self _ (by omega)
     have HD := Lib.hid (show IntKind.i64.wrap (n.tdiv 2) = n.tdiv 2 from wrI (by omega) (by omega))
     have HD3 := Lib.hid (show IntKind.i64.wrap ((n.tdiv 2).tdiv k) = (n.tdiv 2).tdiv k from wrI (by omega) (by omega))
     clear hd2 hd3 hd4 hd5
     refine qU.qr8 [] (fun _ => True) (by kernel_rfl) ?_
     have hV0 : Below ws.heap.size ws ws.drew := (Below.refl _ _).drew
     obtain ⟨V0, hV⟩ : ∃ V0, ws.drew = V0 := ⟨_, rfl⟩
     rw [hV] at hV0 ⊢
     have HV0 := Lib.hid hV0
     clear hV hV0
     refine pu (i := 0) (v := .slice (some ⟨gy, 0, none⟩) j cy) rfl (fun _ => by go_simp) ?_
     simp only [Act.put, sa, sz, ss]
     refine pu (i := 1) (v := .int .i64 n) rfl (fun _ => by go_simp) ?_
     simp only [Act.put, sa, sz, ss]
     refine pu (i := 2) (v := .int .i64 (n.tmod 2)) rfl (fun _ => by go_simp) ?_
     simp only [Act.put, sa, sz, ss]
     refine pu (i := 3) (v := .bool (n.tmod 2 == 1)) rfl (fun _ => by go_simp) ?_
     simp only [Act.put, sa, sz, ss]
     refine pu (i := 4) (v := .int .i64 n) rfl (fun _ => by go_simp) ?_
     simp only [Act.put, sa, sz, ss]
     refine pu (i := 5) (v := .int .i64 (n.tdiv 2)) rfl (fun _ => by go_simp; exact HD.out) ?_
     simp only [Act.put, sa, sz, ss]
     refine pu (i := 6) (v := .int .i64 (k : Int)) rfl (fun _ => by go_simp) ?_
     simp only [Act.put, sa, sz, ss]
     refine pu (i := 7) (v := .int .i64 ((n.tdiv 2).tmod k)) rfl (fun _ => by go_simp; omega) ?_
     simp only [Act.put, sa, sz, ss]
     refine pu (i := 8) (v := .int .i64 n) rfl (fun _ => by go_simp) ?_
     simp only [Act.put, sa, sz, ss]
     refine pu (i := 9) (v := .int .i64 (n.tdiv 2)) rfl (fun _ => by go_simp; exact HD.out) ?_
     simp only [Act.put, sa, sz, ss]
     refine pu (i := 10) (v := .int .i64 (k : Int)) rfl (fun _ => by go_simp) ?_
     simp only [Act.put, sa, sz, ss]
     refine pu (i := 11) (v := .int .i64 ((n.tdiv 2).tdiv k)) rfl (fun _ => by go_simp; first | exact HD3.out | (rw [HD3.out]; simp; omega) | (simp [HD3.out]; omega)) ?_
     simp only [Act.put, sa, sz, ss]
     refine pu (i := 12) (v := .agg #[.bool (n.tmod 2 == 1), .int .i64 ((n.tdiv 2).tmod k), .int .i64 ((n.tdiv 2).tdiv k)]) rfl (fun _ => by go_simp) ?_
     simp only [Act.put, sa, sz, ss]
     have zB6 := zc2 jC7.out HV0.out
     have hmo := zB5 (o := opN k n) (l := (r.take j).map (opN k)) (W := V0) (v := .slice (some ⟨gy, 0, none⟩) j cy) (by rw [HJL.out]; exact zB6) (by simp) (Nat.le_trans HBs.out.size HV0.out.size) (by rw [HJL.out]; omega)
     rw [HJL.out, ← HTK.out, List.length_map, List.length_take] at hmo
     obtain ⟨g2, c2, V2, hr2, hown2, hg2, hk2⟩ := hmo
     have hbV := HV0.out.alloc HV0.out.size (.cells #[.bool (opN k n).w, .int .i64 (opN k n).k, .int .i64 (opN k n).v] 51)
     have hmin : min (j + 1) r.length = j + 1 := by rw [HRN.out]; omega
     rw [hmin] at hown2
     have HR2 := Lib.hid hr2
     have Qo4 := Lib.hid hown2
     have HB2 := Lib.hid ((HBs.out.trans (hbV.mono HBs.out.size)).grown hg2 (Nat.le_trans HBs.out.size hbV.size) (fun q hq => (zB6.lt q hq).1))
     clear zB6 hr2 hown2 hg2 hk2 hbV hmin
     refine zX (i := 13) rfl (by kernel_rfl) rfl ?_
     intro K7 hK7
     have HK7 := Lib.hid hK7
     clear hK7
     (try simp only [List.getElem_toArray, List.getElem_cons_succ, List.getElem_cons_zero])
     unfold Oper.wp
     go_simp
     refine HK7.out _ _ ⟨fun _ h => h, ?_⟩
     clear HK7 K7
     (try simp only [Act.put, sa, sz, ss])
     refine zX (i := 14) rfl (by kernel_rfl) rfl ?_
     intro K7 hK7
     have HK7 := Lib.hid hK7
     clear hK7
     (try simp only [List.getElem_toArray, List.getElem_cons_succ, List.getElem_cons_zero])
     refine qU.wp_append_run _ _ _ rfl _ _ rfl rfl _ rfl HR2.out ?_
     refine HK7.out _ _ ⟨fun _ h => h, ?_⟩
     clear HK7 K7
     (try simp only [Act.put, sa, sz, ss])
     refine pu (i := 15) (v := .slice (some ⟨g2, 0, none⟩) (j + 1) c2) rfl (fun _ => by go_simp) ?_
     simp only [Act.put, sa, sz, ss]
     (try simp only [List.getElem_toArray, List.getElem_cons_succ, List.getElem_cons_zero, Act.put, sa, sz, ss])
     refine qU.qB6 (by kernel_rfl) ?_ _
     go_wp2_with fail
     go_roundw
     case rel => exact ⟨j + 1, by omega, by go_num, ⟨g2, c2, rfl⟩, Qo4.out, HB2.out⟩
     case measure => (simp [intOf]; try omega)
    ·have hjn : j = m := by omega
     subst hjn
     rw [List.take_of_length_le (by rw [HRN.out]; exact Nat.le_refl _)] at hrow
     have hlr : (r.map (opN k)).length = j := by rw [List.length_map, HRN.out]
     have hvo : RdO ws (.slice (some ⟨gy, 0, none⟩) j cy) (r.map (opN k)) := ⟨⟨gy, cy, by rw [hlr]⟩, by rw [hlr]; exact jg0 hrow⟩
     have hb2 := hb.alloc hb.size (.cells #[.slice (some ⟨gy, 0, none⟩) j cy] 53)
     have hb3 := (Below.refl ws.heap.size ws).alloc (Nat.le_refl _) (.cells #[.slice (some ⟨gy, 0, none⟩) j cy] 53)
     have hcz := alloc_at ws (.cells #[.slice (some ⟨gy, 0, none⟩) j cy] 53)
     have hxo2 := HXO.out.below jz9 hb2
     have hli : ((L.take i).map fun r => r.map (opN k)).length = i := by rw [List.length_map, List.length_take, HNL.out]; omega
     obtain ⟨A3, c3, W3, hr3, jj4, hk3, hg3⟩ := hxo2.append Qo3 jz9 hcz rfl (hvo.below hb3) (Nat.le_trans HB.out.size hb2.size) (by rw [hli]; omega)
     rw [hli] at hr3 jj4
     rw [← HTS.out] at jj4
     have hxl3 := (HXL.out.below qN2 hb2).kt (jg1 (by decide)) hk3 (by decide)
     have hbw : Below w.heap.size w W3 := (HB.out.trans (hb2.mono HB.out.size)).grown hg3 (Nat.le_trans HB.out.size hb2.size) (fun q hq => (HXLT.out q hq).1)
     have HR3 := Lib.hid hr3
     have HXN := Lib.hid jj4
     have HXL3 := Lib.hid hxl3
     have HB3 := Lib.hid hbw
     clear hrow hvo hb2 hb3 hcz hxo2 hr3 jj4 hxl3 hbw hk3 hg3 hb hro hlr hli
     go_wp2_with (at_builtin; refine qU.wpList_append_run rfl _ _ _ rfl _ _ rfl rfl _ rfl HR3.out ?_; clear HR3)
     go_roundw
     case rel => exact ⟨i + 1, by omega, by go_num, HXN.out, HXL3.out, HB3.out⟩
     case measure => (simp [intOf]; try omega)
  ·have hin : i = nl := by omega
   subst hin
   rw [List.take_of_length_le (by rw [HNL.out]; exact Nat.le_refl _), ← Qc6.out] at hxo
   go_wp2_with fail
   go_ret
   exact ⟨_, rfl, hxo, HB.out⟩
end Go.Proofs.Ytngkneknopenmaa.Ref23
end
section
namespace Go.Proofs.Ytngkneknopenmaa.Ref23
open Go Go.Lib Go.RowKit Go.Proofs.Ytngkneknopenmaa Go.Proofs.Ytngkneknopenmaa.zM Go.Proofs.Ytngkneknopenmaa.qa9 Go.Proofs.Ytngkneknopenmaa.qf6 Go.Proofs.Ytngkneknopenmaa.qb8
set_option linter.unusedSimpArgs false
def qT8 (t : T4) (v : Value) : List Value := [.int .i64 t.s, .int .i64 t.b, .int .i64 t.c, v]
def RdH (W : World) (v : Value) (h : List T4) : Prop := (∃ g c, v = .slice (some ⟨g, 0, none⟩) h.length c) ∧ ∃ vos : List Value, vos.length = h.length ∧ W.ownsRow 0 55 4 v h.length ((h.zip vos).flatMap fun p => qT8 p.1 p.2) ∧ ∀ (i : Nat) (vo : Value) (t : T4), vos[i]? = some vo → h[i]? = some t → RdO W vo t.ops
theorem zp7 {e : TypeId} (h1 : (55 : TypeId) ≠ e) (h2 : (51 : TypeId) ≠ e) : qQ4 e RdH := fun _ _ _ _ k ⟨a, vos, b, c, d⟩ => ⟨a, vos, b, jl1 c k h1, fun i vo t hv ht => qO9 h2 _ _ _ _ k (d i vo t hv ht)⟩
theorem jj5 : qQ4 22 RdH := zp7 (by decide) (by decide)
theorem Qc8 : SlI 22 42 := ⟨Try.underlying42, by kernel_rfl⟩
theorem RdO.rd {W : World} {v : Value} {l : List O3} (h : RdO W v l) : ∃ g c, v = .slice (some ⟨g, 0, none⟩) l.length c ∧ l.length ≤ c ∧ zM.RdO W (some ⟨g, 0, none⟩) l := by
 obtain ⟨⟨g, c, rfl⟩, ho⟩ := h
 obtain ⟨h1, _, h2⟩ := OW.zg1 ho
 exact ⟨g, c, rfl, h2, h1.rd⟩
theorem zp8 {h : List T4} {vos : List Value} : ∀ (i : Nat) (t : T4) (vo : Value), h[i]? = some t → vos[i]? = some vo → ∀ k, k < 4 → ((h.zip vos).flatMap fun p => qT8 p.1 p.2)[i * 4 + k]? = (qT8 t vo)[k]? := by
 induction h generalizing vos with
 | nil => intro i t vo h1; simp at h1
 | cons x h ih =>
  intro i t vo h1 h2 k hk
  cases vos with
  | nil => simp at h2
  | cons v vos =>
   cases i with
   | zero =>
    simp at h1 h2
    subst h1 h2
    rw [List.zip_cons_cons, List.flatMap_cons, Nat.zero_mul, Nat.zero_add, List.getElem?_append_left (by simp [qT8]; exact hk)]
   | succ i =>
    rw [List.zip_cons_cons, List.flatMap_cons, List.getElem?_append_right (by simp [qT8]; omega)]
    have := ih i t vo (by simpa using h1) (by simpa using h2) k hk
    rw [← this]
    congr 1
    simp [qT8]
    omega
theorem RdH.rd {W : World} {v : Value} {h : List T4} (hh : RdH W v h) : ∃ A c, v = .slice A h.length c ∧ h.length ≤ c ∧ RdT W A h := by
 obtain ⟨⟨g, c, rfl⟩, vos, hl, ho, hv⟩ := hh
 have hcap : h.length ≤ c := by
  rcases ho.2 with ⟨e, _⟩ | ⟨g', cp, cur, e, _, _, h1, _⟩
  ·cases e
  ·injection e with e1 e2 e3; omega
 refine ⟨_, c, rfl, hcap, fun hp => ⟨_, rfl, fun i t ht => ?_⟩⟩
 have hi := (List.getElem?_eq_some_iff.1 ht).1
 obtain ⟨vo, hvo⟩ : ∃ vo, vos[i]? = some vo := ⟨_, List.getElem?_eq_getElem (by omega)⟩
 obtain ⟨go, co, rfl, hlo, hro⟩ := (hv i vo t hvo ht).rd
 have hc := fun k (hk : k < 4) u (hu : (qT8 t (.slice (some ⟨go, 0, none⟩) t.ops.length co))[k]? = some u) => ho.cells (g := g) rfl (i * 4 + k) u (by rw [zp8 i t _ ht hvo k hk, hu])
 have e0 := hc 0 (by omega) _ rfl
 have e1 := hc 1 (by omega) _ rfl
 have e2 := hc 2 (by omega) _ rfl
 have e3 := hc 3 (by omega) _ rfl
 rw [add_zero] at e0 e1 e2 e3
 rw [add_zero]
 exact ⟨some ⟨go, 0, none⟩, co, e0, e1, e2, e3, hlo, hro⟩
def RdL (W : World) (A : Option Addr) (L : List (List T4)) : Prop := 0 < L.length → ∃ ad, A = some ad ∧ ∀ (i : Nat) (h : List T4), L[i]? = some h → ∃ Ai ci, W.cell? (ad.add i) = some (.slice Ai h.length ci) ∧ h.length ≤ ci ∧ RdT W Ai h
theorem RdL.below {W W' : World} {A : Option Addr} {L : List (List T4)} (h : RdL W A L) (hb : Below W.heap.size W W') : RdL W' A L := fun hp => by
 obtain ⟨ad, e, k⟩ := h hp
 refine ⟨ad, e, fun i x hx => ?_⟩
 obtain ⟨Ai, ci, h1, h2, h3⟩ := k i x hx
 exact ⟨Ai, ci, cell_below hb h1, h2, h3.below hb⟩
theorem RdL.take {W : World} {A : Option Addr} {L : List (List T4)} (h : RdL W A L) (n : Nat) : RdL W A (L.take n) := fun hp => by
 obtain ⟨ad, e, k⟩ := h (by rw [List.length_take] at hp; omega)
 refine ⟨ad, e, fun i x hx => k i x ?_⟩
 rw [List.getElem?_take] at hx
 split at hx
 ·exact hx
 ·cases hx
theorem LV.rdL {base n c : Nat} {A : Option Addr} {L : List (List T4)} {W : World} (h : LV 22 RdH base (.slice A n c) L W) : RdL W A L := fun hp => by
 obtain ⟨vals, h1, h2, h3⟩ := h
 rcases h2.2 with ⟨_, h0⟩ | ⟨g, cp, cur, e1, _, _, _⟩
 ·omega
 ·injection e1 with e1 e2 e3
  subst e1
  refine ⟨_, rfl, fun i x hx => ?_⟩
  have hi := (List.getElem?_eq_some_iff.1 hx).1
  obtain ⟨v, hv⟩ : ∃ v, vals[i]? = some v := ⟨_, List.getElem?_eq_getElem (by omega)⟩
  obtain ⟨Ai, ci, e, k1, k2⟩ := (h3 i v x hv hx).rd
  exact ⟨Ai, ci, e ▸ h2.cells (g := g) rfl i v hv, k1, k2⟩
theorem LS.rdL {base n c : Nat} {A : Option Addr} {its : List IT} {C : Nat → Prop} {W : World} (s : LS base (.slice A n c) its C W) : RdL W A (its.map IT.h) := fun hp => by
 rw [List.length_map] at hp
 rcases s.row.2 with ⟨_, h0⟩ | ⟨g, cp, cur, e, _, h2, _⟩
 ·omega
 ·injection e with e1 e2 e3
  subst e1
  refine ⟨_, rfl, fun i x hx => ?_⟩
  rw [List.getElem?_map] at hx
  obtain ⟨it, hit, rfl⟩ := Option.map_eq_some_iff.1 hx
  obtain ⟨Ai, ci, e, k1, k2⟩ := (s.h2 it (List.mem_of_getElem? hit)).rd
  exact ⟨Ai, ci, e ▸ s.row.cells (g := g) rfl i it.v (by rw [List.getElem?_map, hit]; rfl), k1, k2⟩
set_option maxHeartbeats 4000000 in
set_option maxRecDepth 100000 in
theorem jA0 {A B : Option Addr} {c d : Nat} {L : List (List T4)} {h : List T4} {w : World} (hr : RdL w A L) (hl : L.length ≤ 1000000) (hL : ∀ x ∈ L, x.length ≤ 1000 ∧ ∀ t ∈ x, t.ops.length ≤ 100000) (hh : RdT w B h) (hd : h.length ≤ d) :
  Calls Try.prog 52 #[.slice A L.length c, .slice B h.length d] w fun e w' => e = .returned (.bool (decide (h ∈ L))) ∧ Below w.heap.size w w' := by
 obtain ⟨n, hn⟩ : ∃ n, L.length = n := ⟨_, rfl⟩
 obtain ⟨m, hm⟩ : ∃ n, h.length = n := ⟨_, rfl⟩
 rw [hn] at hl ⊢
 have HN := Lib.hid hn
 have HM := Lib.hid hm
 have HR := Lib.hid hr
 have HH := Lib.hid hh
 have HLL := Lib.hid hL
 have HD := Lib.hid hd
 rw [hm]
 clear hr hL hh hn hm hd
 go_enter Try.func52, Try.ntmps52
 go_wp2_with fail
 go_loopw [5] (fun v wr => ∃ i : Nat, i ≤ n ∧ v = .int .i64 ((i : Nat) : Int) ∧ h ∉ L.take i ∧ Below w.heap.size w wr) (fun v _ => n - (intOf v).toNat)
 case atStart => exact ⟨0, Nat.zero_le _, rfl, by simp, Below.refl _ _⟩
 case round =>
  obtain ⟨i, hi, rfl, hnin, hb⟩ := hrel
  have HNI := Lib.hid hnin
  have HB := Lib.hid hb
  clear hnin
  by_cases hlt : i < n
  ·have hltz : (i : Int) < (n : Int) := by omega
   obtain ⟨ad, rfl, hch⟩ := HR.out (by rw [HN.out]; omega)
   obtain ⟨x, hx⟩ : ∃ x, L[i]? = some x := ⟨_, List.getElem?_eq_getElem (by rw [HN.out]; exact hlt)⟩
   obtain ⟨Ai, ci, y0, hci, hrx⟩ := hch i x hx
   replace y0 := cell_below hb y0
   obtain ⟨hx1, hx2⟩ := HLL.out x (List.mem_of_getElem? hx)
   have hsm := jh7 (hrx.below hb) hci hx1 hx2 (HH.out.below hb) HD.out
   rw [HM.out] at hsm
   obtain ⟨q, hq⟩ : ∃ q, decide (x = h) = q := ⟨_, rfl⟩
   rw [hq] at hsm
   have HSM := Lib.hid hsm
   have HTK := Lib.hid (show L.take (i + 1) = L.take i ++ [x] by rw [List.take_add_one, hx]; rfl)
   have HIN := Lib.hid (show x = h → decide (h ∈ L) = true from fun e => decide_eq_true (e ▸ List.mem_of_getElem? hx))
   have HQ := Lib.hid hq
   clear hch hx hci hrx hsm hq hb
   cases q with
   | true =>
    have HF := Lib.hid (HIN.out (of_decide_eq_true HQ.out))
    go_wp2_with (go_at_call 59; (with_reducible refine HSM.out.mono ?_); rintro e w1 ⟨rfl, hb1⟩; have HB1 := Lib.hid (HB.out.trans (hb1.mono HB.out.size)); clear hb1)
    go_ret
    exact ⟨by rw [HF.out]; rfl, HB1.out⟩
   | false =>
    have HF := Lib.hid (show h ∉ L.take (i + 1) by rw [HTK.out]; simp; exact ⟨HNI.out, fun e => of_decide_eq_false HQ.out e.symm⟩)
    go_wp2_with (go_at_call 59; (with_reducible refine HSM.out.mono ?_); rintro e w1 ⟨rfl, hb1⟩; have HB1 := Lib.hid (HB.out.trans (hb1.mono HB.out.size)); clear hb1)
    go_roundw
    case rel => exact ⟨i + 1, by omega, by go_num, HF.out, HB1.out⟩
    case measure => (simp [intOf]; try omega)
  ·have hin : i = n := by omega
   subst hin
   have HF := Lib.hid (show decide (h ∈ L) = false from decide_eq_false (by have := HNI.out; rwa [List.take_of_length_le (by rw [HN.out]; exact Nat.le_refl _)] at this))
   clear hb
   go_wp2_with fail
   go_ret
   exact ⟨by rw [HF.out]; rfl, HB.out⟩
set_option maxHeartbeats 4000000 in
set_option maxRecDepth 100000 in
theorem jh9 {A B : Option Addr} {c d : Nat} {L M : List (List T4)} {w : World} (hr : RdL w A L) (hc : L.length ≤ c) (hl : L.length ≤ 1000000) (hL : ∀ x ∈ L, x.length ≤ 1000 ∧ ∀ t ∈ x, t.ops.length ≤ 100000) (hM : ∀ x ∈ M, x.length ≤ 1000 ∧ ∀ t ∈ x, t.ops.length ≤ 100000) (hs : RdL w B M) (hlm : L.length = M.length) (hin : ∀ x ∈ L, x ∈ M) (hnd : L.Nodup) :
  Calls Try.prog 23 #[.slice A L.length c, .slice B M.length d] w fun e w' => e = .returned (.bool true) ∧ Below w.heap.size w w' := by
 obtain ⟨n, hn⟩ : ∃ n, L.length = n := ⟨_, rfl⟩
 have hm : M.length = n := by omega
 rw [hn] at hl hc ⊢
 have HN := Lib.hid hn
 have HM := Lib.hid hm
 have HR := Lib.hid hr
 have HS := Lib.hid hs
 have HLL := Lib.hid hL
 have HMM := Lib.hid hM
 have HIN := Lib.hid hin
 have HND := Lib.hid hnd
 rw [hm]
 clear hr hs hL hM hn hm hlm hin hnd
 go_enter Try.func23, Try.ntmps23
 go_wp2_with fail
 go_loopw [14] (fun v wr => ∃ i : Nat, i ≤ n ∧ v = .int .i64 ((i : Nat) : Int) ∧ Below w.heap.size w wr) (fun v _ => n - (intOf v).toNat)
 case atStart => exact ⟨0, Nat.zero_le _, rfl, Below.refl _ _⟩
 case round =>
  obtain ⟨i, hi, rfl, hb⟩ := hrel
  have HB := Lib.hid hb
  by_cases hlt : i < n
  ·have hltz : (i : Int) < (n : Int) := by omega
   obtain ⟨ad, rfl, hch⟩ := HR.out (by rw [HN.out]; omega)
   obtain ⟨x, hx⟩ : ∃ x, L[i]? = some x := ⟨_, List.getElem?_eq_getElem (by rw [HN.out]; exact hlt)⟩
   obtain ⟨Ai, ci, y0, hci, hrx⟩ := hch i x hx
   replace y0 := cell_below hb y0
   have h1 := fun W (hbW : Below w.heap.size w W) => jA0 (A := B) (c := d) (L := M) (h := x) (HS.out.below hbW) (by rw [HM.out]; exact hl) HMM.out (hrx.below hbW) hci
   rw [HM.out, show decide (x ∈ M) = true from decide_eq_true (HIN.out x (List.mem_of_getElem? hx))] at h1
   have h2 := fun W (hbW : Below w.heap.size w W) c' => jA0 (A := some ad) (c := c') (L := L.take i) (h := x) ((HR.out.take i).below hbW) (by rw [List.length_take]; omega) (fun y hy => HLL.out y (List.mem_of_mem_take hy)) (hrx.below hbW) hci
   rw [show (L.take i).length = i by rw [List.length_take, HN.out]; omega, show decide (x ∈ L.take i) = false from decide_eq_false (fun hm => by
    have hp := List.nodup_iff_pairwise_ne.1 HND.out
    rw [List.pairwise_iff_getElem] at hp
    obtain ⟨j, hj, e⟩ := List.mem_take_iff_getElem.1 hm
    have hi2 := List.getElem?_eq_some_iff.1 hx
    exact hp j i (by omega) hi2.1 (by omega) (e.trans hi2.2.symm))] at h2
   have H1 := Lib.hid h1
   have H2 := Lib.hid h2
   clear hch hx hci hrx h1 h2 hb
   go_wp2_with (first
    | (go_at_call 52; (with_reducible refine (H1.out _ HB.out).mono ?_); rintro e w1 ⟨rfl, hb1⟩; have HB1 := Lib.hid (HB.out.trans (hb1.mono HB.out.size)); clear hb1)
    | (go_at_call 52; (with_reducible refine (H2.out _ HB1.out _).mono ?_); rintro e w2 ⟨rfl, hb2⟩; have HB2 := Lib.hid (HB1.out.trans (hb2.mono HB1.out.size)); clear hb2))
   go_roundw
   case rel => exact ⟨i + 1, by omega, by go_num, HB2.out⟩
   case measure => (simp [intOf]; try omega)
  ·have hin : i = n := by omega
   subst hin
   clear hb
   go_wp2_with fail
   go_ret
   exact ⟨rfl, HB.out⟩
end Go.Proofs.Ytngkneknopenmaa.Ref23
end
section
namespace Go.Proofs.Ytngkneknopenmaa.Ref23
open Go Go.Lib Go.RowKit Go.Proofs.Ytngkneknopenmaa Go.Proofs.Ytngkneknopenmaa.zM Go.Proofs.Ytngkneknopenmaa.qa9 Go.Proofs.Ytngkneknopenmaa.qf6 Go.Proofs.Ytngkneknopenmaa.qb8
set_option linter.unusedSimpArgs false
theorem jT9 {m k v : Nat} : ∀ r ∈ qT6 m k v, r.length = m := by
 intro r hr
 obtain ⟨q, hq, rfl⟩ := List.mem_map.1 hr
 rw [List.length_map, qP0 _ _ q hq]
theorem qC9 {m k v : Nat} : (qT6 m k v).length = (2 * k * (v + 1)) ^ m := by unfold qT6; rw [List.length_map, qz3]
end Go.Proofs.Ytngkneknopenmaa.Ref23
end
section
namespace Go.Proofs.Ytngkneknopenmaa.Ref23
open Go.qU (pu ta sa sz ss zX qQ8)
open Go Go.Lib Go.RowKit Go.Proofs.Ytngkneknopenmaa Go.Proofs.Ytngkneknopenmaa.zM Go.Proofs.Ytngkneknopenmaa.qa9 Go.Proofs.Ytngkneknopenmaa.qf6 Go.Proofs.Ytngkneknopenmaa.qb8
set_option linter.unusedSimpArgs false
theorem zN1 {W : World} {v1 v2 : Value} {t1 t2 : T4} (h1 : RdO W v1 t1.ops) (h2 : RdO W v2 t2.ops) : RdH (W.alloc (.cells #[.int .i64 t1.s, .int .i64 t1.b, .int .i64 t1.c, v1, .int .i64 t2.s, .int .i64 t2.b, .int .i64 t2.c, v2] 55)) (.slice (some ⟨W.heap.size, 0, none⟩) 2 2) [t1, t2] := by
 have hb := (Below.refl W.heap.size W).alloc (Nat.le_refl _) (.cells #[.int .i64 t1.s, .int .i64 t1.b, .int .i64 t1.c, v1, .int .i64 t2.s, .int .i64 t2.b, .int .i64 t2.c, v2] 55)
 refine ⟨⟨_, _, rfl⟩, [v1, v2], rfl, ⟨rfl, .inr ⟨_, 2, _, rfl, Nat.zero_le _, alloc_at W _, Nat.le_refl _, by unfold maxLen; omega, rfl, rfl⟩⟩, fun i vo t hv ht => ?_⟩
 match i, hv with
 | 0, hv => cases hv; cases ht; exact h1.below hb
 | 1, hv => cases hv; cases ht; exact h2.below hb
 | i + 2, hv => simp at hv
def zL (z : Int × Int × Int × Int) : List Int := [z.1, z.2.1, z.2.2.1, z.2.2.2]
def c4 (a b : List O3) (x : Int × Int × Int × Int) (m : Nat) : List (List T4) := (List.range m).map fun q : Nat => zc1 x q a b
def c3 (a b : List O3) (s : Nat) (l : List (Int × Int × Int × Int)) : List (List T4) := l.flatMap fun x => c4 a b x (min 2 s)
def c2 (a : List O3) (s : Nat) (l : List (List O3)) : List (List T4) := l.flatMap fun b => c3 a b s qn6
def c1 (B : List (List O3)) (s : Nat) (l : List (List O3)) : List (List T4) := l.flatMap fun a => c2 a s B
def qQ5 (l : List (List T4)) : List (List T4) := l.filter isR
theorem zj8 (s f g k : Nat) (hk : ¬ k = 0) : jj3 s f g k = qQ5 (c1 (qT6 g k (f + g)) s (qT6 f k (f + g))) := by unfold jj3; rw [if_neg hk]; rfl
theorem jI0 {α β : Type} {f : α → List β} {l : List α} {i : Nat} {x : α} (h : l[i]? = some x) : (l.take (i + 1)).flatMap f = (l.take i).flatMap f ++ f x := by rw [List.take_add_one, h, List.flatMap_append]; simp
theorem zN2 (a b : List O3) (x : Int × Int × Int × Int) (m : Nat) : c4 a b x (m + 1) = c4 a b x m ++ [zc1 x m a b] := by unfold c4; rw [List.range_succ, List.map_append]; rfl
theorem ji0 (l r : List (List T4)) : qQ5 (l ++ r) = qQ5 l ++ qQ5 r := List.filter_append _ _
theorem zj9 (l : List (List T4)) : (qQ5 l).length ≤ l.length := List.length_filter_le _ _
theorem jA1 (a b : List O3) (x : Int × Int × Int × Int) (m : Nat) : (c4 a b x m).length = m := by unfold c4; simp
theorem qz4 {α β : Type} {f : α → List β} {c : Nat} : ∀ {l : List α}, (∀ x ∈ l, (f x).length ≤ c) → (l.flatMap f).length ≤ l.length * c
 | [], _ => by simp
 | x :: l, h => by
  have h1 := h x (by simp)
  have h2 := qz4 (l := l) (f := f) (c := c) fun y hy => h y (by simp [hy])
  rw [List.flatMap_cons, List.length_append, List.length_cons, Nat.add_mul]
  omega
theorem zV4 (a b : List O3) (s : Nat) (l : List (Int × Int × Int × Int)) : (c3 a b s l).length ≤ l.length * 2 := qz4 fun x _ => by rw [jA1]; omega
theorem zV5 (a : List O3) (s : Nat) (l : List (List O3)) : (c2 a s l).length ≤ l.length * 6 := qz4 fun b _ => zV4 a b s qn6
theorem zV6 (B : List (List O3)) (s : Nat) (l : List (List O3)) : (c1 B s l).length ≤ l.length * (B.length * 6) := qz4 fun a _ => zV5 a s B
theorem zc5 {s f g k : Nat} : ∀ x ∈ jj3 s f g k, x.length ≤ 1000 ∧ ∀ t ∈ x, t.ops.length ≤ 100000 := by
 intro x hx
 unfold jj3 at hx
 split at hx
 ·cases hx
 ·have h1 := (List.mem_filter.1 hx).2
  unfold isR at h1
  simp at h1
  have := qi9 h1.1
  exact ⟨by omega, fun t ht => Nat.le_trans (zA7 h1.1 t ht) (by omega)⟩
def TS (w w6 : World) (P : List (List T4)) (x : Value) (W : World) : Prop := LV 22 RdH w.heap.size x (qQ5 P) W ∧ KT 22 w6 W ∧ Below w.heap.size w W ∧ ∃ g n c, x = .slice (some ⟨g, 0, none⟩) n c
theorem zc6 (b1 b2 b3 b4 : Int) (W : World) : RdI (W.alloc (.cells #[.int .i64 b1, .int .i64 b2, .int .i64 b3, .int .i64 b4] 3)) (.slice (some ⟨W.heap.size, 0, none⟩) 4 4) (zL (b1, b2, b3, b4)) :=
 ⟨⟨_, _, rfl⟩, ⟨rfl, .inr ⟨_, 4, _, rfl, Nat.zero_le _, alloc_at W _, Nat.le_refl _, by unfold maxLen; omega, rfl, rfl⟩⟩⟩
theorem jU0 (W W1 W2 W3 W4 : World) (h1 : W.alloc (.cells #[.int .i64 0, .int .i64 1, .int .i64 2, .int .i64 3] 3) = W1) (h2 : W1.alloc (.cells #[.int .i64 0, .int .i64 2, .int .i64 1, .int .i64 3] 3) = W2) (h3 : W2.alloc (.cells #[.int .i64 0, .int .i64 3, .int .i64 1, .int .i64 2] 3) = W3)
  (h4 : W3.alloc (.cells #[.slice (some ⟨W.heap.size, 0, none⟩) 4 4, .slice (some ⟨W1.heap.size, 0, none⟩) 4 4, .slice (some ⟨W2.heap.size, 0, none⟩) 4 4] 29) = W4) :
  LV 29 RdI 0 (.slice (some ⟨W3.heap.size, 0, none⟩) 3 3) (qn6.map zL) W4 ∧ Below W.heap.size W W4 := by
 have r1 := zc6 0 1 2 3 W
 have r2 := zc6 0 2 1 3 W1
 have r3 := zc6 0 3 1 2 W2
 have b1 := (Below.refl W.heap.size W).alloc (Nat.le_refl _) (.cells #[.int .i64 0, .int .i64 1, .int .i64 2, .int .i64 3] 3)
 have b2 := (Below.refl W1.heap.size W1).alloc (Nat.le_refl _) (.cells #[.int .i64 0, .int .i64 2, .int .i64 1, .int .i64 3] 3)
 have b3 := (Below.refl W2.heap.size W2).alloc (Nat.le_refl _) (.cells #[.int .i64 0, .int .i64 3, .int .i64 1, .int .i64 2] 3)
 have b4 := (Below.refl W3.heap.size W3).alloc (Nat.le_refl _) (.cells #[.slice (some ⟨W.heap.size, 0, none⟩) 4 4, .slice (some ⟨W1.heap.size, 0, none⟩) 4 4, .slice (some ⟨W2.heap.size, 0, none⟩) 4 4] 29)
 have hc := alloc_at W3 (.cells #[.slice (some ⟨W.heap.size, 0, none⟩) 4 4, .slice (some ⟨W1.heap.size, 0, none⟩) 4 4, .slice (some ⟨W2.heap.size, 0, none⟩) 4 4] 29)
 rw [h1] at r1 b1
 rw [h2] at r2 b2
 rw [h3] at r3 b3
 rw [h4] at b4 hc
 refine ⟨⟨[.slice (some ⟨W.heap.size, 0, none⟩) 4 4, .slice (some ⟨W1.heap.size, 0, none⟩) 4 4, .slice (some ⟨W2.heap.size, 0, none⟩) 4 4], rfl, ⟨rfl, .inr ⟨_, 3, _, rfl, Nat.zero_le _, hc, Nat.le_refl _, by unfold maxLen; omega, rfl, rfl⟩⟩, fun i v a hv ha => ?_⟩, ((b1.trans (b2.mono b1.size)).trans (b3.mono (Nat.le_trans b1.size b2.size))).trans (b4.mono (Nat.le_trans b1.size (Nat.le_trans b2.size b3.size)))⟩
 match i, hv, ha with
 | 0, hv, ha => exact Option.some.inj hv ▸ Option.some.inj (show some (zL (0, 1, 2, 3)) = some a from ha) ▸ (((r1.below b2).below b3).below b4)
 | 1, hv, ha => exact Option.some.inj hv ▸ Option.some.inj (show some (zL (0, 2, 1, 3)) = some a from ha) ▸ ((r2.below b3).below b4)
 | 2, hv, ha => exact Option.some.inj hv ▸ Option.some.inj (show some (zL (0, 3, 1, 2)) = some a from ha) ▸ (r3.below b4)
 | i + 3, hv, ha => simp at hv
def Qc9 (ad aa ab : Addr) (x i k : Nat) (gs cs ga ca gb cb na nb : Nat) (z : Int × Int × Int × Int) (W : World) : Prop :=
 W.cell? (ad.add x) = some (.slice (some ⟨gs, 0, none⟩) 4 cs) ∧ W.cell? ⟨gs, 0, none⟩ = some (.int .i64 z.1) ∧ W.cell? ⟨gs, 1, none⟩ = some (.int .i64 z.2.1) ∧ W.cell? ⟨gs, 2, none⟩ = some (.int .i64 z.2.2.1) ∧ W.cell? ⟨gs, 3, none⟩ = some (.int .i64 z.2.2.2) ∧
  W.cell? (aa.add i) = some (.slice (some ⟨ga, 0, none⟩) na ca) ∧ W.cell? (ab.add k) = some (.slice (some ⟨gb, 0, none⟩) nb cb)
theorem TS.below {w w6 W W' : World} {P : List (List T4)} {x : Value} (h : TS w w6 P x W) (hb : Below W.heap.size W W') : TS w w6 P x W' :=
 ⟨h.1.below jj5 hb, h.2.1.trans (KT.of_below hb), h.2.2.1.trans (hb.mono h.2.2.1.size), h.2.2.2⟩
theorem TS.skip {w w6 W : World} {P : List (List T4)} {x : Value} {h : List T4} (s : TS w w6 P x W) (hp : isR h = false) : TS w w6 (P ++ [h]) x W := by
 unfold TS
 rw [ji0, show qQ5 [h] = [] by simp [qQ5, hp], List.append_nil]
 exact s
theorem TS.more {w w6 W : World} {P : List (List T4)} {x v : Value} {h : List T4} (s : TS w w6 P x W) (hp : isR h = true) (hv : RdH W v h) (h1 : v.oneCell' = true) (hl : P.length ≤ 1000000) : ∃ A c n W', x = .slice A n c ∧ ∃ A3 c3, (Builtin.append_ #[42, 42] 42 #[.slice A n c, .slice (some ⟨W.heap.size, 0, none⟩) 1 1]).run Try.prog (W.alloc (.cells #[v] 22)) = .ok (.slice A3 (n + 1) c3) W' ∧ TS w w6 (P ++ [h]) (.slice A3 (n + 1) c3) W' := by
 obtain ⟨hx, hk, hb, _⟩ := s
 obtain ⟨A, c, rfl, _⟩ := hx.slice
 have hb3 := (Below.refl W.heap.size W).alloc (Nat.le_refl _) (.cells #[v] 22)
 obtain ⟨A3, c3, W3, hr3, jj4, hk3, hg3⟩ := (hx.below jj5 hb3).append Qc8 jj5 (a := h) (alloc_at W _) h1 (jj5 _ _ _ _ (KT.of_below hb3) hv) (Nat.le_trans hb.size hb3.size) (Nat.le_trans (zj9 P) hl)
 refine ⟨A, c, _, W3, rfl, A3, c3, hr3, ?_, (hk.trans (KT.of_below hb3)).trans hk3, (hb.trans (hb3.mono hb.size)).grown hg3 (Nat.le_trans hb.size hb3.size) (fun q hq => (hx.lt q hq).1), ?_⟩
 case refine_2 =>
  obtain ⟨vals, _, h2, _⟩ := jj4
  rcases h2.2 with ⟨_, h0⟩ | ⟨g, cp, cur, e1, _⟩
  ·simp at h0
  ·exact ⟨g, _, cp, e1⟩
 rw [ji0, show qQ5 [h] = [h] by simp [qQ5, hp]]
 exact jj4
set_option maxHeartbeats 8000000 in
set_option maxRecDepth 100000 in
theorem zp9 {s f g k : Nat} (hs : s ≤ 100) (hf : f ≤ 100) (hg : g ≤ 100) (Qd0 : f + g ≤ 100) (hk : k ≤ 100) (hB1 : ∀ i, i ≤ f → (2 * k * (f + g + 1)) ^ i ≤ 1000) (hB2 : ∀ i, i ≤ g → (2 * k * (f + g + 1)) ^ i ≤ 100) (w : World) :
  Calls Try.prog 26 #[.int .i64 (s : Int), .int .i64 (f : Int), .int .i64 (g : Int), .int .i64 (k : Int)] w fun e w' => ∃ x, e = .returned x ∧ LV 22 RdH w.heap.size x (jj3 s f g k) w' ∧ (∃ g n c, x = .slice (some ⟨g, 0, none⟩) n c) ∧ Below w.heap.size w w' := by
 have hbA := (Below.refl w.heap.size w).alloc (Nat.le_refl _) (.cells #[] 22)
 have hxo : LV 22 RdH w.heap.size (.slice (some ⟨w.heap.size, 0, none⟩) 0 0) [] (w.alloc (.cells #[] 22)) := LV.made (Nat.le_refl _)
 have HBA := Lib.hid hbA
 have HXO := Lib.hid hxo
 have HB1 := Lib.hid hB1
 have HB2 := Lib.hid hB2
 clear hbA hxo hB1 hB2
 go_enter Try.func26, Try.ntmps26
 by_cases hk0 : k = 0
 ·subst hk0
  go_wp2_with fail
  go_ret
  exact ⟨_, rfl, by rw [show jj3 s f g 0 = [] by unfold jj3; rw [if_pos rfl]]; exact HXO.out, ⟨_, _, _, rfl⟩, HBA.out⟩
 ·have hk1 : ¬ (k : Int) < 1 := by omega
  have hla : (qT6 f k (f + g)).length ≤ 1000 := by rw [qC9]; exact HB1.out f (Nat.le_refl _)
  have hlb : (qT6 g k (f + g)).length ≤ 100 := by rw [qC9]; exact HB2.out g (Nat.le_refl _)
  have hra : ∀ r ∈ qT6 f k (f + g), r.length = f := jT9
  have hrb : ∀ r ∈ qT6 g k (f + g), r.length = g := jT9
  have hoa := fun W => jh8 (m := f) (k := k) (v := f + g) hf (by omega) (by omega) Qd0 (fun i hi => Nat.le_trans (HB1.out i hi) (by omega)) W
  have hob := fun W => jh8 (m := g) (k := k) (v := f + g) hg (by omega) (by omega) Qd0 (fun i hi => Nat.le_trans (HB2.out i hi) (by omega)) W
  have hend := zj8 s f g k hk0
  have hfg : (f : Int) + (g : Int) = ((f + g : Nat) : Int) := by omega
  have hfgb : f + g ≤ 100 := Qd0
  obtain ⟨LA, hLA⟩ : ∃ L, qT6 f k (f + g) = L := ⟨_, rfl⟩
  obtain ⟨LB, hLB⟩ : ∃ L, qT6 g k (f + g) = L := ⟨_, rfl⟩
  obtain ⟨fg, hfge⟩ : ∃ n, f + g = n := ⟨_, rfl⟩
  rw [hLA] at hla hra hoa hend
  rw [hLB] at hlb hrb hob hend
  rw [hfge] at hoa hob hfg hfgb
  have HOA := Lib.hid hoa
  have HOB := Lib.hid hob
  have Qc6 := Lib.hid hend
  have HRA := Lib.hid hra
  have HRB := Lib.hid hrb
  clear hoa hob hend hra hrb hLA hLB hfge HB1 HB2
  go_upto_region 6 with (first
   | (go_at_call 51; (with_reducible refine (HOA.out _).mono ?_); rintro e w1 ⟨xa, rfl, hxa, hb1⟩; obtain ⟨A, ca, rfl, _⟩ := hxa.slice; clear HOA)
   | (go_at_call 51; (with_reducible refine (HOB.out _).mono ?_); rintro e w2 ⟨xb, rfl, hxb, hb2⟩; obtain ⟨B, cb, rfl, _⟩ := hxb.slice; clear HOB))
  obtain ⟨W1, hW1⟩ : ∃ W, w2.alloc (.cells #[.int .i64 0, .int .i64 1, .int .i64 2, .int .i64 3] 3) = W := ⟨_, rfl⟩
  obtain ⟨W2, hW2⟩ : ∃ W, W1.alloc (.cells #[.int .i64 0, .int .i64 2, .int .i64 1, .int .i64 3] 3) = W := ⟨_, rfl⟩
  obtain ⟨W3, hW3⟩ : ∃ W, W2.alloc (.cells #[.int .i64 0, .int .i64 3, .int .i64 1, .int .i64 2] 3) = W := ⟨_, rfl⟩
  obtain ⟨W4, hW4⟩ : ∃ W, W3.alloc (.cells #[.slice (some ⟨w2.heap.size, 0, none⟩) 4 4, .slice (some ⟨W1.heap.size, 0, none⟩) 4 4, .slice (some ⟨W2.heap.size, 0, none⟩) 4 4] 29) = W := ⟨_, rfl⟩
  obtain ⟨hst, zB7⟩ := jU0 w2 W1 W2 W3 W4 hW1 hW2 hW3 hW4
  have hs1 : w2.heap.size + 1 = W1.heap.size := by rw [← hW1]; simp
  have hs2 : W1.heap.size + 1 = W2.heap.size := by rw [← hW2]; simp
  have hs3 : W2.heap.size + 1 = W3.heap.size := by rw [← hW3]; simp
  have hb01 := hb1
  have hbw := (HBA.out.trans (hb1.mono HBA.out.size)).trans ((hb2.trans (zB7.mono hb2.size)).mono (Nat.le_trans HBA.out.size hb1.size))
  have hts0 : TS w W4 [] (.slice (some ⟨w.heap.size, 0, none⟩) 0 0) W4 := ⟨(((HXO.out.below jj5 hb1).below jj5 hb2).below jj5 zB7), ⟨Nat.le_refl _, fun _ _ _ _ h _ => h⟩, hbw, ⟨_, _, _, rfl⟩⟩
  have Qd1 := ((hxa.below jz9 hb2).below jz9 zB7).lower (Nat.zero_le _)
  have Qd2 := (hxb.below jz9 zB7).lower (Nat.zero_le _)
  obtain ⟨na, hna⟩ : ∃ n, LA.length = n := ⟨_, rfl⟩
  obtain ⟨nb, hnb⟩ : ∃ n, LB.length = n := ⟨_, rfl⟩
  rw [hna] at Qd1 hla ⊢
  rw [hnb] at Qd2 hlb ⊢
  have HT0 := Lib.hid hts0
  have HXA := Lib.hid Qd1
  have HXB := Lib.hid Qd2
  have HST := Lib.hid hst
  have HNA := Lib.hid hna
  have HNB := Lib.hid hnb
  have HWS := Lib.hid (show _ ∧ _ ∧ _ ∧ _ from ⟨hW1, hW2, hW3, hW4⟩)
  have HSS := Lib.hid (show _ ∧ _ ∧ _ from ⟨hs1, hs2, hs3⟩)
  clear hst zB7 hbw hts0 Qd1 Qd2 hna hnb hW1 hW2 hW3 hW4 hs1 hs2 hs3 hb01 hxa hxb hb1 hb2 HXO HBA
  go_upto_region 7 with fail
  rw [HSS.out.1, HSS.out.2.1, HSS.out.2.2, HWS.out.1, HWS.out.2.1, HWS.out.2.2.1, HWS.out.2.2.2]
  clear HWS HSS
  obtain ⟨ad, had⟩ : ∃ ad : Addr, ⟨W3.heap.size, 0, none⟩ = ad := ⟨_, rfl⟩
  rw [had] at HST ⊢
  clear had
  go_wp2_with fail
  go_loopw [9, 13] (fun x u W => ∃ i : Nat, i ≤ na ∧ u = .int .i64 ((i : Nat) : Int) ∧ TS w W4 (c1 LB s (LA.take i)) x W) (fun _ u _ => na - (intOf u).toNat)
  case atStart => exact ⟨0, Nat.zero_le _, rfl, HT0.out⟩
  case round =>
   clear HT0
   rename World => v1
   obtain ⟨i, hi, rfl, ht⟩ := hrel
   by_cases hit : i < na
   ·have hiz : (i : Int) < (na : Int) := by omega
    obtain ⟨a, ha⟩ : ∃ r, LA[i]? = some r := ⟨_, List.getElem?_eq_getElem (by rw [HNA.out]; exact hit)⟩
    have hnext : c1 LB s (LA.take (i + 1)) = c1 LB s (LA.take i) ++ c2 a s LB := jI0 ha
    have hP1 := zV6 LB s (LA.take i)
    rw [HNB.out, List.length_take] at hP1
    obtain ⟨P1, hP⟩ : ∃ P, c1 LB s (LA.take i) = P := ⟨_, rfl⟩
    rw [hP] at ht hnext hP1
    have hP1b : P1.length ≤ 600000 := by
     have h1 : min i LA.length * (nb * 6) ≤ 1000 * 600 := Nat.mul_le_mul (by omega) (by omega)
     omega
    have HNX1 := Lib.hid hnext
    have HT1 := Lib.hid ht
    have HA := Lib.hid ha
    clear hP1 hP hnext ht ha
    go_wp2_with fail
    go_loopw [9, 14] (fun x u W => ∃ j : Nat, j ≤ nb ∧ u = .int .i64 ((j : Nat) : Int) ∧ TS w W4 (P1 ++ c2 a s (LB.take j)) x W) (fun _ u _ => nb - (intOf u).toNat)
    case atStart => exact ⟨0, Nat.zero_le _, rfl, by rw [show P1 ++ c2 a s (LB.take 0) = P1 by simp [c2]]; exact HT1.out⟩
    case round =>
     clear HT1
     rename World => v2
     obtain ⟨j, hj, rfl, ht⟩ := hrel
     by_cases hjt : j < nb
     ·have hjz : (j : Int) < (nb : Int) := by omega
      obtain ⟨b, hb⟩ : ∃ r, LB[j]? = some r := ⟨_, List.getElem?_eq_getElem (by rw [HNB.out]; exact hjt)⟩
      have hnext : P1 ++ c2 a s (LB.take (j + 1)) = P1 ++ c2 a s (LB.take j) ++ c3 a b s qn6 := by rw [List.append_assoc]; exact congrArg (P1 ++ ·) (jI0 hb)
      have hP1 := zV5 a s (LB.take j)
      rw [List.length_take] at hP1
      obtain ⟨P2, hP⟩ : ∃ P, P1 ++ c2 a s (LB.take j) = P := ⟨_, rfl⟩
      rw [hP] at ht hnext
      have hP2b : P2.length ≤ 600600 := by rw [← hP, List.length_append]; omega
      have HNX2 := Lib.hid hnext
      have HT2 := Lib.hid ht
      have HB := Lib.hid hb
      clear hP1 hP hnext ht hb
      go_wp2_with fail
      go_loopw [9, 15] (fun x u W => ∃ y : Nat, y ≤ 3 ∧ u = .int .i64 ((y : Nat) : Int) ∧ TS w W4 (P2 ++ c3 a b s (qn6.take y)) x W) (fun _ u _ => 3 - (intOf u).toNat)
      case atStart => exact ⟨0, Nat.zero_le _, rfl, by rw [show P2 ++ c3 a b s (qn6.take 0) = P2 by simp [c3]]; exact HT2.out⟩
      case round =>
       clear HT2
       rename World => v3
       obtain ⟨y, hy, rfl, ht⟩ := hrel
       by_cases hyt : y < 3
       ·have hyz : (y : Int) < 3 := by omega
        obtain ⟨z, hz⟩ : ∃ z, qn6[y]? = some z := ⟨_, List.getElem?_eq_getElem (by show y < 3; exact hyt)⟩
        have hnext : P2 ++ c3 a b s (qn6.take (y + 1)) = P2 ++ c3 a b s (qn6.take y) ++ c4 a b z (min 2 s) := by rw [List.append_assoc]; exact congrArg (P2 ++ ·) (jI0 hz)
        have hP1 := zV4 a b s (qn6.take y)
        rw [List.length_take] at hP1
        obtain ⟨P3, hP⟩ : ∃ P, P2 ++ c3 a b s (qn6.take y) = P := ⟨_, rfl⟩
        rw [hP] at ht hnext
        have hP3b : P3.length ≤ 600610 := by rw [← hP, List.length_append]; omega
        have HNX3 := Lib.hid hnext
        have HT3 := Lib.hid ht
        have HZ := Lib.hid hz
        clear hP1 hP hnext ht hz
        go_wp2_with fail
        go_loopw [9, 16] (fun x u W => ∃ q : Nat, q ≤ min 2 s ∧ u = .int .i64 ((q : Nat) : Int) ∧ TS w W4 (P3 ++ c4 a b z q) x W) (fun _ u _ => 2 - (intOf u).toNat)
        case atStart => exact ⟨0, Nat.zero_le _, rfl, by rw [show P3 ++ c4 a b z 0 = P3 by simp [c4]]; exact HT3.out⟩
        case round =>
         clear HT3
         rename World => v4
         obtain ⟨q, hq, rfl, ht⟩ := hrel
         by_cases hqt : q < min 2 s
         ·have hq2 : (q : Int) < 2 := by omega
          have hqs : (q : Int) < (s : Int) := by omega
          have hnext : P3 ++ c4 a b z (q + 1) = P3 ++ c4 a b z q ++ [zc1 z q a b] := by rw [List.append_assoc]; exact congrArg (P3 ++ ·) (zN2 a b z q)
          obtain ⟨P4, hP⟩ : ∃ P, P3 ++ c4 a b z q = P := ⟨_, rfl⟩
          rw [hP] at ht hnext
          have hP4b : P4.length ≤ 600620 := by rw [← hP, List.length_append, jA1]; omega
          obtain ⟨hto, htk, htb, htn⟩ := ht
          obtain ⟨aa, va, rfl, y5, hva⟩ := (HXA.out.kt (qO9 (by decide)) htk (by decide)).at HA.out
          obtain ⟨ab, vb, rfl, y6, hvb⟩ := (HXB.out.kt (qO9 (by decide)) htk (by decide)).at HB.out
          obtain ⟨ad', vz, hadE, y0, hvz⟩ := (HST.out.kt (jg1 (by decide)) htk (by decide)).at (a := zL z) (i := y) (by rw [List.getElem?_map, HZ.out]; rfl)
          cases hadE
          obtain ⟨⟨gs, cs, rfl⟩, hzo⟩ := hvz
          obtain ⟨z1, z2, z3, z4⟩ := z
          have y1 := hzo.cells (g := gs) rfl 0 (.int .i64 z1) rfl
          have y2 := hzo.cells (g := gs) rfl 1 (.int .i64 z2) rfl
          have y3 := hzo.cells (g := gs) rfl 2 (.int .i64 z3) rfl
          have y4 := hzo.cells (g := gs) rfl 3 (.int .i64 z4) rfl
          rw [add_zero] at y1 y2 y3 y4
          obtain ⟨⟨ga, cga, rfl⟩, _⟩ := id hva
          obtain ⟨⟨gb, cgb, rfl⟩, _⟩ := id hvb
          rw [HRA.out a (List.mem_of_getElem? HA.out)] at y5
          rw [HRB.out b (List.mem_of_getElem? HB.out)] at y6
          have hlaf := HRA.out a (List.mem_of_getElem? HA.out)
          have hlbg := HRB.out b (List.mem_of_getElem? HB.out)
          have hreg : Qc9 ad aa ab y i j gs cs ga cga gb cgb f g (z1, z2, z3, z4) v4 := ⟨y0, y1, y2, y3, y4, y5, y6⟩
          have Qd3 := Lib.hid (fun W (hb : Below v4.heap.size v4 W) => (⟨cell_below hb y0, cell_below hb y1, cell_below hb y2, cell_below hb y3, cell_below hb y4, cell_below hb y5, cell_below hb y6⟩ : Qc9 ad aa ab y i j gs cs ga cga gb cgb f g (z1, z2, z3, z4) W))
          have HVA := Lib.hid hva
          have HVB := Lib.hid hvb
          have HTO := Lib.hid hto
          have HTK := Lib.hid htk
          have HTB := Lib.hid htb
          have HTN0 := Lib.hid htn
          have HLF := Lib.hid (show a.length = f ∧ b.length = g from ⟨hlaf, hlbg⟩)
          have HNX4 := Lib.hid hnext
          have HP4 := Lib.hid hP
          clear hto htk htb htn y0 y1 y2 y3 y4 y5 y6 hva hvb hzo hlaf hlbg hreg hnext hP
          go_upto_region 19 with fail
          go_cut [17] (fun v17 wx => v17 = .slice (some ⟨v4.heap.size, 0, none⟩) 2 2 ∧ RdH wx v17 (zc1 (z1, z2, z3, z4) q a b) ∧ Below v4.heap.size v4 wx)
          case first =>
           have hV0 : Below v4.heap.size v4 v4.drew := (Below.refl _ _).drew
           have hVs : v4.drew.heap.size = v4.heap.size := rfl
           obtain ⟨V0, hV⟩ : ∃ V0, v4.drew = V0 := ⟨_, rfl⟩
           refine qU.qr8 [] (Qc9 ad aa ab y i j gs cs ga cga gb cgb f g (z1, z2, z3, z4)) (by kernel_rfl) ?_
           rw [hV] at hV0 hVs ⊢
           have HV0 := Lib.hid hV0
           have HVS := Lib.hid hVs
           have hAA := Qd3.out V0 hV0
           clear hV hV0 hVs
           refine pu (i := 0) (v := .slice (some ad) 3 3) rfl (fun _ => by go_simp) ?_
           simp only [Act.put, sa, sz, ss]
           refine pu (i := 1) (v := .int .i64 (y : Int)) rfl (fun _ => by go_simp) ?_
           simp only [Act.put, sa, sz, ss]
           refine pu (i := 2) (v := .pointer (some (ad.add y))) rfl (fun _ => by go_simp) ?_
           simp only [Act.put, sa, sz, ss]
           refine ta (i := 3) (v := .slice (some ⟨gs, 0, none⟩) 4 cs) rfl (fun _ hW => by obtain ⟨q0, q1, q2, q3, q4, q5, q6⟩ := hW; go_simp) hAA ?_
           simp only [Act.put, sa, sz, ss]
           refine pu (i := 4) (v := .pointer (some ⟨gs, 0, none⟩)) rfl (fun _ => by go_simp) ?_
           simp only [Act.put, sa, sz, ss]
           refine ta (i := 5) (v := .int .i64 z1) rfl (fun _ hW => by obtain ⟨q0, q1, q2, q3, q4, q5, q6⟩ := hW; go_simp) hAA ?_
           simp only [Act.put, sa, sz, ss]
           refine pu (i := 6) (v := .slice (some ad) 3 3) rfl (fun _ => by go_simp) ?_
           simp only [Act.put, sa, sz, ss]
           refine pu (i := 7) (v := .int .i64 (y : Int)) rfl (fun _ => by go_simp) ?_
           simp only [Act.put, sa, sz, ss]
           refine pu (i := 8) (v := .pointer (some (ad.add y))) rfl (fun _ => by go_simp) ?_
           simp only [Act.put, sa, sz, ss]
           refine ta (i := 9) (v := .slice (some ⟨gs, 0, none⟩) 4 cs) rfl (fun _ hW => by obtain ⟨q0, q1, q2, q3, q4, q5, q6⟩ := hW; go_simp) hAA ?_
           simp only [Act.put, sa, sz, ss]
           refine pu (i := 10) (v := .pointer (some ⟨gs, 1, none⟩)) rfl (fun _ => by go_simp) ?_
           simp only [Act.put, sa, sz, ss]
           refine ta (i := 11) (v := .int .i64 z2) rfl (fun _ hW => by obtain ⟨q0, q1, q2, q3, q4, q5, q6⟩ := hW; go_simp) hAA ?_
           simp only [Act.put, sa, sz, ss]
           refine pu (i := 12) (v := .slice (some aa) na ca) rfl (fun _ => by go_simp) ?_
           simp only [Act.put, sa, sz, ss]
           refine pu (i := 13) (v := .int .i64 (i : Int)) rfl (fun _ => by go_simp) ?_
           simp only [Act.put, sa, sz, ss]
           refine pu (i := 14) (v := .pointer (some (aa.add i))) rfl (fun _ => by go_simp) ?_
           simp only [Act.put, sa, sz, ss]
           refine ta (i := 15) (v := .slice (some ⟨ga, 0, none⟩) f cga) rfl (fun _ hW => by obtain ⟨q0, q1, q2, q3, q4, q5, q6⟩ := hW; go_simp) hAA ?_
           simp only [Act.put, sa, sz, ss]
           refine pu (i := 16) (v := .agg #[.int .i64 0, .int .i64 z1, .int .i64 z2, .slice (some ⟨ga, 0, none⟩) f cga]) rfl (fun _ => by go_simp) ?_
           simp only [Act.put, sa, sz, ss]
           refine pu (i := 17) (v := .int .i64 (q : Int)) rfl (fun _ => by go_simp) ?_
           simp only [Act.put, sa, sz, ss]
           refine pu (i := 18) (v := .slice (some ad) 3 3) rfl (fun _ => by go_simp) ?_
           simp only [Act.put, sa, sz, ss]
           refine pu (i := 19) (v := .int .i64 (y : Int)) rfl (fun _ => by go_simp) ?_
           simp only [Act.put, sa, sz, ss]
           refine pu (i := 20) (v := .pointer (some (ad.add y))) rfl (fun _ => by go_simp) ?_
           simp only [Act.put, sa, sz, ss]
           refine ta (i := 21) (v := .slice (some ⟨gs, 0, none⟩) 4 cs) rfl (fun _ hW => by obtain ⟨q0, q1, q2, q3, q4, q5, q6⟩ := hW; go_simp) hAA ?_
           simp only [Act.put, sa, sz, ss]
           refine pu (i := 22) (v := .pointer (some ⟨gs, 2, none⟩)) rfl (fun _ => by go_simp) ?_
           simp only [Act.put, sa, sz, ss]
           refine ta (i := 23) (v := .int .i64 z3) rfl (fun _ hW => by obtain ⟨q0, q1, q2, q3, q4, q5, q6⟩ := hW; go_simp) hAA ?_
           simp only [Act.put, sa, sz, ss]
           refine pu (i := 24) (v := .slice (some ad) 3 3) rfl (fun _ => by go_simp) ?_
           simp only [Act.put, sa, sz, ss]
           refine pu (i := 25) (v := .int .i64 (y : Int)) rfl (fun _ => by go_simp) ?_
           simp only [Act.put, sa, sz, ss]
           refine pu (i := 26) (v := .pointer (some (ad.add y))) rfl (fun _ => by go_simp) ?_
           simp only [Act.put, sa, sz, ss]
           refine ta (i := 27) (v := .slice (some ⟨gs, 0, none⟩) 4 cs) rfl (fun _ hW => by obtain ⟨q0, q1, q2, q3, q4, q5, q6⟩ := hW; go_simp) hAA ?_
           simp only [Act.put, sa, sz, ss]
           refine pu (i := 28) (v := .pointer (some ⟨gs, 3, none⟩)) rfl (fun _ => by go_simp) ?_
           simp only [Act.put, sa, sz, ss]
           refine ta (i := 29) (v := .int .i64 z4) rfl (fun _ hW => by obtain ⟨q0, q1, q2, q3, q4, q5, q6⟩ := hW; go_simp) hAA ?_
           simp only [Act.put, sa, sz, ss]
           refine pu (i := 30) (v := .slice (some ab) nb cb) rfl (fun _ => by go_simp) ?_
           simp only [Act.put, sa, sz, ss]
           refine pu (i := 31) (v := .int .i64 (j : Int)) rfl (fun _ => by go_simp) ?_
           simp only [Act.put, sa, sz, ss]
           refine pu (i := 32) (v := .pointer (some (ab.add j))) rfl (fun _ => by go_simp) ?_
           simp only [Act.put, sa, sz, ss]
           refine ta (i := 33) (v := .slice (some ⟨gb, 0, none⟩) g cgb) rfl (fun _ hW => by obtain ⟨q0, q1, q2, q3, q4, q5, q6⟩ := hW; go_simp) hAA ?_
           simp only [Act.put, sa, sz, ss]
           refine pu (i := 34) (v := .agg #[.int .i64 (q : Int), .int .i64 z3, .int .i64 z4, .slice (some ⟨gb, 0, none⟩) g cgb]) rfl (fun _ => by go_simp) ?_
           simp only [Act.put, sa, sz, ss]
           have hrh := zN1 (W := V0) (t1 := ⟨0, z1, z2, a⟩) (t2 := ⟨q, z3, z4, b⟩) (RdO.below HVA.out HV0.out) (RdO.below HVB.out HV0.out)
           have hbn := HV0.out.alloc HV0.out.size (.cells #[.int .i64 0, .int .i64 z1, .int .i64 z2, .slice (some ⟨ga, 0, none⟩) f cga, .int .i64 (q : Int), .int .i64 z3, .int .i64 z4, .slice (some ⟨gb, 0, none⟩) g cgb] 55)
           rw [HLF.out.1, HLF.out.2, HVS.out] at hrh
           have HRH := Lib.hid hrh
           have HBN := Lib.hid hbn
           clear hAA hrh hbn
           refine zX (i := 35) rfl (by kernel_rfl) rfl ?_
           intro K7 hK7
           have HK7 := Lib.hid hK7
           clear hK7
           (try simp only [List.getElem_toArray, List.getElem_cons_succ, List.getElem_cons_zero])
           unfold Oper.wp
           go_simp
           rw [HVS.out]
           refine HK7.out _ _ ⟨fun _ _ => Qd3.out _ HBN.out, ?_⟩
           clear HK7 K7
           (try simp only [Act.put, sa, sz, ss])
           refine pu (i := 36) (v := .slice (some ⟨v4.heap.size, 0, none⟩) 2 2) rfl (fun _ => by go_simp) ?_
           simp only [Act.put, sa, sz, ss]
           (try simp only [List.getElem_toArray, List.getElem_cons_succ, List.getElem_cons_zero, Act.put, sa, sz, ss])
           refine qU.qB6 (by kernel_rfl) ?_ _
           go_wp2_with fail
           go_meet
           exact ⟨rfl, HRH.out, HBN.out⟩
          case rest =>
           rename World => v5
           obtain ⟨rfl, hrh, hb5⟩ := hcut
           obtain ⟨h, hh⟩ : ∃ h, zc1 (z1, z2, z3, z4) q a b = h := ⟨_, rfl⟩
           have hh2 : h.length = 2 := by rw [← hh]; rfl
           have hho : ∀ t ∈ h, t.ops.length ≤ 1000 := by
            rw [← hh]
            intro t ht
            simp [zc1] at ht
            rcases ht with rfl | rfl
            ·show a.length ≤ 1000; rw [HLF.out.1]; omega
            ·show b.length ≤ 1000; rw [HLF.out.2]; omega
           have hnx := HNX4.out
           rw [hh] at hrh hnx
           obtain ⟨AH, cH, eH, hcH, hrH⟩ := hrh.rd
           rw [hh2] at eH hcH
           injection eH with eH1 eH2 eH3
           subst eH1
           subst eH3
           have his := zc0 hrH (by rw [hh2]; exact hcH) (by omega) hho
           rw [hh2] at his
           obtain ⟨p, hp⟩ : ∃ p, isR h = p := ⟨_, rfl⟩
           rw [hp] at his
           have hts : TS w W4 P4 u9 v5 := TS.below (W := v4) ⟨HTO.out, HTK.out, HTB.out, HTN0.out⟩ hb5
           have HIS := Lib.hid his
           have HRH := Lib.hid hrh
           have HTS := Lib.hid hts
           have HPP := Lib.hid hp
           have HNX := Lib.hid hnx
           clear hh hh2 hho hnx hrh hcH hrH eH2 his hp hts hb5 Qd3 HVA HVB HTO HTK HTB HTN0 HNX4 HP4
           cases p with
           | true =>
            go_upto_region 21 with (go_at_call 35; (with_reducible refine HIS.out.mono ?_); rintro e v6 ⟨rfl, hb6⟩)
            obtain ⟨A1, c1', n1, W5, hu9, A3, c3', hr3, hts3⟩ := (HTS.out.below hb6).more HPP.out (jj5 _ _ _ _ (KT.of_below hb6) HRH.out) rfl (by omega)
            subst hu9
            have HR3 := Lib.hid hr3
            have HTN := Lib.hid hts3
            clear hb6 hr3 hts3 HTS HRH HIS
            go_wp2_with (at_builtin; refine qU.wpList_append_run rfl _ _ _ rfl _ _ rfl rfl _ rfl HR3.out ?_; clear HR3)
            go_roundw
            case rel => exact ⟨q + 1, by omega, by go_num, by rw [HNX.out]; exact HTN.out⟩
            case measure => (simp [intOf]; try omega)
           | false =>
            go_wp2_with (go_at_call 35; (with_reducible refine HIS.out.mono ?_); rintro e v6 ⟨rfl, hb6⟩; have HB6 := Lib.hid hb6; clear hb6)
            go_roundw
            case rel => exact ⟨q + 1, by omega, by go_num, by rw [HNX.out]; exact (HTS.out.below HB6.out).skip HPP.out⟩
            case measure => (simp [intOf]; try omega)
         ·have hqe : q = min 2 s := by omega
          subst hqe
          rw [← HNX3.out] at ht
          have HTN := Lib.hid ht
          clear ht
          by_cases hs2 : s < 2
          ·have hq2 : ((min 2 s : Nat) : Int) < 2 := by omega
           have hqs : ¬ ((min 2 s : Nat) : Int) < (s : Int) := by omega
           obtain ⟨q, hq⟩ : ∃ q, min 2 s = q := ⟨_, rfl⟩
           rw [hq] at hq2 hqs ⊢
           clear hq hqt
           go_wp2_with fail
           go_roundw
           case rel => exact ⟨y + 1, by omega, by go_num, HTN.out⟩
           case measure => (simp [intOf]; try omega)
          ·have hq2 : ¬ ((min 2 s : Nat) : Int) < 2 := by omega
           obtain ⟨q, hq⟩ : ∃ q, min 2 s = q := ⟨_, rfl⟩
           rw [hq] at hq2 ⊢
           clear hq hqt
           go_wp2_with fail
           go_roundw
           case rel => exact ⟨y + 1, by omega, by go_num, HTN.out⟩
           case measure => (simp [intOf]; try omega)
       ·have hye : y = 3 := by omega
        subst hye
        rw [show qn6.take 3 = qn6 from rfl, ← HNX2.out] at ht
        have HTN := Lib.hid ht
        clear ht
        go_wp2_with fail
        go_roundw
        case rel => exact ⟨j + 1, by omega, by go_num, HTN.out⟩
        case measure => (simp [intOf]; try omega)
     ·have hje : j = nb := by omega
      subst hje
      rw [List.take_of_length_le (by rw [HNB.out]; exact Nat.le_refl _), ← HNX1.out] at ht
      have HTN := Lib.hid ht
      clear ht
      go_wp2_with fail
      go_roundw
      case rel => exact ⟨i + 1, by omega, by go_num, HTN.out⟩
      case measure => (simp [intOf]; try omega)
   ·have hie : i = na := by omega
    subst hie
    rw [List.take_of_length_le (by rw [HNA.out]; exact Nat.le_refl _)] at ht
    go_wp2_with fail
    go_ret
    exact ⟨_, rfl, by rw [Qc6.out]; exact ht.1, ht.2.2.2, ht.2.2.1⟩
end Go.Proofs.Ytngkneknopenmaa.Ref23
end
section
namespace Go.Proofs.Ytngkneknopenmaa.Ref23
open Go Go.Lib Go.RowKit Go.Proofs.Ytngkneknopenmaa Go.Proofs.Ytngkneknopenmaa.zM Go.Proofs.Ytngkneknopenmaa.qa9 Go.Proofs.Ytngkneknopenmaa.qf6 Go.Proofs.Ytngkneknopenmaa.qb8
set_option linter.unusedSimpArgs false
theorem Qd4 (a : Int) (m : Nat) (h0 : 0 ≤ a) (hm : 0 < m) : ∃ b : Nat, a.tmod m = (b : Int) ∧ b < m := ⟨(a.tmod m).toNat, by have := Int.tmod_nonneg (m : Int) h0; omega, by have := Int.tmod_lt_of_pos a (b := m) (by omega); have := Int.tmod_nonneg (m : Int) h0; omega⟩
theorem Qd5 {a : Int} (h : (Lit.int .u8 a).wf = true) : 0 ≤ a ∧ a ≤ 255 := by simpa [Lit.wf, IntKind.min, IntKind.max, IntKind.signed, IntKind.bits] using h
def TD (q : Nat) (S T O K : Int) (W : World) : Prop := W.cell? ⟨q, 0, none⟩ = some (.int .i64 S) ∧ W.cell? ⟨q, 1, none⟩ = some (.int .i64 T) ∧ W.cell? ⟨q, 2, none⟩ = some (.int .i64 O) ∧ W.cell? ⟨q, 3, none⟩ = some (.int .i64 K)
theorem TD.of {q : Nat} {S T O K : Int} {W : World} (h : W.heap[q]? = some (.cells #[.int .i64 S, .int .i64 T, .int .i64 O, .int .i64 K] 41 (0, 0))) : TD q S T O K W := by
 have x0 := Lib.cell_of_heap h 0
 have x1 := Lib.cell_of_heap h 1
 have x2 := Lib.cell_of_heap h 2
 have x3 := Lib.cell_of_heap h 3
 simp only [List.getElem?_toArray, List.getElem?_cons_zero, List.getElem?_cons_succ] at x0 x1 x2 x3
 exact ⟨x0, x1, x2, x3⟩
def qK7 (n k s m : Nat) : List (List T4) := (List.range m).flatMap fun i => jj3 s (i + 1) (n - (i + 1)) k
theorem jr0 (n k s m : Nat) : qK7 n k s (m + 1) = qK7 n k s m ++ jj3 s (m + 1) (n - (m + 1)) k := by unfold qK7; rw [List.range_succ, List.flatMap_append]; simp
theorem ji1 {n k s m : Nat} : ∀ x ∈ qK7 n k s m, x.length ≤ 1000 ∧ ∀ t ∈ x, t.ops.length ≤ 100000 := by
 intro x hx
 obtain ⟨i, _, hi⟩ := List.mem_flatMap.1 hx
 exact zc5 x hi
theorem LV.jA2 {W : World} {base b2 : Nat} {x y : Value} {L M : List (List T4)} (s : LV 22 RdH base x L W) (t : LV 22 RdH b2 y M W) (hb : base ≤ W.heap.size) (hl : L.length + M.length ≤ 1000000) (hy : ∃ g c, y = .slice (some ⟨g, 0, none⟩) M.length c) :
  ∃ A c W', (Builtin.append_ #[42, 42] 42 #[x, y]).run Try.prog W = .ok (.slice A (L.length + M.length) c) W' ∧ LV 22 RdH base (.slice A (L.length + M.length) c) (L ++ M) W' ∧ W.grownBy W' x.ownBlock := by
 obtain ⟨vals, h1, h2, h3⟩ := s
 obtain ⟨vam, k1, k2, k3⟩ := t
 obtain ⟨g, cy, rfl⟩ := hy
 obtain ⟨i0, hii, hz0, hz1, hz2⟩ := info_parts Qc8.2
 have hone : ∀ u ∈ vam, u.oneCell' = true := by
  intro u hu
  obtain ⟨i, hi⟩ := List.mem_iff_getElem?.1 hu
  have hil := (List.getElem?_eq_some_iff.1 hi).1
  obtain ⟨⟨g, c, e⟩, _⟩ := k3 i u _ hi (List.getElem?_eq_getElem (by omega))
  rw [e]; rfl
 obtain ⟨x', W', hr, hown, hg, _, _⟩ := run_append_own_at (P := Try.prog) W base 42 42 22 i0 (.slice none 0 0) 1 24 Qc8.1 hii hz0 hz1 hz2 rfl (by decide) x L.length _ h2 ⟨g, 0, none⟩ M.length cy vam (by omega) (fun j u hj => k2.cells (g := g) rfl j u hj) hone (by unfold maxLen; omega) (by omega) hb
 have hk := KT.own h2 hg
 obtain ⟨A, c, e⟩ : ∃ A c, x' = .slice A (L.length + M.length) c := by
  rcases hown.2 with ⟨e1, h0⟩ | ⟨g, cp, cur, e1, _⟩
  ·exact ⟨none, 0, by rw [e1, h0]⟩
  ·exact ⟨_, cp, e1⟩
 subst e
 refine ⟨A, c, W', hr, ⟨vals ++ vam, by simp [h1, k1], by rw [List.length_append]; exact hown, fun i u b hu hb' => ?_⟩, hg⟩
 by_cases hi : i < L.length
 ·rw [List.getElem?_append_left (by omega)] at hu
  rw [List.getElem?_append_left hi] at hb'
  exact jj5 _ _ _ _ hk (h3 i u b hu hb')
 ·rw [List.getElem?_append_right (by omega), h1] at hu
  rw [List.getElem?_append_right (by omega)] at hb'
  exact jj5 _ _ _ _ hk (k3 _ u b hu hb')
theorem jl2 {n k f x : Nat} (h : n = 2 ∨ n = 3) (hk : k ≤ 2) (hk3 : n = 3 → k ≤ 1) (hf : f < n) (hx : x = n) : ∀ i, i ≤ f → (2 * k * (x + 1)) ^ i ≤ 100 := by
 intro i hi
 subst hx
 rcases h with rfl | rfl
 ·have h1 : (2 * k * (2 + 1)) ^ i ≤ 12 ^ i := Nat.pow_le_pow_left (by omega) i
  have h2 : (12 : Nat) ^ i ≤ 12 ^ 1 := Nat.pow_le_pow_right (by omega) (by omega)
  omega
 ·have := hk3 rfl
  have h1 : (2 * k * (3 + 1)) ^ i ≤ 8 ^ i := Nat.pow_le_pow_left (by omega) i
  have h2 : (8 : Nat) ^ i ≤ 8 ^ 2 := Nat.pow_le_pow_right (by omega) (by omega)
  omega
theorem jr1 (n k s : Nat) : qK7 n k s 0 = [] := rfl
theorem zN3 {s f g k : Nat} (h1 : (2 * k * (f + g + 1)) ^ f ≤ 100) (h2 : (2 * k * (f + g + 1)) ^ g ≤ 100) : (jj3 s f g k).length ≤ 60000 := by
 by_cases hk : k = 0
 ·unfold jj3; rw [if_pos hk]; simp
 ·rw [zj8 s f g k hk]
  refine Nat.le_trans (zj9 _) (Nat.le_trans (zV6 _ _ _) ?_)
  rw [qC9, qC9]
  have : (2 * k * (f + g + 1)) ^ f * ((2 * k * (f + g + 1)) ^ g * 6) ≤ 100 * 600 := Nat.mul_le_mul h1 (by omega)
  omega
set_option maxHeartbeats 8000000 in
set_option maxRecDepth 100000 in
theorem enumTwo_walk (a b d : Int) (w : World) (wa : (Lit.int .u8 a).wf = true) (wb : (Lit.int .u8 b).wf = true) (wd : (Lit.int .u8 d).wf = true) :
  Calls Try.prog 7 #[.int .u8 a, .int .u8 b, .int .u8 d] w fun e w' => e = .returned (.bool true) ∧ Below w.heap.size w w' := by
 obtain ⟨a1, a2⟩ := Qd5 wa
 obtain ⟨b1, b2⟩ := Qd5 wb
 obtain ⟨d1, d2⟩ := Qd5 wd
 obtain ⟨n0, hn, hn1⟩ := Qd4 a 2 a1 (by omega)
 obtain ⟨k0, hk, hk1⟩ := Qd4 b 3 b1 (by omega)
 obtain ⟨s, hs, hs1⟩ := Qd4 d 3 d1 (by omega)
 have hn' : a.tmod 2 = (n0 : Int) := hn
 have hk' : b.tmod 3 = (k0 : Int) := hk
 have hs' : d.tmod 3 = (s : Int) := hs
 have g0 := wrI (x := a) (by omega) (by omega)
 have g1 := wrI (x := b) (by omega) (by omega)
 have g2 := wrI (x := d) (by omega) (by omega)
 have HSP := Lib.hid (jq4 w)
 clear wa wb wd hn hk hs
 go_enter Try.func7, Try.ntmps7
 go_upto_region 4 with (go_at_call 21; (with_reducible refine HSP.out.mono ?_); rintro e v1 ⟨rfl, hb1⟩)
 obtain ⟨n, hnn⟩ : ∃ n, n0 + 2 = n := ⟨_, rfl⟩
 have hn2 : (2 : Int) + (n0 : Int) = (n : Int) := by omega
 rw [hn2]
 obtain ⟨k, hkk⟩ : ∃ k : Nat, (if n = 3 then min k0 1 else k0) = k := ⟨_, rfl⟩
 have HB1 := Lib.hid hb1
 have HKK := Lib.hid hkk
 clear hn' hk' hs' g0 g1 g2 HSP hn2 hb1 hkk
 have zB8 : n = 2 ∨ n = 3 := by omega
 have hk2 : k ≤ 2 := by have := HKK.out; split at this <;> omega
 have hk3 : n = 3 → k ≤ 1 := fun h => by have := HKK.out; rw [if_pos h] at this; omega
 obtain ⟨e1, e2, e3, e4, e5, e6⟩ := jH8 (zB0 zB8 hk2 hk3 (s := s) (by omega))
 obtain ⟨L, hL⟩ : ∃ L, qw8 s 2 3 k 2 n = L := ⟨_, rfl⟩
 obtain ⟨M, hM⟩ : ∃ M, jl0 n k s = M := ⟨_, rfl⟩
 have hli := fun V => jq3 (S := (s : Int)) (T := 2) (O := 3) (K := (k : Int)) (n := 2) (m := (n : Int)) (most := 10000) (L := L) (by omega) (by omega) hL (by omega) e6 V
 rw [hL, hM] at e1 e2
 rw [hL] at e3 e4 e5
 rw [show L.take (max (10000 : Int) 1).toNat = L from List.take_of_length_le (by omega)] at hli
 have hMw : M = qK7 n k s (n - 1) := by rw [← hM]; rfl
 have htw := fun (m : Nat) (hm : m < n - 1) (W : World) => zp9 (s := s) (f := m + 1) (g := n - (m + 1)) (k := k) (by omega) (by omega) (by omega) (by omega) (by omega) (fun i hi => Nat.le_trans (jl2 zB8 hk2 hk3 (f := m + 1) (by omega) (by omega) i hi) (by omega)) (jl2 zB8 hk2 hk3 (f := n - (m + 1)) (by omega) (by omega)) W
 have htl := fun (m : Nat) (hm : m < n - 1) => zN3 (s := s) (f := m + 1) (g := n - (m + 1)) (k := k) (jl2 zB8 hk2 hk3 (f := m + 1) (by omega) (by omega) _ (Nat.le_refl _)) (jl2 zB8 hk2 hk3 (f := n - (m + 1)) (by omega) (by omega) _ (Nat.le_refl _))
 have HTL := Lib.hid htl
 have HLI := Lib.hid hli
 have HTW := Lib.hid htw
 have HE := Lib.hid (show L.length = M.length ∧ (∀ h ∈ L, h ∈ M) ∧ L.Nodup from ⟨e1, e2, e3⟩)
 have HSM := Lib.hid e4
 have HM := Lib.hid hMw
 clear e1 e2 e3 e4 e6 hL hM hli hMw htw htl
 have hn3 : n ≤ 3 := by omega
 by_cases h3 : n = 3
 ·have h3z : (n : Int) = 3 := by omega
  have hm : min (k0 : Int) 1 = (k : Int) := by have := HKK.out; rw [if_pos h3] at this; omega
  go_upto_region 6 with fail
  have H33 := Lib.hid h3
  clear hm h3z h3
  have zc7 := HB1.out.alloc HB1.out.size (.cells #[.int .i64 (s : Int), .int .i64 2, .int .i64 3, .int .i64 (k : Int)] 41)
  have hx5 := alloc_at v1 (.cells #[.int .i64 (s : Int), .int .i64 2, .int .i64 3, .int .i64 (k : Int)] 41)
  obtain ⟨q, hq⟩ : ∃ q, v1.heap.size = q := ⟨_, rfl⟩
  obtain ⟨w5, hw5⟩ : ∃ W, v1.alloc (.cells #[.int .i64 (s : Int), .int .i64 2, .int .i64 3, .int .i64 (k : Int)] 41) = W := ⟨_, rfl⟩
  go_upto_region 7 with fail
  rw [hq] at hx5
  rw [hw5] at zc7 hx5
  have HB5 := Lib.hid zc7
  have HQ := Lib.hid hx5
  clear zc7 hx5 hq hw5
  go_wp2_with fail
  go_loopw [11, 12] (fun x v wr => ∃ m : Nat, m ≤ n - 1 ∧ v = .int .i64 ((m + 1 : Nat) : Int) ∧ (qK7 n k s m).length ≤ m * 60000 ∧ LV 22 RdH w5.heap.size x (qK7 n k s m) wr ∧ Below w5.heap.size w5 wr) (fun _ v _ => n - (intOf v).toNat)
  case atStart => exact ⟨0, Nat.zero_le _, rfl, by rw [jr1]; simp, ⟨[], rfl, World.ownsRow_nil _ _ _ _, fun i v a h => by simp at h⟩, Below.refl _ _⟩
  case round =>
   obtain ⟨m, hm, rfl, hml, hlv, hb⟩ := hrel
   by_cases hmt : m < n - 1
   ·have hmz : ((m + 1 : Nat) : Int) < (n : Int) := by omega
    have hsub : (n : Int) - ((m + 1 : Nat) : Int) = ((n - (m + 1) : Nat) : Int) := by omega
    obtain ⟨f, hf⟩ : ∃ f, m + 1 = f := ⟨_, rfl⟩
    have htw := HTW.out m hmt
    have htl := HTL.out m hmt
    have hsu := jr0 n k s m
    rw [hf] at hmz hsub htw htl hsu ⊢
    obtain ⟨g, hg⟩ : ∃ g, n - f = g := ⟨_, rfl⟩
    rw [hg] at hsub htw htl hsu
    obtain ⟨P, hP⟩ : ∃ P, qK7 n k s m = P := ⟨_, rfl⟩
    rw [hP] at hml hlv hsu
    obtain ⟨A1, c1', rfl, _⟩ := hlv.slice
    obtain ⟨np, hnp⟩ : ∃ np, P.length = np := ⟨_, rfl⟩
    rw [hnp] at hml hlv ⊢
    have Qd6 := Lib.hid htw
    have zB9 := Lib.hid htl
    have HSU := Lib.hid hsu
    have HLV := Lib.hid hlv
    have HB := Lib.hid hb
    have HNP := Lib.hid hnp
    have HF := Lib.hid (show m + 1 = f ∧ n - f = g from ⟨hf, hg⟩)
    have hnp2 : np ≤ 200000 := by omega
    have hgb : g ≤ 3 := by omega
    have hfb : f ≤ 3 := by omega
    clear htw htl hsu hlv hb hnp hf hg hP
    go_wp2_with (first
     | (go_at_call 26; (with_reducible refine (Qd6.out _).mono ?_); rintro e v6 ⟨y, rfl, hy, hyn, hb6⟩; have hh := LV.jA2 (HLV.out.below jj5 hb6) hy (by have h1 := HB.out.size; have h2 := hb6.size; omega) (by rw [HNP.out]; have := zB9.out; omega) (by obtain ⟨g0, n0', c0, e0⟩ := hyn; obtain ⟨Ay, cy, e1, _⟩ := hy.slice; rw [e0] at e1; injection e1 with e1 e2 e3; exact ⟨g0, c0, by rw [e0, e2]⟩); have HBN := Lib.hid hb6; have HYN := Lib.hid hyn; obtain ⟨A3, c3', W3, hr3, hlv3, hg3⟩ := hh; rw [HNP.out] at hr3 hlv3; have HR3 := Lib.hid hr3; have HL3 := Lib.hid hlv3; have HG3 := Lib.hid hg3; clear hy hyn hb6 hr3 hlv3 hg3)
     | (at_builtin; refine qU.wpList_append_run rfl _ _ _ rfl _ _ rfl rfl _ rfl HR3.out ?_; clear HR3))
    go_roundw
    case rel => exact ⟨m + 1, by omega, by rw [← HF.out.1]; go_num, by rw [HF.out.1, HSU.out, List.length_append, HNP.out]; have h1 := zB9.out; have h2 := HF.out.1; omega, by rw [HF.out.1, HSU.out]; exact HL3.out, (HB.out.trans (HBN.out.mono HB.out.size)).grown HG3.out (Nat.le_trans HB.out.size HBN.out.size) (fun qq hq => (HLV.out.lt qq hq).1)⟩
    case measure => (simp [intOf]; try omega)
   ·have hmn : m = n - 1 := by omega
    have hmz : ¬ ((m + 1 : Nat) : Int) < (n : Int) := by omega
    rw [hmn, ← HM.out] at hlv
    obtain ⟨A1, c1', rfl, _⟩ := hlv.slice
    obtain ⟨f, hf⟩ : ∃ f, m + 1 = f := ⟨_, rfl⟩
    rw [hf] at hmz ⊢
    have hrd := hlv.rdL
    obtain ⟨nm, hnm⟩ : ∃ nm, M.length = nm := ⟨_, rfl⟩
    have hLM := HE.out.1
    rw [hnm] at hLM ⊢
    have HMS := Lib.hid (show ∀ x ∈ M, x.length ≤ 1000 ∧ ∀ t ∈ x, t.ops.length ≤ 100000 by rw [HM.out]; exact ji1)
    have HNM := Lib.hid hnm
    have HLN := Lib.hid hLM
    have HRD := Lib.hid hrd
    have HB6 := Lib.hid (HB5.out.trans (hb.mono HB5.out.size))
    obtain ⟨x0, x1, x2, x3⟩ := TD.of ((hb.block _ (Array.getElem?_eq_some_iff.1 HQ.out).1).trans HQ.out)
    clear hlv hb hrd hnm hLM hml hmn hm hmt hf
    go_wp2_with (first
     | (go_at_call 24; (with_reducible refine (HLI.out _).mono ?_); rintro e w7 ⟨⟨v7, its, C7, rfl, hls, hmp⟩, hb7⟩; obtain ⟨A7, c7, rfl, hc7⟩ := LS.slice hls; have HB7 := Lib.hid hb7; have hl7 : its.length = nm := by { rw [← HLN.out, ← hmp, List.length_map] }; have hr7 := LS.rdL hls; rw [hmp] at hr7; rw [hl7] at hc7 ⊢; have HR7 := Lib.hid hr7; clear hls hmp hb7 hl7 hr7; clear x0 x1 x2 x3)
     | (go_at_call 23; have hsm := jh9 (w := w7) (A := A7) (B := A1) (c := c7) (d := c1') HR7.out (by rw [HLN.out]; exact hc7) (by omega) HSM.out HMS.out (HRD.out.below HB7.out) HE.out.1 HE.out.2.1 HE.out.2.2; rw [HLN.out, HNM.out] at hsm; (with_reducible refine hsm.mono ?_); clear hsm; rintro e w8 ⟨rfl, hb8⟩; have HB8 := Lib.hid (HB7.out.trans (hb8.mono HB7.out.size)); clear hb8))
    go_ret
    exact ⟨by simp, HB6.out.trans (HB8.out.mono HB6.out.size)⟩
 ·have h3z : ((n : Int) == 3) = false := by simp; omega
  have hm : k0 = k := by have := HKK.out; rwa [if_neg h3] at this
  have hm' := hm.symm
  clear hm
  subst hm'
  go_upto_region 6 with fail
  clear h3z
  have zc7 := HB1.out.alloc HB1.out.size (.cells #[.int .i64 (s : Int), .int .i64 2, .int .i64 3, .int .i64 (k : Int)] 41)
  have hx5 := alloc_at v1 (.cells #[.int .i64 (s : Int), .int .i64 2, .int .i64 3, .int .i64 (k : Int)] 41)
  obtain ⟨q, hq⟩ : ∃ q, v1.heap.size = q := ⟨_, rfl⟩
  obtain ⟨w5, hw5⟩ : ∃ W, v1.alloc (.cells #[.int .i64 (s : Int), .int .i64 2, .int .i64 3, .int .i64 (k : Int)] 41) = W := ⟨_, rfl⟩
  go_upto_region 7 with fail
  rw [hq] at hx5
  rw [hw5] at zc7 hx5
  have HB5 := Lib.hid zc7
  have HQ := Lib.hid hx5
  clear zc7 hx5 hq hw5
  go_wp2_with fail
  go_loopw [11, 12] (fun x v wr => ∃ m : Nat, m ≤ n - 1 ∧ v = .int .i64 ((m + 1 : Nat) : Int) ∧ (qK7 n k s m).length ≤ m * 60000 ∧ LV 22 RdH w5.heap.size x (qK7 n k s m) wr ∧ Below w5.heap.size w5 wr) (fun _ v _ => n - (intOf v).toNat)
  case atStart => exact ⟨0, Nat.zero_le _, rfl, by rw [jr1]; simp, ⟨[], rfl, World.ownsRow_nil _ _ _ _, fun i v a h => by simp at h⟩, Below.refl _ _⟩
  case round =>
   obtain ⟨m, hm, rfl, hml, hlv, hb⟩ := hrel
   by_cases hmt : m < n - 1
   ·have hmz : ((m + 1 : Nat) : Int) < (n : Int) := by omega
    have hsub : (n : Int) - ((m + 1 : Nat) : Int) = ((n - (m + 1) : Nat) : Int) := by omega
    obtain ⟨f, hf⟩ : ∃ f, m + 1 = f := ⟨_, rfl⟩
    have htw := HTW.out m hmt
    have htl := HTL.out m hmt
    have hsu := jr0 n k s m
    rw [hf] at hmz hsub htw htl hsu ⊢
    obtain ⟨g, hg⟩ : ∃ g, n - f = g := ⟨_, rfl⟩
    rw [hg] at hsub htw htl hsu
    obtain ⟨P, hP⟩ : ∃ P, qK7 n k s m = P := ⟨_, rfl⟩
    rw [hP] at hml hlv hsu
    obtain ⟨A1, c1', rfl, _⟩ := hlv.slice
    obtain ⟨np, hnp⟩ : ∃ np, P.length = np := ⟨_, rfl⟩
    rw [hnp] at hml hlv ⊢
    have Qd6 := Lib.hid htw
    have zB9 := Lib.hid htl
    have HSU := Lib.hid hsu
    have HLV := Lib.hid hlv
    have HB := Lib.hid hb
    have HNP := Lib.hid hnp
    have HF := Lib.hid (show m + 1 = f ∧ n - f = g from ⟨hf, hg⟩)
    have hnp2 : np ≤ 200000 := by omega
    have hgb : g ≤ 3 := by omega
    have hfb : f ≤ 3 := by omega
    clear htw htl hsu hlv hb hnp hf hg hP
    go_wp2_with (first
     | (go_at_call 26; (with_reducible refine (Qd6.out _).mono ?_); rintro e v6 ⟨y, rfl, hy, hyn, hb6⟩; have hh := LV.jA2 (HLV.out.below jj5 hb6) hy (by have h1 := HB.out.size; have h2 := hb6.size; omega) (by rw [HNP.out]; have := zB9.out; omega) (by obtain ⟨g0, n0', c0, e0⟩ := hyn; obtain ⟨Ay, cy, e1, _⟩ := hy.slice; rw [e0] at e1; injection e1 with e1 e2 e3; exact ⟨g0, c0, by rw [e0, e2]⟩); have HBN := Lib.hid hb6; have HYN := Lib.hid hyn; obtain ⟨A3, c3', W3, hr3, hlv3, hg3⟩ := hh; rw [HNP.out] at hr3 hlv3; have HR3 := Lib.hid hr3; have HL3 := Lib.hid hlv3; have HG3 := Lib.hid hg3; clear hy hyn hb6 hr3 hlv3 hg3)
     | (at_builtin; refine qU.wpList_append_run rfl _ _ _ rfl _ _ rfl rfl _ rfl HR3.out ?_; clear HR3))
    go_roundw
    case rel => exact ⟨m + 1, by omega, by rw [← HF.out.1]; go_num, by rw [HF.out.1, HSU.out, List.length_append, HNP.out]; have h1 := zB9.out; have h2 := HF.out.1; omega, by rw [HF.out.1, HSU.out]; exact HL3.out, (HB.out.trans (HBN.out.mono HB.out.size)).grown HG3.out (Nat.le_trans HB.out.size HBN.out.size) (fun qq hq => (HLV.out.lt qq hq).1)⟩
    case measure => (simp [intOf]; try omega)
   ·have hmn : m = n - 1 := by omega
    have hmz : ¬ ((m + 1 : Nat) : Int) < (n : Int) := by omega
    rw [hmn, ← HM.out] at hlv
    obtain ⟨A1, c1', rfl, _⟩ := hlv.slice
    obtain ⟨f, hf⟩ : ∃ f, m + 1 = f := ⟨_, rfl⟩
    rw [hf] at hmz ⊢
    have hrd := hlv.rdL
    obtain ⟨nm, hnm⟩ : ∃ nm, M.length = nm := ⟨_, rfl⟩
    have hLM := HE.out.1
    rw [hnm] at hLM ⊢
    have HMS := Lib.hid (show ∀ x ∈ M, x.length ≤ 1000 ∧ ∀ t ∈ x, t.ops.length ≤ 100000 by rw [HM.out]; exact ji1)
    have HNM := Lib.hid hnm
    have HLN := Lib.hid hLM
    have HRD := Lib.hid hrd
    have HB6 := Lib.hid (HB5.out.trans (hb.mono HB5.out.size))
    obtain ⟨x0, x1, x2, x3⟩ := TD.of ((hb.block _ (Array.getElem?_eq_some_iff.1 HQ.out).1).trans HQ.out)
    clear hlv hb hrd hnm hLM hml hmn hm hmt hf
    go_wp2_with (first
     | (go_at_call 24; (with_reducible refine (HLI.out _).mono ?_); rintro e w7 ⟨⟨v7, its, C7, rfl, hls, hmp⟩, hb7⟩; obtain ⟨A7, c7, rfl, hc7⟩ := LS.slice hls; have HB7 := Lib.hid hb7; have hl7 : its.length = nm := by { rw [← HLN.out, ← hmp, List.length_map] }; have hr7 := LS.rdL hls; rw [hmp] at hr7; rw [hl7] at hc7 ⊢; have HR7 := Lib.hid hr7; clear hls hmp hb7 hl7 hr7; clear x0 x1 x2 x3)
     | (go_at_call 23; have hsm := jh9 (w := w7) (A := A7) (B := A1) (c := c7) (d := c1') HR7.out (by rw [HLN.out]; exact hc7) (by omega) HSM.out HMS.out (HRD.out.below HB7.out) HE.out.1 HE.out.2.1 HE.out.2.2; rw [HLN.out, HNM.out] at hsm; (with_reducible refine hsm.mono ?_); clear hsm; rintro e w8 ⟨rfl, hb8⟩; have HB8 := Lib.hid (HB7.out.trans (hb8.mono HB7.out.size)); clear hb8))
    go_ret
    exact ⟨by simp, HB6.out.trans (HB8.out.mono HB6.out.size)⟩
end Go.Proofs.Ytngkneknopenmaa.Ref23
end
