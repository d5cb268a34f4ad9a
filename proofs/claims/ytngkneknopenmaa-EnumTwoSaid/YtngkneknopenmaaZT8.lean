/- qr3 of this claim, joined by a program of this session: the zS that its theorem uses. -/
import Derived.Test.YtngkneknopenmaaZT4
import Derived.Test.YtngkneknopenmaaZT7
set_option linter.unusedVariables false
set_option linter.unusedSimpArgs false
section
namespace Go.Proofs.Ytngkneknopenmaa.zM
open Go Go.RowKit Go.Proofs.Ytngkneknopenmaa Go.Proofs.Ytngkneknopenmaa.qa9 Go.Proofs.Ytngkneknopenmaa.K Go.Proofs.YtngkneknopenmaaW.jH
def toO (x : S51) : O3 := ⟨x.f0, x.f1, x.f2⟩
def ofO (o : O3) : S51 := ⟨o.w, o.k, o.v⟩
def toT (x : S55) : T4 := ⟨x.f0, x.f1, x.f2, x.f3.map toO⟩
def ofT (t : T4) : S55 := ⟨t.s, t.b, t.c, t.ops.map ofO⟩
theorem zQ8 (o : O3) : toO (ofO o) = o := rfl
theorem jV7 (l : List O3) : (l.map ofO).map toO = l := by simp [List.map_map, Function.comp_def, zQ8]
theorem zQ9 (t : T4) : toT (ofT t) = t := by unfold toT ofT; simp only [jV7]
theorem jT8 (l : List T4) : (l.map ofT).map toT = l := by simp [List.map_map, Function.comp_def, zQ9]
theorem ju9 {w : World} {A : Option Addr} {ops : List O3} (h : RdO w A ops) (hl : ops.length ≤ 9223372036854775807) : Kd.C k51 w A ops.length (ops.map ofO) := by
 refine ⟨by simp, hl, fun hp => ?_⟩
 obtain ⟨ad, e, hc⟩ := h hp
 refine ⟨ad, e, fun j p hj => ?_⟩
 rw [List.getElem?_map] at hj
 obtain ⟨o, ho, rfl⟩ := Option.map_eq_some_iff.1 hj
 obtain ⟨c0, c1, c2⟩ := hc j o ho
 refine ⟨_, rfl, Qf3 w (ofO o), fun i u hu => ?_⟩
 match i, hu with
 | 0, hu => cases hu; exact c0
 | 1, hu => cases hu; exact (zO ad (j * 3) 1 (by omega)).symm ▸ c1
 | 2, hu => cases hu; exact (zO ad (j * 3) 2 (by omega)).symm ▸ c2
 | n + 3, hu => simp at hu
theorem zE8 {w : World} {A : Option Addr} {n : Nat} {xs : List S51} (h : Kd.C k51 w A n xs) : RdO w A (xs.map toO) := by
 intro hp
 have hn : xs.length = n := h.1
 simp only [List.length_map] at hp
 obtain ⟨ad, e, hc⟩ := h.2.2 (by omega)
 refine ⟨ad, e, fun j p hj => ?_⟩
 rw [List.getElem?_map] at hj
 obtain ⟨o, ho, rfl⟩ := Option.map_eq_some_iff.1 hj
 obtain ⟨c, hl, hK, hcc⟩ := hc j o ho
 obtain rfl := jU9 hK
 exact ⟨hcc 0 _ rfl, (zO ad (j * 3) 1 (by omega)) ▸ hcc 1 _ rfl, (zO ad (j * 3) 2 (by omega)) ▸ hcc 2 _ rfl⟩
theorem jq5 {w : World} {A : Option Addr} {h : List T4} (hr : RdT w A h) (hl : h.length ≤ 9223372036854775807) (hl2 : ∀ t ∈ h, t.ops.length ≤ 9223372036854775807) : Kd.C k55 w A h.length (h.map ofT) := by
 refine ⟨by simp, hl, fun hp => ?_⟩
 obtain ⟨ad, e, hc⟩ := hr hp
 refine ⟨ad, e, fun j p hj => ?_⟩
 rw [List.getElem?_map] at hj
 obtain ⟨t, ht, rfl⟩ := Option.map_eq_some_iff.1 hj
 obtain ⟨A3, c3, h0, h1, h2, h3, hl3, hro⟩ := hc j t ht
 have e3 : (ofT t).f3.length = t.ops.length := by simp [ofT]
 refine ⟨_, rfl, zD8 w (ofT t) (A3 := A3) (c3 := c3) (by omega) (by rw [e3]; exact ju9 hro (hl2 t (List.mem_of_getElem? ht))), fun i u hu => ?_⟩
 match i, hu with
 | 0, hu => cases hu; exact h0
 | 1, hu => cases hu; exact (zO ad (j * 4) 1 (by omega)).symm ▸ h1
 | 2, hu => cases hu; exact (zO ad (j * 4) 2 (by omega)).symm ▸ h2
 | 3, hu => cases hu; rw [e3]; exact (zO ad (j * 4) 3 (by omega)).symm ▸ h3
 | n + 4, hu => simp at hu
theorem zA8 {w : World} {A : Option Addr} {n : Nat} {xs : List S55} (h : Kd.C k55 w A n xs) : RdT w A (xs.map toT) := by
 intro hp
 have hn : xs.length = n := h.1
 simp only [List.length_map] at hp
 obtain ⟨ad, e, hc⟩ := h.2.2 (by omega)
 refine ⟨ad, e, fun j p hj => ?_⟩
 rw [List.getElem?_map] at hj
 obtain ⟨t, ht, rfl⟩ := Option.map_eq_some_iff.1 hj
 obtain ⟨c, hl, hK, hcc⟩ := hc j t ht
 obtain ⟨A3, c3, rfl, l3, g3⟩ := jb1 hK
 refine ⟨A3, c3, hcc 0 _ rfl, (zO ad (j * 4) 1 (by omega)) ▸ hcc 1 _ rfl, (zO ad (j * 4) 2 (by omega)) ▸ hcc 2 _ rfl, ?_, ?_, zE8 g3⟩
 ·have := (zO ad (j * 4) 3 (by omega)) ▸ hcc 3 _ rfl
  simpa [toT] using this
 ·simpa [toT] using l3
theorem jf3 (l : List O3) (i : Nat) (hi : i < l.length) : qG (l.map ofO) (i : Int) = ofO l[i] := by
 unfold qG
 rw [Int.toNat_natCast, List.getD_eq_getElem?_getD, List.getElem?_map, List.getElem?_eq_getElem hi]
 rfl
theorem ql5 (l : List T4) (i : Nat) (hi : i < l.length) : qD (l.map ofT) (i : Int) = ofT l[i] := by
 unfold qD
 rw [Int.toNat_natCast, List.getD_eq_getElem?_getD, List.getElem?_map, List.getElem?_eq_getElem hi]
 rfl
theorem qP1 {x : Int} (h0 : -9223372036854775808 ≤ x) (h1 : x ≤ 9223372036854775807) : wrap64 x = x := by unfold wrap64; omega
theorem qb6 {x : Nat} (h1 : x + 1 ≤ 9223372036854775807) : wrap64 ((x : Int) + 1) = ((x + 1 : Nat) : Int) := by rw [qP1 (by omega) (by omega)]; omega
theorem zR0 (o : O3) : qx2.f o.w o.k o.v = some (qo2 o) := by
 unfold qx2.f qo2
 by_cases h0 : o.k < 0
 ·simp [h0, Int.not_le.2 h0]
 by_cases h1 : o.k ≥ 64
 ·simp [h0, h1, Int.not_lt.2 h1]
 by_cases h2 : o.v < 0
 ·simp [h0, h1, h2, Int.not_le.2 h2]
 by_cases h3 : o.v > 2147483647
 ·simp [h0, h1, h2, h3, Int.not_le.2 h3]
 rw [if_neg h0, if_neg h1, if_neg h2, if_neg h3]
 have e0 : (0 : Int) ≤ o.k := by omega
 have e1 : o.k < 64 := by omega
 have e2 : (0 : Int) ≤ o.v := by omega
 have e3 : o.v ≤ 2147483647 := by omega
 cases o.w <;> simp [e0, e1, e2, e3]
theorem zE9 (l : List O3) (hl : l.length ≤ 4611686018427387904) : ∀ (d i k : Nat), i + d = l.length → d < k → jX.l0 k (l.map ofO) (l.length : Int) (i : Int) = some ((l.drop i).all qo2) := by
 intro d
 induction d with
 | zero =>
  intro i k hi hk
  obtain ⟨k, rfl⟩ : ∃ k', k = k' + 1 := ⟨k - 1, by omega⟩
  unfold jX.l0
  rw [if_neg (by omega), List.drop_of_length_le (by omega)]
  rfl
 | succ d ih =>
  intro i k hi hk
  obtain ⟨k, rfl⟩ : ∃ k', k = k' + 1 := ⟨k - 1, by omega⟩
  have hlt : i < l.length := by omega
  unfold jX.l0
  rw [if_pos (by omega), if_pos (by omega), if_pos (by rw [List.length_map]; omega), jf3 l i hlt, qb6 (by omega)]
  rw [show qx2.f (ofO l[i]).f0 (ofO l[i]).f1 (ofO l[i]).f2 = some (qo2 l[i]) from zR0 _, List.drop_eq_getElem_cons hlt, List.all_cons, ih (i + 1) k (by omega) (by omega)]
  cases qo2 l[i] <;> rfl
theorem zF0 (t : T4) (hl : t.ops.length ≤ 4611686018427387904) : jX.f (t.ops.length + 2) t.s t.b t.c (t.ops.map ofO) = some (qd2 t) := by
 have hj : ∀ b, jX.j0 (t.ops.length + 2) b t.s t.b t.c (t.ops.map ofO) = some (!b && t.ops.all qo2) := by
  intro b
  show jX.j0 ((t.ops.length + 1) + 1) b t.s t.b t.c (t.ops.map ofO) = _
  obtain ⟨k, hk⟩ : ∃ k, t.ops.length + 1 = k := ⟨_, rfl⟩
  rw [hk]
  cases b
  ·show (if false = true then some false else jX.l0 k (t.ops.map ofO) ((t.ops.map ofO).length : Int) 0) = _
   rw [if_neg (by simp), ← hk, show (((t.ops.map ofO).length : Nat) : Int) = ((t.ops.length : Nat) : Int) by simp]
   exact (zE9 t.ops hl t.ops.length 0 _ (by omega) (by omega)).trans (by simp)
  ·show (if true = true then some false else jX.l0 k (t.ops.map ofO) ((t.ops.map ofO).length : Int) 0) = _
   simp
 unfold jX.f
 simp only [hj, List.length_map]
 unfold qd2
 by_cases h0 : t.s < 0
 ·simp [h0, Int.not_le.2 h0]
 by_cases h1 : t.s ≥ 64
 ·simp [h0, h1, Int.not_lt.2 h1]
 by_cases h2 : t.b < 0
 ·simp [h0, h1, h2, Int.not_le.2 h2]
 by_cases h3 : t.b ≥ t.c
 ·simp [h0, h1, h2, h3, Int.not_lt.2 h3]
 by_cases h4 : t.c > 2147483647
 ·simp [h0, h1, h2, h3, h4, Int.not_le.2 h4]
 by_cases h5 : (t.ops.length : Int) < 1
 ·have : ¬ 1 ≤ t.ops.length := by omega
  simp only [if_neg h0, if_neg h1, if_neg h2, if_neg h3, if_neg h4, if_pos h5]
  simp [this]
 rw [if_neg h0, if_neg h1, if_neg h2, if_neg h3, if_neg h4, if_neg h5]
 have e0 : (0 : Int) ≤ t.s := by omega
 have e1 : t.s < 64 := by omega
 have e2 : (0 : Int) ≤ t.b := by omega
 have e3 : t.b < t.c := by omega
 have e4 : t.c ≤ 2147483647 := by omega
 have e5 : 1 ≤ t.ops.length := by omega
 have e6 : (decide ((t.ops.length : Int) > 64)) = !decide (t.ops.length ≤ 64) := by
  by_cases h : t.ops.length ≤ 64
  ·simp [h]; omega
  ·simp [h]; omega
 rw [e6]
 simp [e0, e1, e2, e3, e4, e5]
theorem jL3 (A3 : Option Addr) (c3 : Nat) (t : T4) (w : World) (hr : RdO w A3 t.ops) (hl : t.ops.length ≤ c3) (hm : t.ops.length ≤ 4611686018427387904) :
  Calls Try.prog 29 #[.agg #[.int .i64 t.s, .int .i64 t.b, .int .i64 t.c, .slice A3 t.ops.length c3]] w fun e w' => e = .returned (.bool (qd2 t)) ∧ Below w.heap.size w w' := by
 have e3 : (t.ops.map ofO).length = t.ops.length := by simp
 have := jX.calls (t.ops.length + 2) t.s t.b t.c A3 c3 (t.ops.map ofO) (qd2 t) w (by rw [e3]; exact ju9 hr (by omega)) (by rw [e3]; exact hl) (zF0 t hm)
 rw [e3] at this
 exact this
theorem qr6 (t : T4) (h : List T4) : jL (t :: h) = t.ops.length + jL h := by simp [jL]
theorem qr5 {t : T4} : ∀ {h : List T4}, t ∈ h → t.ops.length ≤ jL h
 | [], ht => by cases ht
 | a :: h, ht => by
  rw [qr6]
  rcases List.mem_cons.1 ht with rfl | ht
  ·omega
  ·have := qr5 ht
   omega
theorem Qg9 (h : List T4) (hl : h.length ≤ 4611686018427387904) (hc : jL h ≤ 4611686018427387904) : ∀ (d i n k : Nat), i + d = h.length → d < k → n + jL (h.drop i) = jL h → qd5.l0 k (n : Int) (h.map ofT) (h.length : Int) (i : Int) = some ((jL h : Nat) : Int) := by
 intro d
 induction d with
 | zero =>
  intro i n k hi hk hn
  obtain ⟨k, rfl⟩ : ∃ k', k = k' + 1 := ⟨k - 1, by omega⟩
  unfold qd5.l0
  rw [List.drop_of_length_le (by omega)] at hn
  rw [if_neg (by omega), ← hn]
  rfl
 | succ d ih =>
  intro i n k hi hk hn
  obtain ⟨k, rfl⟩ : ∃ k', k = k' + 1 := ⟨k - 1, by omega⟩
  have hlt : i < h.length := by omega
  unfold qd5.l0
  rw [List.drop_eq_getElem_cons hlt, qr6] at hn
  rw [if_pos (by omega), if_pos (by omega), if_pos (by rw [List.length_map]; omega), ql5 h i hlt, qb6 (by omega)]
  have e : wrap64 ((n : Int) + ((ofT h[i]).f3.length : Int)) = ((n + h[i].ops.length : Nat) : Int) := by
   have : (ofT h[i]).f3.length = h[i].ops.length := by simp [ofT]
   rw [this, qP1 (by omega) (by omega)]; omega
  rw [e]
  exact ih (i + 1) _ k (by omega) (by omega) (by omega)
theorem zl9 (A : Option Addr) (c : Nat) (h : List T4) (w : World) (hr : RdT w A h) (hl : h.length ≤ c) (hm : h.length ≤ 4611686018427387904) (hc : jL h ≤ 4611686018427387904) :
  Calls Try.prog 57 #[.slice A h.length c] w fun e w' => e = .returned (.int .i64 (jL h)) ∧ Below w.heap.size w w' := by
 have e3 : (h.map ofT).length = h.length := by simp
 have := qd5.calls (h.length + 1) A c (h.map ofT) ((jL h : Nat) : Int) w (by rw [e3]; exact jq5 hr (by omega) (fun t ht => by have := qr5 ht; omega)) (by rw [e3]; exact hl) (by
  unfold qd5.f
  rw [e3]
  exact Qg9 h hm hc h.length 0 0 _ (by omega) (by omega) (by simp))
 rw [e3] at this
 exact this
end Go.Proofs.Ytngkneknopenmaa.zM
end
section
namespace Go.Proofs.Ytngkneknopenmaa.zM
open Go Go.RowKit Go.Proofs.Ytngkneknopenmaa Go.Proofs.Ytngkneknopenmaa.qa9 Go.Proofs.Ytngkneknopenmaa.K Go.Proofs.YtngkneknopenmaaW.jH
theorem zR1 (o : O3) : qd0.f o.w o.k o.v = some (qo2 o) := by
 unfold qd0.f qo2
 by_cases h0 : o.k < 0
 ·simp [h0, Int.not_le.2 h0]
 by_cases h1 : o.k > 63
 ·have : ¬ o.k < 64 := by omega
  simp [h0, h1, this]
 by_cases h2 : o.v < 0
 ·simp [h0, h1, h2, Int.not_le.2 h2]
 by_cases h3 : o.v > 2147483647
 ·simp [h0, h1, h2, h3, Int.not_le.2 h3]
 rw [if_neg h0, if_neg h1, if_neg h2, if_neg h3]
 have e0 : (0 : Int) ≤ o.k := by omega
 have e1 : o.k < 64 := by omega
 have e2 : (0 : Int) ≤ o.v := by omega
 have e3 : o.v ≤ 2147483647 := by omega
 have e4 : (o.v != 0) = decide (0 < o.v) := by
  by_cases h : 0 < o.v
  ·have : o.v ≠ 0 := by omega
   simp [h, this]
  ·have : o.v = 0 := by omega
   simp [this]
 cases o.w <;> simp [e0, e1, e2, e3, e4]
theorem zR2 (t : T4) (hl : t.ops.length ≤ 4611686018427387904) : ∀ (d i k : Nat), i + d = t.ops.length → d < k → qN.l0 k (i : Int) t.s t.b t.c (t.ops.map ofO) = some ((t.ops.drop i).all qo2) := by
 intro d
 induction d with
 | zero =>
  intro i k hi hk
  obtain ⟨k, rfl⟩ : ∃ k', k = k' + 1 := ⟨k - 1, by omega⟩
  unfold qN.l0
  rw [if_neg (by rw [List.length_map]; omega), List.drop_of_length_le (by omega)]
  rfl
 | succ d ih =>
  intro i k hi hk
  obtain ⟨k, rfl⟩ : ∃ k', k = k' + 1 := ⟨k - 1, by omega⟩
  have hlt : i < t.ops.length := by omega
  unfold qN.l0
  rw [if_pos (by rw [List.length_map]; omega), if_pos (by omega), jf3 t.ops i hlt, qb6 (by omega)]
  rw [show qd0.f (ofO t.ops[i]).f0 (ofO t.ops[i]).f1 (ofO t.ops[i]).f2 = some (qo2 t.ops[i]) from zR1 _, List.drop_eq_getElem_cons hlt, List.all_cons, ih (i + 1) k (by omega) (by omega)]
  cases qo2 t.ops[i] <;> rfl
theorem Qh0 (t : T4) (hl : t.ops.length ≤ 4611686018427387904) : qN.f (t.ops.length + 2) t.s t.b t.c (t.ops.map ofO) = some (qd2 t) := by
 have hj : ∀ b, qN.j0 (t.ops.length + 2) b t.s t.b t.c (t.ops.map ofO) = some (!b && t.ops.all qo2) := by
  intro b
  show qN.j0 ((t.ops.length + 1) + 1) b t.s t.b t.c (t.ops.map ofO) = _
  obtain ⟨k, hk⟩ : ∃ k, t.ops.length + 1 = k := ⟨_, rfl⟩
  rw [hk]
  cases b
  ·show (if false = true then some false else qN.l0 k 0 t.s t.b t.c (t.ops.map ofO)) = _
   rw [if_neg (by simp), ← hk]
   exact (zR2 t hl t.ops.length 0 _ (by omega) (by omega)).trans (by simp)
  ·show (if true = true then some false else qN.l0 k 0 t.s t.b t.c (t.ops.map ofO)) = _
   simp
 unfold qN.f
 simp only [hj, List.length_map]
 unfold qd2
 by_cases h0 : t.s < 0
 ·simp [h0, Int.not_le.2 h0]
 by_cases h1 : t.s > 63
 ·have : ¬ t.s < 64 := by omega
  simp [h0, h1, this]
 by_cases h2 : t.b < 0
 ·simp [h0, h1, h2, Int.not_le.2 h2]
 by_cases h3 : t.b ≥ t.c
 ·simp [h0, h1, h2, h3, Int.not_lt.2 h3]
 by_cases h4 : t.c > 2147483647
 ·simp [h0, h1, h2, h3, h4, Int.not_le.2 h4]
 by_cases h5 : (t.ops.length : Int) < 1
 ·have : ¬ 1 ≤ t.ops.length := by omega
  simp only [if_neg h0, if_neg h1, if_neg h2, if_neg h3, if_neg h4, if_pos h5]
  simp [this]
 rw [if_neg h0, if_neg h1, if_neg h2, if_neg h3, if_neg h4, if_neg h5]
 have e0 : (0 : Int) ≤ t.s := by omega
 have e1 : t.s < 64 := by omega
 have e2 : (0 : Int) ≤ t.b := by omega
 have e3 : t.b < t.c := by omega
 have e4 : t.c ≤ 2147483647 := by omega
 have e5 : 1 ≤ t.ops.length := by omega
 have e6 : (decide ((t.ops.length : Int) > 64)) = !decide (t.ops.length ≤ 64) := by
  by_cases h : t.ops.length ≤ 64
  ·simp [h]; omega
  ·simp [h]; omega
 rw [e6]
 simp [e0, e1, e2, e3, e4, e5]
theorem jW3 (A3 : Option Addr) (c3 : Nat) (t : T4) (w : World) (hr : RdO w A3 t.ops) (hl : t.ops.length ≤ c3) (hm : t.ops.length ≤ 4611686018427387904) :
  Calls Try.prog 64 #[.agg #[.int .i64 t.s, .int .i64 t.b, .int .i64 t.c, .slice A3 t.ops.length c3]] w fun e w' => e = .returned (.bool (qd2 t)) ∧ Below w.heap.size w w' := by
 have e3 : (t.ops.map ofO).length = t.ops.length := by simp
 have := qN.calls (t.ops.length + 2) t.s t.b t.c A3 c3 (t.ops.map ofO) (qd2 t) w (by rw [e3]; exact ju9 hr (by omega)) (by rw [e3]; exact hl) (Qh0 t hm)
 rw [e3] at this
 exact this
theorem zf5 {w : World} {A : Option Addr} {h : List T4} (hr : RdT w A h) (hm : h.length ≤ 4611686018427387904) (hc : jL h ≤ 4611686018427387904) : Kd.C k55 w A h.length (h.map ofT) :=
 jq5 hr (by omega) (fun t ht => by have := qr5 ht; omega)
theorem zF1 (h : List T4) (hl : h.length ≤ 4611686018427387904) (hc : jL h ≤ 4611686018427387904) : ∀ (d i n k : Nat), i + d = h.length → d < k → n + jL (h.drop i) = jL h → zG.l0 k (h.map ofT) (n : Int) (i : Int) = some ((jL h : Nat) : Int) := by
 intro d
 induction d with
 | zero =>
  intro i n k hi hk hn
  obtain ⟨k, rfl⟩ : ∃ k', k = k' + 1 := ⟨k - 1, by omega⟩
  unfold zG.l0
  rw [List.drop_of_length_le (by omega)] at hn
  rw [if_neg (by rw [List.length_map]; omega), ← hn]
  rfl
 | succ d ih =>
  intro i n k hi hk hn
  obtain ⟨k, rfl⟩ : ∃ k', k = k' + 1 := ⟨k - 1, by omega⟩
  have hlt : i < h.length := by omega
  unfold zG.l0
  rw [List.drop_eq_getElem_cons hlt, qr6] at hn
  rw [if_pos (by rw [List.length_map]; omega), if_pos (by omega), ql5 h i hlt, qb6 (by omega)]
  have e : wrap64 ((n : Int) + ((ofT h[i]).f3.length : Int)) = ((n + h[i].ops.length : Nat) : Int) := by
   have : (ofT h[i]).f3.length = h[i].ops.length := by simp [ofT]
   rw [this, qP1 (by omega) (by omega)]; omega
  rw [e]
  exact ih (i + 1) _ k (by omega) (by omega) (by omega)
theorem jL6 (A : Option Addr) (c : Nat) (h : List T4) (w : World) (hr : RdT w A h) (hl : h.length ≤ c) (hm : h.length ≤ 4611686018427387904) (hc : jL h ≤ 4611686018427387904) :
  Calls Try.prog 33 #[.slice A h.length c] w fun e w' => e = .returned (.int .i64 (jL h)) ∧ Below w.heap.size w w' := by
 have e3 : (h.map ofT).length = h.length := by simp
 have := zG.calls (h.length + 1) A c (h.map ofT) ((jL h : Nat) : Int) w (by rw [e3]; exact zf5 hr hm hc) (by rw [e3]; exact hl) (by
  unfold zG.f
  exact zF1 h hm hc h.length 0 0 _ (by omega) (by omega) (by simp))
 rw [e3] at this
 exact this.mono fun e w' ⟨h1, h2⟩ => ⟨h1, h2.below⟩
def jv0 : List T4 → Nat
 | [] => 1
 | t :: r => (t.ops.length + 1 + jv0 r) + 1
def isW (v : Int) (o : O3) : Bool := o.w && decide (o.v = v)
def qs1 (h : List T4) (v : Int) : Nat := (h.map fun t => t.ops.countP (isW v)).sum
theorem jh1 (t : T4) (h : List T4) (v : Int) : qs1 (t :: h) v = t.ops.countP (isW v) + qs1 h v := by simp [qs1]
theorem zF2 (h : List T4) (v : Int) (hl : h.length ≤ 4611686018427387904) (i : Nat) (hi : i < h.length) (ho : h[i].ops.length ≤ 4611686018427387904) : ∀ (d j n k : Nat), j + d = h[i].ops.length → n + d ≤ 4611686018427387904 →
  j5.l1 (d + 1 + k) (h.map ofT) v (n : Int) (i : Int) (j : Int) = j5.l0 k (h.map ofT) v ((n + (h[i].ops.drop j).countP (isW v) : Nat) : Int) ((i + 1 : Nat) : Int) := by
 intro d
 have eo : (ofT h[i]).f3 = h[i].ops.map ofO := rfl
 induction d with
 | zero =>
  intro j n k hj hn
  rw [show 0 + 1 + k = k + 1 by omega]
  show (if (0 : Int) ≤ (i : Int) then _ else _) = _
  rw [if_pos (by omega), if_pos (by rw [List.length_map]; omega), ql5 h i hi, eo, if_neg (by rw [List.length_map]; omega), qb6 (by omega), List.drop_of_length_le (by omega)]
  rfl
 | succ d ih =>
  intro j n k hj hn
  have hlt : j < h[i].ops.length := by omega
  rw [show d + 1 + 1 + k = (d + 1 + k) + 1 by omega]
  show (if (0 : Int) ≤ (i : Int) then _ else _) = _
  rw [if_pos (by omega), if_pos (by rw [List.length_map]; omega), ql5 h i hi, eo, if_pos (by rw [List.length_map]; omega), if_pos (by omega), jf3 _ j hlt, qb6 (x := j) (by omega), List.drop_eq_getElem_cons hlt]
  rw [List.countP_cons]
  have h1 := ih (j + 1) n k (by omega) (by omega)
  have h2 := ih (j + 1) (n + 1) k (by omega) (by omega)
  by_cases hw : (ofO h[i].ops[j]).f0 = true
  ·rw [if_pos hw]
   by_cases hv : (ofO h[i].ops[j]).f2 = v
   ·rw [if_pos hv, qb6 (x := n) (by omega), h2]
    have : isW v h[i].ops[j] = true := by
     unfold isW; rw [show h[i].ops[j].w = true from hw, show h[i].ops[j].v = v from hv]; simp
    rw [if_pos this]
    congr 2
    omega
   ·rw [if_neg hv, h1]
    have : isW v h[i].ops[j] = false := by
     unfold isW; rw [show h[i].ops[j].w = true from hw, decide_eq_false (show ¬ h[i].ops[j].v = v from hv)]; rfl
    rw [if_neg (by rw [this]; simp)]
    rfl
  ·rw [if_neg hw, h1]
   have : isW v h[i].ops[j] = false := by
    unfold isW; rw [eq_false_of_ne_true (show ¬ h[i].ops[j].w = true from hw)]; rfl
   rw [if_neg (by rw [this]; simp)]
   rfl
theorem zF3 (h : List T4) (v : Int) (hl : h.length ≤ 4611686018427387904) (hc : jL h ≤ 4611686018427387904) : ∀ (d i n : Nat), i + d = h.length → n + jL (h.drop i) ≤ jL h →
  j5.l0 (jv0 (h.drop i)) (h.map ofT) v (n : Int) (i : Int) = some ((n + qs1 (h.drop i) v : Nat) : Int) := by
 intro d
 induction d with
 | zero =>
  intro i n hi hn
  rw [List.drop_of_length_le (by omega)]
  show (if (i : Int) < _ then _ else _) = _
  rw [if_neg (by rw [List.length_map]; omega)]
  rfl
 | succ d ih =>
  intro i n hi hn
  have hlt : i < h.length := by omega
  rw [List.drop_eq_getElem_cons hlt, qr6] at hn
  rw [List.drop_eq_getElem_cons hlt, jh1]
  show (if (i : Int) < _ then j5.l1 (h[i].ops.length + 1 + jv0 (h.drop (i + 1))) (h.map ofT) v (n : Int) (i : Int) ((0 : Nat) : Int) else _) = _
  have hle := List.countP_le_length (p := isW v) (l := h[i].ops)
  rw [if_pos (by rw [List.length_map]; omega), zF2 h v hl i hlt (by omega) h[i].ops.length 0 n _ (by omega) (by omega)]
  have hd : h[i].ops.drop 0 = h[i].ops := rfl
  rw [hd, ih (i + 1) _ (by omega) (by omega), Nat.add_assoc]
theorem jL5 (A : Option Addr) (c : Nat) (h : List T4) (v : Int) (w : World) (hr : RdT w A h) (hl : h.length ≤ c) (hm : h.length ≤ 4611686018427387904) (hc : jL h ≤ 4611686018427387904) :
  Calls Try.prog 65 #[.slice A h.length c, .int .i64 v] w fun e w' => e = .returned (.int .i64 (qs1 h v)) ∧ Below w.heap.size w w' := by
 have e3 : (h.map ofT).length = h.length := by simp
 have := j5.calls (jv0 h) A c (h.map ofT) v ((qs1 h v : Nat) : Int) w (by rw [e3]; exact zf5 hr hm hc) (by rw [e3]; exact hl) (by
  unfold j5.f
  have := zF3 h v hm hc h.length 0 0 (by omega) (by simp)
  simpa using this)
 rw [e3] at this
 exact this.mono fun e w' ⟨h1, h2⟩ => ⟨h1, h2.below⟩
def jW4 (k v : Int) (o : O3) : Bool := o.w && (decide (o.k = k) && decide (o.v = v))
def qy7 (k v : Int) : Nat → List T4 → Int
 | _, [] => -1
 | i, t :: r => if t.ops.any (jW4 k v) then (i : Int) else qy7 k v (i + 1) r
theorem zq8 (h : List T4) (kk v : Int) (hl : h.length ≤ 4611686018427387904) (i : Nat) (hi : i < h.length) (ho : h[i].ops.length ≤ 4611686018427387904) : ∀ (d j k : Nat), j + d = h[i].ops.length →
  qZ.l1 (d + 1 + k) (h.map ofT) kk v (i : Int) (j : Int) = if (h[i].ops.drop j).any (jW4 kk v) then some (i : Int) else qZ.l0 k (h.map ofT) kk v ((i + 1 : Nat) : Int) := by
 intro d
 have eo : (ofT h[i]).f3 = h[i].ops.map ofO := rfl
 induction d with
 | zero =>
  intro j k hj
  rw [show 0 + 1 + k = k + 1 by omega]
  show (if (0 : Int) ≤ (i : Int) then _ else _) = _
  rw [if_pos (by omega), if_pos (by rw [List.length_map]; omega), ql5 h i hi, eo, if_neg (by rw [List.length_map]; omega), qb6 (by omega), List.drop_of_length_le (by omega)]
  rfl
 | succ d ih =>
  intro j k hj
  have hlt : j < h[i].ops.length := by omega
  rw [show d + 1 + 1 + k = (d + 1 + k) + 1 by omega]
  show (if (0 : Int) ≤ (i : Int) then _ else _) = _
  rw [if_pos (by omega), if_pos (by rw [List.length_map]; omega), ql5 h i hi, eo, if_pos (by rw [List.length_map]; omega), if_pos (by omega), jf3 _ j hlt, qb6 (x := j) (by omega), List.drop_eq_getElem_cons hlt, List.any_cons, ih (j + 1) k (by omega)]
  have e : jW4 kk v h[i].ops[j] = ((ofO h[i].ops[j]).f0 && (decide ((ofO h[i].ops[j]).f1 = kk) && decide ((ofO h[i].ops[j]).f2 = v))) := rfl
  rw [e]
  by_cases hw : (ofO h[i].ops[j]).f0 = true
  ·rw [if_pos hw, hw]
   by_cases hk : (ofO h[i].ops[j]).f1 = kk
   ·rw [if_pos hk, decide_eq_true hk]
    by_cases hv : (ofO h[i].ops[j]).f2 = v
    ·rw [if_pos hv, decide_eq_true hv]; rfl
    ·rw [if_neg hv, decide_eq_false hv]; rfl
   ·rw [if_neg hk, decide_eq_false hk]; rfl
  ·rw [if_neg hw, eq_false_of_ne_true hw]; rfl
theorem zq9 (h : List T4) (kk v : Int) (hl : h.length ≤ 4611686018427387904) (hc : jL h ≤ 4611686018427387904) : ∀ (d i : Nat), i + d = h.length →
  qZ.l0 (jv0 (h.drop i)) (h.map ofT) kk v (i : Int) = some (qy7 kk v i (h.drop i)) := by
 intro d
 induction d with
 | zero =>
  intro i hi
  rw [List.drop_of_length_le (by omega)]
  show (if (i : Int) < _ then _ else _) = _
  rw [if_neg (by rw [List.length_map]; omega)]
  rfl
 | succ d ih =>
  intro i hi
  have hlt : i < h.length := by omega
  have hle := qr5 (List.getElem_mem hlt)
  rw [List.drop_eq_getElem_cons hlt]
  show (if (i : Int) < _ then qZ.l1 (h[i].ops.length + 1 + jv0 (h.drop (i + 1))) (h.map ofT) kk v (i : Int) ((0 : Nat) : Int) else _) = _
  rw [if_pos (by rw [List.length_map]; omega), zq8 h kk v hl i hlt (by omega) h[i].ops.length 0 _ (by omega)]
  have hd : h[i].ops.drop 0 = h[i].ops := rfl
  rw [hd, ih (i + 1) (by omega)]
  show _ = some (if h[i].ops.any (jW4 kk v) then (i : Int) else _)
  split <;> rfl
theorem jB6 (A : Option Addr) (c : Nat) (h : List T4) (k v : Int) (w : World) (hr : RdT w A h) (hl : h.length ≤ c) (hm : h.length ≤ 4611686018427387904) (hc : jL h ≤ 4611686018427387904) :
  Calls Try.prog 31 #[.slice A h.length c, .int .i64 k, .int .i64 v] w fun e w' => e = .returned (.int .i64 (qy7 k v 0 h)) ∧ Below w.heap.size w w' := by
 have e3 : (h.map ofT).length = h.length := by simp
 have := qZ.calls (jv0 h) A c (h.map ofT) k v (qy7 k v 0 h) w (by rw [e3]; exact zf5 hr hm hc) (by rw [e3]; exact hl) (zq9 h k v hm hc h.length 0 (by omega))
 rw [e3] at this
 exact this
end Go.Proofs.Ytngkneknopenmaa.zM
end
