/- qq5 of this claim, joined by a program of this session: the zO that its theorem uses. -/
import Derived.Test.YtngkneknopenmaaZQ8
import Derived.Lib.Hide
section
namespace Go.Proofs.Ytngkneknopenmaa.Hist
open Go Go.RowKit Go.Proofs.Ytngkneknopenmaa Go.Proofs.Ytngkneknopenmaa.qb8 Go.Proofs.YtngkneknopenmaaW.PrintWords
open Go.Proofs.Ytngkneknopenmaa.K (S55 S51 qD qG k55)
def zD0 (h : List T4) : Bool := decide (100 < h.length) || decide (1200 < jI h)
theorem Qh6 (h : List T4) (hm : h.length ≤ 100) (ho : ∀ t ∈ h, t.ops.length ≤ 5864062014634) : ∀ (d i n : Nat), i + d = h.length → n ≤ 1200 →
  Ev (fun k => K.zF.l0 k (n : Int) (h.map ofT) (h.length : Int) (i : Int)) (if 1200 < n + jI (h.drop i) then 1 else 0) := by
 intro d
 induction d with
 | zero =>
  intro i n hi hn
  refine Ev.step (f := fun _ => some 0) (fun k => by rw [K.zF.l0]; rw [if_neg (by omega)]) ?_
  rw [List.drop_of_length_le (by omega)]
  rw [if_neg (by simp [jI]; omega)]
  exact Ev.now _
 | succ d ih =>
  intro i n hi hn
  have h1 : i < h.length := by omega
  have hl := ho _ (List.getElem_mem h1)
  have ec : jI (h.drop i) = h[i].ops.length + jI (h.drop (i + 1)) := by rw [List.drop_eq_getElem_cons h1, qp2]
  have ew' : wrap64 ((n : Int) + ((ofT h[i]).f3.length : Int)) = ((n + h[i].ops.length : Nat) : Int) := by
   have : (ofT h[i]).f3.length = h[i].ops.length := by simp [ofT]
   rw [this, jn6 (by omega) (by omega)]; omega
  have ew := Lib.hid ew'
  clear ew'
  by_cases c : 1200 < n + h[i].ops.length
  ·refine Ev.step (f := fun _ => some 1) (fun k => ?_) ?_
   ·rw [K.zF.l0]
    rw [if_pos (by omega), if_pos (by omega), if_pos (by rw [List.length_map]; omega), qk0 h i h1, ew.out, if_pos (show ((n + h[i].ops.length : Nat) : Int) > 1200 by omega)]
   ·rw [if_pos (by rw [ec]; omega)]
    exact Ev.now _
  ·refine Ev.step (f := fun k => K.zF.l0 k ((n + h[i].ops.length : Nat) : Int) (h.map ofT) (h.length : Int) ((i + 1 : Nat) : Int)) (fun k => ?_) ?_
   ·rw [K.zF.l0]
    rw [if_pos (by omega), if_pos (by omega), if_pos (by rw [List.length_map]; omega), qk0 h i h1, ew.out, if_neg (show ¬ ((n + h[i].ops.length : Nat) : Int) > 1200 by omega), qb4 (x := i) (by omega)]
   ·rw [ec, ← Nat.add_assoc]
    exact ih (i + 1) (n + h[i].ops.length) (by omega) (by omega)
theorem Qq6 (h : List T4) (ho : ∀ t ∈ h, t.ops.length ≤ 5864062014634) : Ev (fun k => K.zF.f k (h.map ofT)) (if zD0 h then 1 else 0) := by
 unfold K.zF.f zD0
 rw [List.length_map]
 by_cases c : 100 < h.length
 ·refine Ev.congr (f := fun _ => some 1) (fun k => if_pos (by omega)) ?_
  rw [decide_eq_true c]
  exact Ev.now _
 ·refine Ev.congr (fun k => if_neg (by omega)) ?_
  rw [decide_eq_false c, Bool.false_or]
  have := Qh6 h (by omega) ho h.length 0 0 (by omega) (by omega)
  rw [List.drop_zero, Nat.zero_add] at this
  by_cases d : 1200 < jI h
  ·rw [if_pos d] at this
   rw [decide_eq_true d]; exact this
  ·rw [if_neg d] at this
   rw [decide_eq_false d]; exact this
theorem bigR {A : Option Addr} {c : Nat} {h : List T4} {w : World} (q : Bool) (hr : RdT w A h) (hc : h.length ≤ c) (hl : h.length ≤ 2932031007317) (ho : ∀ t ∈ h, t.ops.length ≤ 5864062014634) (hq : zD0 h = q) :
  Calls Try.prog 12 #[.slice A h.length c] w fun e w' => e = .returned (.int .i64 (if q then 1 else 0)) ∧ Below w.heap.size w w' := by
 obtain ⟨n, hn⟩ := (Qq6 h ho).rounds
 have hC := jd6 hr (by omega) (fun t ht => by have := ho t ht; omega)
 have := K.zF.calls n A c (h.map ofT) _ w (by rw [List.length_map]; exact hC) (by rw [List.length_map]; exact hc) hn
 rw [List.length_map, hq] at this
 exact this
end Go.Proofs.Ytngkneknopenmaa.Hist
end
