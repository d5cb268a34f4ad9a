/- Texts of this claim, joined by a program of this session: the declarations that its theorem uses. -/
import Derived.Test.YtngkneknopenmaaZW7
import Derived.Test.YtngkneknopenmaaZW8
import Derived.Test.YtngkneknopenmaaZW10
import Derived.Lib.QuietBelow
section
namespace Go.Proofs.Ytngkneknopenmaa.Hist
open Go Go.RowKit Go.Proofs.Ytngkneknopenmaa Go.Proofs.Ytngkneknopenmaa.Row3 Go.Proofs.Ytngkneknopenmaa.IntMap Go.Proofs.YtngkneknopenmaaW.PrintWords
theorem cellIn {w : World} {g : Nat} {cs : Array Value} {t : TypeId} {fr : Nat × Nat} (h : w.heap[g]? = some (.cells cs t fr)) (i : Nat) : w.cell? ⟨g, i, none⟩ = cs[i]? := by simp [World.cell?, h]
theorem lit_rd {w : World} {g0 g1 : Nat} {o : O3} {s b c : Int} (h0 : w.heap[g0]? = some (.cells #[.bool o.w, .int .i64 o.k, .int .i64 o.v] 51 (0, 0))) (h1 : w.heap[g1]? = some (.cells #[.int .i64 s, .int .i64 b, .int .i64 c, .slice (some ⟨g0, 0, none⟩) 1 1] 55 (0, 0))) :
    RdT w (some ⟨g1, 0, none⟩) [⟨s, b, c, [o]⟩] := by
  intro _
  have c0 := fun i => cellIn h0 i
  have c1 := fun i => cellIn h1 i
  refine ⟨_, rfl, fun i t ht => ?_⟩
  cases i with
  | succ i => simp at ht
  | zero =>
    simp at ht
    subst ht
    refine ⟨some ⟨g0, 0, none⟩, 1, (c1 0), (c1 1), (c1 2), (c1 3), Nat.le_refl _, fun _ => ⟨_, rfl, fun j x hx => ?_⟩⟩
    cases j with
    | succ j => simp at hx
    | zero =>
      simp at hx
      subst hx
      exact ⟨c0 0, c0 1, c0 2⟩
def oneT : T4 := ⟨0, 1, 2, [⟨true, 0, 5⟩]⟩
theorem oneT_writes : ∃ f, writesF [oneT] = some f ∧ f 5 = some (0, 0, true) := by
  cases h : writesF [oneT] with
  | none =>
    have : (writesF [oneT]).isSome = true := by kernel_rfl
    rw [h] at this; cases this
  | some f =>
    refine ⟨f, rfl, ?_⟩
    have : ((writesF [oneT]).getD (fun _ => none)) 5 = some (0, 0, true) := by kernel_rfl
    rw [h] at this
    exact this
theorem oneT_right : rightT oneT = true := by kernel_rfl
theorem oneT_ok : OkT oneT := OkT_of_right oneT_right
theorem alloc3w (w : World) (o0 o1 o2 : Obj) : (((w.alloc o0).alloc o1).alloc o2).heap[w.heap.size]? = some o0 ∧ (((w.alloc o0).alloc o1).alloc o2).heap[w.heap.size + 1]? = some o1 ∧ (((w.alloc o0).alloc o1).alloc o2).heap[w.heap.size + 1 + 1]? = some o2 := by
  have e : (((w.alloc o0).alloc o1).alloc o2).heap = ((w.heap.push o0).push o1).push o2 := rfl
  rw [e]
  refine ⟨?_, ?_, ?_⟩
  · rw [Array.getElem?_push, if_neg (by simp; omega), Array.getElem?_push, if_neg (by simp), Array.getElem?_push, if_pos rfl]
  · rw [Array.getElem?_push, if_neg (by simp), Array.getElem?_push, if_pos (by simp)]
  · rw [Array.getElem?_push, if_pos (by simp)]
theorem one_writes (A : Option Addr) (w : World) (hr : RdT w A [oneT]) :
    Calls Try.prog 28 #[.slice A 1 1] w fun e w' => ∃ (b s : Nat) (f : Int → Option W3), e = .returned (.tuple #[.map (some b), .bool true]) ∧ f 5 = some (0, 0, true) ∧ IM Try.prog 3 w' b (wfun f) s ∧ Below w.heap.size w w' := by
  obtain ⟨f, hf, h5⟩ := oneT_writes
  have := hwrites_calls A 1 [oneT] (fun t ht => by simp at ht; subst ht; exact oneT_ok) (by simp) w hr
  rw [hf] at this
  refine this.mono ?_
  rintro e w' ⟨b, rfl, him, hb⟩
  obtain ⟨s, hs⟩ := him f rfl
  exact ⟨b, s, f, rfl, h5, hs, hb⟩
theorem one_right (A : Option Addr) (w : World) (hr : RdO w A [⟨true, 0, 5⟩]) :
    Calls Try.prog 29 #[.agg #[.int .i64 0, .int .i64 1, .int .i64 2, .slice A 1 1]] w fun e w' => e = .returned (.bool true) ∧ Below w.heap.size w w' := by
  have := right_calls A 1 oneT w hr (Nat.le_refl _) (by simp [oneT])
  rw [oneT_right] at this
  exact this
theorem refR_yes {A : Option Addr} {c : Nat} {h : List T4} {w : World} (hr : RdT w A h) (hc : h.length ≤ c) (h1 : h.length ≤ 100) (h2 : countT h ≤ 1200) (hz : checkF h = 0) :
    Calls Try.prog 14 #[.slice A h.length c] w fun e w' => e = .returned (.int .i64 0) ∧ Below w.heap.size w w' := by
  have := ref_calls A c h hc (by omega) (by omega) w hr
  rw [ref_check, hz] at this
  exact this
theorem refR_no {A : Option Addr} {c : Nat} {h : List T4} {w : World} (hr : RdT w A h) (hc : h.length ≤ c) (h1 : h.length ≤ 100) (h2 : countT h ≤ 1200) (hz : checkF h ≠ 0) :
    Calls Try.prog 14 #[.slice A h.length c] w fun e w' => ∃ r : Int, r ≠ 0 ∧ e = .returned (.int .i64 r) ∧ Below w.heap.size w w' := by
  have := ref_calls A c h hc (by omega) (by omega) w hr
  rw [ref_check] at this
  exact this.mono fun _ _ ⟨e1, e2⟩ => ⟨_, hz, e1, e2⟩
theorem RdT.take {w : World} {A : Option Addr} {h : List T4} (hr : RdT w A h) (k : Nat) : RdT w A (h.take k) := by
  intro hp
  have hlen : 0 < h.length := by rw [List.length_take] at hp; omega
  obtain ⟨ad, e, hc⟩ := hr hlen
  refine ⟨ad, e, fun i t ht => ?_⟩
  rw [List.getElem?_take] at ht
  split at ht
  · exact hc i t ht
  · cases ht
theorem writesR {A : Option Addr} {cap : Nat} {h : List T4} {w : World} {f : Int → Option W3} (hf : writesF h = some f) (hok : ∀ t ∈ h, OkT t) (hlen : h.length ≤ 64) (hr : RdT w A h) :
    Calls Try.prog 28 #[.slice A h.length cap] w fun e w' => ∃ (b s : Nat), e = .returned (.tuple #[.map (some b), .bool true]) ∧ IM Try.prog 3 w' b (wfun f) s ∧ Below w.heap.size w w' := by
  have := hwrites_calls A cap h hok hlen w hr
  rw [hf] at this
  refine this.mono ?_
  rintro e w' ⟨b, rfl, him, hb⟩
  obtain ⟨s, hs⟩ := him f rfl
  exact ⟨b, s, rfl, hs, hb⟩
theorem check_last {A : Option Addr} {cap : Nat} {h : List T4} {w : World} {last : Nat} {q : Bool} (hr : RdT w A h) (hcap : h.length ≤ cap) (hlen : h.length ≤ 64) (hc : countT h ≤ 1024) (hl : h.length = last + 1) (hq : decide (checkF (h.take last) = 0) = q) :
    Calls Try.prog 32 #[.slice A last cap] w fun e w' => ∃ r : Int, (r == 0) = q ∧ e = .returned (.int .i64 r) ∧ Below w.heap.size w w' := by
  have e1 : (h.take last).length = last := by rw [List.length_take]; omega
  have := check_calls A cap (h.take last) (by omega) (by omega) (by have := countT_take h last; omega) w (hr.take last)
  rw [e1] at this
  exact this.mono fun _ _ ⟨e1, e2⟩ => ⟨_, by rw [← hq]; rfl, e1, e2⟩
theorem look_run {w : World} {b s : Nat} {f : Int → Option W3} (h : IM Try.prog 3 w b (wfun f) s) (v : Int) (hv : (Lit.int .i64 v).wf = true) {x : W3} (hx : f v = some x) :
    (Instr.lookup 56 (.map (some b)) (.int .i64 v) false).run Try.prog w = .ok (.agg #[.int .i64 (x.1 : Int), .int .i64 x.2.1, .bool x.2.2]) w := by
  have := h.look Try.underlying56 Try.underlying3 (z := .agg #[.int .i64 0, .int .i64 0, .bool false]) (by kernel_rfl) false hv
  rw [this]
  simp [wfun, hx, wval]
theorem field2 (a b : Int) (c : Bool) (w : World) : (Instr.field 60 (.agg #[.int .i64 a, .int .i64 b, .bool c]) 2).run Try.prog w = .ok (.bool c) w := by kernel_rfl
theorem field0 (a b : Int) (c : Bool) (w : World) : (Instr.field 60 (.agg #[.int .i64 a, .int .i64 b, .bool c]) 0).run Try.prog w = .ok (.int .i64 a) w := by kernel_rfl
section
variable {A : Option Addr} {cap n : Nat} {h : List T4} {w : World} {f : Int → Option W3} {q : Bool}
theorem bigN (q : Bool) (hn : h.length = n) (hr : RdT w A h) (hc : n ≤ cap) (hl : n ≤ 2932031007317) (ho : ∀ t ∈ h, t.ops.length ≤ 5864062014634) (hq : bigF h = q) :
    Calls Try.prog 12 #[.slice A n cap] w fun e w' => e = .returned (.int .i64 (if q then 1 else 0)) ∧ Below w.heap.size w w' := by
  subst hn; exact bigR q hr hc hl ho hq
theorem refN_yes (hn : h.length = n) (hr : RdT w A h) (hc : n ≤ cap) (h1 : h.length ≤ 100 ∧ countT h ≤ 1200) (hz : checkF h = 0) :
    Calls Try.prog 14 #[.slice A n cap] w fun e w' => e = .returned (.int .i64 0) ∧ Below w.heap.size w w' := by
  subst hn; exact refR_yes hr hc h1.1 h1.2 hz
theorem refN_no (hn : h.length = n) (hr : RdT w A h) (hc : n ≤ cap) (h1 : h.length ≤ 100 ∧ countT h ≤ 1200) (hz : checkF h ≠ 0) :
    Calls Try.prog 14 #[.slice A n cap] w fun e w' => ∃ r : Int, r ≠ 0 ∧ e = .returned (.int .i64 r) ∧ Below w.heap.size w w' := by
  subst hn; exact refR_no hr hc h1.1 h1.2 hz
theorem writesN (hn : h.length = n) (hf : writesF h = some f) (hok : ∀ t ∈ h, OkT t) (hlen : h.length ≤ 64) (hr : RdT w A h) :
    Calls Try.prog 28 #[.slice A n cap] w fun e w' => ∃ (b s : Nat), e = .returned (.tuple #[.map (some b), .bool true]) ∧ IM Try.prog 3 w' b (wfun f) s ∧ Below w.heap.size w w' := by
  subst hn; exact writesR hf hok hlen hr
theorem writerN_c (hn : h.length = n) (hr : RdT w A h) (hc : n ≤ cap) (h1 : h.length ≤ 100 ∧ countT h ≤ 1200) (k v : Int) (r : Int) (hq : writerN k v 0 h = r) :
    Calls Try.prog 31 #[.slice A n cap, .int .i64 k, .int .i64 v] w fun e w' => e = .returned (.int .i64 r) ∧ Below w.heap.size w w' := by
  subst hn; subst hq; exact writer_calls A cap h k v w hr hc (by omega) (by omega)
theorem RdT.txn (hr : RdT w A h) {i : Nat} {t : T4} (ht : h[i]? = some t) : ∃ (ad : Addr) (A3 : Option Addr) (c3 : Nat), A = some ad ∧ w.cell? (ad.add (i * 4)) = some (.int .i64 t.s) ∧ w.cell? ⟨(ad.add (i * 4)).block, (ad.add (i * 4)).off + 1, none⟩ = some (.int .i64 t.b) ∧ w.cell? ⟨(ad.add (i * 4)).block, (ad.add (i * 4)).off + 2, none⟩ = some (.int .i64 t.c) ∧
    w.cell? ⟨(ad.add (i * 4)).block, (ad.add (i * 4)).off + 3, none⟩ = some (.slice A3 t.ops.length c3) ∧ t.ops.length ≤ c3 ∧ RdO w A3 t.ops := by
  obtain ⟨ad, e, hc⟩ := hr (by have := (List.getElem?_eq_some_iff.1 ht).1; omega)
  obtain ⟨A3, c3, a, b, c, d, e2, f⟩ := hc i t ht
  exact ⟨ad, A3, c3, e, a, b, c, d, e2, f⟩
theorem RdO.op {ops : List O3} (hr : RdO w A ops) {i : Nat} {o : O3} (ho : ops[i]? = some o) : ∃ ad : Addr, A = some ad ∧ w.cell? (ad.add (i * 3)) = some (.bool o.w) ∧ w.cell? ⟨(ad.add (i * 3)).block, (ad.add (i * 3)).off + 1, none⟩ = some (.int .i64 o.k) ∧ w.cell? ⟨(ad.add (i * 3)).block, (ad.add (i * 3)).off + 2, none⟩ = some (.int .i64 o.v) := by
  obtain ⟨ad, e, hc⟩ := hr (by have := (List.getElem?_eq_some_iff.1 ho).1; omega)
  exact ⟨ad, e, hc i o ho⟩
end
theorem check_writes {h : List T4} (hc : checkF h = 0) : ∃ f, writesF h = some f := by
  obtain ⟨h1, h2, _⟩ := check_may hc
  cases hf : writesF h with
  | some f => exact ⟨f, rfl⟩
  | none =>
    have := checkF_small h1 h2
    rw [hc, judge_none hf] at this
    split at this <;> simp at this
theorem readsN {A3 : Option Addr} {c3 m : Nat} {t : T4} {w : World} (hm : t.ops.length = m) (hok : OkT t) (hr : RdO w A3 t.ops) :
    Calls Try.prog 30 #[.agg #[.int .i64 t.s, .int .i64 t.b, .int .i64 t.c, .slice A3 m c3]] w fun e w' => ∃ (A' : Option Addr) (cp nl : Nat) (l : List O3), l.length = nl ∧ e = .returned (.slice A' nl cp) ∧ (∀ o ∈ l, o ∈ t.ops ∧ o.w = false) ∧ nl ≤ 64 ∧ RdO w' A' l ∧ Below w.heap.size w w' := by
  subst hm
  refine (reads_calls t.s t.b t.c A3 c3 t.ops hok.2 (by have := hok.1; omega) w hr).mono ?_
  rintro e w' ⟨A', cp, l, rfl, hp, hc, hro, hb⟩
  exact ⟨A', cp, l.length, l, rfl, rfl, fun o ho => mem_readsGo (hp.mem_iff.1 ho), by rw [hp.length_eq]; exact Nat.le_trans (readsGo_length _ _) hok.1, hro, hb⟩
theorem any_take_step {p : O3 → Bool} {l : List O3} {j : Nat} {o : O3} (ho : l[j]? = some o) : (l.take (j + 1)).any p = ((l.take j).any p || p o) := by
  rw [List.take_add_one, ho, Option.toList_some, List.any_append]
  simp
theorem box4 (w : World) (a b c d : Value) (T : TypeId) : ∀ i, (w.alloc (.cells #[a, b, c, d] T)).cell? ⟨w.heap.size, i, none⟩ = #[a, b, c, d][i]? := fun i => cellIn (by show (w.heap.push _)[w.heap.size]? = _; exact Array.getElem?_push_size) i
theorem box33 (w : World) (a b c d e g : Value) (T U : TypeId) (dq : Nat) (os : Array Obj) : (∀ i, (Go.Sort.grow (redrawn ((w.alloc (.cells #[a, b, c] T)).alloc (.cells #[d, e, g] U)) dq) os).cell? ⟨w.heap.size, i, none⟩ = #[a, b, c][i]?) ∧ ∀ i, (Go.Sort.grow (redrawn ((w.alloc (.cells #[a, b, c] T)).alloc (.cells #[d, e, g] U)) dq) os).cell? ⟨w.heap.size + 1, i, none⟩ = #[d, e, g][i]? := by
  have e0 : ((w.alloc (.cells #[a, b, c] T)).alloc (.cells #[d, e, g] U)).heap = (w.heap.push (.cells #[a, b, c] T)).push (.cells #[d, e, g] U) := rfl
  have h0 : ((w.alloc (.cells #[a, b, c] T)).alloc (.cells #[d, e, g] U)).heap[w.heap.size]? = some (.cells #[a, b, c] T) := by
    rw [e0, Array.getElem?_push, if_neg (by simp), Array.getElem?_push, if_pos rfl]
  have h1 : ((w.alloc (.cells #[a, b, c] T)).alloc (.cells #[d, e, g] U)).heap[w.heap.size + 1]? = some (.cells #[d, e, g] U) := by
    rw [e0, Array.getElem?_push, if_pos (by simp)]
  have hs : ((w.alloc (.cells #[a, b, c] T)).alloc (.cells #[d, e, g] U)).heap.size = w.heap.size + 1 + 1 := by simp
  have hb := below_regrown ((w.alloc (.cells #[a, b, c] T)).alloc (.cells #[d, e, g] U)) dq os
  exact ⟨fun i => cellIn ((hb.block w.heap.size (by omega)).trans h0) i, fun i => cellIn ((hb.block (w.heap.size + 1) (by omega)).trans h1) i⟩
def RelO1 (h : List T4) (f : Int → Option W3) (last : Nat) (w : World) (b s : Nat) (v x : Value) (wr : World) : Prop :=
  ∃ i : Nat, i ≤ last + 1 ∧ v = .bool (needUp h f last i) ∧ x = .int .i64 ((i : Nat) : Int) ∧ Below w.heap.size w wr ∧ IM Try.prog 3 wr b (wfun f) s
def RelO2 (n : Nat) (w : World) (x : Value) (wr : World) : Prop :=
  ∃ k : Nat, k ≤ n ∧ x = .int .i64 ((k : Nat) : Int) ∧ Below w.heap.size w wr
def RelO3 (t : T4) (f : Int → Option W3) (last : Nat) (q0 q1 : Bool) (w : World) (v x : Value) (wr : World) : Prop :=
  ∃ j : Nat, j ≤ t.ops.length ∧ v = .bool (q0 || (q1 && (t.ops.take j).any (nB f last))) ∧ x = .int .i64 ((j : Nat) : Int) ∧ Below w.heap.size w wr
set_option maxHeartbeats 4000000 in
set_option maxRecDepth 100000 in
theorem wholeWrites_walk (A : Option Addr) (cap : Nat) (h : List T4) (w : World) (hr : RdT w A h) (hcap : h.length ≤ cap) (hl : h.length ≤ 2932031007317) (hw : ∀ t ∈ h, WfT t) :
    Calls Try.prog 8 #[.slice A h.length cap] w fun e w' => e = .returned (.bool true) ∧ Below w.heap.size w w' := by
  have HO := Lib.hid (fun t ht => (hw t ht).2.2.2.1 : ∀ t ∈ h, t.ops.length ≤ 5864062014634)
  have HR := Lib.hid hr
  obtain ⟨n, hn⟩ : ∃ n, h.length = n := ⟨_, rfl⟩
  have HN := Lib.hid hn
  rw [hn] at hcap hl ⊢
  have HCAP := Lib.hid hcap
  have HL := Lib.hid hl
  have hnn : (n : Int) ≤ 2932031007317 := by omega
  clear hr hcap hl hw hn
  go_enter Try.func8, Try.ntmps8
  go_wp2_with (go_at_call 27; (with_reducible refine (K.op_Write.calls 0 5 _ _ _ _ rfl).mono ?_); rintro e w1 ⟨rfl, hb1⟩)
  generalize hW : (((w1.alloc (.cells #[.bool true, .int .i64 0, .int .i64 5] 51)).alloc (.cells #[.int .i64 0, .int .i64 1, .int .i64 2, .slice (some ⟨w1.heap.size, 0, none⟩) 1 1] 55)).alloc (.cells #[.int .i64 0, .int .i64 1, .int .i64 2, .slice (some ⟨w1.heap.size, 0, none⟩) 1 1] 55)) = W
  have hal := alloc3w w1 (.cells #[.bool true, .int .i64 0, .int .i64 5] 51) (.cells #[.int .i64 0, .int .i64 1, .int .i64 2, .slice (some ⟨w1.heap.size, 0, none⟩) 1 1] 55) (.cells #[.int .i64 0, .int .i64 1, .int .i64 2, .slice (some ⟨w1.heap.size, 0, none⟩) 1 1] 55)
  rw [hW] at hal
  have hBW : Below w1.heap.size w1 W := by rw [← hW]; exact (((Below.refl _ _).alloc (Nat.le_refl _) _).alloc (by simp) _).alloc (by simp; omega) _
  have HRD := Lib.hid (show RdT W (some ⟨w1.heap.size + 1 + 1, 0, none⟩) [oneT] from lit_rd (o := ⟨true, 0, 5⟩) hal.1 hal.2.2)
  have hrd2 : RdT W (some ⟨w1.heap.size + 1, 0, none⟩) [oneT] := lit_rd (o := ⟨true, 0, 5⟩) hal.1 hal.2.1
  have hro : RdO W (some ⟨w1.heap.size, 0, none⟩) [⟨true, 0, 5⟩] := fun _ => ⟨_, rfl, fun j x hx => by
    cases j with
    | succ j => simp at hx
    | zero => simp at hx; subst hx; exact ⟨cellIn hal.1 0, cellIn hal.1 1, cellIn hal.1 2⟩⟩
  have HRO := Lib.hid hro
  have d0 := cellIn hal.2.1 0
  have d1 := cellIn hal.2.1 1
  have d2 := cellIn hal.2.1 2
  have d3 := cellIn hal.2.1 3
  simp only [List.getElem?_toArray, List.getElem?_cons_zero, List.getElem?_cons_succ] at d0 d1 d2 d3
  have HB1 := Lib.hid (hb1.trans (hBW.mono hb1.size))
  clear hal hBW hrd2 hro hW hb1
  with_reducible refine (one_writes _ _ HRD.out).mono ?_
  rintro e w2 ⟨b0, s0, f0, rfl, hf0, him0, hb2⟩
  replace d0 := cell_below hb2 d0
  replace d1 := cell_below hb2 d1
  replace d2 := cell_below hb2 d2
  replace d3 := cell_below hb2 d3
  have HRO2 := Lib.hid (HRO.out.below hb2)
  have HB2 := Lib.hid (HB1.out.trans (hb2.mono HB1.out.size))
  have hrun0 : (Instr.lookup 56 (.map (some b0)) (.int .i64 5) false).run Try.prog w2 = .ok (.agg #[.int .i64 0, .int .i64 0, .bool true]) w2 := look_run him0 5 (wf64 (x := 5) (by omega) (by omega)) (x := (0, 0, true)) hf0
  have hfl := field2 0 0 true
  clear hf0 him0 hb2 HRD HRO HB1
  go_wp2_with ((go_at_call 29; (with_reducible refine (one_right _ _ HRO2.out).mono ?_); rintro e w3 ⟨rfl, hb3⟩; have HB3 := Lib.hid (HB2.out.trans (hb3.mono HB2.out.size)); clear hb3))
  clear d0 d1 d2 d3 HRO2 hrun0 hfl
  cases hbig : bigF h with
  | true =>
    have HBIG := Lib.hid hbig
    clear hbig
    go_wp2_with ((go_at_call 12; (with_reducible refine (bigN true HN.out (HR.out.below HB3.out) HCAP.out HL.out HO.out HBIG.out).mono ?_); rintro e w4 ⟨rfl, hb4⟩))
    go_ret
    exact ⟨rfl, HB3.out.trans (hb4.mono HB3.out.size)⟩
  | false =>
    have HS := Lib.hid (big_no_small hbig)
    have HBIG := Lib.hid hbig
    clear hbig
    by_cases hch : checkF h = 0
    · have HCH := Lib.hid hch
      have HM := Lib.hid (check_may hch)
      clear hch
      by_cases hn0 : n = 0
      · subst hn0
        go_wp2_with (first
          | (go_at_call 12; (with_reducible refine (bigN false HN.out (HR.out.below HB3.out) HCAP.out HL.out HO.out HBIG.out).mono ?_); rintro e w4 ⟨rfl, hb4⟩; have HB4 := Lib.hid (HB3.out.trans (hb4.mono HB3.out.size)); clear hb4)
          | (go_at_call 14; (with_reducible refine (refN_yes HN.out (HR.out.below HB4.out) HCAP.out HS.out HCH.out).mono ?_); rintro e w5 ⟨rfl, hb5⟩; have HB5 := Lib.hid (HB4.out.trans (hb5.mono HB4.out.size)); clear hb5))
        go_ret
        exact ⟨rfl, HB5.out⟩
      · obtain ⟨last, hlast⟩ : ∃ last, n = last + 1 := ⟨n - 1, by omega⟩
        have hl64 : n ≤ 64 := by have := HM.out.1; rw [HN.out] at this; exact this
        have hn1 : 1 ≤ (n : Int) := by omega
        have hn2 : ((n : Int) == 0) = false := by simp; omega
        have hn3 : IntKind.i64.wrap ((n : Int) - 1) = (last : Int) := by
          have := IntWalk.i64_in ((n : Int) - 1) (by omega)
          rw [this]; omega
        have hn4 : (n : Int) - 1 = (last : Int) := by omega
        have HLAST := Lib.hid hlast
        clear hlast hn0
        obtain ⟨f, hwf⟩ := check_writes HCH.out
        have HF := Lib.hid hwf
        have HOK := Lib.hid (fun t ht => OkT_of_right (HM.out.2.2.1 t ht) : ∀ t ∈ h, OkT t)
        clear hwf
        go_wp2_with (first
          | (go_at_call 12; (with_reducible refine (bigN false HN.out (HR.out.below HB3.out) HCAP.out HL.out HO.out HBIG.out).mono ?_); rintro e w4 ⟨rfl, hb4⟩; have HB4 := Lib.hid (HB3.out.trans (hb4.mono HB3.out.size)); clear hb4)
          | (go_at_call 14; (with_reducible refine (refN_yes HN.out (HR.out.below HB4.out) HCAP.out HS.out HCH.out).mono ?_); rintro e w5 ⟨rfl, hb5⟩; have HB5 := Lib.hid (HB4.out.trans (hb5.mono HB4.out.size)); clear hb5)
          | (go_at_call 28; (with_reducible refine (writesN HN.out HF.out HOK.out HM.out.1 (HR.out.below HB5.out)).mono ?_); rintro e w6 ⟨b6, s6, rfl, him6, hb6⟩; have HB6 := Lib.hid (HB5.out.trans (hb6.mono HB5.out.size)); have HI6 := Lib.hid him6; clear hb6 him6))
        have HB6o := Lib.hid HB6.out
        clear HB2 HB3 HB4 HB5 HBIG hn2 hn3
        go_loopw [9, 65] (fun v x wr => RelO1 h f last w b6 s6 v x wr) (fun _ x _ => n - (intOf x).toNat)
        case atStart => exact ⟨0, Nat.zero_le _, by rw [needUp_zero], rfl, HB6.out, HI6.out⟩
        case round =>
          clear HB6 HB6o HI6
          obtain ⟨i, hi, rfl, rfl, hb, him⟩ := hrel
          by_cases hlt : i < n
          · have hltz : (i : Int) < (n : Int) := by omega
            have hil : i < h.length := by rw [HN.out]; exact hlt
            obtain ⟨t, ht⟩ : ∃ t, h[i]? = some t := ⟨_, List.getElem?_eq_getElem hil⟩
            obtain ⟨ad, A3, c3, hA, t0, t1, t2, t3, hl3, hro⟩ := (HR.out.below hb).txn ht
            subst hA
            obtain ⟨m, hm⟩ : ∃ m, t.ops.length = m := ⟨_, rfl⟩
            have HMM := Lib.hid hm
            rw [hm] at t3 hl3
            have HT := Lib.hid ht
            have hok := HOK.out t (List.mem_of_getElem? ht)
            have HOT := Lib.hid hok
            have hm64 : m ≤ 64 := by rw [← hm]; exact hok.1
            have hbx := fun k => box4 wr (.int .i64 t.s) (.int .i64 t.b) (.int .i64 t.c) (.slice A3 m c3) 55 k
            have hbW : Below w.heap.size w (wr.alloc (.cells #[.int .i64 t.s, .int .i64 t.b, .int .i64 t.c, .slice A3 m c3] 55)) := hb.alloc hb.size _
            have HBW := Lib.hid hbW
            have hsub : Below wr.heap.size wr (wr.alloc (.cells #[.int .i64 t.s, .int .i64 t.b, .int .i64 t.c, .slice A3 m c3] 55)) := (Below.refl _ _).alloc (Nat.le_refl _) _
            have HRO := Lib.hid (hro.below hsub)
            have HIM := Lib.hid (him.below hsub)
            have HBX := Lib.hid (show (wr.alloc (.cells #[.int .i64 t.s, .int .i64 t.b, .int .i64 t.c, .slice A3 m c3] 55)).cell? ⟨wr.heap.size, 3, none⟩ = some (.slice A3 m c3) from hbx 3)
            clear hil ht hro hm hok hbx hb him hsub hbW
            go_wp2_with ((go_at_call 30; (with_reducible refine (readsN HMM.out HOT.out HRO.out).mono ?_); rintro e w7 ⟨A7, c7, nl, l, hnl, rfl, hmem, hnl64, hro7, hb7⟩; have HNL := Lib.hid hnl; have HMEM := Lib.hid hmem; have HRO7 := Lib.hid hro7; have HB7 := Lib.hid hb7; clear hnl hmem hro7 hb7))
            have HIM7 := Lib.hid (HIM.out.below HB7.out)
            have HBX7 := Lib.hid (cell_below HB7.out HBX.out)
            have HROT := Lib.hid (HRO.out.below HB7.out)
            have HBW7 := Lib.hid (HBW.out.trans (HB7.out.mono HBW.out.size))
            clear HIM HBX HRO HBW t0 t1 t2 t3 HB7
            go_loopw [73] (fun x wr => RelO2 nl w7 x wr) (fun x _ => nl - (intOf x).toNat)
            case atStart => exact ⟨0, Nat.zero_le _, rfl, Below.refl _ _⟩
            case round =>
              obtain ⟨k, hk, rfl, hb⟩ := hrel
              by_cases hlk : k < nl
              · have hlkz : (k : Int) < (nl : Int) := by omega
                have hkl : k < l.length := by rw [HNL.out]; exact hlk
                obtain ⟨o, ho⟩ : ∃ o, l[k]? = some o := ⟨_, List.getElem?_eq_getElem hkl⟩
                obtain ⟨ad7, hA7, x0, x1, x2⟩ := (HRO7.out.below hb).op ho
                subst hA7
                obtain ⟨hot, hwf⟩ := HMEM.out o (List.mem_of_getElem? ho)
                have hoo := HOT.out.2 o hot
                have HKW := Lib.hid (wf64 (x := o.v) (by have := hoo.2.2.1; omega) (by have := hoo.2.2.2; omega))
                have HOTM := Lib.hid hot
                have HIMr := Lib.hid (HIM7.out.below hb)
                have HBr := Lib.hid hb
                clear hkl ho hoo hb hot
                obtain ⟨ow, ok, ov⟩ := o
                dsimp only at x0 x1 x2 hwf HKW HOTM
                subst hwf
                by_cases hv : ov = 0
                · subst hv
                  have HV := Lib.hid (show (if true = true then (.tuple #[(wfun f 0).getD (.agg #[.int .i64 0, .int .i64 0, .bool false]), .bool (wfun f 0).isSome] : Value) else (wfun f 0).getD (.agg #[.int .i64 0, .int .i64 0, .bool false])) = .tuple #[.agg #[.int .i64 0, .int .i64 0, .bool false], .bool false] by simp [wfun, f_zero HM.out.2.2 HF.out])
                  go_wp2_with (at_lookup; refine wpList_look (HIMr.out.alloc _) rfl _ _ 56 60 true rfl Try.underlying56 Try.underlying3 (.agg #[.int .i64 0, .int .i64 0, .bool false]) (fun _ => by kernel_rfl) rfl 0 rfl HKW.out _ HV.out ?_)
                  have g0 : Below w7.heap.size w7 ((wr.alloc (.cells #[.bool false, .int .i64 ok, .int .i64 0] 51)).alloc (.cells #[.int .i64 0, .int .i64 0, .bool false] 60)) := (HBr.out.alloc HBr.out.size _).alloc (by have := HBr.out.size; simp; omega) _
                  have G0 := Lib.hid g0
                  have z1 := fun dq os => (box33 wr (.bool false) (.int .i64 ok) (.int .i64 0) (.int .i64 0) (.int .i64 0) (.bool false) 51 60 dq os).1 1
                  have z2 := fun dq os => (box33 wr (.bool false) (.int .i64 ok) (.int .i64 0) (.int .i64 0) (.int .i64 0) (.bool false) 51 60 dq os).1 2
                  have z3 := fun dq os => (box33 wr (.bool false) (.int .i64 ok) (.int .i64 0) (.int .i64 0) (.int .i64 0) (.bool false) 51 60 dq os).2 0
                  have z4 := fun dq os => (box33 wr (.bool false) (.int .i64 ok) (.int .i64 0) (.int .i64 0) (.int .i64 0) (.bool false) 51 60 dq os).2 1
                  simp only [List.getElem?_toArray, List.getElem?_cons_zero, List.getElem?_cons_succ] at z1 z2 z3 z4
                  clear x0 x1 x2 g0 
                  refine wp_region_quiet_below (by kernel_rfl) (by kernel_rfl) ?_
                  repeat (go_big_quiet_step (fail))
                  refine wpQuiet_nil ?_
                  intro w9 hw'
                  obtain ⟨⟨dq, osq⟩, hw''⟩ := hw'
                  have g9 : Below w7.heap.size w7 w9 := hw'' ▸ (G0.out.trans ((below_regrown _ dq osq).mono G0.out.size))
                  clear hw''
                  go_wp2_with fail
                  go_roundw
                  case rel => exact ⟨k + 1, by omega, by go_num, g9⟩
                  case measure => (simp [intOf]; try omega)
                · obtain ⟨i7, l7, hf7, hw7⟩ := read_writer HM.out.2.2 HF.out (List.mem_of_getElem? HT.out) HOTM.out rfl hv
                  dsimp only at hf7 hw7
                  have HV := Lib.hid (show (if true = true then (.tuple #[(wfun f ov).getD (.agg #[.int .i64 0, .int .i64 0, .bool false]), .bool (wfun f ov).isSome] : Value) else (wfun f ov).getD (.agg #[.int .i64 0, .int .i64 0, .bool false])) = .tuple #[.agg #[.int .i64 (i7 : Int), .int .i64 ok, .bool l7], .bool true] by simp [wfun, hf7, wval])
                  have HW7 := Lib.hid hw7
                  have hvn : (ov != 0) = true := by simp [hv]
                  clear hf7 hw7 hv
                  go_wp2_with (at_lookup; refine wpList_look (HIMr.out.alloc _) rfl _ _ 56 60 true rfl Try.underlying56 Try.underlying3 (.agg #[.int .i64 0, .int .i64 0, .bool false]) (fun _ => by kernel_rfl) rfl ov rfl HKW.out _ HV.out ?_)
                  have g0 : Below w7.heap.size w7 ((wr.alloc (.cells #[.bool false, .int .i64 ok, .int .i64 ov] 51)).alloc (.cells #[.int .i64 (i7 : Int), .int .i64 ok, .bool l7] 60)) := (HBr.out.alloc HBr.out.size _).alloc (by have := HBr.out.size; simp; omega) _
                  have G0 := Lib.hid g0
                  have G1 := Lib.hid (HBW7.out.trans (g0.mono HBW7.out.size))
                  have z1 := fun dq os => (box33 wr (.bool false) (.int .i64 ok) (.int .i64 ov) (.int .i64 (i7 : Int)) (.int .i64 ok) (.bool l7) 51 60 dq os).1 1
                  have z2 := fun dq os => (box33 wr (.bool false) (.int .i64 ok) (.int .i64 ov) (.int .i64 (i7 : Int)) (.int .i64 ok) (.bool l7) 51 60 dq os).1 2
                  have z3 := fun dq os => (box33 wr (.bool false) (.int .i64 ok) (.int .i64 ov) (.int .i64 (i7 : Int)) (.int .i64 ok) (.bool l7) 51 60 dq os).2 0
                  have z4 := fun dq os => (box33 wr (.bool false) (.int .i64 ok) (.int .i64 ov) (.int .i64 (i7 : Int)) (.int .i64 ok) (.bool l7) 51 60 dq os).2 1
                  simp only [List.getElem?_toArray, List.getElem?_cons_zero, List.getElem?_cons_succ] at z1 z2 z3 z4
                  clear x0 x1 x2 g0 
                  refine wp_region_quiet_below (by kernel_rfl) (by kernel_rfl) ?_
                  repeat (go_big_quiet_step ((go_at_call 31; with_reducible exact Calls.regrown_of (writerN_c HN.out (HR.out.below (G1.out.trans ((below_regrown _ _ _).mono G1.out.size))) HCAP.out HS.out ok ov _ HW7.out))))
                  refine wpQuiet_nil ?_
                  intro w9 hw'
                  obtain ⟨⟨dq, osq⟩, hw''⟩ := hw'
                  have g9 : Below w7.heap.size w7 w9 := hw'' ▸ (G0.out.trans ((below_regrown _ dq osq).mono G0.out.size))
                  clear hw''
                  go_wp2_with fail
                  go_roundw
                  case rel => exact ⟨k + 1, by omega, by go_num, g9⟩
                  case measure => (simp [intOf]; try omega)
              · have hkn : k = nl := by omega
                subst hkn
                have hbx8 := cell_below hb HBX7.out
                have HIM8 := Lib.hid (HIM7.out.below hb)
                have HRO8 := Lib.hid (HROT.out.below hb)
                have HBW8 := Lib.hid (HBW7.out.trans (hb.mono HBW7.out.size))
                clear hb HBX7 HIM7 HROT HBW7 HRO7 HMEM HNL
                obtain ⟨q0, hq0⟩ : ∃ q0, needUp h f last i = q0 := ⟨_, rfl⟩
                have HQ0 := Lib.hid hq0
                rw [hq0]
                clear hq0
                go_wp2_with fail
                obtain ⟨w8, hw8⟩ : ∃ w8 : World, wr = w8 := ⟨_, rfl⟩
                rw [hw8] at hbx8 HIM8 HRO8 HBW8 ⊢
                clear hw8 hbx8
                obtain ⟨q1, hq1⟩ : ∃ q1, decide (i ≠ last) = q1 := ⟨_, rfl⟩
                have HQ1 := Lib.hid hq1
                clear hq1 hk hlk
                go_loopw [9, 114] (fun v x wr => RelO3 t f last q0 q1 w8 v x wr) (fun _ x _ => m - (intOf x).toNat)
                case atStart => exact ⟨0, Nat.zero_le _, by simp, rfl, Below.refl _ _⟩
                case round =>
                  obtain ⟨j, hj, hv9, rfl, hb⟩ := hrel
                  rw [HMM.out] at hj
                  by_cases hjm : j < m
                  · have hjmz : (j : Int) < (m : Int) := by omega
                    have hjl : j < t.ops.length := by rw [HMM.out]; exact hjm
                    obtain ⟨o, ho⟩ : ∃ o, t.ops[j]? = some o := ⟨_, List.getElem?_eq_getElem hjl⟩
                    obtain ⟨ad3, hA3, x0, x1, x2⟩ := (HRO8.out.below hb).op ho
                    subst hA3
                    have hot := List.mem_of_getElem? ho
                    have hoo := HOT.out.2 o hot
                    have HWF := Lib.hid (wf64 (x := o.v) (by have := hoo.2.2.1; omega) (by have := hoo.2.2.2; omega))
                    have HOTM := Lib.hid hot
                    have HTK := Lib.hid (any_take_step (p := nB f last) ho)
                    have HIMr := Lib.hid (HIM8.out.below hb)
                    have HB2 := Lib.hid (show Below w8.heap.size w8 (wr.alloc (.cells #[.bool o.w, .int .i64 o.k, .int .i64 o.v] 51)) from hb.alloc hb.size _)
                    obtain ⟨cur, hcur⟩ : ∃ cur, (q0 || (q1 && (t.ops.take j).any (nB f last))) = cur := ⟨_, rfl⟩
                    rw [hcur] at hv9
                    subst hv9
                    have HCUR := Lib.hid hcur
                    clear hjl ho hot hoo hb hcur
                    cases cur with
                    | true =>
                      have HFIN := Lib.hid (show (q0 || (q1 && (t.ops.take (j + 1)).any (nB f last))) = true by
                        rw [HTK.out]
                        have := HCUR.out
                        cases q0 with
                        | true => rfl
                        | false =>
                          cases q1 with
                          | false => simp at this
                          | true =>
                            simp only [Bool.false_or, Bool.true_and] at this ⊢
                            rw [this]; rfl)
                      go_wp2_with fail
                      go_roundw
                      case rel => exact ⟨j + 1, by rw [HMM.out]; omega, by rw [HFIN.out], by go_num, HB2.out⟩
                      case measure => (simp [intOf]; try omega)
                    | false =>
                      by_cases hil : i = last
                      · have hq1 : q1 = false := by rw [← HQ1.out]; simp [hil]
                        have hq0 : q0 = false := by have := HCUR.out; revert this; cases q0 <;> simp
                        have HFIN := Lib.hid (show (q0 || (q1 && (t.ops.take (j + 1)).any (nB f last))) = false by rw [hq1, hq0]; rfl)
                        have hne : ((i : Int) != (last : Int)) = false := by simp [hil]
                        clear hil hq1 hq0
                        go_wp2_with fail
                        go_roundw
                        case rel => exact ⟨j + 1, by rw [HMM.out]; omega, by rw [HFIN.out], by go_num, HB2.out⟩
                        case measure => (simp [intOf]; try omega)
                      · have hq1 : q1 = true := by rw [← HQ1.out]; simp [hil]
                        have hq0 : q0 = false := by have := HCUR.out; revert this; cases q0 <;> simp
                        have hany : (t.ops.take j).any (nB f last) = false := by have := HCUR.out; rw [hq0, hq1] at this; simpa using this
                        have HFIN := Lib.hid (show (q0 || (q1 && (t.ops.take (j + 1)).any (nB f last))) = nB f last o by rw [hq1, hq0, HTK.out, hany]; simp)
                        have hne : ((i : Int) != (last : Int)) = true := by simp; omega
                        clear hil hq1 hq0 hany
                        obtain ⟨ow, ok, ov⟩ := o
                        dsimp only at x0 x1 x2 HWF HOTM HB2
                        cases ow with
                        | true =>
                          have HN2 := Lib.hid (show nB f last ⟨true, ok, ov⟩ = false by simp [nB])
                          go_wp2_with fail
                          go_roundw
                          case rel => exact ⟨j + 1, by rw [HMM.out]; omega, by rw [HFIN.out, HN2.out], by go_num, HB2.out⟩
                          case measure => (simp [intOf]; try omega)
                        | false =>
                          by_cases hv : ov = 0
                          · subst hv
                            have HN2 := Lib.hid (show nB f last ⟨false, ok, 0⟩ = false by simp [nB])
                            go_wp2_with fail
                            go_roundw
                            case rel => exact ⟨j + 1, by rw [HMM.out]; omega, by rw [HFIN.out, HN2.out], by go_num, HB2.out⟩
                            case measure => (simp [intOf]; try omega)
                          · obtain ⟨i7, l7, hf7, _⟩ := read_writer HM.out.2.2 HF.out (List.mem_of_getElem? HT.out) HOTM.out rfl hv
                            dsimp only at hf7
                            have hvn : (ov != 0) = true := by simp [hv]
                            have hrun : (Instr.lookup 56 (.map (some b6)) (.int .i64 ov) false).run Try.prog (wr.alloc (.cells #[.bool false, .int .i64 ok, .int .i64 ov] 51)) = .ok (.agg #[.int .i64 (i7 : Int), .int .i64 ok, .bool l7]) (wr.alloc (.cells #[.bool false, .int .i64 ok, .int .i64 ov] 51)) := look_run (HIMr.out.alloc _) ov HWF.out hf7
                            have hfl := field0 (i7 : Int) ok l7
                            have HN2 := Lib.hid (show nB f last ⟨false, ok, ov⟩ = decide (i7 = last) by simp [nB, hf7, hv])
                            clear hf7 hv
                            by_cases hil : i7 = last
                            · have HE := Lib.hid (show decide (i7 = last) = true from decide_eq_true hil)
                              have heq : ((i7 : Int) == (last : Int)) = true := by simp [hil]
                              clear hil
                              go_wp2_with fail
                              go_roundw
                              case rel => exact ⟨j + 1, by rw [HMM.out]; omega, by rw [HFIN.out, HN2.out, HE.out], by go_num, HB2.out⟩
                              case measure => (simp [intOf]; try omega)
                            · have HE := Lib.hid (show decide (i7 = last) = false from decide_eq_false hil)
                              have heq : ((i7 : Int) == (last : Int)) = false := by simp; omega
                              clear hil
                              go_wp2_with fail
                              go_roundw
                              case rel => exact ⟨j + 1, by rw [HMM.out]; omega, by rw [HFIN.out, HN2.out, HE.out], by go_num, HB2.out⟩
                              case measure => (simp [intOf]; try omega)
                  · have hjm2 : j = m := by omega
                    subst hjm2
                    rw [List.take_of_length_le (by rw [HMM.out]; exact Nat.le_refl _)] at hv9
                    have hup : (q0 || (q1 && t.ops.any (nB f last))) = needUp h f last (i + 1) := by
                      rw [← HQ0.out, ← HQ1.out]
                      by_cases hil : i = last
                      · subst hil
                        rw [needUp_last]
                        simp
                      · have := HLAST.out
                        rw [needUp_step HT.out (by omega), decide_eq_true hil, Bool.true_and]
                        rfl
                    rw [hup] at hv9
                    subst hv9
                    have HB9 := Lib.hid (HBW8.out.trans (hb.mono HBW8.out.size))
                    have HI9 := Lib.hid (HIM8.out.below hb)
                    clear hup hb
                    go_wp2_with fail
                    go_roundw
                    case rel => exact ⟨i + 1, by have := HLAST.out; omega, rfl, by go_num, HB9.out, HI9.out⟩
                    case measure => (simp [intOf]; try omega)
          · have hin : i = n := by omega
            subst hin
            have HQ := Lib.hid (show decide (checkF (h.take last) = 0) = !needUp h f last i by rw [check_without HCH.out HF.out (by rw [HN.out]; exact HLAST.out), HLAST.out, needUp_end])
            have HI1 := Lib.hid (show h.length = last + 1 by rw [HN.out]; exact HLAST.out)
            have HRb := Lib.hid (HR.out.below hb)
            have HBb := Lib.hid hb
            have hlc : (last : Int) ≤ (cap : Int) := by have := HCAP.out; have := HLAST.out; omega
            have hl0 : (0 : Int) ≤ (last : Int) := by omega
            obtain ⟨q0, hq0⟩ : ∃ q0, needUp h f last i = q0 := ⟨_, rfl⟩
            rw [hq0] at HQ ⊢
            clear hq0 hb him hn1 hn4
            go_wp2_with (go_at_call 32; (with_reducible refine (check_last HRb.out (by rw [HN.out]; exact HCAP.out) HM.out.1 HM.out.2.1 HI1.out HQ.out).mono ?_); rintro e w9 ⟨r9, hr9, rfl, hb9⟩; have HB9 := Lib.hid (HBb.out.trans (hb9.mono HBb.out.size)); clear hb9)
            go_ret
            exact ⟨rfl, HB9.out⟩
    · have HCH := Lib.hid hch
      clear hch
      go_wp2_with (first
        | (go_at_call 12; (with_reducible refine (bigN false HN.out (HR.out.below HB3.out) HCAP.out HL.out HO.out HBIG.out).mono ?_); rintro e w4 ⟨rfl, hb4⟩; have HB4 := Lib.hid (HB3.out.trans (hb4.mono HB3.out.size)); clear hb4)
        | (go_at_call 14; (with_reducible refine (refN_no HN.out (HR.out.below HB4.out) HCAP.out HS.out HCH.out).mono ?_); rintro e w5 ⟨r5, hr5, rfl, hb5⟩; have HB5 := Lib.hid (HB4.out.trans (hb5.mono HB4.out.size)); have hr6 : (r5 != 0) = true := (by simpa using hr5); clear hb5))
      go_ret
      exact ⟨rfl, HB5.out⟩
end Go.Proofs.Ytngkneknopenmaa.Hist
end
