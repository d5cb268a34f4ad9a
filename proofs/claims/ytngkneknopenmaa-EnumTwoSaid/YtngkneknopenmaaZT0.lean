/- qr3 of this claim, joined by a program of this session: the zS that its theorem uses. -/
import Derived.OrdersHeld
import Derived.RegionTactic
set_option linter.unusedVariables false
set_option linter.unusedSimpArgs false
section
namespace Go.qU
open Go
variable {P : Program} {ops : Array Oper} {Q : Exit → Act → World → Prop} {md : Region.Mode} {A : World → Prop} {T : List Nat}
def qg4 (P : Program) (md : Region.Mode) (ops : Array Oper) (Q : Exit → Act → World → Prop) (T : List Nat) (A : World → Prop) : Nat → Array Bool → Act → World → Prop
 | 0, listed, a, w => Region.ready md ops listed = [] ∧ Q .normal a w
 | n + 1, listed, a, w => (Region.ready md ops listed = [] → Q .normal a w) ∧
   ∀ i ∈ Region.ready md ops listed, wpOp P ops Q i (fun a' w' => (T.contains i = false → A w → A w') ∧ qg4 P md ops Q T A n (listed.setIfInBounds i true) a' w') a w
theorem qg4.any : ∀ (n : Nat) (listed : Array Bool) (a : Act) (w : World), qg4 P md ops Q T A n listed a w → wpAny P md ops Q n listed a w
 | 0, _, _, _, h => h
 | n + 1, _, _, _, h => ⟨h.1, fun i hi => wpOp_mono (fun a' w' k => qg4.any n _ a' w' k.2) (h.2 i hi)⟩
def waits (md : Region.Mode) (ops : Array Oper) (T : List Nat) (i : Nat) : Bool := T.all fun j => match ops[j]? with | some o => o.after.any (fun e => Region.binds md e && e.on == i) | none => true
theorem zl7 {i j : Nat} {listed : Array Bool} (hT : waits md ops T i = true) (hi : listed.getD i true = false) (hj : j ∈ Region.ready md ops listed) : T.contains j = false := by
 cases hc : T.contains j with
 | false => rfl
 | true =>
  obtain ⟨_, o, ho, hall⟩ := mem_ready.1 hj
  have h1 := List.all_eq_true.1 hT j (by simpa using hc)
  rw [ho] at h1
  obtain ⟨e, he, hb⟩ := Array.any_eq_true'.1 h1
  simp only [Bool.and_eq_true, beq_iff_eq] at hb
  have h2 := hall e he hb.1
  rw [hb.2] at h2
  by_cases hl : i < listed.size
  ·simp [hl] at hi h2
   rw [hi] at h2
   cases h2
  ·simp [Array.getElem?_eq_none (Nat.le_of_not_lt hl)] at h2
theorem jB3 {i : Nat} {oi : Oper} {v : Value} (hi : ops[i]? = some oi) (hs : Region.noSelect ops = true) (hT : waits md ops T i = true)
  (hQ : ∀ c a w, Q (.panic c) (a.put oi.dst v) w → Q (.panic c) a w) : ∀ (n : Nat) (listed : Array Bool) (a : Act) (w : World),
   (∀ j oj, ops[j]? = some oj → j ≠ i → listed.getD j true = false → (∀ e ∈ oj.after, Region.binds md e = true → e.on ≠ i) → oi.apart ops oj = true) →
   i ∈ Region.ready md ops listed → YieldsIf P ops A oi v a → A w →
   qg4 P md ops Q T A n (listed.setIfInBounds i true) (a.put oi.dst v) w → qg4 P md ops Q T A (n + 1) listed a w := by
 intro n
 induction n with
 | zero =>
  intro listed a w _ hr hy hA H
  refine ⟨fun h => (by rw [h] at hr; cases hr), fun j hj => ?_⟩
  by_cases e : j = i
  ·subst e
   exact hy.wpOp hi hA ⟨fun _ h => h, H⟩
  ·have := ready_mono hj e
   rw [H.1] at this
   cases this
 | succ n ih =>
  intro listed a w hfree hr hy hA H
  refine ⟨fun h => (by rw [h] at hr; cases hr), fun j hj => ?_⟩
  by_cases e : j = i
  ·subst e
   exact hy.wpOp hi hA ⟨fun _ h => h, H⟩
  ·have hun := (mem_ready.1 hr).1
   have hjT := zl7 hT hun hj
   obtain ⟨hju, oj, hoj, hall⟩ := mem_ready.1 hj
   have hno : ∀ x ∈ oj.after, Region.binds md x = true → x.on ≠ i := by
    intro x hx hb heq
    have h1 := hall x hx hb
    rw [heq] at h1
    by_cases hl : i < listed.size
    ·simp [hl] at hun h1
     rw [hun] at h1
     cases h1
    ·simp [Array.getElem?_eq_none (Nat.le_of_not_lt hl)] at h1
   have h2 := wpOp_putIf hoj (hfree j oj hoj e hju hno) (fun cs b => Region.noSelect_spec hs i oi cs b hi) (fun cs b => Region.noSelect_spec hs j oj cs b hoj) hQ hy (H.2 j (ready_mono hj e))
   refine wpOp_mono (fun a' w' k => ⟨fun _ h => k.2.1 hjT h, ih (listed.setIfInBounds j true) a' w' ?_ (ready_mono hr (Ne.symm e)) k.1 (k.2.1 hjT hA) ?_⟩) h2
   ·intro k' ok hk hki hun' hno'
    refine hfree k' ok hk hki ?_ hno'
    by_cases hjk : j = k'
    ·subst hjk; exact hju
    ·rw [getD_set_ne true hjk] at hun'; exact hun'
   ·rw [Array.setIfInBounds_comm _ _ e]
    exact k.2.2
theorem jv1 {i : Nat} {oi : Oper} {v : Value} (hi : ops[i]? = some oi) (hs : Region.noSelect ops = true)
  (hQ : ∀ c a w, Q (.panic c) (a.put oi.dst v) w → Q (.panic c) a w) : ∀ (n : Nat) (listed : Array Bool) (a : Act) (w : World),
   (∀ j oj, ops[j]? = some oj → j ≠ i → listed.getD j true = false → (∀ e ∈ oj.after, Region.binds md e = true → e.on ≠ i) → oi.apart ops oj = true) →
   i ∈ Region.ready md ops listed → YieldsIf P ops (fun _ => True) oi v a →
   qg4 P md ops Q T A n (listed.setIfInBounds i true) (a.put oi.dst v) w → qg4 P md ops Q T A (n + 1) listed a w := by
 intro n
 induction n with
 | zero =>
  intro listed a w _ hr hy H
  refine ⟨fun h => (by rw [h] at hr; cases hr), fun j hj => ?_⟩
  by_cases e : j = i
  ·subst e
   exact hy.wpOp hi trivial ⟨fun _ h => h, H⟩
  ·have := ready_mono hj e
   rw [H.1] at this
   cases this
 | succ n ih =>
  intro listed a w hfree hr hy H
  refine ⟨fun h => (by rw [h] at hr; cases hr), fun j hj => ?_⟩
  by_cases e : j = i
  ·subst e
   exact hy.wpOp hi trivial ⟨fun _ h => h, H⟩
  ·have hun := (mem_ready.1 hr).1
   obtain ⟨hju, oj, hoj, hall⟩ := mem_ready.1 hj
   have hno : ∀ x ∈ oj.after, Region.binds md x = true → x.on ≠ i := by
    intro x hx hb heq
    have h1 := hall x hx hb
    rw [heq] at h1
    by_cases hl : i < listed.size
    ·simp [hl] at hun h1
     rw [hun] at h1
     cases h1
    ·simp [Array.getElem?_eq_none (Nat.le_of_not_lt hl)] at h1
   have h2 := wpOp_putIf hoj (hfree j oj hoj e hju hno) (fun cs b => Region.noSelect_spec hs i oi cs b hi) (fun cs b => Region.noSelect_spec hs j oj cs b hoj) hQ hy (H.2 j (ready_mono hj e))
   refine wpOp_mono (fun a' w' k => ⟨k.2.1, ih (listed.setIfInBounds j true) a' w' ?_ (ready_mono hr (Ne.symm e)) k.1 ?_⟩) h2
   ·intro k' ok hk hki hun' hno'
    refine hfree k' ok hk hki ?_ hno'
    by_cases hjk : j = k'
    ·subst hjk; exact hju
    ·rw [getD_set_ne true hjk] at hun'; exact hun'
   ·rw [Array.setIfInBounds_comm _ _ e]
    exact k.2.2
theorem zF {i : Nat} {oi : Oper} {v : Value} {n : Nat} {listed : Array Bool} {a : Act} {w : World} (hi : ops[i]? = some oi) (hs : Region.noSelect ops = true)
  (hf : Region.free md ops listed i = true) (hr : (Region.ready md ops listed).contains i = true) (hQ : ∀ c a w, Q (.panic c) (a.put oi.dst v) w → Q (.panic c) a w) (hy : YieldsIf P ops (fun _ => True) oi v a)
  (h : qg4 P md ops Q T A n (listed.setIfInBounds i true) (a.put oi.dst v) w) : qg4 P md ops Q T A (n + 1) listed a w :=
 jv1 hi hs hQ n listed a w (Region.free_spec hi hf) (by simpa using hr) hy h
theorem qr4 {i : Nat} {oi : Oper} {v : Value} {n : Nat} {listed : Array Bool} {a : Act} {w : World} (hi : ops[i]? = some oi) (hs : Region.noSelect ops = true) (hT : waits md ops T i = true)
  (hf : Region.free md ops listed i = true) (hr : (Region.ready md ops listed).contains i = true) (hQ : ∀ c a w, Q (.panic c) (a.put oi.dst v) w → Q (.panic c) a w) (hy : YieldsIf P ops A oi v a) (hA : A w)
  (h : qg4 P md ops Q T A n (listed.setIfInBounds i true) (a.put oi.dst v) w) : qg4 P md ops Q T A (n + 1) listed a w :=
 jB3 hi hs hT hQ n listed a w (Region.free_spec hi hf) (by simpa using hr) hy hA h
theorem jW1 {i : Nat} {o : Oper} {n : Nat} {listed : Array Bool} {a : Act} {w0 : World} (ho : ops[i]? = some o) (hr : Region.ready md ops listed = [i])
  (h : ∀ K' : Act → World → Prop, (∀ a w, ((T.contains i = false → A w0 → A w) ∧ qg4 P md ops Q T A n (listed.setIfInBounds i true) a w) → K' a w) → if Region.wanted o (yielded ops a.tmps) = true then Oper.wp P o a w0 K' Q else K' (a.put o.dst undef) w0) :
  qg4 P md ops Q T A (n + 1) listed a w0 :=
 ⟨fun h0 => (by rw [hr] at h0; cases h0), fun j hj => by
  rw [hr] at hj
  obtain rfl : j = i := by simpa using hj
  exact wpOp_step ho (fun K' hK => h K' hK)⟩
theorem zX {i : Nat} {o : Oper} {n : Nat} {listed : Array Bool} {a : Act} {w0 : World} (ho : ops[i]? = some o) (hr : Region.ready md ops listed = [i]) (hw : Region.wanted o (yielded ops a.tmps) = true)
  (h : ∀ K' : Act → World → Prop, (∀ a w, ((T.contains i = false → A w0 → A w) ∧ qg4 P md ops Q T A n (listed.setIfInBounds i true) a w) → K' a w) → Oper.wp P o a w0 K' Q) :
  qg4 P md ops Q T A (n + 1) listed a w0 := jW1 ho hr (fun K' hK => by rw [if_pos hw]; exact h K' hK)
theorem qB6 {listed : Array Bool} {a : Act} {w : World} (hr : Region.ready md ops listed = []) (h : Q .normal a w) : ∀ n, qg4 P md ops Q T A n listed a w
 | 0 => ⟨hr, h⟩
 | _ + 1 => ⟨fun _ => h, by rw [hr]; simp⟩
theorem qr8 {id : Nat} {a : Act} {w : World} (T : List Nat) (A : World → Prop) (hm : P.follows .mixedOrders = true) (h : qg4 P .any ops Q T A ops.size (Array.replicate ops.size false) a w.drew) : (Code.region id ops true).wp P Q a w :=
 wp_region_any hm (qg4.any _ _ _ _ h)
end Go.qU
end
section
namespace Go.qU
open Go
variable {P : Program} {ops : Array Oper} {Q : Exit → Act → World → Prop} {md : Region.Mode} {A S : World → Prop} {T : List Nat}
def zf8 (P : Program) (ops : Array Oper) (S : World → Prop) (o : Oper) (v : Value) (a : Act) : Prop :=
 Region.wanted o (yielded ops a.tmps) = true ∧ ∃ (f : FuncId) (args : Array Value), ∀ w, S w → (execOp a.eval o).run P w = .ok (.enter f args) w ∧ Calls P f args w (fun e w' => e = .returned v ∧ w' = w)
theorem zf8.wpOp {i : Nat} {o : Oper} {v : Value} {a : Act} (hi : ops[i]? = some o) (hy : zf8 P ops S o v a)
  {K : Act → World → Prop} {w : World} (hS : S w) (h : K (a.put o.dst v) w) : wpOp P ops Q i K a w := by
 unfold Go.wpOp
 simp only [hi]
 obtain ⟨hw, f, args, hv⟩ := hy
 obtain ⟨h1, h2⟩ := hv w hS
 simp only [hw, if_true, Oper.wp, h1, Oper.upon]
 refine .inl (Calls.mono h2 fun e w' he => ?_)
 obtain ⟨rfl, rfl⟩ := he
 exact h
theorem qQ8 {l : List Nat} {n : Nat} {listed : Array Bool} {a : Act} {w0 : World} (hr : Region.ready md ops listed = l) (hne : l ≠ [])
  (h : ∀ i ∈ l, ∀ K' : Act → World → Prop, (∀ a w, ((T.contains i = false → A w0 → A w) ∧ qg4 P md ops Q T A n (listed.setIfInBounds i true) a w) → K' a w) → Go.wpOp P ops Q i K' a w0) :
  qg4 P md ops Q T A (n + 1) listed a w0 :=
 ⟨fun h0 => absurd (hr.symm.trans h0) hne, fun i hi => h i (by rw [hr] at hi; exact hi) _ (fun _ _ k => k)⟩
theorem pu {i : Nat} {oi : Oper} {v : Value} {n : Nat} {listed : Array Bool} {a : Act} {w : World} (hi : ops[i]? = some oi) (hv : ∀ w, (execOp a.eval oi).run P w = .ok (.value v) w)
  (h : qg4 P md ops Q T A n (listed.setIfInBounds i true) (a.put oi.dst v) w) (hs : Region.noSelect ops = true := by kernel_rfl) (hf : Region.free md ops listed i = true := by kernel_rfl) (hr : (Region.ready md ops listed).contains i = true := by kernel_rfl)
  (hQ : ∀ c a w, Q (.panic c) (a.put oi.dst v) w → Q (.panic c) a w := by exact fun _ _ _ h => h) (hw : Region.wanted oi (yielded ops a.tmps) = true := by rfl) : qg4 P md ops Q T A (n + 1) listed a w :=
 zF hi hs hf hr hQ (.inl ⟨hw, fun w _ => hv w⟩) h
theorem ta {i : Nat} {oi : Oper} {v : Value} {n : Nat} {listed : Array Bool} {a : Act} {w : World} (hi : ops[i]? = some oi) (hv : ∀ w, A w → (execOp a.eval oi).run P w = .ok (.value v) w) (hA : A w)
  (h : qg4 P md ops Q T A n (listed.setIfInBounds i true) (a.put oi.dst v) w) (hs : Region.noSelect ops = true := by kernel_rfl) (hT : waits md ops T i = true := by kernel_rfl) (hf : Region.free md ops listed i = true := by kernel_rfl) (hr : (Region.ready md ops listed).contains i = true := by kernel_rfl)
  (hQ : ∀ c a w, Q (.panic c) (a.put oi.dst v) w → Q (.panic c) a w := by exact fun _ _ _ h => h) (hw : Region.wanted oi (yielded ops a.tmps) = true := by rfl) : qg4 P md ops Q T A (n + 1) listed a w :=
 qr4 hi hs hT hf hr hQ (.inl ⟨hw, hv⟩) hA h
theorem sa (l : List Value) (i : Nat) (a : Value) : l.toArray.setIfInBounds i a = (l.set i a).toArray := by simp
theorem sz (x : Value) (l : List Value) (a : Value) : (x :: l).set 0 a = a :: l := rfl
theorem ss (x : Value) (l : List Value) (n : Nat) (a : Value) : (x :: l).set (n + 1) a = x :: l.set n a := rfl
theorem wp_append_run {P : Program} {o : Oper} {a : Act} {w : World} {K : Act → World → Prop} {Q : Exit → Act → World → Prop}
  (s x : Operand) (t : TypeId) (hop : o.op = Op.call { callee := Callee.builtin Builtin.append, args := #[s, x], argTypes := #[t, t] })
  (v y : Value) (hs : a.eval s = v) (hx : a.eval x = y) (ty : TypeId) (hty : o.type = ty) {v' : Value} {w' : World} (hrun : (Builtin.append_ #[t, t] ty #[v, y]).run P w = .ok v' w') (hK : K (a.put o.dst v') w') : Oper.wp P o a w K Q := by
 subst hty
 unfold Oper.wp execOp
 simp only [hop, resolve, invoke, builtin, Sem.run_bind, Sem.run_pure, Result.andThen_ok, List.map_toArray, List.map_cons, List.map_nil, hs, hx, hrun]
 exact hK
theorem wpList_append_run {P : Program} {ops : Array Oper} {rest : List Oper} {o : Oper} {a : Act} {w : World} {Q : Exit → Act → World → Prop} (hgd : o.guard = none)
  (s x : Operand) (t : TypeId) (hop : o.op = Op.call { callee := Callee.builtin Builtin.append, args := #[s, x], argTypes := #[t, t] })
  (v y : Value) (hs : a.eval s = v) (hx : a.eval x = y) (ty : TypeId) (hty : o.type = ty) {v' : Value} {w' : World} (hrun : (Builtin.append_ #[t, t] ty #[v, y]).run P w = .ok v' w') (hK : wpList P ops Q rest (a.put o.dst v') w') : wpList P ops Q (o :: rest) a w :=
 wpList_plain hgd fun _ h => wp_append_run s x t hop v y hs hx ty hty hrun (h _ _ hK)
end Go.qU
end
