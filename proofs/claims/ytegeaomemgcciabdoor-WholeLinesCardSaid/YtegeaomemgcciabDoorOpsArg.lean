/- An argument that is a slice of operations, in the form in which the print reads it. -/
import Derived.Test.YtegeaomemgcciabDoorQx0
import Derived.Deep.Slices
import Derived.Deep.Strs
import Derived.WalkKit
import Derived.ProofKit
namespace Go.Proofs.YtegeaomemgcciabDoor.OpsArg
open Go Go.RowKit Go.Proofs.YtegeaomemgcciabDoor Go.Proofs.YtegeaomemgcciabDoor.Q Go.Proofs.YtegeaomemgcciabDoorW.PrintWords

/-- Both numbers of an operation are ints of the machine. -/
def WfOp (o : S36) : Prop := (Lit.int .i64 o.f1).wf = true ∧ (Lit.int .i64 o.f2).wf = true

instance : Inhabited S36 := ⟨z36⟩
theorem cut3 {c0 c1 c2 : Value} : (([c0, c1, c2].drop 0).take 1 = [c0]) ∧ (([c0, c1, c2].drop 1).take 1 = [c1]) ∧ (([c0, c1, c2].drop 2).take 1 = [c2]) := ⟨rfl, rfl, rfl⟩

/-- One element's cells. -/
theorem open_op {H : Type} {enc : TypeId × Value → H} {W : World} {B n : Nat} {sp : Nat → Bool} {hd : Bool} {cs : List Value} {x : DataW H × List MemPlace} (h : DataW.trod enc Tryd.prog W B sp hd n 36 cs = some x) :
    ∃ o : S36, cs = [.bool o.f0, .int .i64 o.f1, .int .i64 o.f2] ∧ WfOp o := by
  obtain ⟨y0, y1, y2, m, _, hlen, h0, h1, h2⟩ := Go.Deep.trod_struct3 Tryd.underlying36 h
  have h3 : Tryd.prog.cellsOf 36 = 3 := by kernel_rfl
  have hb1 : Tryd.prog.cellsOf 4 = 1 := by kernel_rfl
  have hi1 : Tryd.prog.cellsOf 3 = 1 := by kernel_rfl
  rw [h3] at hlen
  rw [hb1] at h0
  rw [hi1] at h1 h2
  clear h3 hb1 hi1 h
  match cs, hlen with
  | [c0, c1, c2], _ =>
    replace h0 : DataW.trod enc Tryd.prog W B sp hd m 4 [c0] = some y0 := h0
    replace h1 : DataW.trod enc Tryd.prog W B sp hd m 3 [c1] = some y1 := h1
    replace h2 : DataW.trod enc Tryd.prog W B sp hd m 3 [c2] = some y2 := h2
    obtain ⟨b, e0, _⟩ := DataW.trod_bool Tryd.underlying4 h0
    obtain ⟨k, e1, _, w1⟩ := DataW.trod_int Tryd.underlying3 h1
    obtain ⟨v, e2, _, w2⟩ := DataW.trod_int Tryd.underlying3 h2
    simp only [List.cons.injEq, and_true] at e0 e1 e2
    subst e0 e1 e2
    exact ⟨⟨b, k, v⟩, rfl, w1, w2⟩

theorem open_ops {H : Type} {enc : TypeId × Value → H} {W : World} {n : Nat} {a : Option Addr} {len cap : Nat} {x : DataW H × List MemPlace} (h : DataW.trod enc Tryd.prog W 0 (fun _ => true) true n 34 [.slice a len cap] = some x) :
    ∃ l : List S36, l.length = len ∧ Kd.C k36 W a len l ∧ len ≤ cap ∧ cap ≤ maxLen ∧ ∀ o ∈ l, WfOp o := by
  rcases Go.Deep.open_slice Tryd.underlying34 h with ⟨hcs, _⟩ | ⟨ad, l, c, m, f, D, Pl, hcs, _, hl, hm, hmm, _, hx⟩
  · simp only [List.cons.injEq, and_true, Value.slice.injEq] at hcs
    obtain ⟨rfl, rfl, rfl⟩ := hcs
    exact ⟨[], rfl, ⟨rfl, by omega, fun h => by omega⟩, by omega, by omega, fun o h => by cases h⟩
  · simp only [List.cons.injEq, and_true, Value.slice.injEq] at hcs
    obtain ⟨rfl, rfl, rfl⟩ := hcs
    have h3 : Tryd.prog.cellsOf 36 = 3 := by kernel_rfl
    rw [h3] at hx
    have hlm : len ≤ m := by rw [hmm]; split <;> omega
    have hx2 : ∀ i, i < len → ∃ o : S36, (∀ j u, [Value.bool o.f0, .int .i64 o.f1, .int .i64 o.f2][j]? = some u → W.cell? (ad.add (i * 3 + j)) = some u) ∧ WfOp o := by
      intro i hi
      obtain ⟨cs', hc1, hc2⟩ := hx i (by omega)
      obtain ⟨o, rfl, hw⟩ := open_op hc2
      obtain ⟨_, _, hc⟩ := World.cells?_some hc1
      refine ⟨o, fun j u hj => ?_, hw⟩
      have hj3 : j < 3 := by
        have := (List.getElem?_eq_some_iff.1 hj).1
        simpa using this
      have := hc j hj3
      rw [hj] at this
      rw [← this, Addr.add_add]
    obtain ⟨V, hV⟩ := Go.Deep.choose_lt (α := S36) (p := fun i o => (∀ j u, [Value.bool o.f0, .int .i64 o.f1, .int .i64 o.f2][j]? = some u → W.cell? (ad.add (i * 3 + j)) = some u) ∧ WfOp o) hx2
    refine ⟨(List.range len).map V, by simp, ⟨by simp, ?_, fun _ => ⟨ad, rfl, fun j p hj => ?_⟩⟩, hl, hm, fun o ho => ?_⟩
    · have : maxLen ≤ 9223372036854775807 := by decide
      omega
    · rw [List.getElem?_map] at hj
      obtain ⟨i, hi, rfl⟩ := Option.map_eq_some_iff.1 hj
      have hi2 := (List.getElem?_eq_some_iff.1 hi)
      obtain ⟨hjl, hji⟩ := hi2
      simp only [List.length_range] at hjl
      simp only [List.getElem_range] at hji
      subst hji
      exact ⟨_, rfl, k36_mk W _, (hV j hjl).1⟩
    · obtain ⟨i, hi, rfl⟩ := List.mem_map.1 ho
      exact (hV i (List.mem_range.1 hi)).2

end Go.Proofs.YtegeaomemgcciabDoor.OpsArg
