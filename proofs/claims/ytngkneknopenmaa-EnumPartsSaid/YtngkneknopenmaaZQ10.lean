/- qq5 of this claim, joined by a program of this session: the zO that its theorem uses. -/
import Derived.Test.YtngkneknopenmaaZQ4
import Derived.Deep.Slices
import Derived.Deep.Strs
import Derived.WalkKit
import Derived.ProofKit
import Derived.SizedLaws
import Derived.OpenShut
section
namespace Go.Proofs.Ytngkneknopenmaa.Hist
open Go Go.RowKit Go.ChangeShapes Go.WideShapes Go.Proofs.Ytngkneknopenmaa
theorem open_arr4 {H : Type} {enc : TypeId × Value → H} {P : Program} {W : World} {r : Reach} {b0 : Nat} {t e : TypeId} {k : IntKind} {v : Value} {y : DataW H} {p : List MemPlace} (ht : P.underlying t = some (.array 4 e)) (he : P.underlying e = some (.int k)) (h1 : P.cellsOf e = 1) (h4 : P.cellsOf t = 4)
  (hv : Value.okWide P W r b0 t v) (h : DataW.Trod enc P W 0 (fun _ => true) true t v y p) :
  ∃ a b c d : Int, v = .agg #[.int k a, .int k b, .int k c, .int k d] ∧ (Lit.int k a).wf = true ∧ (Lit.int k b).wf = true ∧ (Lit.int k c).wf = true ∧ (Lit.int k d).wf = true := by
 simp only [Value.okWide, ht] at hv
 obtain ⟨cs, rfl, hs, _⟩ := hv
 rw [h4] at hs
 obtain ⟨n, h⟩ := h
 obtain ⟨xs, m, _, _, _, hl, hf⟩ := DataW.trod_array ht h
 obtain ⟨l⟩ := cs
 match l, hs with
 | [c0, c1, c2, c3], _ =>
  match xs, hl with
  | [y0, y1, y2, y3], _ =>
   have g0 := hf 0 (by omega)
   have g1 := hf 1 (by omega)
   have g2 := hf 2 (by omega)
   have g3 := hf 3 (by omega)
   simp [h1, Value.cells] at g0 g1 g2 g3
   obtain ⟨a, e0, _, w0⟩ := DataW.trod_int he g0
   obtain ⟨b, e1, _, w1⟩ := DataW.trod_int he g1
   obtain ⟨c, e2, _, w2⟩ := DataW.trod_int he g2
   obtain ⟨d, e3, _, w3⟩ := DataW.trod_int he g3
   simp only [List.cons.injEq, and_true] at e0 e1 e2 e3
   subst e0 e1 e2 e3
   exact ⟨a, b, c, d, rfl, w0, w1, w2, w3⟩
end Go.Proofs.Ytngkneknopenmaa.Hist
end
