/- What levels ask, in the form in which the print tells a function. -/
import Derived.Test.YtegeaomemgcciaaLevelNames
namespace Go.Proofs.Ytegeaomemgcciaa.Hand
open Go Go.RowKit Go.Proofs.Ytegeaomemgcciaa
def level_Asks.f (a0 : Int) : Option Int := some (Level.asksOf a0)
theorem level_Asks.calls (a0 : Int) (r : Int) (w : World) (h : level_Asks.f a0 = some r) : Calls Try.prog 21 #[.int .i64 a0] w fun e w' => e = .returned (.int .i64 r) ∧ Below w.heap.size w w' := by
  cases h
  exact Level.asksOf_calls a0 w
end Go.Proofs.Ytegeaomemgcciaa.Hand
