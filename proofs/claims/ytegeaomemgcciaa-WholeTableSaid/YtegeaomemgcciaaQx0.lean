-- Written by a program of this session (inj.py): functions and contracts by the kit's printer, with contracts that are given by hand put in. Not trusted: Lean checks it.
import Derived.Test.YtegeaomemgcciaaProg
import Derived.Below
import Derived.Deep.Draws
import Derived.Deep.AppendLies
import Derived.Maps.AppendAt
import Derived.OwnWalk
import Derived.Laws.BytesArg
import Derived.Laws.MakeOwn
import Derived.Laws.OwnMore
import Derived.Deep.OwnRows
import Derived.Tactics
import Derived.Lib.ConvBytes
import Derived.Laws.Slices
import Derived.WalkKit
import Derived.KernelRfl
import Derived.RowKit3
import Derived.Deep.LoopGhost
import Derived.Deep.QuietTactic
import Derived.BigQuiet
import Derived.WideLaws
import Derived.Deep.DeepCutAuto
import Derived.Deep.CutBlock
import Derived.Deep.RegionHeld3
import Derived.Laws.Rows
import Derived.Lib.AppendStr
import Derived.ArgAppend
import Derived.Laws.IdiomCopy
import Derived.OrdersHeld
import Derived.Laws.BitsLemmas
import Derived.RowKit
import Derived.Test.YtegeaomemgcciaaLevelHand
import Derived.Test.YtegeaomemgcciaaWWords
import Derived.Test.YtegeaomemgcciaaWLast
import Derived.Test.YtegeaomemgcciaaWTab
import Derived.Test.YtegeaomemgcciaaWFour
import Derived.Test.YtegeaomemgcciaaWQPut
import Derived.Test.YtegeaomemgcciaaWApart
import Derived.Test.YtegeaomemgcciaaWArr
import Derived.Test.YtegeaomemgcciaaWZeros
import Derived.Test.YtegeaomemgcciaaWFoot
import Derived.Test.YtegeaomemgcciaaWKept
import Derived.Test.YtegeaomemgcciaaWShare
import Derived.Test.YtegeaomemgcciaaWN
import Derived.Test.YtegeaomemgcciaaWFootNe
import Derived.Test.YtegeaomemgcciaaWAt
import Derived.Test.YtegeaomemgcciaaWEqStruct
import Derived.Test.YtegeaomemgcciaaWRepsOne
import Derived.Test.YtegeaomemgcciaaWInv
import Derived.Test.YtegeaomemgcciaaWInvWords
import Derived.Test.YtegeaomemgcciaaWGuard
import Derived.Test.YtegeaomemgcciaaWNEv
import Derived.Test.YtegeaomemgcciaaWMore
namespace Go.Proofs.Ytegeaomemgcciaa.Q
open Go.Proofs.Ytegeaomemgcciaa Go.Proofs.Ytegeaomemgcciaa.Hand
open Go.RowKit Go.Proofs.YtegeaomemgcciaaW.PrintWords Go.Proofs.YtegeaomemgcciaaW.PrintLast Go.Proofs.YtegeaomemgcciaaW.PrintMore
attribute [local go_sem] max2_int min2_int max_two min_two max_three min_three max_four min_four   -- for this text's walks alone
set_option linter.unusedVariables false
set_option linter.unusedSimpArgs false



def errW : Option Int → Value
  | none => .nilIface
  | some c => .iface 0 (.int .i64 c)
theorem errW_none : errW none = .nilIface := rfl
theorem errW_some (c : Int) : errW (some c) = .iface 0 (.int .i64 c) := rfl

-- the values' own types

end Go.Proofs.Ytegeaomemgcciaa.Q
