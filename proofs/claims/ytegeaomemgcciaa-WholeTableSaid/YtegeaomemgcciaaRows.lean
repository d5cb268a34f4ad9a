/-
  No cell of these rows narrows 'for every input' (looked for: loops, veiled, ifaces, maps, wideKeys, modest, calm, conditions, laid).
  DERIVED. THE GIVEN ROWS OF THIS SEAT. 6 by the template 'for every input the law returns true; each argument reads behind the call as it read before'; 0 by the template 'total and deterministic' (their statements: YtegeaomemgcciaaTotals.lean).
  GIVEN WITH THE SEED: the statements are not yours to turn. If you find one false, say at which input.
  Laid BY PROGRAM, IN A SANDBOX (cutbox-rows.mjs): the forced cells as the released guide's own fill.sh prints them over the translation 25cdb17a53ae31ce… (all of the seat's roots in one cut). By AI agents, Wed Nov 11 2026. No macro, syntax, notation, axiom, sorry.
-/
import Derived.Test.YtegeaomemgcciaaChecked
import GoSem.Claim
import GoSem.ClaimJoined
import GoSem.ClaimMapViews
import Derived.JoinedTies
import Derived.KernelRfl
namespace Go.Proofs.Ytegeaomemgcciaa
/- THE CELL 'sum', in the pinned program and in every row, IS THE sha256 OF THE DUMP (.gsa) THAT YtegeaomemgcciaaProg.lean LOADS. Nothing in Lean hashes anything: it is a label: what it is worth is what the hold of that sum in a sandbox is worth. -/
noncomputable def Try.pinned : Pinned := { name := "ytegeaomemgcciaa", sum := "25cdb17a53ae31cee2d960963007424dd92316a82dc8be29b8b052dc7fe8a210", checked := Try.checked }
namespace Rows
def none {H : Type} : Left H := { results := [], args := [] }

/-- 'burgagelaw22.CanonOf': WHATEVER THE INPUT: true; the input reads as it did. -/
def canonOfSpec : ChangeSpec := { name := "canonOf", fn := fun _ => fun
  | [d] => { results := [.lit (.bool true)], args := [d] }
  | _ => none }
def canonOfRow : OpenClaim := { program := "ytegeaomemgcciaa", sum := "25cdb17a53ae31cee2d960963007424dd92316a82dc8be29b8b052dc7fe8a210", func := "burgage/burgagelaw22.CanonOf", spec := "canonOf", unfollowed := true, recurses := true, apart := false }
def CanonOfSaid : Prop := canonOfRow.holds Try.pinned (OpenSpec.ofChange canonOfSpec)

/-- ITS FALSE NEIGHBOUR: 'it returns false'. Refute it at one input. -/
def canonOfWrong : ChangeSpec := { name := "canonOf", fn := fun _ => fun
  | [d] => { results := [.lit (.bool false)], args := [d] }
  | _ => none }
def CanonOfWrongFalsely : Prop := canonOfRow.holds Try.pinned (OpenSpec.ofChange canonOfWrong)

/-- 'burgagelaw22.CanonApart': WHATEVER THE INPUT: true; the input reads as it did. -/
def canonApartSpec : ChangeSpec := { name := "canonApart", fn := fun _ => fun
  | [d1, d2] => { results := [.lit (.bool true)], args := [d1, d2] }
  | _ => none }
def canonApartRow : OpenClaim := { program := "ytegeaomemgcciaa", sum := "25cdb17a53ae31cee2d960963007424dd92316a82dc8be29b8b052dc7fe8a210", func := "burgage/burgagelaw22.CanonApart", spec := "canonApart", unfollowed := true, recurses := true, apart := false }
def CanonApartSaid : Prop := canonApartRow.holds Try.pinned (OpenSpec.ofChange canonApartSpec)

/-- ITS FALSE NEIGHBOUR: 'it returns false'. Refute it at one input. -/
def canonApartWrong : ChangeSpec := { name := "canonApart", fn := fun _ => fun
  | [d1, d2] => { results := [.lit (.bool false)], args := [d1, d2] }
  | _ => none }
def CanonApartWrongFalsely : Prop := canonApartRow.holds Try.pinned (OpenSpec.ofChange canonApartWrong)

/-- 'burgagetop.WholeTable': WHATEVER THE INPUT: true; the input reads as it did. -/
def wholeTableSpec : ChangeSpec := { name := "wholeTable", fn := fun _ => fun
  | [d1, d2] => { results := [.lit (.bool true)], args := [d1, d2] }
  | _ => none }
def wholeTableRow : OpenClaim := { program := "ytegeaomemgcciaa", sum := "25cdb17a53ae31cee2d960963007424dd92316a82dc8be29b8b052dc7fe8a210", func := "burgage/burgagetop.WholeTable", spec := "wholeTable", apart := false }
def WholeTableSaid : Prop := wholeTableRow.holds Try.pinned (OpenSpec.ofChange wholeTableSpec)

/-- ITS FALSE NEIGHBOUR: 'it returns false'. Refute it at one input. -/
def wholeTableWrong : ChangeSpec := { name := "wholeTable", fn := fun _ => fun
  | [d1, d2] => { results := [.lit (.bool false)], args := [d1, d2] }
  | _ => none }
def WholeTableWrongFalsely : Prop := wholeTableRow.holds Try.pinned (OpenSpec.ofChange wholeTableWrong)

/-- 'burgagelaw22.CanonNames': WHATEVER THE INPUT: true; the input reads as it did. -/
def canonNamesSpec : ChangeSpec := { name := "canonNames", fn := fun _ => fun
  | [d1, d2] => { results := [.lit (.bool true)], args := [d1, d2] }
  | _ => none }
def canonNamesRow : OpenClaim := { program := "ytegeaomemgcciaa", sum := "25cdb17a53ae31cee2d960963007424dd92316a82dc8be29b8b052dc7fe8a210", func := "burgage/burgagelaw22.CanonNames", spec := "canonNames", unfollowed := true, recurses := true, apart := false }
def CanonNamesSaid : Prop := canonNamesRow.holds Try.pinned (OpenSpec.ofChange canonNamesSpec)

/-- ITS FALSE NEIGHBOUR: 'it returns false'. Refute it at one input. -/
def canonNamesWrong : ChangeSpec := { name := "canonNames", fn := fun _ => fun
  | [d1, d2] => { results := [.lit (.bool false)], args := [d1, d2] }
  | _ => none }
def CanonNamesWrongFalsely : Prop := canonNamesRow.holds Try.pinned (OpenSpec.ofChange canonNamesWrong)

/-- 'burgagelaw23.EnumOne': WHATEVER THE INPUT: true; the input reads as it did. -/
def enumOneSpec : ChangeSpec := { name := "enumOne", fn := fun _ => fun
  | [d1, d2, d3] => { results := [.lit (.bool true)], args := [d1, d2, d3] }
  | _ => none }
def enumOneRow : OpenClaim := { program := "ytegeaomemgcciaa", sum := "25cdb17a53ae31cee2d960963007424dd92316a82dc8be29b8b052dc7fe8a210", func := "burgage/burgagelaw23.EnumOne", spec := "enumOne", unfollowed := true, recurses := true, apart := false }
def EnumOneSaid : Prop := enumOneRow.holds Try.pinned (OpenSpec.ofChange enumOneSpec)

/-- ITS FALSE NEIGHBOUR: 'it returns false'. Refute it at one input. -/
def enumOneWrong : ChangeSpec := { name := "enumOne", fn := fun _ => fun
  | [d1, d2, d3] => { results := [.lit (.bool false)], args := [d1, d2, d3] }
  | _ => none }
def EnumOneWrongFalsely : Prop := enumOneRow.holds Try.pinned (OpenSpec.ofChange enumOneWrong)

/-- 'burgagelaw23.EnumTwo': WHATEVER THE INPUT: true; the input reads as it did. -/
def enumTwoSpec : ChangeSpec := { name := "enumTwo", fn := fun _ => fun
  | [d1, d2, d3] => { results := [.lit (.bool true)], args := [d1, d2, d3] }
  | _ => none }
def enumTwoRow : OpenClaim := { program := "ytegeaomemgcciaa", sum := "25cdb17a53ae31cee2d960963007424dd92316a82dc8be29b8b052dc7fe8a210", func := "burgage/burgagelaw23.EnumTwo", spec := "enumTwo", unfollowed := true, recurses := true, apart := false }
def EnumTwoSaid : Prop := enumTwoRow.holds Try.pinned (OpenSpec.ofChange enumTwoSpec)

/-- ITS FALSE NEIGHBOUR: 'it returns false'. Refute it at one input. -/
def enumTwoWrong : ChangeSpec := { name := "enumTwo", fn := fun _ => fun
  | [d1, d2, d3] => { results := [.lit (.bool false)], args := [d1, d2, d3] }
  | _ => none }
def EnumTwoWrongFalsely : Prop := enumTwoRow.holds Try.pinned (OpenSpec.ofChange enumTwoWrong)

/- THE SECOND FORM. 'bulk': how many values and letters a reading holds, each counted each time it is reached (what is shared counts as often as it is met; a slice's spare places count too). A statement '..UptoSaid' is the law's where the arguments, and the package variables that the reading takes, are together of bulk at most 1048576: NARROWER than '..Said'. Prove '..Said' where nothing that the law and all that it calls make is longer than what came in: it says more and counts as full. Else prove '..UptoSaid'. A law counts once. -/
mutual
def uptoBulk {H : Type} : DataW H → Nat
  | .lit (.string bytes) => bytes.length + 1
  | .lit _ => 1
  | .nil => 1
  | .ptr d => uptoBulk d + 1
  | .slice elems spare => uptoBulkAll elems + uptoBulkAll spare + 1
  | .agg parts => uptoBulkAll parts + 1
  | .iface _ d => uptoBulk d + 1
  | .map entries => uptoBulkEntries entries + 1
  | .held _ => 1
def uptoBulkAll {H : Type} : List (DataW H) → Nat
  | [] => 0
  | d :: r => uptoBulk d + uptoBulkAll r
def uptoBulkEntries {H : Type} : List (Lit × DataW H) → Nat
  | [] => 0
  | x :: r => uptoBulkEntry x + uptoBulkEntries r
def uptoBulkEntry {H : Type} : Lit × DataW H → Nat
  | (.string bytes, d) => bytes.length + uptoBulk d + 1
  | (_, d) => uptoBulk d + 1
 end
def uptoSmall : (H : Type) → List (DataW H) → Bool := fun _ ds => decide (uptoBulkAll ds ≤ 1048576)
def OpenSpec.upto (s : _root_.Go.ChangeSpec) : _root_.Go.OpenSpec := { _root_.Go.OpenSpec.ofChange s with cond := some uptoSmall }

/-- 'burgagelaw22.CanonOf', WHERE WHAT IT READS IS OF BULK AT MOST 1048576: true; the input reads as it did. -/
def canonOfUptoRow : OpenClaim := { program := "ytegeaomemgcciaa", sum := "25cdb17a53ae31cee2d960963007424dd92316a82dc8be29b8b052dc7fe8a210", func := "burgage/burgagelaw22.CanonOf", spec := "canonOf", unfollowed := true, recurses := true, apart := false, narrowed := true }
def CanonOfUptoSaid : Prop := canonOfUptoRow.holds Try.pinned (OpenSpec.upto canonOfSpec)

/-- 'burgagelaw22.CanonApart', WHERE WHAT IT READS IS OF BULK AT MOST 1048576: true; the input reads as it did. -/
def canonApartUptoRow : OpenClaim := { program := "ytegeaomemgcciaa", sum := "25cdb17a53ae31cee2d960963007424dd92316a82dc8be29b8b052dc7fe8a210", func := "burgage/burgagelaw22.CanonApart", spec := "canonApart", unfollowed := true, recurses := true, apart := false, narrowed := true }
def CanonApartUptoSaid : Prop := canonApartUptoRow.holds Try.pinned (OpenSpec.upto canonApartSpec)

/-- 'burgagetop.WholeTable', WHERE WHAT IT READS IS OF BULK AT MOST 1048576: true; the input reads as it did. -/
def wholeTableUptoRow : OpenClaim := { program := "ytegeaomemgcciaa", sum := "25cdb17a53ae31cee2d960963007424dd92316a82dc8be29b8b052dc7fe8a210", func := "burgage/burgagetop.WholeTable", spec := "wholeTable", apart := false, narrowed := true }
def WholeTableUptoSaid : Prop := wholeTableUptoRow.holds Try.pinned (OpenSpec.upto wholeTableSpec)

/-- 'burgagelaw22.CanonNames', WHERE WHAT IT READS IS OF BULK AT MOST 1048576: true; the input reads as it did. -/
def canonNamesUptoRow : OpenClaim := { program := "ytegeaomemgcciaa", sum := "25cdb17a53ae31cee2d960963007424dd92316a82dc8be29b8b052dc7fe8a210", func := "burgage/burgagelaw22.CanonNames", spec := "canonNames", unfollowed := true, recurses := true, apart := false, narrowed := true }
def CanonNamesUptoSaid : Prop := canonNamesUptoRow.holds Try.pinned (OpenSpec.upto canonNamesSpec)

/-- 'burgagelaw23.EnumOne', WHERE WHAT IT READS IS OF BULK AT MOST 1048576: true; the input reads as it did. -/
def enumOneUptoRow : OpenClaim := { program := "ytegeaomemgcciaa", sum := "25cdb17a53ae31cee2d960963007424dd92316a82dc8be29b8b052dc7fe8a210", func := "burgage/burgagelaw23.EnumOne", spec := "enumOne", unfollowed := true, recurses := true, apart := false, narrowed := true }
def EnumOneUptoSaid : Prop := enumOneUptoRow.holds Try.pinned (OpenSpec.upto enumOneSpec)

/-- 'burgagelaw23.EnumTwo', WHERE WHAT IT READS IS OF BULK AT MOST 1048576: true; the input reads as it did. -/
def enumTwoUptoRow : OpenClaim := { program := "ytegeaomemgcciaa", sum := "25cdb17a53ae31cee2d960963007424dd92316a82dc8be29b8b052dc7fe8a210", func := "burgage/burgagelaw23.EnumTwo", spec := "enumTwo", unfollowed := true, recurses := true, apart := false, narrowed := true }
def EnumTwoUptoSaid : Prop := enumTwoUptoRow.holds Try.pinned (OpenSpec.upto enumTwoSpec)

end Rows
end Go.Proofs.Ytegeaomemgcciaa
