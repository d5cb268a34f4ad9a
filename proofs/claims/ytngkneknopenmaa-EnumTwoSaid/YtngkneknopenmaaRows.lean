/-
  No cell of these rows narrows 'for every input' (looked for: loops, veiled, ifaces, maps, wideKeys, modest, calm, conditions, laid).
  DERIVED. THE GIVEN ROWS OF THIS SEAT. 8 by the template 'for every input the law returns true; each argument reads behind the call as it read before'; 0 by the template 'total and deterministic' (their statements: YtngkneknopenmaaTotals.lean).
  GIVEN WITH THE SEED: the statements are not yours to turn. If you find one false, say at which input.
  Laid BY PROGRAM, IN A SANDBOX (cutbox-rows.mjs): the forced cells as the released guide's own fill.sh prints them over the translation 00313898ca9050a1… (all of the seat's roots in one cut). By AI agents, Wed Nov 11 2026. No macro, syntax, notation, axiom, sorry.
-/
import Derived.Test.YtngkneknopenmaaChecked
import GoSem.Claim
import GoSem.ClaimJoined
import GoSem.ClaimMapViews
import Derived.JoinedTies
import Derived.KernelRfl
namespace Go.Proofs.Ytngkneknopenmaa
/- THE CELL 'sum', in the pinned program and in every row, IS THE sha256 OF THE DUMP (.gsa) THAT YtngkneknopenmaaProg.lean LOADS. Nothing in Lean hashes anything: it is a label: what it is worth is what the hold of that sum in a sandbox is worth. -/
noncomputable def Try.pinned : Pinned := { name := "ytngkneknopenmaa", sum := "00313898ca9050a1c402c37dcefafef829241e3680fbb41318340660ac4c7b35", checked := Try.checked }
namespace Rows
def none {H : Type} : Left H := { results := [], args := [] }

/-- 'burgagelaw22.CanonOf': WHATEVER THE INPUT: true; the input reads as it did. -/
def canonOfSpec : ChangeSpec := { name := "canonOf", fn := fun _ => fun
  | [d] => { results := [.lit (.bool true)], args := [d] }
  | _ => none }
def canonOfRow : OpenClaim := { program := "ytngkneknopenmaa", sum := "00313898ca9050a1c402c37dcefafef829241e3680fbb41318340660ac4c7b35", func := "burgage/burgagelaw22.CanonOf", spec := "canonOf", unfollowed := true, recurses := true, apart := false }
def CanonOfSaid : Prop := canonOfRow.holds Try.pinned (OpenSpec.ofChange canonOfSpec)

/-- ITS FALSE NEIGHBOUR: 'it returns false'. Refute it at one input. -/
def canonOfWrong : ChangeSpec := { name := "canonOf", fn := fun _ => fun
  | [d] => { results := [.lit (.bool false)], args := [d] }
  | _ => none }
def CanonOfWrongFalsely : Prop := canonOfRow.holds Try.pinned (OpenSpec.ofChange canonOfWrong)

/-- 'burgagelaw22.CanonApart': WHATEVER THE INPUT: true; the input reads as it did. -/
def canonApartSpec : ChangeSpec := { name := "canonApart", fn := fun _ => fun
  | [d1, d2] => { results := [.lit (.bool true)], args := [d1, d2] }
  | _ => none }
def canonApartRow : OpenClaim := { program := "ytngkneknopenmaa", sum := "00313898ca9050a1c402c37dcefafef829241e3680fbb41318340660ac4c7b35", func := "burgage/burgagelaw22.CanonApart", spec := "canonApart", unfollowed := true, recurses := true, apart := false }
def CanonApartSaid : Prop := canonApartRow.holds Try.pinned (OpenSpec.ofChange canonApartSpec)

/-- ITS FALSE NEIGHBOUR: 'it returns false'. Refute it at one input. -/
def canonApartWrong : ChangeSpec := { name := "canonApart", fn := fun _ => fun
  | [d1, d2] => { results := [.lit (.bool false)], args := [d1, d2] }
  | _ => none }
def CanonApartWrongFalsely : Prop := canonApartRow.holds Try.pinned (OpenSpec.ofChange canonApartWrong)

/-- 'burgagelaw22.CanonNames': WHATEVER THE INPUT: true; the input reads as it did. -/
def canonNamesSpec : ChangeSpec := { name := "canonNames", fn := fun _ => fun
  | [d1, d2] => { results := [.lit (.bool true)], args := [d1, d2] }
  | _ => none }
def canonNamesRow : OpenClaim := { program := "ytngkneknopenmaa", sum := "00313898ca9050a1c402c37dcefafef829241e3680fbb41318340660ac4c7b35", func := "burgage/burgagelaw22.CanonNames", spec := "canonNames", unfollowed := true, recurses := true, apart := false }
def CanonNamesSaid : Prop := canonNamesRow.holds Try.pinned (OpenSpec.ofChange canonNamesSpec)

/-- ITS FALSE NEIGHBOUR: 'it returns false'. Refute it at one input. -/
def canonNamesWrong : ChangeSpec := { name := "canonNames", fn := fun _ => fun
  | [d1, d2] => { results := [.lit (.bool false)], args := [d1, d2] }
  | _ => none }
def CanonNamesWrongFalsely : Prop := canonNamesRow.holds Try.pinned (OpenSpec.ofChange canonNamesWrong)

/-- 'burgagelaw23.EnumOne': WHATEVER THE INPUT: true; the input reads as it did. -/
def enumOneSpec : ChangeSpec := { name := "enumOne", fn := fun _ => fun
  | [d1, d2, d3] => { results := [.lit (.bool true)], args := [d1, d2, d3] }
  | _ => none }
def enumOneRow : OpenClaim := { program := "ytngkneknopenmaa", sum := "00313898ca9050a1c402c37dcefafef829241e3680fbb41318340660ac4c7b35", func := "burgage/burgagelaw23.EnumOne", spec := "enumOne", unfollowed := true, recurses := true, apart := false }
def EnumOneSaid : Prop := enumOneRow.holds Try.pinned (OpenSpec.ofChange enumOneSpec)

/-- ITS FALSE NEIGHBOUR: 'it returns false'. Refute it at one input. -/
def enumOneWrong : ChangeSpec := { name := "enumOne", fn := fun _ => fun
  | [d1, d2, d3] => { results := [.lit (.bool false)], args := [d1, d2, d3] }
  | _ => none }
def EnumOneWrongFalsely : Prop := enumOneRow.holds Try.pinned (OpenSpec.ofChange enumOneWrong)

/-- 'burgagelaw23.EnumTwo': WHATEVER THE INPUT: true; the input reads as it did. -/
def enumTwoSpec : ChangeSpec := { name := "enumTwo", fn := fun _ => fun
  | [d1, d2, d3] => { results := [.lit (.bool true)], args := [d1, d2, d3] }
  | _ => none }
def enumTwoRow : OpenClaim := { program := "ytngkneknopenmaa", sum := "00313898ca9050a1c402c37dcefafef829241e3680fbb41318340660ac4c7b35", func := "burgage/burgagelaw23.EnumTwo", spec := "enumTwo", unfollowed := true, recurses := true, apart := false }
def EnumTwoSaid : Prop := enumTwoRow.holds Try.pinned (OpenSpec.ofChange enumTwoSpec)

/-- ITS FALSE NEIGHBOUR: 'it returns false'. Refute it at one input. -/
def enumTwoWrong : ChangeSpec := { name := "enumTwo", fn := fun _ => fun
  | [d1, d2, d3] => { results := [.lit (.bool false)], args := [d1, d2, d3] }
  | _ => none }
def EnumTwoWrongFalsely : Prop := enumTwoRow.holds Try.pinned (OpenSpec.ofChange enumTwoWrong)

/-- 'burgagetop.WholeWrites': WHATEVER THE INPUT: true; the input reads as it did. -/
def wholeWritesSpec : ChangeSpec := { name := "wholeWrites", fn := fun _ => fun
  | [d] => { results := [.lit (.bool true)], args := [d] }
  | _ => none }
def wholeWritesRow : OpenClaim := { program := "ytngkneknopenmaa", sum := "00313898ca9050a1c402c37dcefafef829241e3680fbb41318340660ac4c7b35", func := "burgage/burgagetop.WholeWrites", spec := "wholeWrites", unfollowed := true, recurses := true, apart := false }
def WholeWritesSaid : Prop := wholeWritesRow.holds Try.pinned (OpenSpec.ofChange wholeWritesSpec)

/-- ITS FALSE NEIGHBOUR: 'it returns false'. Refute it at one input. -/
def wholeWritesWrong : ChangeSpec := { name := "wholeWrites", fn := fun _ => fun
  | [d] => { results := [.lit (.bool false)], args := [d] }
  | _ => none }
def WholeWritesWrongFalsely : Prop := wholeWritesRow.holds Try.pinned (OpenSpec.ofChange wholeWritesWrong)

/-- 'burgagelaw23.EnumHas': WHATEVER THE INPUT: true; the input reads as it did. -/
def enumHasSpec : ChangeSpec := { name := "enumHas", fn := fun _ => fun
  | [d1, d2] => { results := [.lit (.bool true)], args := [d1, d2] }
  | _ => none }
def enumHasRow : OpenClaim := { program := "ytngkneknopenmaa", sum := "00313898ca9050a1c402c37dcefafef829241e3680fbb41318340660ac4c7b35", func := "burgage/burgagelaw23.EnumHas", spec := "enumHas", unfollowed := true, recurses := true, apart := false }
def EnumHasSaid : Prop := enumHasRow.holds Try.pinned (OpenSpec.ofChange enumHasSpec)

/-- ITS FALSE NEIGHBOUR: 'it returns false'. Refute it at one input. -/
def enumHasWrong : ChangeSpec := { name := "enumHas", fn := fun _ => fun
  | [d1, d2] => { results := [.lit (.bool false)], args := [d1, d2] }
  | _ => none }
def EnumHasWrongFalsely : Prop := enumHasRow.holds Try.pinned (OpenSpec.ofChange enumHasWrong)

/-- 'burgagelaw23.EnumParts': WHATEVER THE INPUT: true; the input reads as it did. -/
def enumPartsSpec : ChangeSpec := { name := "enumParts", fn := fun _ => fun
  | [d1, d2, d3] => { results := [.lit (.bool true)], args := [d1, d2, d3] }
  | _ => none }
def enumPartsRow : OpenClaim := { program := "ytngkneknopenmaa", sum := "00313898ca9050a1c402c37dcefafef829241e3680fbb41318340660ac4c7b35", func := "burgage/burgagelaw23.EnumParts", spec := "enumParts", unfollowed := true, recurses := true, apart := false }
def EnumPartsSaid : Prop := enumPartsRow.holds Try.pinned (OpenSpec.ofChange enumPartsSpec)

/-- ITS FALSE NEIGHBOUR: 'it returns false'. Refute it at one input. -/
def enumPartsWrong : ChangeSpec := { name := "enumParts", fn := fun _ => fun
  | [d1, d2, d3] => { results := [.lit (.bool false)], args := [d1, d2, d3] }
  | _ => none }
def EnumPartsWrongFalsely : Prop := enumPartsRow.holds Try.pinned (OpenSpec.ofChange enumPartsWrong)

/- THE SECOND FORM. 'bulk': how many values and letters a reading holds, each counted each time it is reached (what is shared counts as often as it is met; a slice's spare places count too). A statement '..UptoSaid' is the law's where the arguments, and the package variables that the reading takes, are together of bulk at most 1048576: NARROWER than '..Said'. Prove '..Said' where nothing that the law and all that it calls make is longer than what came in: it says more and counts as full. Else prove '..UptoSaid'. A law counts once. -/
mutual
def uptoBulk {H : Type} : DataW H → Nat
  | .lit (.string bytes) => bytes.length + 1
  | .lit _ => 1
  | .nil => 1
  | .ptr d => uptoBulk d + 1
  | .slice elems spare => uptoBulkAll elems + uptoBulkAll spare + 1
  | .agg parts => uptoBulkAll parts + 1
  | .iface _ d => uptoBulk d + 1
  | .map entries => uptoBulkEntries entries + 1
  | .held _ => 1
def uptoBulkAll {H : Type} : List (DataW H) → Nat
  | [] => 0
  | d :: r => uptoBulk d + uptoBulkAll r
def uptoBulkEntries {H : Type} : List (Lit × DataW H) → Nat
  | [] => 0
  | x :: r => uptoBulkEntry x + uptoBulkEntries r
def uptoBulkEntry {H : Type} : Lit × DataW H → Nat
  | (.string bytes, d) => bytes.length + uptoBulk d + 1
  | (_, d) => uptoBulk d + 1
 end
def uptoSmall : (H : Type) → List (DataW H) → Bool := fun _ ds => decide (uptoBulkAll ds ≤ 1048576)
def OpenSpec.upto (s : _root_.Go.ChangeSpec) : _root_.Go.OpenSpec := { _root_.Go.OpenSpec.ofChange s with cond := some uptoSmall }

/-- 'burgagelaw22.CanonOf', WHERE WHAT IT READS IS OF BULK AT MOST 1048576: true; the input reads as it did. -/
def canonOfUptoRow : OpenClaim := { program := "ytngkneknopenmaa", sum := "00313898ca9050a1c402c37dcefafef829241e3680fbb41318340660ac4c7b35", func := "burgage/burgagelaw22.CanonOf", spec := "canonOf", unfollowed := true, recurses := true, apart := false, narrowed := true }
def CanonOfUptoSaid : Prop := canonOfUptoRow.holds Try.pinned (OpenSpec.upto canonOfSpec)

/-- 'burgagelaw22.CanonApart', WHERE WHAT IT READS IS OF BULK AT MOST 1048576: true; the input reads as it did. -/
def canonApartUptoRow : OpenClaim := { program := "ytngkneknopenmaa", sum := "00313898ca9050a1c402c37dcefafef829241e3680fbb41318340660ac4c7b35", func := "burgage/burgagelaw22.CanonApart", spec := "canonApart", unfollowed := true, recurses := true, apart := false, narrowed := true }
def CanonApartUptoSaid : Prop := canonApartUptoRow.holds Try.pinned (OpenSpec.upto canonApartSpec)

/-- 'burgagelaw22.CanonNames', WHERE WHAT IT READS IS OF BULK AT MOST 1048576: true; the input reads as it did. -/
def canonNamesUptoRow : OpenClaim := { program := "ytngkneknopenmaa", sum := "00313898ca9050a1c402c37dcefafef829241e3680fbb41318340660ac4c7b35", func := "burgage/burgagelaw22.CanonNames", spec := "canonNames", unfollowed := true, recurses := true, apart := false, narrowed := true }
def CanonNamesUptoSaid : Prop := canonNamesUptoRow.holds Try.pinned (OpenSpec.upto canonNamesSpec)

/-- 'burgagelaw23.EnumOne', WHERE WHAT IT READS IS OF BULK AT MOST 1048576: true; the input reads as it did. -/
def enumOneUptoRow : OpenClaim := { program := "ytngkneknopenmaa", sum := "00313898ca9050a1c402c37dcefafef829241e3680fbb41318340660ac4c7b35", func := "burgage/burgagelaw23.EnumOne", spec := "enumOne", unfollowed := true, recurses := true, apart := false, narrowed := true }
def EnumOneUptoSaid : Prop := enumOneUptoRow.holds Try.pinned (OpenSpec.upto enumOneSpec)

/-- 'burgagelaw23.EnumTwo', WHERE WHAT IT READS IS OF BULK AT MOST 1048576: true; the input reads as it did. -/
def enumTwoUptoRow : OpenClaim := { program := "ytngkneknopenmaa", sum := "00313898ca9050a1c402c37dcefafef829241e3680fbb41318340660ac4c7b35", func := "burgage/burgagelaw23.EnumTwo", spec := "enumTwo", unfollowed := true, recurses := true, apart := false, narrowed := true }
def EnumTwoUptoSaid : Prop := enumTwoUptoRow.holds Try.pinned (OpenSpec.upto enumTwoSpec)

/-- 'burgagetop.WholeWrites', WHERE WHAT IT READS IS OF BULK AT MOST 1048576: true; the input reads as it did. -/
def wholeWritesUptoRow : OpenClaim := { program := "ytngkneknopenmaa", sum := "00313898ca9050a1c402c37dcefafef829241e3680fbb41318340660ac4c7b35", func := "burgage/burgagetop.WholeWrites", spec := "wholeWrites", unfollowed := true, recurses := true, apart := false, narrowed := true }
def WholeWritesUptoSaid : Prop := wholeWritesUptoRow.holds Try.pinned (OpenSpec.upto wholeWritesSpec)

/-- 'burgagelaw23.EnumHas', WHERE WHAT IT READS IS OF BULK AT MOST 1048576: true; the input reads as it did. -/
def enumHasUptoRow : OpenClaim := { program := "ytngkneknopenmaa", sum := "00313898ca9050a1c402c37dcefafef829241e3680fbb41318340660ac4c7b35", func := "burgage/burgagelaw23.EnumHas", spec := "enumHas", unfollowed := true, recurses := true, apart := false, narrowed := true }
def EnumHasUptoSaid : Prop := enumHasUptoRow.holds Try.pinned (OpenSpec.upto enumHasSpec)

/-- 'burgagelaw23.EnumParts', WHERE WHAT IT READS IS OF BULK AT MOST 1048576: true; the input reads as it did. -/
def enumPartsUptoRow : OpenClaim := { program := "ytngkneknopenmaa", sum := "00313898ca9050a1c402c37dcefafef829241e3680fbb41318340660ac4c7b35", func := "burgage/burgagelaw23.EnumParts", spec := "enumParts", unfollowed := true, recurses := true, apart := false, narrowed := true }
def EnumPartsUptoSaid : Prop := enumPartsUptoRow.holds Try.pinned (OpenSpec.upto enumPartsSpec)

end Rows
end Go.Proofs.Ytngkneknopenmaa
