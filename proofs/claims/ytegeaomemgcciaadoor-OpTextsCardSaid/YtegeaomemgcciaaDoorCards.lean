/-
  DERIVED. GIVEN WITH THE SEED: THE CARDS: each row of YtegeaomemgcciaaDoorRows.lean that lists a variable, with what it lists TIED to the program's text (the seventh form; the later family's looks); each row that meets fmt, with fmt's text TOLD by the authors' own Lean function (tested against real Go, not proved from fmt's source: count such statements apart). THE CARD IS WHAT COUNTS. Prove the row's statement (the work); the ties are given (YtegeaomemgcciaaDoorTie.lean); close each card by the builder's one call (the guide's Derived/Test/ToyasCard.lean, 'card_holds'). Laid BY PROGRAM, IN A SANDBOX (cutbox-door.mjs). By AI agents, Wed Nov 11 2026. No macro, syntax, notation, axiom, sorry.
-/
import Derived.Test.YtegeaomemgcciaaDoorRows
import GoSem.ClaimSeven
namespace Go.Proofs.YtegeaomemgcciaaDoor
namespace Rows

/-- THE TIED CARD OF 'burgagelaw03.TokenNumbers'. -/
def tokenNumbersCard : Claim7 := { stood := { row := tokenNumbersRow, standIns := [], harness := (true, "e2a881b7e66b450ff2e952bfc436d64fc2064ac270e1ed17b40cc93742311d92"), looks := true }, kinds := [], alts := [], laidByText := true, laidKinds := [.data, .data, .data, .data, .sentinel, .sentinel, .pinned], laidTests := true, laidLooks := .later }
def TokenNumbersCardSaid : Prop := Claim7.holds Tryd.pinned (.plain (OpenSpec.ofChange tokenNumbersSpec)) tokenNumbersCard

/-- THE TIED CARD OF 'burgagelaw03.TokenWords'. -/
def tokenWordsCard : Claim7 := { stood := { row := tokenWordsRow, standIns := [], harness := (true, "e2a881b7e66b450ff2e952bfc436d64fc2064ac270e1ed17b40cc93742311d92"), looks := true }, kinds := [], alts := [], laidByText := true, laidKinds := [.data, .data, .data, .data, .sentinel, .sentinel, .pinned], laidTests := true, laidLooks := .later }
def TokenWordsCardSaid : Prop := Claim7.holds Tryd.pinned (.plain (OpenSpec.ofChange tokenWordsSpec)) tokenWordsCard

/-- THE TIED CARD OF 'burgagelaw03.TokenBack'. -/
def tokenBackCard : Claim7 := { stood := { row := tokenBackRow, standIns := [], harness := (true, "e2a881b7e66b450ff2e952bfc436d64fc2064ac270e1ed17b40cc93742311d92"), looks := true }, kinds := [], alts := [], laidByText := true, laidKinds := [.data, .data, .data, .data, .sentinel, .sentinel, .pinned], laidTests := true, laidLooks := .later }
def TokenBackCardSaid : Prop := Claim7.holds Tryd.pinned (.plain (OpenSpec.ofChange tokenBackSpec)) tokenBackCard

/-- THE TIED CARD OF 'burgagelaw04.OpTexts'. -/
def opTextsCard : Claim7 := { stood := { row := opTextsRow, standIns := [], harness := (true, "e2a881b7e66b450ff2e952bfc436d64fc2064ac270e1ed17b40cc93742311d92"), looks := true }, kinds := [], alts := [], laidByText := true, laidKinds := [.data, .data, .data, .data, .sentinel, .sentinel, .pinned], laidTests := true, laidLooks := .later }
def OpTextsCardSaid : Prop := Claim7.holds Tryd.pinned (.plain (OpenSpec.ofChange opTextsSpec)) opTextsCard

/-- THE TIED CARD OF 'burgagelaw04.OpParses'. -/
def opParsesCard : Claim7 := { stood := { row := opParsesRow, standIns := [], harness := (true, "e2a881b7e66b450ff2e952bfc436d64fc2064ac270e1ed17b40cc93742311d92"), looks := true }, kinds := [], alts := [], laidByText := true, laidKinds := [.data, .data, .data, .data, .sentinel, .sentinel, .pinned], laidTests := true, laidLooks := .later }
def OpParsesCardSaid : Prop := Claim7.holds Tryd.pinned (.plain (OpenSpec.ofChange opParsesSpec)) opParsesCard

/-- THE TIED CARD OF 'burgagelaw04.OpKinds'. -/
def opKindsCard : Claim7 := { stood := { row := opKindsRow, standIns := [], harness := (true, "e2a881b7e66b450ff2e952bfc436d64fc2064ac270e1ed17b40cc93742311d92"), looks := true }, kinds := [], alts := [], laidByText := true, laidKinds := [.data, .data, .data, .data, .sentinel, .sentinel, .pinned], laidTests := true, laidLooks := .later }
def OpKindsCardSaid : Prop := Claim7.holds Tryd.pinned (.plain (OpenSpec.ofChange opKindsSpec)) opKindsCard

/-- THE SECOND FORM's CARD OF 'burgagelaw03.TokenNumbers'. -/
def tokenNumbersUptoCard : Claim7 := { stood := { row := tokenNumbersUptoRow, standIns := [], harness := (true, "e2a881b7e66b450ff2e952bfc436d64fc2064ac270e1ed17b40cc93742311d92"), looks := true }, kinds := [], alts := [], laidByText := true, laidKinds := [.data, .data, .data, .data, .sentinel, .sentinel, .pinned], laidTests := true, laidLooks := .later }
def TokenNumbersUptoCardSaid : Prop := Claim7.holds Tryd.pinned (.plain (OpenSpec.upto tokenNumbersSpec)) tokenNumbersUptoCard

/-- THE SECOND FORM's CARD OF 'burgagelaw03.TokenWords'. -/
def tokenWordsUptoCard : Claim7 := { stood := { row := tokenWordsUptoRow, standIns := [], harness := (true, "e2a881b7e66b450ff2e952bfc436d64fc2064ac270e1ed17b40cc93742311d92"), looks := true }, kinds := [], alts := [], laidByText := true, laidKinds := [.data, .data, .data, .data, .sentinel, .sentinel, .pinned], laidTests := true, laidLooks := .later }
def TokenWordsUptoCardSaid : Prop := Claim7.holds Tryd.pinned (.plain (OpenSpec.upto tokenWordsSpec)) tokenWordsUptoCard

/-- THE SECOND FORM's CARD OF 'burgagelaw03.TokenBack'. -/
def tokenBackUptoCard : Claim7 := { stood := { row := tokenBackUptoRow, standIns := [], harness := (true, "e2a881b7e66b450ff2e952bfc436d64fc2064ac270e1ed17b40cc93742311d92"), looks := true }, kinds := [], alts := [], laidByText := true, laidKinds := [.data, .data, .data, .data, .sentinel, .sentinel, .pinned], laidTests := true, laidLooks := .later }
def TokenBackUptoCardSaid : Prop := Claim7.holds Tryd.pinned (.plain (OpenSpec.upto tokenBackSpec)) tokenBackUptoCard

/-- THE SECOND FORM's CARD OF 'burgagelaw04.OpTexts'. -/
def opTextsUptoCard : Claim7 := { stood := { row := opTextsUptoRow, standIns := [], harness := (true, "e2a881b7e66b450ff2e952bfc436d64fc2064ac270e1ed17b40cc93742311d92"), looks := true }, kinds := [], alts := [], laidByText := true, laidKinds := [.data, .data, .data, .data, .sentinel, .sentinel, .pinned], laidTests := true, laidLooks := .later }
def OpTextsUptoCardSaid : Prop := Claim7.holds Tryd.pinned (.plain (OpenSpec.upto opTextsSpec)) opTextsUptoCard

/-- THE SECOND FORM's CARD OF 'burgagelaw04.OpParses'. -/
def opParsesUptoCard : Claim7 := { stood := { row := opParsesUptoRow, standIns := [], harness := (true, "e2a881b7e66b450ff2e952bfc436d64fc2064ac270e1ed17b40cc93742311d92"), looks := true }, kinds := [], alts := [], laidByText := true, laidKinds := [.data, .data, .data, .data, .sentinel, .sentinel, .pinned], laidTests := true, laidLooks := .later }
def OpParsesUptoCardSaid : Prop := Claim7.holds Tryd.pinned (.plain (OpenSpec.upto opParsesSpec)) opParsesUptoCard

/-- THE SECOND FORM's CARD OF 'burgagelaw04.OpKinds'. -/
def opKindsUptoCard : Claim7 := { stood := { row := opKindsUptoRow, standIns := [], harness := (true, "e2a881b7e66b450ff2e952bfc436d64fc2064ac270e1ed17b40cc93742311d92"), looks := true }, kinds := [], alts := [], laidByText := true, laidKinds := [.data, .data, .data, .data, .sentinel, .sentinel, .pinned], laidTests := true, laidLooks := .later }
def OpKindsUptoCardSaid : Prop := Claim7.holds Tryd.pinned (.plain (OpenSpec.upto opKindsSpec)) opKindsUptoCard
end Rows
end Go.Proofs.YtegeaomemgcciaaDoor
