/-
  DERIVED. GIVEN WITH THE SEED: THE CARDS: each row of YtpcgganaocakfaaDoorRows.lean that lists a variable, with what it lists TIED to the program's text (the seventh form; the later family's looks); each row that meets fmt, with fmt's text TOLD by the authors' own Lean function (tested against real Go, not proved from fmt's source: count such statements apart). THE CARD IS WHAT COUNTS. Prove the row's statement (the work); the ties are given (YtpcgganaocakfaaDoorTie.lean); close each card by the builder's one call (the guide's Derived/Test/ToyasCard.lean, 'card_holds'). Laid BY PROGRAM, IN A SANDBOX (cutbox-door.mjs). By AI agents, Wed Nov 11 2026. No macro, syntax, notation, axiom, sorry.
-/
import Derived.Test.YtpcgganaocakfaaDoorRows
import GoSem.ClaimSeven
namespace Go.Proofs.YtpcgganaocakfaaDoor
namespace Rows

/-- THE TIED CARD OF 'jacquardlaw18.CodePuts'. -/
def codePutsCard : Claim7 := { stood := { row := codePutsRow, standIns := [], harness := (true, "b8abba436575c7e7e7966f237857840c301e7248fa02b804cb72ac4bc5e1832a"), looks := true }, kinds := [], alts := [], laidByText := true, laidKinds := [.data, .data, .data, .listed, .data], laidTests := true, laidLooks := .later }
def CodePutsCardSaid : Prop := Claim7.holds Tryd.pinned (.plain (OpenSpec.ofChange codePutsSpec)) codePutsCard

/-- THE TIED CARD OF 'jacquardlaw18.CodeGets'. -/
def codeGetsCard : Claim7 := { stood := { row := codeGetsRow, standIns := [], harness := (true, "b8abba436575c7e7e7966f237857840c301e7248fa02b804cb72ac4bc5e1832a"), looks := true }, kinds := [], alts := [], laidByText := true, laidKinds := [.data, .data, .data, .listed, .data], laidTests := true, laidLooks := .later }
def CodeGetsCardSaid : Prop := Claim7.holds Tryd.pinned (.plain (OpenSpec.ofChange codeGetsSpec)) codeGetsCard

/-- THE TIED CARD OF 'jacquardlaw18.CodeBack'. -/
def codeBackCard : Claim7 := { stood := { row := codeBackRow, standIns := [], harness := (true, "b8abba436575c7e7e7966f237857840c301e7248fa02b804cb72ac4bc5e1832a"), looks := true }, kinds := [], alts := [], laidByText := true, laidKinds := [.data, .data, .data, .listed, .data], laidTests := true, laidLooks := .later }
def CodeBackCardSaid : Prop := Claim7.holds Tryd.pinned (.plain (OpenSpec.ofChange codeBackSpec)) codeBackCard

/-- THE TIED CARD OF 'jacquardlaw18.CodeOnly'. -/
def codeOnlyCard : Claim7 := { stood := { row := codeOnlyRow, standIns := [], harness := (true, "b8abba436575c7e7e7966f237857840c301e7248fa02b804cb72ac4bc5e1832a"), looks := true }, kinds := [], alts := [], laidByText := true, laidKinds := [.data, .data, .data, .listed, .data], laidTests := true, laidLooks := .later }
def CodeOnlyCardSaid : Prop := Claim7.holds Tryd.pinned (.plain (OpenSpec.ofChange codeOnlySpec)) codeOnlyCard

/-- THE TIED CARD OF 'jacquardlaw18.CodeApart'. -/
def codeApartCard : Claim7 := { stood := { row := codeApartRow, standIns := [], harness := (true, "b8abba436575c7e7e7966f237857840c301e7248fa02b804cb72ac4bc5e1832a"), looks := true }, kinds := [], alts := [], laidByText := true, laidKinds := [.data, .data, .data, .listed, .data], laidTests := true, laidLooks := .later }
def CodeApartCardSaid : Prop := Claim7.holds Tryd.pinned (.plain (OpenSpec.ofChange codeApartSpec)) codeApartCard

/-- THE TIED CARD OF 'jacquardlaw18.CodeFar'. -/
def codeFarCard : Claim7 := { stood := { row := codeFarRow, standIns := [], harness := (true, "b8abba436575c7e7e7966f237857840c301e7248fa02b804cb72ac4bc5e1832a"), looks := true }, kinds := [], alts := [], laidByText := true, laidKinds := [.data, .data, .data, .listed, .data], laidTests := true, laidLooks := .later }
def CodeFarCardSaid : Prop := Claim7.holds Tryd.pinned (.plain (OpenSpec.ofChange codeFarSpec)) codeFarCard

/-- THE TIED CARD OF 'jacquardlaw18.CodeTexts'. -/
def codeTextsCard : Claim7 := { stood := { row := codeTextsRow, standIns := [], harness := (true, "b8abba436575c7e7e7966f237857840c301e7248fa02b804cb72ac4bc5e1832a"), looks := true }, kinds := [], alts := [], laidByText := true, laidKinds := [.data, .data, .data, .listed, .data], laidTests := true, laidLooks := .later }
def CodeTextsCardSaid : Prop := Claim7.holds Tryd.pinned (.plain (OpenSpec.ofChange codeTextsSpec)) codeTextsCard

/-- THE TIED CARD OF 'jacquardlaw18.CodeFields'. -/
def codeFieldsCard : Claim7 := { stood := { row := codeFieldsRow, standIns := [], harness := (true, "b8abba436575c7e7e7966f237857840c301e7248fa02b804cb72ac4bc5e1832a"), looks := true }, kinds := [], alts := [], laidByText := true, laidKinds := [.data, .data, .data, .listed, .data], laidTests := true, laidLooks := .later }
def CodeFieldsCardSaid : Prop := Claim7.holds Tryd.pinned (.plain (OpenSpec.ofChange codeFieldsSpec)) codeFieldsCard

/-- THE TIED CARD OF 'jacquardlaw18.CodeMay'. -/
def codeMayCard : Claim7 := { stood := { row := codeMayRow, standIns := [], harness := (true, "b8abba436575c7e7e7966f237857840c301e7248fa02b804cb72ac4bc5e1832a"), looks := true }, kinds := [], alts := [], laidByText := true, laidKinds := [.data, .data, .data, .listed, .data], laidTests := true, laidLooks := .later }
def CodeMayCardSaid : Prop := Claim7.holds Tryd.pinned (.plain (OpenSpec.ofChange codeMaySpec)) codeMayCard

/-- THE SECOND FORM's CARD OF 'jacquardlaw18.CodePuts'. -/
def codePutsUptoCard : Claim7 := { stood := { row := codePutsUptoRow, standIns := [], harness := (true, "b8abba436575c7e7e7966f237857840c301e7248fa02b804cb72ac4bc5e1832a"), looks := true }, kinds := [], alts := [], laidByText := true, laidKinds := [.data, .data, .data, .listed, .data], laidTests := true, laidLooks := .later }
def CodePutsUptoCardSaid : Prop := Claim7.holds Tryd.pinned (.plain (OpenSpec.upto codePutsSpec)) codePutsUptoCard

/-- THE SECOND FORM's CARD OF 'jacquardlaw18.CodeGets'. -/
def codeGetsUptoCard : Claim7 := { stood := { row := codeGetsUptoRow, standIns := [], harness := (true, "b8abba436575c7e7e7966f237857840c301e7248fa02b804cb72ac4bc5e1832a"), looks := true }, kinds := [], alts := [], laidByText := true, laidKinds := [.data, .data, .data, .listed, .data], laidTests := true, laidLooks := .later }
def CodeGetsUptoCardSaid : Prop := Claim7.holds Tryd.pinned (.plain (OpenSpec.upto codeGetsSpec)) codeGetsUptoCard

/-- THE SECOND FORM's CARD OF 'jacquardlaw18.CodeBack'. -/
def codeBackUptoCard : Claim7 := { stood := { row := codeBackUptoRow, standIns := [], harness := (true, "b8abba436575c7e7e7966f237857840c301e7248fa02b804cb72ac4bc5e1832a"), looks := true }, kinds := [], alts := [], laidByText := true, laidKinds := [.data, .data, .data, .listed, .data], laidTests := true, laidLooks := .later }
def CodeBackUptoCardSaid : Prop := Claim7.holds Tryd.pinned (.plain (OpenSpec.upto codeBackSpec)) codeBackUptoCard

/-- THE SECOND FORM's CARD OF 'jacquardlaw18.CodeOnly'. -/
def codeOnlyUptoCard : Claim7 := { stood := { row := codeOnlyUptoRow, standIns := [], harness := (true, "b8abba436575c7e7e7966f237857840c301e7248fa02b804cb72ac4bc5e1832a"), looks := true }, kinds := [], alts := [], laidByText := true, laidKinds := [.data, .data, .data, .listed, .data], laidTests := true, laidLooks := .later }
def CodeOnlyUptoCardSaid : Prop := Claim7.holds Tryd.pinned (.plain (OpenSpec.upto codeOnlySpec)) codeOnlyUptoCard

/-- THE SECOND FORM's CARD OF 'jacquardlaw18.CodeApart'. -/
def codeApartUptoCard : Claim7 := { stood := { row := codeApartUptoRow, standIns := [], harness := (true, "b8abba436575c7e7e7966f237857840c301e7248fa02b804cb72ac4bc5e1832a"), looks := true }, kinds := [], alts := [], laidByText := true, laidKinds := [.data, .data, .data, .listed, .data], laidTests := true, laidLooks := .later }
def CodeApartUptoCardSaid : Prop := Claim7.holds Tryd.pinned (.plain (OpenSpec.upto codeApartSpec)) codeApartUptoCard

/-- THE SECOND FORM's CARD OF 'jacquardlaw18.CodeFar'. -/
def codeFarUptoCard : Claim7 := { stood := { row := codeFarUptoRow, standIns := [], harness := (true, "b8abba436575c7e7e7966f237857840c301e7248fa02b804cb72ac4bc5e1832a"), looks := true }, kinds := [], alts := [], laidByText := true, laidKinds := [.data, .data, .data, .listed, .data], laidTests := true, laidLooks := .later }
def CodeFarUptoCardSaid : Prop := Claim7.holds Tryd.pinned (.plain (OpenSpec.upto codeFarSpec)) codeFarUptoCard

/-- THE SECOND FORM's CARD OF 'jacquardlaw18.CodeTexts'. -/
def codeTextsUptoCard : Claim7 := { stood := { row := codeTextsUptoRow, standIns := [], harness := (true, "b8abba436575c7e7e7966f237857840c301e7248fa02b804cb72ac4bc5e1832a"), looks := true }, kinds := [], alts := [], laidByText := true, laidKinds := [.data, .data, .data, .listed, .data], laidTests := true, laidLooks := .later }
def CodeTextsUptoCardSaid : Prop := Claim7.holds Tryd.pinned (.plain (OpenSpec.upto codeTextsSpec)) codeTextsUptoCard

/-- THE SECOND FORM's CARD OF 'jacquardlaw18.CodeFields'. -/
def codeFieldsUptoCard : Claim7 := { stood := { row := codeFieldsUptoRow, standIns := [], harness := (true, "b8abba436575c7e7e7966f237857840c301e7248fa02b804cb72ac4bc5e1832a"), looks := true }, kinds := [], alts := [], laidByText := true, laidKinds := [.data, .data, .data, .listed, .data], laidTests := true, laidLooks := .later }
def CodeFieldsUptoCardSaid : Prop := Claim7.holds Tryd.pinned (.plain (OpenSpec.upto codeFieldsSpec)) codeFieldsUptoCard

/-- THE SECOND FORM's CARD OF 'jacquardlaw18.CodeMay'. -/
def codeMayUptoCard : Claim7 := { stood := { row := codeMayUptoRow, standIns := [], harness := (true, "b8abba436575c7e7e7966f237857840c301e7248fa02b804cb72ac4bc5e1832a"), looks := true }, kinds := [], alts := [], laidByText := true, laidKinds := [.data, .data, .data, .listed, .data], laidTests := true, laidLooks := .later }
def CodeMayUptoCardSaid : Prop := Claim7.holds Tryd.pinned (.plain (OpenSpec.upto codeMaySpec)) codeMayUptoCard
end Rows
end Go.Proofs.YtpcgganaocakfaaDoor
