/-
  DERIVED. GIVEN WITH THE SEED: THE CARDS: each row of YtjghmkjofkjnfaaGreatDoorRows.lean that lists a variable, with what it lists TIED to the program's text (the seventh form; the later family's looks); each row that meets fmt, with fmt's text TOLD by the authors' own Lean function (tested against real Go, not proved from fmt's source: count such statements apart). THE CARD IS WHAT COUNTS. Prove the row's statement (the work); the ties are given (YtjghmkjofkjnfaaGreatDoorTie.lean); close each card by the builder's one call (the guide's Derived/Test/ToyasCard.lean, 'card_holds'). Laid BY PROGRAM, IN A SANDBOX (cutbox-door.mjs). By AI agents, Wed Nov 11 2026. No macro, syntax, notation, axiom, sorry.
-/
import Derived.Test.YtjghmkjofkjnfaaGreatDoorRows
import GoSem.ClaimSeven
namespace Go.Proofs.YtjghmkjofkjnfaaGreatDoor
namespace Rows

/-- THE TIED CARD OF 'jacquardlaw22.PipeRaw'. -/
def pipeRawCard : Claim7 := { stood := { row := pipeRawRow, standIns := [], harness := (true, "aa488189eb6a1817356aad317b15d7e6fe6cd4d96f2bbd3bf07fe320e32373b9"), looks := true }, kinds := [], alts := [], laidByText := true, laidKinds := [.listed, .data], laidTests := true, laidLooks := .later }
def PipeRawCardSaid : Prop := Claim7.holds Tryz.pinned (.plain (OpenSpec.ofChange pipeRawSpec)) pipeRawCard

/-- THE SECOND FORM's CARD OF 'jacquardlaw22.PipeRaw'. -/
def pipeRawUptoCard : Claim7 := { stood := { row := pipeRawUptoRow, standIns := [], harness := (true, "aa488189eb6a1817356aad317b15d7e6fe6cd4d96f2bbd3bf07fe320e32373b9"), looks := true }, kinds := [], alts := [], laidByText := true, laidKinds := [.listed, .data], laidTests := true, laidLooks := .later }
def PipeRawUptoCardSaid : Prop := Claim7.holds Tryz.pinned (.plain (OpenSpec.upto pipeRawSpec)) pipeRawUptoCard
end Rows
end Go.Proofs.YtjghmkjofkjnfaaGreatDoor
