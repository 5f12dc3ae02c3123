/-
  DERIVED. GIVEN WITH THE SEED: THE CARDS: each row of YtmjbchhobgfajaaDoorRows.lean that lists a variable, with what it lists TIED to the program's text (the seventh form; the later family's looks); each row that meets fmt, with fmt's text TOLD by the authors' own Lean function (tested against real Go, not proved from fmt's source: count such statements apart). THE CARD IS WHAT COUNTS. Prove the row's statement (the work); the ties are given (YtmjbchhobgfajaaDoorTie.lean); close each card by the builder's one call (the guide's Derived/Test/ToyasCard.lean, 'card_holds'). Laid BY PROGRAM, IN A SANDBOX (cutbox-door.mjs). By AI agents, Wed Nov 11 2026. No macro, syntax, notation, axiom, sorry.
-/
import Derived.Test.YtmjbchhobgfajaaDoorRows
import GoSem.ClaimSeven
namespace Go.Proofs.YtmjbchhobgfajaaDoor
namespace Rows

/-- THE TIED CARD OF 'jacquardlaw21.SimGoes'. -/
def simGoesCard : Claim7 := { stood := { row := simGoesRow, standIns := [], harness := (true, "c565ad1736401b3f25a86f80d17f6ab4107366b3df699ef840dce1c1c33c3e72"), looks := true }, kinds := [], alts := [], laidByText := true, laidKinds := [.listed, .data], laidTests := true, laidLooks := .later }
def SimGoesCardSaid : Prop := Claim7.holds Tryd.pinned (.plain (OpenSpec.ofChange simGoesSpec)) simGoesCard

/-- THE TIED CARD OF 'jacquardlaw21.SimSlots'. -/
def simSlotsCard : Claim7 := { stood := { row := simSlotsRow, standIns := [], harness := (true, "c565ad1736401b3f25a86f80d17f6ab4107366b3df699ef840dce1c1c33c3e72"), looks := true }, kinds := [], alts := [], laidByText := true, laidKinds := [.listed, .data], laidTests := true, laidLooks := .later }
def SimSlotsCardSaid : Prop := Claim7.holds Tryd.pinned (.plain (OpenSpec.ofChange simSlotsSpec)) simSlotsCard

/-- THE SECOND FORM's CARD OF 'jacquardlaw21.SimGoes'. -/
def simGoesUptoCard : Claim7 := { stood := { row := simGoesUptoRow, standIns := [], harness := (true, "c565ad1736401b3f25a86f80d17f6ab4107366b3df699ef840dce1c1c33c3e72"), looks := true }, kinds := [], alts := [], laidByText := true, laidKinds := [.listed, .data], laidTests := true, laidLooks := .later }
def SimGoesUptoCardSaid : Prop := Claim7.holds Tryd.pinned (.plain (OpenSpec.upto simGoesSpec)) simGoesUptoCard

/-- THE SECOND FORM's CARD OF 'jacquardlaw21.SimSlots'. -/
def simSlotsUptoCard : Claim7 := { stood := { row := simSlotsUptoRow, standIns := [], harness := (true, "c565ad1736401b3f25a86f80d17f6ab4107366b3df699ef840dce1c1c33c3e72"), looks := true }, kinds := [], alts := [], laidByText := true, laidKinds := [.listed, .data], laidTests := true, laidLooks := .later }
def SimSlotsUptoCardSaid : Prop := Claim7.holds Tryd.pinned (.plain (OpenSpec.upto simSlotsSpec)) simSlotsUptoCard
end Rows
end Go.Proofs.YtmjbchhobgfajaaDoor
