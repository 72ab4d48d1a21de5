/-
  DERIVED. GIVEN WITH THE SEED: THE CARDS: each row of YtmjnjghhdkoljaaDoorRows.lean that lists a variable, with what it lists TIED to the program's text (the seventh form; the later family's looks); each row that meets fmt, with fmt's text TOLD by the authors' own Lean function (tested against real Go, not proved from fmt's source: count such statements apart). THE CARD IS WHAT COUNTS. Prove the row's statement (the work); the ties are given (YtmjnjghhdkoljaaDoorTie.lean); close each card by the builder's one call (the guide's Derived/Test/ToyasCard.lean, 'card_holds'). Laid BY PROGRAM, IN A SANDBOX (cutbox-door.mjs). By AI agents, Wed Nov 11 2026. No macro, syntax, notation, axiom, sorry.
-/
import Derived.Test.YtmjnjghhdkoljaaDoorRows
import GoSem.ClaimSeven
namespace Go.Proofs.YtmjnjghhdkoljaaDoor
namespace Rows

/-- THE TIED CARD OF 'photonmeshlaw01.AmpTexts'. -/
def ampTextsCard : Claim7 := { stood := { row := ampTextsRow, standIns := [], harness := (true, "860672bb483d431a4193647a666ef4cb5ebcb37735566e0a1768f6c264ebec92"), looks := true }, kinds := [], alts := [], laidByText := true, laidKinds := [.data, .data, .data, .sentinel, .sentinel], laidTests := true, laidLooks := .later }
def AmpTextsCardSaid : Prop := Claim7.holds Tryd.pinned (.plain (OpenSpec.ofChange ampTextsSpec)) ampTextsCard

/-- THE SECOND FORM's CARD OF 'photonmeshlaw01.AmpTexts'. -/
def ampTextsUptoCard : Claim7 := { stood := { row := ampTextsUptoRow, standIns := [], harness := (true, "860672bb483d431a4193647a666ef4cb5ebcb37735566e0a1768f6c264ebec92"), looks := true }, kinds := [], alts := [], laidByText := true, laidKinds := [.data, .data, .data, .sentinel, .sentinel], laidTests := true, laidLooks := .later }
def AmpTextsUptoCardSaid : Prop := Claim7.holds Tryd.pinned (.plain (OpenSpec.upto ampTextsSpec)) ampTextsUptoCard
end Rows
end Go.Proofs.YtmjnjghhdkoljaaDoor
