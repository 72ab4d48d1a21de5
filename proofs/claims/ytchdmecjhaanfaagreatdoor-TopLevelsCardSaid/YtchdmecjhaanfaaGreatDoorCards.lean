/-
  DERIVED. GIVEN WITH THE SEED: THE CARDS: each row of YtchdmecjhaanfaaGreatDoorRows.lean that lists a variable, with what it lists TIED to the program's text (the seventh form; the later family's looks); each row that meets fmt, with fmt's text TOLD by the authors' own Lean function (tested against real Go, not proved from fmt's source: count such statements apart). THE CARD IS WHAT COUNTS. Prove the row's statement (the work); the ties are given (YtchdmecjhaanfaaGreatDoorTie.lean); close each card by the builder's one call (the guide's Derived/Test/ToyasCard.lean, 'card_holds'). Laid BY PROGRAM, IN A SANDBOX (cutbox-door.mjs). By AI agents, Wed Nov 11 2026. No macro, syntax, notation, axiom, sorry.
-/
import Derived.Test.YtchdmecjhaanfaaGreatDoorRows
import GoSem.ClaimSeven
namespace Go.Proofs.YtchdmecjhaanfaaGreatDoor
namespace Rows

/-- THE TIED CARD OF 'photonmeshtop.TopLevels'. -/
def topLevelsCard : Claim7 := { stood := { row := topLevelsRow, standIns := [], harness := (true, "0a2481308dbe5fde4c96a5b58074b8f34ffacb518e67476e5a6bdc2eebcd615f"), looks := true }, kinds := [], alts := [], laidByText := true, laidKinds := [.data, .data, .data, .data, .sentinel, .sentinel, .pinned], laidTests := true, laidLooks := .later }
def TopLevelsCardSaid : Prop := Claim7.holds Tryz.pinned (.plain (OpenSpec.ofChange topLevelsSpec)) topLevelsCard

/-- THE SECOND FORM's CARD OF 'photonmeshtop.TopLevels'. -/
def topLevelsUptoCard : Claim7 := { stood := { row := topLevelsUptoRow, standIns := [], harness := (true, "0a2481308dbe5fde4c96a5b58074b8f34ffacb518e67476e5a6bdc2eebcd615f"), looks := true }, kinds := [], alts := [], laidByText := true, laidKinds := [.data, .data, .data, .data, .sentinel, .sentinel, .pinned], laidTests := true, laidLooks := .later }
def TopLevelsUptoCardSaid : Prop := Claim7.holds Tryz.pinned (.plain (OpenSpec.upto topLevelsSpec)) topLevelsUptoCard
end Rows
end Go.Proofs.YtchdmecjhaanfaaGreatDoor
