/-
  DERIVED. GIVEN WITH THE SEED: THE CARDS: each row of YtdomlnhgafielaaGreatDoorRows.lean that lists a variable, with what it lists TIED to the program's text (the seventh form; the later family's looks); each row that meets fmt, with fmt's text TOLD by the authors' own Lean function (tested against real Go, not proved from fmt's source: count such statements apart). THE CARD IS WHAT COUNTS. Prove the row's statement (the work); the ties are given (YtdomlnhgafielaaGreatDoorTie.lean); close each card by the builder's one call (the guide's Derived/Test/ToyasCard.lean, 'card_holds'). Laid BY PROGRAM, IN A SANDBOX (cutbox-door.mjs). By AI agents, Wed Nov 11 2026. No macro, syntax, notation, axiom, sorry.
-/
import Derived.Test.YtdomlnhgafielaaGreatDoorRows
import GoSem.ClaimSeven
namespace Go.Proofs.YtdomlnhgafielaaGreatDoor
namespace Rows

/-- THE TIED CARD OF 'photonmeshlaw03.MeshNets'. -/
def meshNetsCard : Claim7 := { stood := { row := meshNetsRow, standIns := [], harness := (true, "78f641e94fd793dc35686d9681969010cb074a14d5bf871086cfdeae9d69b75e"), looks := true }, kinds := [], alts := [], laidByText := true, laidKinds := [.data, .data, .data, .data, .sentinel, .sentinel, .pinned], laidTests := true, laidLooks := .later }
def MeshNetsCardSaid : Prop := Claim7.holds Tryz.pinned (.plain (OpenSpec.ofChange meshNetsSpec)) meshNetsCard

/-- THE TIED CARD OF 'photonmeshlaw03.MeshTexts'. -/
def meshTextsCard : Claim7 := { stood := { row := meshTextsRow, standIns := [], harness := (true, "78f641e94fd793dc35686d9681969010cb074a14d5bf871086cfdeae9d69b75e"), looks := true }, kinds := [], alts := [], laidByText := true, laidKinds := [.data, .data, .data, .data, .sentinel, .sentinel, .pinned], laidTests := true, laidLooks := .later }
def MeshTextsCardSaid : Prop := Claim7.holds Tryz.pinned (.plain (OpenSpec.ofChange meshTextsSpec)) meshTextsCard

/-- THE SECOND FORM's CARD OF 'photonmeshlaw03.MeshNets'. -/
def meshNetsUptoCard : Claim7 := { stood := { row := meshNetsUptoRow, standIns := [], harness := (true, "78f641e94fd793dc35686d9681969010cb074a14d5bf871086cfdeae9d69b75e"), looks := true }, kinds := [], alts := [], laidByText := true, laidKinds := [.data, .data, .data, .data, .sentinel, .sentinel, .pinned], laidTests := true, laidLooks := .later }
def MeshNetsUptoCardSaid : Prop := Claim7.holds Tryz.pinned (.plain (OpenSpec.upto meshNetsSpec)) meshNetsUptoCard

/-- THE SECOND FORM's CARD OF 'photonmeshlaw03.MeshTexts'. -/
def meshTextsUptoCard : Claim7 := { stood := { row := meshTextsUptoRow, standIns := [], harness := (true, "78f641e94fd793dc35686d9681969010cb074a14d5bf871086cfdeae9d69b75e"), looks := true }, kinds := [], alts := [], laidByText := true, laidKinds := [.data, .data, .data, .data, .sentinel, .sentinel, .pinned], laidTests := true, laidLooks := .later }
def MeshTextsUptoCardSaid : Prop := Claim7.holds Tryz.pinned (.plain (OpenSpec.upto meshTextsSpec)) meshTextsUptoCard
end Rows
end Go.Proofs.YtdomlnhgafielaaGreatDoor
