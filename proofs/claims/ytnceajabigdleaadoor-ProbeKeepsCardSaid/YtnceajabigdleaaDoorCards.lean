/-
  DERIVED. GIVEN WITH THE SEED: THE CARDS: each row of YtnceajabigdleaaDoorRows.lean that lists a variable, with what it lists TIED to the program's text (the seventh form; the later family's looks); each row that meets fmt, with fmt's text TOLD by the authors' own Lean function (tested against real Go, not proved from fmt's source: count such statements apart). THE CARD IS WHAT COUNTS. Prove the row's statement (the work); the ties are given (YtnceajabigdleaaDoorTie.lean); close each card by the builder's one call (the guide's Derived/Test/ToyasCard.lean, 'card_holds'). Laid BY PROGRAM, IN A SANDBOX (cutbox-door.mjs). By AI agents, Wed Nov 11 2026. No macro, syntax, notation, axiom, sorry.
-/
import Derived.Test.YtnceajabigdleaaDoorRows
import GoSem.ClaimSeven
namespace Go.Proofs.YtnceajabigdleaaDoor
namespace Rows

/-- THE TIED CARD OF 'photonmeshlaw09.ProbeParts'. -/
def probePartsCard : Claim7 := { stood := { row := probePartsRow, standIns := [], harness := (true, "36e78a9bbe3b3b17913c0110d8a89de1787061b82218d0f13b3b7a25865fa3ac"), looks := false }, kinds := [], alts := [], goes := true, laidByText := true, laidKinds := [.data], laidTests := true, laidLooks := .later }
def ProbePartsCardSaid : Prop := Claim7.holds Tryd.pinned (.plain (OpenSpec.ofChange probePartsSpec)) probePartsCard

/-- THE TIED CARD OF 'photonmeshlaw09.ProbeLeft'. -/
def probeLeftCard : Claim7 := { stood := { row := probeLeftRow, standIns := [], harness := (true, "36e78a9bbe3b3b17913c0110d8a89de1787061b82218d0f13b3b7a25865fa3ac"), looks := false }, kinds := [], alts := [], goes := true, laidByText := true, laidKinds := [.data], laidTests := true, laidLooks := .later }
def ProbeLeftCardSaid : Prop := Claim7.holds Tryd.pinned (.plain (OpenSpec.ofChange probeLeftSpec)) probeLeftCard

/-- THE TIED CARD OF 'photonmeshlaw09.ProbeTries'. -/
def probeTriesCard : Claim7 := { stood := { row := probeTriesRow, standIns := [], harness := (true, "36e78a9bbe3b3b17913c0110d8a89de1787061b82218d0f13b3b7a25865fa3ac"), looks := false }, kinds := [], alts := [], goes := true, laidByText := true, laidKinds := [.data], laidTests := true, laidLooks := .later }
def ProbeTriesCardSaid : Prop := Claim7.holds Tryd.pinned (.plain (OpenSpec.ofChange probeTriesSpec)) probeTriesCard

/-- THE TIED CARD OF 'photonmeshlaw09.ProbeKeeps'. -/
def probeKeepsCard : Claim7 := { stood := { row := probeKeepsRow, standIns := [], harness := (true, "36e78a9bbe3b3b17913c0110d8a89de1787061b82218d0f13b3b7a25865fa3ac"), looks := false }, kinds := [], alts := [], goes := true, laidByText := true, laidKinds := [.data], laidTests := true, laidLooks := .later }
def ProbeKeepsCardSaid : Prop := Claim7.holds Tryd.pinned (.plain (OpenSpec.ofChange probeKeepsSpec)) probeKeepsCard

/-- THE TIED CARD OF 'photonmeshlaw09.ProbeFinds'. -/
def probeFindsCard : Claim7 := { stood := { row := probeFindsRow, standIns := [], harness := (true, "36e78a9bbe3b3b17913c0110d8a89de1787061b82218d0f13b3b7a25865fa3ac"), looks := false }, kinds := [], alts := [], goes := true, laidByText := true, laidKinds := [.data], laidTests := true, laidLooks := .later }
def ProbeFindsCardSaid : Prop := Claim7.holds Tryd.pinned (.plain (OpenSpec.ofChange probeFindsSpec)) probeFindsCard

/-- THE TIED CARD OF 'photonmeshlaw09.ProbeTwins'. -/
def probeTwinsCard : Claim7 := { stood := { row := probeTwinsRow, standIns := [], harness := (true, "36e78a9bbe3b3b17913c0110d8a89de1787061b82218d0f13b3b7a25865fa3ac"), looks := false }, kinds := [], alts := [], goes := true, laidByText := true, laidKinds := [.data], laidTests := true, laidLooks := .later }
def ProbeTwinsCardSaid : Prop := Claim7.holds Tryd.pinned (.plain (OpenSpec.ofChange probeTwinsSpec)) probeTwinsCard

/-- THE SECOND FORM's CARD OF 'photonmeshlaw09.ProbeParts'. -/
def probePartsUptoCard : Claim7 := { stood := { row := probePartsUptoRow, standIns := [], harness := (true, "36e78a9bbe3b3b17913c0110d8a89de1787061b82218d0f13b3b7a25865fa3ac"), looks := false }, kinds := [], alts := [], goes := true, laidByText := true, laidKinds := [.data], laidTests := true, laidLooks := .later }
def ProbePartsUptoCardSaid : Prop := Claim7.holds Tryd.pinned (.plain (OpenSpec.upto probePartsSpec)) probePartsUptoCard

/-- THE SECOND FORM's CARD OF 'photonmeshlaw09.ProbeLeft'. -/
def probeLeftUptoCard : Claim7 := { stood := { row := probeLeftUptoRow, standIns := [], harness := (true, "36e78a9bbe3b3b17913c0110d8a89de1787061b82218d0f13b3b7a25865fa3ac"), looks := false }, kinds := [], alts := [], goes := true, laidByText := true, laidKinds := [.data], laidTests := true, laidLooks := .later }
def ProbeLeftUptoCardSaid : Prop := Claim7.holds Tryd.pinned (.plain (OpenSpec.upto probeLeftSpec)) probeLeftUptoCard

/-- THE SECOND FORM's CARD OF 'photonmeshlaw09.ProbeTries'. -/
def probeTriesUptoCard : Claim7 := { stood := { row := probeTriesUptoRow, standIns := [], harness := (true, "36e78a9bbe3b3b17913c0110d8a89de1787061b82218d0f13b3b7a25865fa3ac"), looks := false }, kinds := [], alts := [], goes := true, laidByText := true, laidKinds := [.data], laidTests := true, laidLooks := .later }
def ProbeTriesUptoCardSaid : Prop := Claim7.holds Tryd.pinned (.plain (OpenSpec.upto probeTriesSpec)) probeTriesUptoCard

/-- THE SECOND FORM's CARD OF 'photonmeshlaw09.ProbeKeeps'. -/
def probeKeepsUptoCard : Claim7 := { stood := { row := probeKeepsUptoRow, standIns := [], harness := (true, "36e78a9bbe3b3b17913c0110d8a89de1787061b82218d0f13b3b7a25865fa3ac"), looks := false }, kinds := [], alts := [], goes := true, laidByText := true, laidKinds := [.data], laidTests := true, laidLooks := .later }
def ProbeKeepsUptoCardSaid : Prop := Claim7.holds Tryd.pinned (.plain (OpenSpec.upto probeKeepsSpec)) probeKeepsUptoCard

/-- THE SECOND FORM's CARD OF 'photonmeshlaw09.ProbeFinds'. -/
def probeFindsUptoCard : Claim7 := { stood := { row := probeFindsUptoRow, standIns := [], harness := (true, "36e78a9bbe3b3b17913c0110d8a89de1787061b82218d0f13b3b7a25865fa3ac"), looks := false }, kinds := [], alts := [], goes := true, laidByText := true, laidKinds := [.data], laidTests := true, laidLooks := .later }
def ProbeFindsUptoCardSaid : Prop := Claim7.holds Tryd.pinned (.plain (OpenSpec.upto probeFindsSpec)) probeFindsUptoCard

/-- THE SECOND FORM's CARD OF 'photonmeshlaw09.ProbeTwins'. -/
def probeTwinsUptoCard : Claim7 := { stood := { row := probeTwinsUptoRow, standIns := [], harness := (true, "36e78a9bbe3b3b17913c0110d8a89de1787061b82218d0f13b3b7a25865fa3ac"), looks := false }, kinds := [], alts := [], goes := true, laidByText := true, laidKinds := [.data], laidTests := true, laidLooks := .later }
def ProbeTwinsUptoCardSaid : Prop := Claim7.holds Tryd.pinned (.plain (OpenSpec.upto probeTwinsSpec)) probeTwinsUptoCard
end Rows
end Go.Proofs.YtnceajabigdleaaDoor
