/-
  No cell of these rows narrows 'for every input' (looked for: loops, veiled, ifaces, maps, wideKeys, modest, calm, conditions, laid).
  DERIVED. THE GIVEN ROWS OF THIS SEAT. 12 by the template 'for every input the law returns true; each argument reads behind the call as it read before'; 0 by the template 'total and deterministic' (their statements: YtmphmfhmcgpjcaaTotals.lean).
  GIVEN WITH THE SEED: the statements are not yours to turn. If you find one false, say at which input.
  Laid BY PROGRAM, IN A SANDBOX (cutbox-rows.mjs): the forced cells as the released guide's own fill.sh prints them over the translation 78314cfccb78daa5… (all of the seat's roots in one cut). By AI agents, Wed Nov 11 2026. No macro, syntax, notation, axiom, sorry.
-/
import Derived.Test.YtmphmfhmcgpjcaaChecked
import GoSem.Claim
import GoSem.ClaimJoined
import GoSem.ClaimMapViews
import Derived.JoinedTies
import Derived.KernelRfl
namespace Go.Proofs.Ytmphmfhmcgpjcaa
/- THE CELL 'sum', in the pinned program and in every row, IS THE sha256 OF THE DUMP (.gsa) THAT YtmphmfhmcgpjcaaProg.lean LOADS. Nothing in Lean hashes anything: it is a label: what it is worth is what the hold of that sum in a sandbox is worth. -/
noncomputable def Try.pinned : Pinned := { name := "ytmphmfhmcgpjcaa", sum := "78314cfccb78daa58009c04e381560b7ad49f2dbf6aae5b74983486ff7756b98", checked := Try.checked }
namespace Rows
def none {H : Type} : Left H := { results := [], args := [] }

/-- 'photonmeshlaw01.AmpForms': WHATEVER THE INPUT: true; the input reads as it did. -/
def ampFormsSpec : ChangeSpec := { name := "ampForms", fn := fun _ => fun
  | [d1, d2, d3] => { results := [.lit (.bool true)], args := [d1, d2, d3] }
  | _ => none }
def ampFormsRow : OpenClaim := { program := "ytmphmfhmcgpjcaa", sum := "78314cfccb78daa58009c04e381560b7ad49f2dbf6aae5b74983486ff7756b98", func := "photonmesh/photonmeshlaw01.AmpForms", spec := "ampForms", apart := false }
def AmpFormsSaid : Prop := ampFormsRow.holds Try.pinned (OpenSpec.ofChange ampFormsSpec)

/-- ITS FALSE NEIGHBOUR: 'it returns false'. Refute it at one input. -/
def ampFormsWrong : ChangeSpec := { name := "ampForms", fn := fun _ => fun
  | [d1, d2, d3] => { results := [.lit (.bool false)], args := [d1, d2, d3] }
  | _ => none }
def AmpFormsWrongFalsely : Prop := ampFormsRow.holds Try.pinned (OpenSpec.ofChange ampFormsWrong)

/-- 'photonmeshlaw01.AmpProducts': WHATEVER THE INPUT: true; the input reads as it did. -/
def ampProductsSpec : ChangeSpec := { name := "ampProducts", fn := fun _ => fun
  | [d1, d2] => { results := [.lit (.bool true)], args := [d1, d2] }
  | _ => none }
def ampProductsRow : OpenClaim := { program := "ytmphmfhmcgpjcaa", sum := "78314cfccb78daa58009c04e381560b7ad49f2dbf6aae5b74983486ff7756b98", func := "photonmesh/photonmeshlaw01.AmpProducts", spec := "ampProducts", apart := false }
def AmpProductsSaid : Prop := ampProductsRow.holds Try.pinned (OpenSpec.ofChange ampProductsSpec)

/-- ITS FALSE NEIGHBOUR: 'it returns false'. Refute it at one input. -/
def ampProductsWrong : ChangeSpec := { name := "ampProducts", fn := fun _ => fun
  | [d1, d2] => { results := [.lit (.bool false)], args := [d1, d2] }
  | _ => none }
def AmpProductsWrongFalsely : Prop := ampProductsRow.holds Try.pinned (OpenSpec.ofChange ampProductsWrong)

/-- 'photonmeshlaw01.AmpTurns': WHATEVER THE INPUT: true; the input reads as it did. -/
def ampTurnsSpec : ChangeSpec := { name := "ampTurns", fn := fun _ => fun
  | [d1, d2, d3] => { results := [.lit (.bool true)], args := [d1, d2, d3] }
  | _ => none }
def ampTurnsRow : OpenClaim := { program := "ytmphmfhmcgpjcaa", sum := "78314cfccb78daa58009c04e381560b7ad49f2dbf6aae5b74983486ff7756b98", func := "photonmesh/photonmeshlaw01.AmpTurns", spec := "ampTurns", unfollowed := true, recurses := true, apart := false }
def AmpTurnsSaid : Prop := ampTurnsRow.holds Try.pinned (OpenSpec.ofChange ampTurnsSpec)

/-- ITS FALSE NEIGHBOUR: 'it returns false'. Refute it at one input. -/
def ampTurnsWrong : ChangeSpec := { name := "ampTurns", fn := fun _ => fun
  | [d1, d2, d3] => { results := [.lit (.bool false)], args := [d1, d2, d3] }
  | _ => none }
def AmpTurnsWrongFalsely : Prop := ampTurnsRow.holds Try.pinned (OpenSpec.ofChange ampTurnsWrong)

/-- 'photonmeshlaw01.AmpLists': WHATEVER THE INPUT: true; the input reads as it did. -/
def ampListsSpec : ChangeSpec := { name := "ampLists", fn := fun _ => fun
  | [d] => { results := [.lit (.bool true)], args := [d] }
  | _ => none }
def ampListsRow : OpenClaim := { program := "ytmphmfhmcgpjcaa", sum := "78314cfccb78daa58009c04e381560b7ad49f2dbf6aae5b74983486ff7756b98", func := "photonmesh/photonmeshlaw01.AmpLists", spec := "ampLists", apart := false }
def AmpListsSaid : Prop := ampListsRow.holds Try.pinned (OpenSpec.ofChange ampListsSpec)

/-- ITS FALSE NEIGHBOUR: 'it returns false'. Refute it at one input. -/
def ampListsWrong : ChangeSpec := { name := "ampLists", fn := fun _ => fun
  | [d] => { results := [.lit (.bool false)], args := [d] }
  | _ => none }
def AmpListsWrongFalsely : Prop := ampListsRow.holds Try.pinned (OpenSpec.ofChange ampListsWrong)

/-- 'photonmeshlaw01.AmpSums': WHATEVER THE INPUT: true; the input reads as it did. -/
def ampSumsSpec : ChangeSpec := { name := "ampSums", fn := fun _ => fun
  | [d1, d2] => { results := [.lit (.bool true)], args := [d1, d2] }
  | _ => none }
def ampSumsRow : OpenClaim := { program := "ytmphmfhmcgpjcaa", sum := "78314cfccb78daa58009c04e381560b7ad49f2dbf6aae5b74983486ff7756b98", func := "photonmesh/photonmeshlaw01.AmpSums", spec := "ampSums", apart := false }
def AmpSumsSaid : Prop := ampSumsRow.holds Try.pinned (OpenSpec.ofChange ampSumsSpec)

/-- ITS FALSE NEIGHBOUR: 'it returns false'. Refute it at one input. -/
def ampSumsWrong : ChangeSpec := { name := "ampSums", fn := fun _ => fun
  | [d1, d2] => { results := [.lit (.bool false)], args := [d1, d2] }
  | _ => none }
def AmpSumsWrongFalsely : Prop := ampSumsRow.holds Try.pinned (OpenSpec.ofChange ampSumsWrong)

/-- 'photonmeshlaw01.AmpMirrors': WHATEVER THE INPUT: true; the input reads as it did. -/
def ampMirrorsSpec : ChangeSpec := { name := "ampMirrors", fn := fun _ => fun
  | [d1, d2, d3] => { results := [.lit (.bool true)], args := [d1, d2, d3] }
  | _ => none }
def ampMirrorsRow : OpenClaim := { program := "ytmphmfhmcgpjcaa", sum := "78314cfccb78daa58009c04e381560b7ad49f2dbf6aae5b74983486ff7756b98", func := "photonmesh/photonmeshlaw01.AmpMirrors", spec := "ampMirrors", unfollowed := true, recurses := true, apart := false }
def AmpMirrorsSaid : Prop := ampMirrorsRow.holds Try.pinned (OpenSpec.ofChange ampMirrorsSpec)

/-- ITS FALSE NEIGHBOUR: 'it returns false'. Refute it at one input. -/
def ampMirrorsWrong : ChangeSpec := { name := "ampMirrors", fn := fun _ => fun
  | [d1, d2, d3] => { results := [.lit (.bool false)], args := [d1, d2, d3] }
  | _ => none }
def AmpMirrorsWrongFalsely : Prop := ampMirrorsRow.holds Try.pinned (OpenSpec.ofChange ampMirrorsWrong)

/-- 'photonmeshlaw01.AmpLaws': WHATEVER THE INPUT: true; the input reads as it did. -/
def ampLawsSpec : ChangeSpec := { name := "ampLaws", fn := fun _ => fun
  | [d1, d2, d3] => { results := [.lit (.bool true)], args := [d1, d2, d3] }
  | _ => none }
def ampLawsRow : OpenClaim := { program := "ytmphmfhmcgpjcaa", sum := "78314cfccb78daa58009c04e381560b7ad49f2dbf6aae5b74983486ff7756b98", func := "photonmesh/photonmeshlaw01.AmpLaws", spec := "ampLaws", apart := false }
def AmpLawsSaid : Prop := ampLawsRow.holds Try.pinned (OpenSpec.ofChange ampLawsSpec)

/-- ITS FALSE NEIGHBOUR: 'it returns false'. Refute it at one input. -/
def ampLawsWrong : ChangeSpec := { name := "ampLaws", fn := fun _ => fun
  | [d1, d2, d3] => { results := [.lit (.bool false)], args := [d1, d2, d3] }
  | _ => none }
def AmpLawsWrongFalsely : Prop := ampLawsRow.holds Try.pinned (OpenSpec.ofChange ampLawsWrong)

/-- 'photonmeshlaw01.AmpBounds': WHATEVER THE INPUT: true; the input reads as it did. -/
def ampBoundsSpec : ChangeSpec := { name := "ampBounds", fn := fun _ => fun
  | [d1, d2] => { results := [.lit (.bool true)], args := [d1, d2] }
  | _ => none }
def ampBoundsRow : OpenClaim := { program := "ytmphmfhmcgpjcaa", sum := "78314cfccb78daa58009c04e381560b7ad49f2dbf6aae5b74983486ff7756b98", func := "photonmesh/photonmeshlaw01.AmpBounds", spec := "ampBounds", inPlace := ["math/bits.Add64"], recurses := true, apart := false }
def AmpBoundsSaid : Prop := ampBoundsRow.holds Try.pinned (OpenSpec.ofChange ampBoundsSpec)

/-- ITS FALSE NEIGHBOUR: 'it returns false'. Refute it at one input. -/
def ampBoundsWrong : ChangeSpec := { name := "ampBounds", fn := fun _ => fun
  | [d1, d2] => { results := [.lit (.bool false)], args := [d1, d2] }
  | _ => none }
def AmpBoundsWrongFalsely : Prop := ampBoundsRow.holds Try.pinned (OpenSpec.ofChange ampBoundsWrong)

/-- 'photonmeshlaw01.AmpNarrows': WHATEVER THE INPUT: true; the input reads as it did. -/
def ampNarrowsSpec : ChangeSpec := { name := "ampNarrows", fn := fun _ => fun
  | [d1, d2, d3] => { results := [.lit (.bool true)], args := [d1, d2, d3] }
  | _ => none }
def ampNarrowsRow : OpenClaim := { program := "ytmphmfhmcgpjcaa", sum := "78314cfccb78daa58009c04e381560b7ad49f2dbf6aae5b74983486ff7756b98", func := "photonmesh/photonmeshlaw01.AmpNarrows", spec := "ampNarrows", inPlace := ["math/bits.Add64"], apart := false }
def AmpNarrowsSaid : Prop := ampNarrowsRow.holds Try.pinned (OpenSpec.ofChange ampNarrowsSpec)

/-- ITS FALSE NEIGHBOUR: 'it returns false'. Refute it at one input. -/
def ampNarrowsWrong : ChangeSpec := { name := "ampNarrows", fn := fun _ => fun
  | [d1, d2, d3] => { results := [.lit (.bool false)], args := [d1, d2, d3] }
  | _ => none }
def AmpNarrowsWrongFalsely : Prop := ampNarrowsRow.holds Try.pinned (OpenSpec.ofChange ampNarrowsWrong)

/-- 'photonmeshlaw01.AmpOrders': WHATEVER THE INPUT: true; the input reads as it did. -/
def ampOrdersSpec : ChangeSpec := { name := "ampOrders", fn := fun _ => fun
  | [d1, d2] => { results := [.lit (.bool true)], args := [d1, d2] }
  | _ => none }
def ampOrdersRow : OpenClaim := { program := "ytmphmfhmcgpjcaa", sum := "78314cfccb78daa58009c04e381560b7ad49f2dbf6aae5b74983486ff7756b98", func := "photonmesh/photonmeshlaw01.AmpOrders", spec := "ampOrders", inPlace := ["math/bits.Add64"], recurses := true, apart := false }
def AmpOrdersSaid : Prop := ampOrdersRow.holds Try.pinned (OpenSpec.ofChange ampOrdersSpec)

/-- ITS FALSE NEIGHBOUR: 'it returns false'. Refute it at one input. -/
def ampOrdersWrong : ChangeSpec := { name := "ampOrders", fn := fun _ => fun
  | [d1, d2] => { results := [.lit (.bool false)], args := [d1, d2] }
  | _ => none }
def AmpOrdersWrongFalsely : Prop := ampOrdersRow.holds Try.pinned (OpenSpec.ofChange ampOrdersWrong)

/-- 'photonmeshlaw01.AmpRanks': WHATEVER THE INPUT: true; the input reads as it did. -/
def ampRanksSpec : ChangeSpec := { name := "ampRanks", fn := fun _ => fun
  | [d1, d2, d3] => { results := [.lit (.bool true)], args := [d1, d2, d3] }
  | _ => none }
def ampRanksRow : OpenClaim := { program := "ytmphmfhmcgpjcaa", sum := "78314cfccb78daa58009c04e381560b7ad49f2dbf6aae5b74983486ff7756b98", func := "photonmesh/photonmeshlaw01.AmpRanks", spec := "ampRanks", inPlace := ["math/bits.Add64"], apart := false }
def AmpRanksSaid : Prop := ampRanksRow.holds Try.pinned (OpenSpec.ofChange ampRanksSpec)

/-- ITS FALSE NEIGHBOUR: 'it returns false'. Refute it at one input. -/
def ampRanksWrong : ChangeSpec := { name := "ampRanks", fn := fun _ => fun
  | [d1, d2, d3] => { results := [.lit (.bool false)], args := [d1, d2, d3] }
  | _ => none }
def AmpRanksWrongFalsely : Prop := ampRanksRow.holds Try.pinned (OpenSpec.ofChange ampRanksWrong)

/-- 'photonmeshlaw01.AmpPowers': WHATEVER THE INPUT: true; the input reads as it did. -/
def ampPowersSpec : ChangeSpec := { name := "ampPowers", fn := fun _ => fun
  | [d1, d2] => { results := [.lit (.bool true)], args := [d1, d2] }
  | _ => none }
def ampPowersRow : OpenClaim := { program := "ytmphmfhmcgpjcaa", sum := "78314cfccb78daa58009c04e381560b7ad49f2dbf6aae5b74983486ff7756b98", func := "photonmesh/photonmeshlaw01.AmpPowers", spec := "ampPowers", inPlace := ["math/bits.Add64"], unfollowed := true, recurses := true, apart := false }
def AmpPowersSaid : Prop := ampPowersRow.holds Try.pinned (OpenSpec.ofChange ampPowersSpec)

/-- ITS FALSE NEIGHBOUR: 'it returns false'. Refute it at one input. -/
def ampPowersWrong : ChangeSpec := { name := "ampPowers", fn := fun _ => fun
  | [d1, d2] => { results := [.lit (.bool false)], args := [d1, d2] }
  | _ => none }
def AmpPowersWrongFalsely : Prop := ampPowersRow.holds Try.pinned (OpenSpec.ofChange ampPowersWrong)

/- THE SECOND FORM. 'bulk': how many values and letters a reading holds, each counted each time it is reached (what is shared counts as often as it is met; a slice's spare places count too). A statement '..UptoSaid' is the law's where the arguments, and the package variables that the reading takes, are together of bulk at most 1048576: NARROWER than '..Said'. Prove '..Said' where nothing that the law and all that it calls make is longer than what came in: it says more and counts as full. Else prove '..UptoSaid'. A law counts once. -/
mutual
def uptoBulk {H : Type} : DataW H → Nat
  | .lit (.string bytes) => bytes.length + 1
  | .lit _ => 1
  | .nil => 1
  | .ptr d => uptoBulk d + 1
  | .slice elems spare => uptoBulkAll elems + uptoBulkAll spare + 1
  | .agg parts => uptoBulkAll parts + 1
  | .iface _ d => uptoBulk d + 1
  | .map entries => uptoBulkEntries entries + 1
  | .held _ => 1
def uptoBulkAll {H : Type} : List (DataW H) → Nat
  | [] => 0
  | d :: r => uptoBulk d + uptoBulkAll r
def uptoBulkEntries {H : Type} : List (Lit × DataW H) → Nat
  | [] => 0
  | x :: r => uptoBulkEntry x + uptoBulkEntries r
def uptoBulkEntry {H : Type} : Lit × DataW H → Nat
  | (.string bytes, d) => bytes.length + uptoBulk d + 1
  | (_, d) => uptoBulk d + 1
 end
def uptoSmall : (H : Type) → List (DataW H) → Bool := fun _ ds => decide (uptoBulkAll ds ≤ 1048576)
def OpenSpec.upto (s : _root_.Go.ChangeSpec) : _root_.Go.OpenSpec := { _root_.Go.OpenSpec.ofChange s with cond := some uptoSmall }

/-- 'photonmeshlaw01.AmpForms', WHERE WHAT IT READS IS OF BULK AT MOST 1048576: true; the input reads as it did. -/
def ampFormsUptoRow : OpenClaim := { program := "ytmphmfhmcgpjcaa", sum := "78314cfccb78daa58009c04e381560b7ad49f2dbf6aae5b74983486ff7756b98", func := "photonmesh/photonmeshlaw01.AmpForms", spec := "ampForms", apart := false, narrowed := true }
def AmpFormsUptoSaid : Prop := ampFormsUptoRow.holds Try.pinned (OpenSpec.upto ampFormsSpec)

/-- 'photonmeshlaw01.AmpProducts', WHERE WHAT IT READS IS OF BULK AT MOST 1048576: true; the input reads as it did. -/
def ampProductsUptoRow : OpenClaim := { program := "ytmphmfhmcgpjcaa", sum := "78314cfccb78daa58009c04e381560b7ad49f2dbf6aae5b74983486ff7756b98", func := "photonmesh/photonmeshlaw01.AmpProducts", spec := "ampProducts", apart := false, narrowed := true }
def AmpProductsUptoSaid : Prop := ampProductsUptoRow.holds Try.pinned (OpenSpec.upto ampProductsSpec)

/-- 'photonmeshlaw01.AmpTurns', WHERE WHAT IT READS IS OF BULK AT MOST 1048576: true; the input reads as it did. -/
def ampTurnsUptoRow : OpenClaim := { program := "ytmphmfhmcgpjcaa", sum := "78314cfccb78daa58009c04e381560b7ad49f2dbf6aae5b74983486ff7756b98", func := "photonmesh/photonmeshlaw01.AmpTurns", spec := "ampTurns", unfollowed := true, recurses := true, apart := false, narrowed := true }
def AmpTurnsUptoSaid : Prop := ampTurnsUptoRow.holds Try.pinned (OpenSpec.upto ampTurnsSpec)

/-- 'photonmeshlaw01.AmpLists', WHERE WHAT IT READS IS OF BULK AT MOST 1048576: true; the input reads as it did. -/
def ampListsUptoRow : OpenClaim := { program := "ytmphmfhmcgpjcaa", sum := "78314cfccb78daa58009c04e381560b7ad49f2dbf6aae5b74983486ff7756b98", func := "photonmesh/photonmeshlaw01.AmpLists", spec := "ampLists", apart := false, narrowed := true }
def AmpListsUptoSaid : Prop := ampListsUptoRow.holds Try.pinned (OpenSpec.upto ampListsSpec)

/-- 'photonmeshlaw01.AmpSums', WHERE WHAT IT READS IS OF BULK AT MOST 1048576: true; the input reads as it did. -/
def ampSumsUptoRow : OpenClaim := { program := "ytmphmfhmcgpjcaa", sum := "78314cfccb78daa58009c04e381560b7ad49f2dbf6aae5b74983486ff7756b98", func := "photonmesh/photonmeshlaw01.AmpSums", spec := "ampSums", apart := false, narrowed := true }
def AmpSumsUptoSaid : Prop := ampSumsUptoRow.holds Try.pinned (OpenSpec.upto ampSumsSpec)

/-- 'photonmeshlaw01.AmpMirrors', WHERE WHAT IT READS IS OF BULK AT MOST 1048576: true; the input reads as it did. -/
def ampMirrorsUptoRow : OpenClaim := { program := "ytmphmfhmcgpjcaa", sum := "78314cfccb78daa58009c04e381560b7ad49f2dbf6aae5b74983486ff7756b98", func := "photonmesh/photonmeshlaw01.AmpMirrors", spec := "ampMirrors", unfollowed := true, recurses := true, apart := false, narrowed := true }
def AmpMirrorsUptoSaid : Prop := ampMirrorsUptoRow.holds Try.pinned (OpenSpec.upto ampMirrorsSpec)

/-- 'photonmeshlaw01.AmpLaws', WHERE WHAT IT READS IS OF BULK AT MOST 1048576: true; the input reads as it did. -/
def ampLawsUptoRow : OpenClaim := { program := "ytmphmfhmcgpjcaa", sum := "78314cfccb78daa58009c04e381560b7ad49f2dbf6aae5b74983486ff7756b98", func := "photonmesh/photonmeshlaw01.AmpLaws", spec := "ampLaws", apart := false, narrowed := true }
def AmpLawsUptoSaid : Prop := ampLawsUptoRow.holds Try.pinned (OpenSpec.upto ampLawsSpec)

/-- 'photonmeshlaw01.AmpBounds', WHERE WHAT IT READS IS OF BULK AT MOST 1048576: true; the input reads as it did. -/
def ampBoundsUptoRow : OpenClaim := { program := "ytmphmfhmcgpjcaa", sum := "78314cfccb78daa58009c04e381560b7ad49f2dbf6aae5b74983486ff7756b98", func := "photonmesh/photonmeshlaw01.AmpBounds", spec := "ampBounds", inPlace := ["math/bits.Add64"], recurses := true, apart := false, narrowed := true }
def AmpBoundsUptoSaid : Prop := ampBoundsUptoRow.holds Try.pinned (OpenSpec.upto ampBoundsSpec)

/-- 'photonmeshlaw01.AmpNarrows', WHERE WHAT IT READS IS OF BULK AT MOST 1048576: true; the input reads as it did. -/
def ampNarrowsUptoRow : OpenClaim := { program := "ytmphmfhmcgpjcaa", sum := "78314cfccb78daa58009c04e381560b7ad49f2dbf6aae5b74983486ff7756b98", func := "photonmesh/photonmeshlaw01.AmpNarrows", spec := "ampNarrows", inPlace := ["math/bits.Add64"], apart := false, narrowed := true }
def AmpNarrowsUptoSaid : Prop := ampNarrowsUptoRow.holds Try.pinned (OpenSpec.upto ampNarrowsSpec)

/-- 'photonmeshlaw01.AmpOrders', WHERE WHAT IT READS IS OF BULK AT MOST 1048576: true; the input reads as it did. -/
def ampOrdersUptoRow : OpenClaim := { program := "ytmphmfhmcgpjcaa", sum := "78314cfccb78daa58009c04e381560b7ad49f2dbf6aae5b74983486ff7756b98", func := "photonmesh/photonmeshlaw01.AmpOrders", spec := "ampOrders", inPlace := ["math/bits.Add64"], recurses := true, apart := false, narrowed := true }
def AmpOrdersUptoSaid : Prop := ampOrdersUptoRow.holds Try.pinned (OpenSpec.upto ampOrdersSpec)

/-- 'photonmeshlaw01.AmpRanks', WHERE WHAT IT READS IS OF BULK AT MOST 1048576: true; the input reads as it did. -/
def ampRanksUptoRow : OpenClaim := { program := "ytmphmfhmcgpjcaa", sum := "78314cfccb78daa58009c04e381560b7ad49f2dbf6aae5b74983486ff7756b98", func := "photonmesh/photonmeshlaw01.AmpRanks", spec := "ampRanks", inPlace := ["math/bits.Add64"], apart := false, narrowed := true }
def AmpRanksUptoSaid : Prop := ampRanksUptoRow.holds Try.pinned (OpenSpec.upto ampRanksSpec)

/-- 'photonmeshlaw01.AmpPowers', WHERE WHAT IT READS IS OF BULK AT MOST 1048576: true; the input reads as it did. -/
def ampPowersUptoRow : OpenClaim := { program := "ytmphmfhmcgpjcaa", sum := "78314cfccb78daa58009c04e381560b7ad49f2dbf6aae5b74983486ff7756b98", func := "photonmesh/photonmeshlaw01.AmpPowers", spec := "ampPowers", inPlace := ["math/bits.Add64"], unfollowed := true, recurses := true, apart := false, narrowed := true }
def AmpPowersUptoSaid : Prop := ampPowersUptoRow.holds Try.pinned (OpenSpec.upto ampPowersSpec)

end Rows
end Go.Proofs.Ytmphmfhmcgpjcaa
