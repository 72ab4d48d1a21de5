/-
  No cell of these rows narrows 'for every input' (looked for: loops, veiled, ifaces, maps, wideKeys, modest, calm, conditions, laid).
  DERIVED. THE GIVEN ROWS OF THIS SEAT. 10 by the template 'for every input the law returns true; each argument reads behind the call as it read before'; 0 by the template 'total and deterministic' (their statements: YtkglnnkghillpaaTotals.lean).
  GIVEN WITH THE SEED: the statements are not yours to turn. If you find one false, say at which input.
  Laid BY PROGRAM, IN A SANDBOX (cutbox-rows.mjs): the forced cells as the released guide's own fill.sh prints them over the translation 30e2ca3bf67d84ef… (all of the seat's roots in one cut). By AI agents, Wed Nov 11 2026. No macro, syntax, notation, axiom, sorry.
-/
import Derived.Test.YtkglnnkghillpaaChecked
import GoSem.Claim
import GoSem.ClaimJoined
import GoSem.ClaimMapViews
import Derived.JoinedTies
import Derived.KernelRfl
namespace Go.Proofs.Ytkglnnkghillpaa
/- THE CELL 'sum', in the pinned program and in every row, IS THE sha256 OF THE DUMP (.gsa) THAT YtkglnnkghillpaaProg.lean LOADS. Nothing in Lean hashes anything: it is a label: what it is worth is what the hold of that sum in a sandbox is worth. -/
noncomputable def Try.pinned : Pinned := { name := "ytkglnnkghillpaa", sum := "30e2ca3bf67d84ef1d3096aa5141efe1c6cdec2d67846e74d8f6e3afaf1ae7a2", checked := Try.checked }
namespace Rows
def none {H : Type} : Left H := { results := [], args := [] }

/-- 'photonmeshlaw03.MeshUnitary': WHATEVER THE INPUT: true; the input reads as it did. -/
def meshUnitarySpec : ChangeSpec := { name := "meshUnitary", fn := fun _ => fun
  | [d1, d2] => { results := [.lit (.bool true)], args := [d1, d2] }
  | _ => none }
def meshUnitaryRow : OpenClaim := { program := "ytkglnnkghillpaa", sum := "30e2ca3bf67d84ef1d3096aa5141efe1c6cdec2d67846e74d8f6e3afaf1ae7a2", func := "photonmesh/photonmeshlaw03.MeshUnitary", spec := "meshUnitary", unfollowed := true, recurses := true, apart := false }
def MeshUnitarySaid : Prop := meshUnitaryRow.holds Try.pinned (OpenSpec.ofChange meshUnitarySpec)

/-- ITS FALSE NEIGHBOUR: 'it returns false'. Refute it at one input. -/
def meshUnitaryWrong : ChangeSpec := { name := "meshUnitary", fn := fun _ => fun
  | [d1, d2] => { results := [.lit (.bool false)], args := [d1, d2] }
  | _ => none }
def MeshUnitaryWrongFalsely : Prop := meshUnitaryRow.holds Try.pinned (OpenSpec.ofChange meshUnitaryWrong)

/-- 'photonmeshlaw03.MeshInverts': WHATEVER THE INPUT: true; the input reads as it did. -/
def meshInvertsSpec : ChangeSpec := { name := "meshInverts", fn := fun _ => fun
  | [d1, d2] => { results := [.lit (.bool true)], args := [d1, d2] }
  | _ => none }
def meshInvertsRow : OpenClaim := { program := "ytkglnnkghillpaa", sum := "30e2ca3bf67d84ef1d3096aa5141efe1c6cdec2d67846e74d8f6e3afaf1ae7a2", func := "photonmesh/photonmeshlaw03.MeshInverts", spec := "meshInverts", unfollowed := true, recurses := true, apart := false }
def MeshInvertsSaid : Prop := meshInvertsRow.holds Try.pinned (OpenSpec.ofChange meshInvertsSpec)

/-- ITS FALSE NEIGHBOUR: 'it returns false'. Refute it at one input. -/
def meshInvertsWrong : ChangeSpec := { name := "meshInverts", fn := fun _ => fun
  | [d1, d2] => { results := [.lit (.bool false)], args := [d1, d2] }
  | _ => none }
def MeshInvertsWrongFalsely : Prop := meshInvertsRow.holds Try.pinned (OpenSpec.ofChange meshInvertsWrong)

/-- 'photonmeshlaw03.MeshMatrices': WHATEVER THE INPUT: true; the input reads as it did. -/
def meshMatricesSpec : ChangeSpec := { name := "meshMatrices", fn := fun _ => fun
  | [d] => { results := [.lit (.bool true)], args := [d] }
  | _ => none }
def meshMatricesRow : OpenClaim := { program := "ytkglnnkghillpaa", sum := "30e2ca3bf67d84ef1d3096aa5141efe1c6cdec2d67846e74d8f6e3afaf1ae7a2", func := "photonmesh/photonmeshlaw03.MeshMatrices", spec := "meshMatrices", unfollowed := true, recurses := true, apart := false }
def MeshMatricesSaid : Prop := meshMatricesRow.holds Try.pinned (OpenSpec.ofChange meshMatricesSpec)

/-- ITS FALSE NEIGHBOUR: 'it returns false'. Refute it at one input. -/
def meshMatricesWrong : ChangeSpec := { name := "meshMatrices", fn := fun _ => fun
  | [d] => { results := [.lit (.bool false)], args := [d] }
  | _ => none }
def MeshMatricesWrongFalsely : Prop := meshMatricesRow.holds Try.pinned (OpenSpec.ofChange meshMatricesWrong)

/-- 'photonmeshlaw03.MeshColumns': WHATEVER THE INPUT: true; the input reads as it did. -/
def meshColumnsSpec : ChangeSpec := { name := "meshColumns", fn := fun _ => fun
  | [d1, d2] => { results := [.lit (.bool true)], args := [d1, d2] }
  | _ => none }
def meshColumnsRow : OpenClaim := { program := "ytkglnnkghillpaa", sum := "30e2ca3bf67d84ef1d3096aa5141efe1c6cdec2d67846e74d8f6e3afaf1ae7a2", func := "photonmesh/photonmeshlaw03.MeshColumns", spec := "meshColumns", unfollowed := true, recurses := true, apart := false }
def MeshColumnsSaid : Prop := meshColumnsRow.holds Try.pinned (OpenSpec.ofChange meshColumnsSpec)

/-- ITS FALSE NEIGHBOUR: 'it returns false'. Refute it at one input. -/
def meshColumnsWrong : ChangeSpec := { name := "meshColumns", fn := fun _ => fun
  | [d1, d2] => { results := [.lit (.bool false)], args := [d1, d2] }
  | _ => none }
def MeshColumnsWrongFalsely : Prop := meshColumnsRow.holds Try.pinned (OpenSpec.ofChange meshColumnsWrong)

/-- 'photonmeshlaw03.MeshSorts': WHATEVER THE INPUT: true; the input reads as it did. -/
def meshSortsSpec : ChangeSpec := { name := "meshSorts", fn := fun _ => fun
  | [d1, d2] => { results := [.lit (.bool true)], args := [d1, d2] }
  | _ => none }
def meshSortsRow : OpenClaim := { program := "ytkglnnkghillpaa", sum := "30e2ca3bf67d84ef1d3096aa5141efe1c6cdec2d67846e74d8f6e3afaf1ae7a2", func := "photonmesh/photonmeshlaw03.MeshSorts", spec := "meshSorts", unfollowed := true, recurses := true, apart := false }
def MeshSortsSaid : Prop := meshSortsRow.holds Try.pinned (OpenSpec.ofChange meshSortsSpec)

/-- ITS FALSE NEIGHBOUR: 'it returns false'. Refute it at one input. -/
def meshSortsWrong : ChangeSpec := { name := "meshSorts", fn := fun _ => fun
  | [d1, d2] => { results := [.lit (.bool false)], args := [d1, d2] }
  | _ => none }
def MeshSortsWrongFalsely : Prop := meshSortsRow.holds Try.pinned (OpenSpec.ofChange meshSortsWrong)

/-- 'photonmeshlaw03.MeshItems': WHATEVER THE INPUT: true; the input reads as it did. -/
def meshItemsSpec : ChangeSpec := { name := "meshItems", fn := fun _ => fun
  | [d1, d2, d3] => { results := [.lit (.bool true)], args := [d1, d2, d3] }
  | _ => none }
def meshItemsRow : OpenClaim := { program := "ytkglnnkghillpaa", sum := "30e2ca3bf67d84ef1d3096aa5141efe1c6cdec2d67846e74d8f6e3afaf1ae7a2", func := "photonmesh/photonmeshlaw03.MeshItems", spec := "meshItems", unfollowed := true, recurses := true, apart := false }
def MeshItemsSaid : Prop := meshItemsRow.holds Try.pinned (OpenSpec.ofChange meshItemsSpec)

/-- ITS FALSE NEIGHBOUR: 'it returns false'. Refute it at one input. -/
def meshItemsWrong : ChangeSpec := { name := "meshItems", fn := fun _ => fun
  | [d1, d2, d3] => { results := [.lit (.bool false)], args := [d1, d2, d3] }
  | _ => none }
def MeshItemsWrongFalsely : Prop := meshItemsRow.holds Try.pinned (OpenSpec.ofChange meshItemsWrong)

/-- 'photonmeshlaw03.MeshJoins': WHATEVER THE INPUT: true; the input reads as it did. -/
def meshJoinsSpec : ChangeSpec := { name := "meshJoins", fn := fun _ => fun
  | [d1, d2, d3, d4] => { results := [.lit (.bool true)], args := [d1, d2, d3, d4] }
  | _ => none }
def meshJoinsRow : OpenClaim := { program := "ytkglnnkghillpaa", sum := "30e2ca3bf67d84ef1d3096aa5141efe1c6cdec2d67846e74d8f6e3afaf1ae7a2", func := "photonmesh/photonmeshlaw03.MeshJoins", spec := "meshJoins", unfollowed := true, recurses := true, apart := false }
def MeshJoinsSaid : Prop := meshJoinsRow.holds Try.pinned (OpenSpec.ofChange meshJoinsSpec)

/-- ITS FALSE NEIGHBOUR: 'it returns false'. Refute it at one input. -/
def meshJoinsWrong : ChangeSpec := { name := "meshJoins", fn := fun _ => fun
  | [d1, d2, d3, d4] => { results := [.lit (.bool false)], args := [d1, d2, d3, d4] }
  | _ => none }
def MeshJoinsWrongFalsely : Prop := meshJoinsRow.holds Try.pinned (OpenSpec.ofChange meshJoinsWrong)

/-- 'photonmeshlaw03.MeshTidies': WHATEVER THE INPUT: true; the input reads as it did. -/
def meshTidiesSpec : ChangeSpec := { name := "meshTidies", fn := fun _ => fun
  | [d1, d2] => { results := [.lit (.bool true)], args := [d1, d2] }
  | _ => none }
def meshTidiesRow : OpenClaim := { program := "ytkglnnkghillpaa", sum := "30e2ca3bf67d84ef1d3096aa5141efe1c6cdec2d67846e74d8f6e3afaf1ae7a2", func := "photonmesh/photonmeshlaw03.MeshTidies", spec := "meshTidies", unfollowed := true, recurses := true, apart := false }
def MeshTidiesSaid : Prop := meshTidiesRow.holds Try.pinned (OpenSpec.ofChange meshTidiesSpec)

/-- ITS FALSE NEIGHBOUR: 'it returns false'. Refute it at one input. -/
def meshTidiesWrong : ChangeSpec := { name := "meshTidies", fn := fun _ => fun
  | [d1, d2] => { results := [.lit (.bool false)], args := [d1, d2] }
  | _ => none }
def MeshTidiesWrongFalsely : Prop := meshTidiesRow.holds Try.pinned (OpenSpec.ofChange meshTidiesWrong)

/-- 'photonmeshlaw03.MeshFlats': WHATEVER THE INPUT: true; the input reads as it did. -/
def meshFlatsSpec : ChangeSpec := { name := "meshFlats", fn := fun _ => fun
  | [d] => { results := [.lit (.bool true)], args := [d] }
  | _ => none }
def meshFlatsRow : OpenClaim := { program := "ytkglnnkghillpaa", sum := "30e2ca3bf67d84ef1d3096aa5141efe1c6cdec2d67846e74d8f6e3afaf1ae7a2", func := "photonmesh/photonmeshlaw03.MeshFlats", spec := "meshFlats", unfollowed := true, recurses := true, apart := false }
def MeshFlatsSaid : Prop := meshFlatsRow.holds Try.pinned (OpenSpec.ofChange meshFlatsSpec)

/-- ITS FALSE NEIGHBOUR: 'it returns false'. Refute it at one input. -/
def meshFlatsWrong : ChangeSpec := { name := "meshFlats", fn := fun _ => fun
  | [d] => { results := [.lit (.bool false)], args := [d] }
  | _ => none }
def MeshFlatsWrongFalsely : Prop := meshFlatsRow.holds Try.pinned (OpenSpec.ofChange meshFlatsWrong)

/-- 'photonmeshlaw03.MeshChanges': WHATEVER THE INPUT: true; the input reads as it did. -/
def meshChangesSpec : ChangeSpec := { name := "meshChanges", fn := fun _ => fun
  | [d1, d2, d3, d4] => { results := [.lit (.bool true)], args := [d1, d2, d3, d4] }
  | _ => none }
def meshChangesRow : OpenClaim := { program := "ytkglnnkghillpaa", sum := "30e2ca3bf67d84ef1d3096aa5141efe1c6cdec2d67846e74d8f6e3afaf1ae7a2", func := "photonmesh/photonmeshlaw03.MeshChanges", spec := "meshChanges", unfollowed := true, recurses := true, apart := false }
def MeshChangesSaid : Prop := meshChangesRow.holds Try.pinned (OpenSpec.ofChange meshChangesSpec)

/-- ITS FALSE NEIGHBOUR: 'it returns false'. Refute it at one input. -/
def meshChangesWrong : ChangeSpec := { name := "meshChanges", fn := fun _ => fun
  | [d1, d2, d3, d4] => { results := [.lit (.bool false)], args := [d1, d2, d3, d4] }
  | _ => none }
def MeshChangesWrongFalsely : Prop := meshChangesRow.holds Try.pinned (OpenSpec.ofChange meshChangesWrong)

/- THE SECOND FORM. 'bulk': how many values and letters a reading holds, each counted each time it is reached (what is shared counts as often as it is met; a slice's spare places count too). A statement '..UptoSaid' is the law's where the arguments, and the package variables that the reading takes, are together of bulk at most 1048576: NARROWER than '..Said'. Prove '..Said' where nothing that the law and all that it calls make is longer than what came in: it says more and counts as full. Else prove '..UptoSaid'. A law counts once. -/
mutual
def uptoBulk {H : Type} : DataW H → Nat
  | .lit (.string bytes) => bytes.length + 1
  | .lit _ => 1
  | .nil => 1
  | .ptr d => uptoBulk d + 1
  | .slice elems spare => uptoBulkAll elems + uptoBulkAll spare + 1
  | .agg parts => uptoBulkAll parts + 1
  | .iface _ d => uptoBulk d + 1
  | .map entries => uptoBulkEntries entries + 1
  | .held _ => 1
def uptoBulkAll {H : Type} : List (DataW H) → Nat
  | [] => 0
  | d :: r => uptoBulk d + uptoBulkAll r
def uptoBulkEntries {H : Type} : List (Lit × DataW H) → Nat
  | [] => 0
  | x :: r => uptoBulkEntry x + uptoBulkEntries r
def uptoBulkEntry {H : Type} : Lit × DataW H → Nat
  | (.string bytes, d) => bytes.length + uptoBulk d + 1
  | (_, d) => uptoBulk d + 1
 end
def uptoSmall : (H : Type) → List (DataW H) → Bool := fun _ ds => decide (uptoBulkAll ds ≤ 1048576)
def OpenSpec.upto (s : _root_.Go.ChangeSpec) : _root_.Go.OpenSpec := { _root_.Go.OpenSpec.ofChange s with cond := some uptoSmall }

/-- 'photonmeshlaw03.MeshUnitary', WHERE WHAT IT READS IS OF BULK AT MOST 1048576: true; the input reads as it did. -/
def meshUnitaryUptoRow : OpenClaim := { program := "ytkglnnkghillpaa", sum := "30e2ca3bf67d84ef1d3096aa5141efe1c6cdec2d67846e74d8f6e3afaf1ae7a2", func := "photonmesh/photonmeshlaw03.MeshUnitary", spec := "meshUnitary", unfollowed := true, recurses := true, apart := false, narrowed := true }
def MeshUnitaryUptoSaid : Prop := meshUnitaryUptoRow.holds Try.pinned (OpenSpec.upto meshUnitarySpec)

/-- 'photonmeshlaw03.MeshInverts', WHERE WHAT IT READS IS OF BULK AT MOST 1048576: true; the input reads as it did. -/
def meshInvertsUptoRow : OpenClaim := { program := "ytkglnnkghillpaa", sum := "30e2ca3bf67d84ef1d3096aa5141efe1c6cdec2d67846e74d8f6e3afaf1ae7a2", func := "photonmesh/photonmeshlaw03.MeshInverts", spec := "meshInverts", unfollowed := true, recurses := true, apart := false, narrowed := true }
def MeshInvertsUptoSaid : Prop := meshInvertsUptoRow.holds Try.pinned (OpenSpec.upto meshInvertsSpec)

/-- 'photonmeshlaw03.MeshMatrices', WHERE WHAT IT READS IS OF BULK AT MOST 1048576: true; the input reads as it did. -/
def meshMatricesUptoRow : OpenClaim := { program := "ytkglnnkghillpaa", sum := "30e2ca3bf67d84ef1d3096aa5141efe1c6cdec2d67846e74d8f6e3afaf1ae7a2", func := "photonmesh/photonmeshlaw03.MeshMatrices", spec := "meshMatrices", unfollowed := true, recurses := true, apart := false, narrowed := true }
def MeshMatricesUptoSaid : Prop := meshMatricesUptoRow.holds Try.pinned (OpenSpec.upto meshMatricesSpec)

/-- 'photonmeshlaw03.MeshColumns', WHERE WHAT IT READS IS OF BULK AT MOST 1048576: true; the input reads as it did. -/
def meshColumnsUptoRow : OpenClaim := { program := "ytkglnnkghillpaa", sum := "30e2ca3bf67d84ef1d3096aa5141efe1c6cdec2d67846e74d8f6e3afaf1ae7a2", func := "photonmesh/photonmeshlaw03.MeshColumns", spec := "meshColumns", unfollowed := true, recurses := true, apart := false, narrowed := true }
def MeshColumnsUptoSaid : Prop := meshColumnsUptoRow.holds Try.pinned (OpenSpec.upto meshColumnsSpec)

/-- 'photonmeshlaw03.MeshSorts', WHERE WHAT IT READS IS OF BULK AT MOST 1048576: true; the input reads as it did. -/
def meshSortsUptoRow : OpenClaim := { program := "ytkglnnkghillpaa", sum := "30e2ca3bf67d84ef1d3096aa5141efe1c6cdec2d67846e74d8f6e3afaf1ae7a2", func := "photonmesh/photonmeshlaw03.MeshSorts", spec := "meshSorts", unfollowed := true, recurses := true, apart := false, narrowed := true }
def MeshSortsUptoSaid : Prop := meshSortsUptoRow.holds Try.pinned (OpenSpec.upto meshSortsSpec)

/-- 'photonmeshlaw03.MeshItems', WHERE WHAT IT READS IS OF BULK AT MOST 1048576: true; the input reads as it did. -/
def meshItemsUptoRow : OpenClaim := { program := "ytkglnnkghillpaa", sum := "30e2ca3bf67d84ef1d3096aa5141efe1c6cdec2d67846e74d8f6e3afaf1ae7a2", func := "photonmesh/photonmeshlaw03.MeshItems", spec := "meshItems", unfollowed := true, recurses := true, apart := false, narrowed := true }
def MeshItemsUptoSaid : Prop := meshItemsUptoRow.holds Try.pinned (OpenSpec.upto meshItemsSpec)

/-- 'photonmeshlaw03.MeshJoins', WHERE WHAT IT READS IS OF BULK AT MOST 1048576: true; the input reads as it did. -/
def meshJoinsUptoRow : OpenClaim := { program := "ytkglnnkghillpaa", sum := "30e2ca3bf67d84ef1d3096aa5141efe1c6cdec2d67846e74d8f6e3afaf1ae7a2", func := "photonmesh/photonmeshlaw03.MeshJoins", spec := "meshJoins", unfollowed := true, recurses := true, apart := false, narrowed := true }
def MeshJoinsUptoSaid : Prop := meshJoinsUptoRow.holds Try.pinned (OpenSpec.upto meshJoinsSpec)

/-- 'photonmeshlaw03.MeshTidies', WHERE WHAT IT READS IS OF BULK AT MOST 1048576: true; the input reads as it did. -/
def meshTidiesUptoRow : OpenClaim := { program := "ytkglnnkghillpaa", sum := "30e2ca3bf67d84ef1d3096aa5141efe1c6cdec2d67846e74d8f6e3afaf1ae7a2", func := "photonmesh/photonmeshlaw03.MeshTidies", spec := "meshTidies", unfollowed := true, recurses := true, apart := false, narrowed := true }
def MeshTidiesUptoSaid : Prop := meshTidiesUptoRow.holds Try.pinned (OpenSpec.upto meshTidiesSpec)

/-- 'photonmeshlaw03.MeshFlats', WHERE WHAT IT READS IS OF BULK AT MOST 1048576: true; the input reads as it did. -/
def meshFlatsUptoRow : OpenClaim := { program := "ytkglnnkghillpaa", sum := "30e2ca3bf67d84ef1d3096aa5141efe1c6cdec2d67846e74d8f6e3afaf1ae7a2", func := "photonmesh/photonmeshlaw03.MeshFlats", spec := "meshFlats", unfollowed := true, recurses := true, apart := false, narrowed := true }
def MeshFlatsUptoSaid : Prop := meshFlatsUptoRow.holds Try.pinned (OpenSpec.upto meshFlatsSpec)

/-- 'photonmeshlaw03.MeshChanges', WHERE WHAT IT READS IS OF BULK AT MOST 1048576: true; the input reads as it did. -/
def meshChangesUptoRow : OpenClaim := { program := "ytkglnnkghillpaa", sum := "30e2ca3bf67d84ef1d3096aa5141efe1c6cdec2d67846e74d8f6e3afaf1ae7a2", func := "photonmesh/photonmeshlaw03.MeshChanges", spec := "meshChanges", unfollowed := true, recurses := true, apart := false, narrowed := true }
def MeshChangesUptoSaid : Prop := meshChangesUptoRow.holds Try.pinned (OpenSpec.upto meshChangesSpec)

end Rows
end Go.Proofs.Ytkglnnkghillpaa
