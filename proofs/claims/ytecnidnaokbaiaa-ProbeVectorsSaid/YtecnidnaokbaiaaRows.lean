/-
  No cell of these rows narrows 'for every input' (looked for: loops, veiled, ifaces, maps, wideKeys, modest, calm, conditions, laid).
  DERIVED. THE GIVEN ROWS OF THIS SEAT. 3 by the template 'for every input the law returns true; each argument reads behind the call as it read before'; 0 by the template 'total and deterministic' (their statements: YtecnidnaokbaiaaTotals.lean).
  GIVEN WITH THE SEED: the statements are not yours to turn. If you find one false, say at which input.
  Laid BY PROGRAM, IN A SANDBOX (cutbox-rows.mjs): the forced cells as the released guide's own fill.sh prints them over the translation be0ccb0510307954… (all of the seat's roots in one cut). By AI agents, Wed Nov 11 2026. No macro, syntax, notation, axiom, sorry.
-/
import Derived.Test.YtecnidnaokbaiaaChecked
import GoSem.Claim
import GoSem.ClaimJoined
import GoSem.ClaimMapViews
import Derived.JoinedTies
import Derived.KernelRfl
namespace Go.Proofs.Ytecnidnaokbaiaa
/- THE CELL 'sum', in the pinned program and in every row, IS THE sha256 OF THE DUMP (.gsa) THAT YtecnidnaokbaiaaProg.lean LOADS. Nothing in Lean hashes anything: it is a label: what it is worth is what the hold of that sum in a sandbox is worth. -/
noncomputable def Try.pinned : Pinned := { name := "ytecnidnaokbaiaa", sum := "be0ccb05103079544704402e70ccf0aeb9f200cfd01873e9a633b256ec0b1dc7", checked := Try.checked }
namespace Rows
def none {H : Type} : Left H := { results := [], args := [] }

/-- 'photonmeshlaw09.ProbeFringes': WHATEVER THE INPUT: true; the input reads as it did. -/
def probeFringesSpec : ChangeSpec := { name := "probeFringes", fn := fun _ => fun
  | [d1, d2] => { results := [.lit (.bool true)], args := [d1, d2] }
  | _ => none }
def probeFringesRow : OpenClaim := { program := "ytecnidnaokbaiaa", sum := "be0ccb05103079544704402e70ccf0aeb9f200cfd01873e9a633b256ec0b1dc7", func := "photonmesh/photonmeshlaw09.ProbeFringes", spec := "probeFringes", apart := false }
def ProbeFringesSaid : Prop := probeFringesRow.holds Try.pinned (OpenSpec.ofChange probeFringesSpec)

/-- ITS FALSE NEIGHBOUR: 'it returns false'. Refute it at one input. -/
def probeFringesWrong : ChangeSpec := { name := "probeFringes", fn := fun _ => fun
  | [d1, d2] => { results := [.lit (.bool false)], args := [d1, d2] }
  | _ => none }
def ProbeFringesWrongFalsely : Prop := probeFringesRow.holds Try.pinned (OpenSpec.ofChange probeFringesWrong)

/-- 'photonmeshlaw09.ProbeTurns': WHATEVER THE INPUT: true; the input reads as it did. -/
def probeTurnsSpec : ChangeSpec := { name := "probeTurns", fn := fun _ => fun
  | [d] => { results := [.lit (.bool true)], args := [d] }
  | _ => none }
def probeTurnsRow : OpenClaim := { program := "ytecnidnaokbaiaa", sum := "be0ccb05103079544704402e70ccf0aeb9f200cfd01873e9a633b256ec0b1dc7", func := "photonmesh/photonmeshlaw09.ProbeTurns", spec := "probeTurns", inPlace := ["math/bits.Add64"], unfollowed := true, recurses := true, apart := false }
def ProbeTurnsSaid : Prop := probeTurnsRow.holds Try.pinned (OpenSpec.ofChange probeTurnsSpec)

/-- ITS FALSE NEIGHBOUR: 'it returns false'. Refute it at one input. -/
def probeTurnsWrong : ChangeSpec := { name := "probeTurns", fn := fun _ => fun
  | [d] => { results := [.lit (.bool false)], args := [d] }
  | _ => none }
def ProbeTurnsWrongFalsely : Prop := probeTurnsRow.holds Try.pinned (OpenSpec.ofChange probeTurnsWrong)

/-- 'photonmeshlaw09.ProbeVectors': WHATEVER THE INPUT: true; the input reads as it did. -/
def probeVectorsSpec : ChangeSpec := { name := "probeVectors", fn := fun _ => fun
  | [d1, d2] => { results := [.lit (.bool true)], args := [d1, d2] }
  | _ => none }
def probeVectorsRow : OpenClaim := { program := "ytecnidnaokbaiaa", sum := "be0ccb05103079544704402e70ccf0aeb9f200cfd01873e9a633b256ec0b1dc7", func := "photonmesh/photonmeshlaw09.ProbeVectors", spec := "probeVectors", inPlace := ["math/bits.Add64"], unfollowed := true, recurses := true, apart := false }
def ProbeVectorsSaid : Prop := probeVectorsRow.holds Try.pinned (OpenSpec.ofChange probeVectorsSpec)

/-- ITS FALSE NEIGHBOUR: 'it returns false'. Refute it at one input. -/
def probeVectorsWrong : ChangeSpec := { name := "probeVectors", fn := fun _ => fun
  | [d1, d2] => { results := [.lit (.bool false)], args := [d1, d2] }
  | _ => none }
def ProbeVectorsWrongFalsely : Prop := probeVectorsRow.holds Try.pinned (OpenSpec.ofChange probeVectorsWrong)

/- THE SECOND FORM. 'bulk': how many values and letters a reading holds, each counted each time it is reached (what is shared counts as often as it is met; a slice's spare places count too). A statement '..UptoSaid' is the law's where the arguments, and the package variables that the reading takes, are together of bulk at most 1048576: NARROWER than '..Said'. Prove '..Said' where nothing that the law and all that it calls make is longer than what came in: it says more and counts as full. Else prove '..UptoSaid'. A law counts once. -/
mutual
def uptoBulk {H : Type} : DataW H → Nat
  | .lit (.string bytes) => bytes.length + 1
  | .lit _ => 1
  | .nil => 1
  | .ptr d => uptoBulk d + 1
  | .slice elems spare => uptoBulkAll elems + uptoBulkAll spare + 1
  | .agg parts => uptoBulkAll parts + 1
  | .iface _ d => uptoBulk d + 1
  | .map entries => uptoBulkEntries entries + 1
  | .held _ => 1
def uptoBulkAll {H : Type} : List (DataW H) → Nat
  | [] => 0
  | d :: r => uptoBulk d + uptoBulkAll r
def uptoBulkEntries {H : Type} : List (Lit × DataW H) → Nat
  | [] => 0
  | x :: r => uptoBulkEntry x + uptoBulkEntries r
def uptoBulkEntry {H : Type} : Lit × DataW H → Nat
  | (.string bytes, d) => bytes.length + uptoBulk d + 1
  | (_, d) => uptoBulk d + 1
 end
def uptoSmall : (H : Type) → List (DataW H) → Bool := fun _ ds => decide (uptoBulkAll ds ≤ 1048576)
def OpenSpec.upto (s : _root_.Go.ChangeSpec) : _root_.Go.OpenSpec := { _root_.Go.OpenSpec.ofChange s with cond := some uptoSmall }

/-- 'photonmeshlaw09.ProbeFringes', WHERE WHAT IT READS IS OF BULK AT MOST 1048576: true; the input reads as it did. -/
def probeFringesUptoRow : OpenClaim := { program := "ytecnidnaokbaiaa", sum := "be0ccb05103079544704402e70ccf0aeb9f200cfd01873e9a633b256ec0b1dc7", func := "photonmesh/photonmeshlaw09.ProbeFringes", spec := "probeFringes", apart := false, narrowed := true }
def ProbeFringesUptoSaid : Prop := probeFringesUptoRow.holds Try.pinned (OpenSpec.upto probeFringesSpec)

/-- 'photonmeshlaw09.ProbeTurns', WHERE WHAT IT READS IS OF BULK AT MOST 1048576: true; the input reads as it did. -/
def probeTurnsUptoRow : OpenClaim := { program := "ytecnidnaokbaiaa", sum := "be0ccb05103079544704402e70ccf0aeb9f200cfd01873e9a633b256ec0b1dc7", func := "photonmesh/photonmeshlaw09.ProbeTurns", spec := "probeTurns", inPlace := ["math/bits.Add64"], unfollowed := true, recurses := true, apart := false, narrowed := true }
def ProbeTurnsUptoSaid : Prop := probeTurnsUptoRow.holds Try.pinned (OpenSpec.upto probeTurnsSpec)

/-- 'photonmeshlaw09.ProbeVectors', WHERE WHAT IT READS IS OF BULK AT MOST 1048576: true; the input reads as it did. -/
def probeVectorsUptoRow : OpenClaim := { program := "ytecnidnaokbaiaa", sum := "be0ccb05103079544704402e70ccf0aeb9f200cfd01873e9a633b256ec0b1dc7", func := "photonmesh/photonmeshlaw09.ProbeVectors", spec := "probeVectors", inPlace := ["math/bits.Add64"], unfollowed := true, recurses := true, apart := false, narrowed := true }
def ProbeVectorsUptoSaid : Prop := probeVectorsUptoRow.holds Try.pinned (OpenSpec.upto probeVectorsSpec)

end Rows
end Go.Proofs.Ytecnidnaokbaiaa
