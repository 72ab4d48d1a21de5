/- The law ProbeVectors: whatever the input, it returns true, and every argument reads on as it did. No condition. -/
import Derived.Test.YtecnidnaokbaiaaProbeVectorsWalk
import Derived.Test.YtecnidnaokbaiaaRowAid
import Derived.Test.YtecnidnaokbaiaaHouseB
import Derived.ProofKit
import Derived.OpenShut
namespace Go.Proofs.Ytecnidnaokbaiaa.probeVectors
open Go Go.ChangeShapes Go.WideShapes Go.ChangeAt Go.RowKit 
open Go.ChangeMaps (open_string shut_string)

theorem own : ownKnob Try.prog.godebug = none := by kernel_rfl
theorem laidOut : laidOutB Try.prog = true := by kernel_rfl

set_option maxRecDepth 100000 in
set_option maxHeartbeats 1000000 in
theorem lifted (os : Os) (started : os.Started) (H : Type) (enc : TypeId × Value → H) :
    ReturnsInHanded {} Try.checked os 5 .any (Rows.probeVectorsSpec.pre6 enc Try.prog Try.f5 Rows.probeVectorsRow.domain false) (Rows.probeVectorsSpec.post enc Try.prog Try.f5 false true false false) := by
  refine returnsInHanded_of_change (C := Try.checked) own started (by kernel_rfl) Try.func5
    (ChangeSpec.witness6 (enc := enc) (C := Try.checked) false ⟨#[], #[.agg #[.int .i64 0, .int .i64 0, .int .i64 0], .slice none 0 0], []⟩ 8 (by kernel_rfl) (by kernel_rfl) (by kernel_rfl) (by kernel_rfl)) ?_
  intro W base args ds gs before hval0 hW hcnd _
  have hval : ∀ (j : Nat) t v, Try.f5.params[j]? = some t → args[j]? = some v → Value.okWide Try.prog W .any base t v := hval0
  have hW' := hW
  obtain ⟨p, q, hA0, hV, rfl, hfz, hnd⟩ := hW
  have hA : DataW.TrodAll enc Try.prog W 0 (fun _ => true) true Try.f5.params.toList args.toList ds p := hA0
  rw [Try.params5] at hA hval
  obtain ⟨v0, vs0, d0, ds0, p0, q0, hargs, rfl, rfl, h0, r0⟩ := trodAll_cons hA
  obtain ⟨v1, vs1, d1, ds1, p1, q1, rfl, rfl, rfl, h1, r1⟩ := trodAll_cons r0
  obtain ⟨rfl, rfl, rfl⟩ := trodAll_nil r1
  obtain rfl : args = #[v0, v1] := by cases args; simp_all
  obtain ⟨rfl, rfl⟩ := trodVars_none hV
  obtain ⟨l0, hl0, rfl⟩ := open_ints_agg (t := 24) (u := 3) (n := 3) (k := .i64) (by kernel_rfl) (by kernel_rfl) (by kernel_rfl) Try.underlying3 (hval 0 _ v0 rfl rfl)
  obtain ⟨a0, b0, c0, rfl⟩ := list3 hl0
  obtain ⟨a1, len1, cap1, rfl⟩ := okWide_slice Try.underlying40 (hval 1 _ v1 rfl rfl)
  have w1 := open_frs h1
  clear hA0 hval0
  refine (probeVectors_walk a0 b0 c0 a1 len1 cap1 W w1).mono fun e W' ⟨he, hg⟩ => ?_
  subst he
  exact ⟨_, rfl, _, _, _, [], _, [], hW', trodAll_mk1 (shut_bool Try.underlying4 _), trodAll_below laidOut hg.below _ _ _ _ (by kernel_rfl) hA, rfl, hg.below.frame _, fun h => by cases h⟩

theorem over : Rows.probeVectorsRow.holds Try.pinned (OpenSpec.ofChange Rows.probeVectorsSpec) :=
  OpenClaim.holds_of_wide 5 Try.f5 rfl rfl rfl rfl rfl rfl rfl ⟨rfl, rfl, rfl, rfl, rfl⟩ rfl rfl rfl rfl rfl (by kernel_rfl) Try.func5 (by kernel_rfl)
    (of_decide_eq_true (by kernel_rfl)) (by unfold Func.isWrapper; rw [if_neg (of_decide_eq_false (by kernel_rfl))]; exact ⟨rfl, rfl⟩)
    (fun os started H enc _ => lifted os started H enc)
end Go.Proofs.Ytecnidnaokbaiaa.probeVectors

namespace Go.Proofs.Ytecnidnaokbaiaa
/-- The statement. -/
theorem probeVectors_holds : Rows.ProbeVectorsSaid := probeVectors.over
end Go.Proofs.Ytecnidnaokbaiaa
#print axioms Go.Proofs.Ytecnidnaokbaiaa.probeVectors_holds
