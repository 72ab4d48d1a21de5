/- The law ProbeTurns: whatever the input, it returns true, and every argument reads on as it did. No condition. -/
import Derived.Test.YtecnidnaokbaiaaProbeTurnsWalk
import Derived.Test.YtecnidnaokbaiaaRowAid
import Derived.Test.YtecnidnaokbaiaaHouseG
import Derived.ProofKit
import Derived.OpenShut
namespace Go.Proofs.Ytecnidnaokbaiaa.probeTurns
open Go Go.ChangeShapes Go.WideShapes Go.ChangeAt Go.RowKit 
open Go.ChangeMaps (open_string shut_string)

theorem own : ownKnob Try.prog.godebug = none := by kernel_rfl
theorem laidOut : laidOutB Try.prog = true := by kernel_rfl

set_option maxRecDepth 100000 in
set_option maxHeartbeats 1000000 in
theorem lifted (os : Os) (started : os.Started) (H : Type) (enc : TypeId × Value → H) :
    ReturnsInHanded {} Try.checked os 4 .any (Rows.probeTurnsSpec.pre6 enc Try.prog Try.f4 Rows.probeTurnsRow.domain false) (Rows.probeTurnsSpec.post enc Try.prog Try.f4 false true false false) := by
  refine returnsInHanded_of_change (C := Try.checked) own started (by kernel_rfl) Try.func4
    (ChangeSpec.witness6 (enc := enc) (C := Try.checked) false ⟨#[], #[.agg #[.int .i64 0, .int .i64 0, .int .i64 0, .int .i64 0]], []⟩ 8 (by kernel_rfl) (by kernel_rfl) (by kernel_rfl) (by kernel_rfl)) ?_
  intro W base args ds gs before hval0 hW hcnd _
  have hval : ∀ (j : Nat) t v, Try.f4.params[j]? = some t → args[j]? = some v → Value.okWide Try.prog W .any base t v := hval0
  have hW' := hW
  obtain ⟨p, q, hA0, hV, rfl, hfz, hnd⟩ := hW
  have hA : DataW.TrodAll enc Try.prog W 0 (fun _ => true) true Try.f4.params.toList args.toList ds p := hA0
  rw [Try.params4] at hA hval
  obtain ⟨v0, vs0, d0, ds0, p0, q0, hargs, rfl, rfl, h0, r0⟩ := trodAll_cons hA
  obtain ⟨rfl, rfl, rfl⟩ := trodAll_nil r0
  obtain rfl : args = #[v0] := by cases args; simp_all
  obtain ⟨rfl, rfl⟩ := trodVars_none hV
  obtain ⟨l0, hl0, rfl⟩ := open_ints_agg (t := 22) (u := 3) (n := 4) (k := .i64) (by kernel_rfl) (by kernel_rfl) (by kernel_rfl) Try.underlying3 (hval 0 _ v0 rfl rfl)
  obtain ⟨a0, b0, c0, e0, rfl⟩ := list4 hl0
  clear hA0 hval0
  refine (probeTurns_walk a0 b0 c0 e0 W).mono fun e W' ⟨he, hg⟩ => ?_
  subst he
  exact ⟨_, rfl, _, _, _, [], _, [], hW', trodAll_mk1 (shut_bool Try.underlying4 _), trodAll_below laidOut hg.below _ _ _ _ (by kernel_rfl) hA, rfl, hg.below.frame _, fun h => by cases h⟩

theorem over : Rows.probeTurnsRow.holds Try.pinned (OpenSpec.ofChange Rows.probeTurnsSpec) :=
  OpenClaim.holds_of_wide 4 Try.f4 rfl rfl rfl rfl rfl rfl rfl ⟨rfl, rfl, rfl, rfl, rfl⟩ rfl rfl rfl rfl rfl (by kernel_rfl) Try.func4 (by kernel_rfl)
    (of_decide_eq_true (by kernel_rfl)) (by unfold Func.isWrapper; rw [if_neg (of_decide_eq_false (by kernel_rfl))]; exact ⟨rfl, rfl⟩)
    (fun os started H enc _ => lifted os started H enc)
end Go.Proofs.Ytecnidnaokbaiaa.probeTurns

namespace Go.Proofs.Ytecnidnaokbaiaa
/-- The statement. -/
theorem probeTurns_holds : Rows.ProbeTurnsSaid := probeTurns.over
end Go.Proofs.Ytecnidnaokbaiaa
#print axioms Go.Proofs.Ytecnidnaokbaiaa.probeTurns_holds
