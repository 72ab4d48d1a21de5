/- The law MeshFlats: whatever the input, it returns true, and every argument reads on as it did. No condition. -/
import Derived.Test.YtkglnnkghillpaaRows
import Derived.Test.YtkglnnkghillpaaMeshFlatsWalk
import Derived.Test.YtkglnnkghillpaaOpenCls
import Derived.Test.YtkglnnkghillpaaRowAid
import Derived.ProofKit
import Derived.OpenShut
namespace Go.Proofs.Ytkglnnkghillpaa.meshFlats
open Go Go.ChangeShapes Go.WideShapes Go.ChangeAt Go.RowKit Amp Msh
open Go.ChangeMaps (open_string shut_string)

theorem own : ownKnob Try.prog.godebug = none := by kernel_rfl
theorem laidOut : laidOutB Try.prog = true := by kernel_rfl

set_option maxRecDepth 100000 in
set_option maxHeartbeats 1000000 in
theorem lifted (os : Os) (started : os.Started) (H : Type) (enc : TypeId × Value → H) :
    ReturnsInHanded {} Try.checked os 11 .any (Rows.meshFlatsSpec.pre6 enc Try.prog Try.f11 Rows.meshFlatsRow.domain false) (Rows.meshFlatsSpec.post enc Try.prog Try.f11 false true false false) := by
  refine returnsInHanded_of_change (C := Try.checked) own started (by kernel_rfl) Try.func11
    (ChangeSpec.witness6 (enc := enc) (C := Try.checked) false ⟨#[], #[.slice none 0 0], []⟩ 8 (by kernel_rfl) (by kernel_rfl) (by kernel_rfl) (by kernel_rfl)) ?_
  intro W base args ds gs before hval0 hW hcnd _
  have hval : ∀ (j : Nat) t v, Try.f11.params[j]? = some t → args[j]? = some v → Value.okWide Try.prog W .any base t v := hval0
  have hW' := hW
  obtain ⟨p, q, hA0, hV, rfl, hfz, hnd⟩ := hW
  have hA : DataW.TrodAll enc Try.prog W 0 (fun _ => true) true Try.f11.params.toList args.toList ds p := hA0
  rw [Try.params11] at hA hval
  obtain ⟨v0, vs0, d0, ds0, p0, q0, hargs, rfl, rfl, h0, r0⟩ := trodAll_cons hA
  obtain ⟨rfl, rfl, rfl⟩ := trodAll_nil r0
  obtain rfl : args = #[v0] := by cases args; simp_all
  obtain ⟨rfl, rfl⟩ := trodVars_none hV
  obtain ⟨a0, len0, cap0, rfl⟩ := okWide_slice Try.underlying39 (hval 0 _ v0 rfl rfl)
  have w0 := open_cls h0
  clear hA0 hval0
  refine (meshFlats_walk a0 len0 cap0 W w0).mono fun e W' ⟨he, hg⟩ => ?_
  subst he
  exact ⟨_, rfl, _, _, _, [], _, [], hW', trodAll_mk1 (shut_bool Try.underlying4 _), trodAll_below laidOut hg _ _ _ _ (by kernel_rfl) hA, rfl, hg.frame _, fun h => by cases h⟩

theorem over : Rows.meshFlatsRow.holds Try.pinned (OpenSpec.ofChange Rows.meshFlatsSpec) :=
  OpenClaim.holds_of_wide 11 Try.f11 rfl rfl rfl rfl rfl rfl rfl ⟨rfl, rfl, rfl, rfl, rfl⟩ rfl rfl rfl rfl rfl (by kernel_rfl) Try.func11 (by kernel_rfl)
    (of_decide_eq_true (by kernel_rfl)) (by unfold Func.isWrapper; rw [if_neg (of_decide_eq_false (by kernel_rfl))]; exact ⟨rfl, rfl⟩)
    (fun os started H enc _ => lifted os started H enc)
end Go.Proofs.Ytkglnnkghillpaa.meshFlats

namespace Go.Proofs.Ytkglnnkghillpaa
/-- The statement. -/
theorem meshFlats_holds : Rows.MeshFlatsSaid := meshFlats.over
end Go.Proofs.Ytkglnnkghillpaa
#print axioms Go.Proofs.Ytkglnnkghillpaa.meshFlats_holds
