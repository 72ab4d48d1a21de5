/- The law MeshTidies: whatever the input, it returns true, and every argument reads on as it did. No condition. -/
import Derived.Test.YtkglnnkghillpaaRows
import Derived.Test.YtkglnnkghillpaaMeshTidiesA
import Derived.Test.YtkglnnkghillpaaOpenIts
import Derived.Test.YtkglnnkghillpaaRowAid
import Derived.ProofKit
import Derived.OpenShut
namespace Go.Proofs.Ytkglnnkghillpaa.meshTidies
open Go Go.ChangeShapes Go.WideShapes Go.ChangeAt Go.RowKit Amp Msh
open Go.ChangeMaps (open_string shut_string)

theorem own : ownKnob Try.prog.godebug = none := by kernel_rfl
theorem laidOut : laidOutB Try.prog = true := by kernel_rfl

set_option maxRecDepth 100000 in
set_option maxHeartbeats 1000000 in
theorem lifted (os : Os) (started : os.Started) (H : Type) (enc : TypeId × Value → H) :
    ReturnsInHanded {} Try.checked os 10 .any (Rows.meshTidiesSpec.pre6 enc Try.prog Try.f10 Rows.meshTidiesRow.domain false) (Rows.meshTidiesSpec.post enc Try.prog Try.f10 false true false false) := by
  refine returnsInHanded_of_change (C := Try.checked) own started (by kernel_rfl) Try.func10
    (ChangeSpec.witness6 (enc := enc) (C := Try.checked) false ⟨#[], #[.int .i64 0, .slice none 0 0], []⟩ 8 (by kernel_rfl) (by kernel_rfl) (by kernel_rfl) (by kernel_rfl)) ?_
  intro W base args ds gs before hval0 hW hcnd _
  have hval : ∀ (j : Nat) t v, Try.f10.params[j]? = some t → args[j]? = some v → Value.okWide Try.prog W .any base t v := hval0
  have hW' := hW
  obtain ⟨p, q, hA0, hV, rfl, hfz, hnd⟩ := hW
  have hA : DataW.TrodAll enc Try.prog W 0 (fun _ => true) true Try.f10.params.toList args.toList ds p := hA0
  rw [Try.params10] at hA hval
  obtain ⟨v0, vs0, d0, ds0, p0, q0, hargs, rfl, rfl, h0, r0⟩ := trodAll_cons hA
  obtain ⟨v1, vs1, d1, ds1, p1, q1, rfl, rfl, rfl, h1, r1⟩ := trodAll_cons r0
  obtain ⟨rfl, rfl, rfl⟩ := trodAll_nil r1
  obtain rfl : args = #[v0, v1] := by cases args; simp_all
  obtain ⟨rfl, rfl⟩ := trodVars_none hV
  obtain ⟨n0, rfl, rfl, rfl, w0⟩ := open_int Try.underlying3 (hval 0 3 v0 rfl rfl) h0
  obtain ⟨a1, len1, cap1, rfl⟩ := okWide_slice Try.underlying22 (hval 1 _ v1 rfl rfl)
  have w1 := open_its h1
  clear hA0 hval0
  refine (meshTidies_walk n0 a1 len1 cap1 W w1).mono fun e W' ⟨he, hg⟩ => ?_
  subst he
  exact ⟨_, rfl, _, _, _, [], _, [], hW', trodAll_mk1 (shut_bool Try.underlying4 _), trodAll_below laidOut hg.below _ _ _ _ (by kernel_rfl) hA, rfl, hg.below.frame _, fun h => by cases h⟩

theorem over : Rows.meshTidiesRow.holds Try.pinned (OpenSpec.ofChange Rows.meshTidiesSpec) :=
  OpenClaim.holds_of_wide 10 Try.f10 rfl rfl rfl rfl rfl rfl rfl ⟨rfl, rfl, rfl, rfl, rfl⟩ rfl rfl rfl rfl rfl (by kernel_rfl) Try.func10 (by kernel_rfl)
    (of_decide_eq_true (by kernel_rfl)) (by unfold Func.isWrapper; rw [if_neg (of_decide_eq_false (by kernel_rfl))]; exact ⟨rfl, rfl⟩)
    (fun os started H enc _ => lifted os started H enc)
end Go.Proofs.Ytkglnnkghillpaa.meshTidies

namespace Go.Proofs.Ytkglnnkghillpaa
/-- The statement. -/
theorem meshTidies_holds : Rows.MeshTidiesSaid := meshTidies.over
end Go.Proofs.Ytkglnnkghillpaa
#print axioms Go.Proofs.Ytkglnnkghillpaa.meshTidies_holds
