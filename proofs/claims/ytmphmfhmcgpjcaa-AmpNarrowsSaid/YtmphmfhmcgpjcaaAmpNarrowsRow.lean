/- The law AmpNarrows: whatever the input, it returns true, and every argument reads on as it did. No condition. -/
import Derived.Test.YtmphmfhmcgpjcaaAmpNarrowsWalk
import Derived.Test.YtmphmfhmcgpjcaaRowAid
import Derived.ProofKit
import Derived.OpenShut
namespace Go.Proofs.Ytmphmfhmcgpjcaa.ampNarrows
open Go Go.ChangeShapes Go.WideShapes Go.ChangeAt Go.RowKit Amp
open Go.ChangeMaps (open_string shut_string)

theorem own : ownKnob Try.prog.godebug = none := by kernel_rfl
theorem laidOut : laidOutB Try.prog = true := by kernel_rfl

set_option maxRecDepth 100000 in
set_option maxHeartbeats 1000000 in
theorem lifted (os : Os) (started : os.Started) (H : Type) (enc : TypeId × Value → H) :
    ReturnsInHanded {} Try.checked os 11 .any (Rows.ampNarrowsSpec.pre6 enc Try.prog Try.f11 Rows.ampNarrowsRow.domain false) (Rows.ampNarrowsSpec.post enc Try.prog Try.f11 false true false false) := by
  refine returnsInHanded_of_change (C := Try.checked) own started (by kernel_rfl) Try.func11
    (ChangeSpec.witness6 (enc := enc) (C := Try.checked) false ⟨#[], #[.agg #[.int .i64 0, .int .i64 0, .int .i64 0, .int .i64 0, .int .i64 0], .int .u8 0, .int .i64 0], []⟩ 8 (by kernel_rfl) (by kernel_rfl) (by kernel_rfl) (by kernel_rfl)) ?_
  intro W base args ds gs before hval0 hW hcnd _
  have hval : ∀ (j : Nat) t v, Try.f11.params[j]? = some t → args[j]? = some v → Value.okWide Try.prog W .any base t v := hval0
  have hW' := hW
  obtain ⟨p, q, hA0, hV, rfl, hfz, hnd⟩ := hW
  have hA : DataW.TrodAll enc Try.prog W 0 (fun _ => true) true Try.f11.params.toList args.toList ds p := hA0
  rw [Try.params11] at hA hval
  obtain ⟨v0, vs0, d0, ds0, p0, q0, hargs, rfl, rfl, h0, r0⟩ := trodAll_cons hA
  obtain ⟨v1, vs1, d1, ds1, p1, q1, rfl, rfl, rfl, h1, r1⟩ := trodAll_cons r0
  obtain ⟨v2, vs2, d2, ds2, p2, q2, rfl, rfl, rfl, h2, r2⟩ := trodAll_cons r1
  obtain ⟨rfl, rfl, rfl⟩ := trodAll_nil r2
  obtain rfl : args = #[v0, v1, v2] := by cases args; simp_all
  obtain ⟨rfl, rfl⟩ := trodVars_none hV
  obtain ⟨l0, hl0, rfl⟩ := open_ints_agg (t := 24) (u := 3) (n := 5) (k := .i64) (by kernel_rfl) (by kernel_rfl) (by kernel_rfl) Try.underlying3 (hval 0 _ v0 rfl rfl)
  obtain ⟨a0, b0, c0, e0, k0, rfl⟩ := list5 hl0
  obtain ⟨n1, rfl, rfl, rfl, w1⟩ := open_int Try.underlying5 (hval 1 5 v1 rfl rfl) h1
  obtain ⟨n2, rfl, rfl, rfl, w2⟩ := open_int Try.underlying3 (hval 2 3 v2 rfl rfl) h2
  clear hA0 hval0
  refine (ampNarrows_walk ⟨a0, b0, c0, e0⟩ k0 n1 n2 W w1).mono fun e W' ⟨he, hg⟩ => ?_
  subst he
  exact ⟨_, rfl, _, _, _, [], _, [], hW', trodAll_mk1 (shut_bool Try.underlying4 _), trodAll_below laidOut hg.below _ _ _ _ (by kernel_rfl) hA, rfl, hg.below.frame _, fun h => by cases h⟩

theorem over : Rows.ampNarrowsRow.holds Try.pinned (OpenSpec.ofChange Rows.ampNarrowsSpec) :=
  OpenClaim.holds_of_wide 11 Try.f11 rfl rfl rfl rfl rfl rfl rfl ⟨rfl, rfl, rfl, rfl, rfl⟩ rfl rfl rfl rfl rfl (by kernel_rfl) Try.func11 (by kernel_rfl)
    (of_decide_eq_true (by kernel_rfl)) (by unfold Func.isWrapper; rw [if_neg (of_decide_eq_false (by kernel_rfl))]; exact ⟨rfl, rfl⟩)
    (fun os started H enc _ => lifted os started H enc)
end Go.Proofs.Ytmphmfhmcgpjcaa.ampNarrows

namespace Go.Proofs.Ytmphmfhmcgpjcaa
/-- The statement. -/
theorem ampNarrows_holds : Rows.AmpNarrowsSaid := ampNarrows.over
end Go.Proofs.Ytmphmfhmcgpjcaa
#print axioms Go.Proofs.Ytmphmfhmcgpjcaa.ampNarrows_holds
