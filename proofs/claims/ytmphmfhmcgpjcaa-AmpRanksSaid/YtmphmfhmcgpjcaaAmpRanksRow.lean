/- The law AmpRanks: whatever the input, it returns true, and every argument reads on as it did. No condition. -/
import Derived.Test.YtmphmfhmcgpjcaaAmpRanksWalk
import Derived.Test.YtmphmfhmcgpjcaaRowAid
import Derived.ProofKit
import Derived.OpenShut
namespace Go.Proofs.Ytmphmfhmcgpjcaa.ampRanks
open Go Go.ChangeShapes Go.WideShapes Go.ChangeAt Go.RowKit Amp
open Go.ChangeMaps (open_string shut_string)

theorem own : ownKnob Try.prog.godebug = none := by kernel_rfl
theorem laidOut : laidOutB Try.prog = true := by kernel_rfl

set_option maxRecDepth 100000 in
set_option maxHeartbeats 1000000 in
theorem lifted (os : Os) (started : os.Started) (H : Type) (enc : TypeId × Value → H) :
    ReturnsInHanded {} Try.checked os 13 .any (Rows.ampRanksSpec.pre6 enc Try.prog Try.f13 Rows.ampRanksRow.domain false) (Rows.ampRanksSpec.post enc Try.prog Try.f13 false true false false) := by
  refine returnsInHanded_of_change (C := Try.checked) own started (by kernel_rfl) Try.func13
    (ChangeSpec.witness6 (enc := enc) (C := Try.checked) false ⟨#[], #[.agg #[.int .i64 0, .int .i64 0, .int .i64 0, .int .i64 0, .int .i64 0], .agg #[.int .i64 0, .int .i64 0, .int .i64 0, .int .i64 0, .int .i64 0], .agg #[.int .i64 0, .int .i64 0, .int .i64 0, .int .i64 0, .int .i64 0]], []⟩ 8 (by kernel_rfl) (by kernel_rfl) (by kernel_rfl) (by kernel_rfl)) ?_
  intro W base args ds gs before hval0 hW hcnd _
  have hval : ∀ (j : Nat) t v, Try.f13.params[j]? = some t → args[j]? = some v → Value.okWide Try.prog W .any base t v := hval0
  have hW' := hW
  obtain ⟨p, q, hA0, hV, rfl, hfz, hnd⟩ := hW
  have hA : DataW.TrodAll enc Try.prog W 0 (fun _ => true) true Try.f13.params.toList args.toList ds p := hA0
  rw [Try.params13] at hA hval
  obtain ⟨v0, vs0, d0, ds0, p0, q0, hargs, rfl, rfl, h0, r0⟩ := trodAll_cons hA
  obtain ⟨v1, vs1, d1, ds1, p1, q1, rfl, rfl, rfl, h1, r1⟩ := trodAll_cons r0
  obtain ⟨v2, vs2, d2, ds2, p2, q2, rfl, rfl, rfl, h2, r2⟩ := trodAll_cons r1
  obtain ⟨rfl, rfl, rfl⟩ := trodAll_nil r2
  obtain rfl : args = #[v0, v1, v2] := by cases args; simp_all
  obtain ⟨rfl, rfl⟩ := trodVars_none hV
  obtain ⟨l0, hl0, rfl⟩ := open_ints_agg (t := 24) (u := 3) (n := 5) (k := .i64) (by kernel_rfl) (by kernel_rfl) (by kernel_rfl) Try.underlying3 (hval 0 _ v0 rfl rfl)
  obtain ⟨a0, b0, c0, e0, k0, rfl⟩ := list5 hl0
  obtain ⟨l1, hl1, rfl⟩ := open_ints_agg (t := 24) (u := 3) (n := 5) (k := .i64) (by kernel_rfl) (by kernel_rfl) (by kernel_rfl) Try.underlying3 (hval 1 _ v1 rfl rfl)
  obtain ⟨a1, b1, c1, e1, k1, rfl⟩ := list5 hl1
  obtain ⟨l2, hl2, rfl⟩ := open_ints_agg (t := 24) (u := 3) (n := 5) (k := .i64) (by kernel_rfl) (by kernel_rfl) (by kernel_rfl) Try.underlying3 (hval 2 _ v2 rfl rfl)
  obtain ⟨a2, b2, c2, e2, k2, rfl⟩ := list5 hl2
  clear hA0 hval0
  refine (ampRanks_walk ⟨a0, b0, c0, e0⟩ k0 ⟨a1, b1, c1, e1⟩ k1 ⟨a2, b2, c2, e2⟩ k2 W).mono fun e W' ⟨he, hg⟩ => ?_
  subst he
  exact ⟨_, rfl, _, _, _, [], _, [], hW', trodAll_mk1 (shut_bool Try.underlying4 _), trodAll_below laidOut hg.below _ _ _ _ (by kernel_rfl) hA, rfl, hg.below.frame _, fun h => by cases h⟩

theorem over : Rows.ampRanksRow.holds Try.pinned (OpenSpec.ofChange Rows.ampRanksSpec) :=
  OpenClaim.holds_of_wide 13 Try.f13 rfl rfl rfl rfl rfl rfl rfl ⟨rfl, rfl, rfl, rfl, rfl⟩ rfl rfl rfl rfl rfl (by kernel_rfl) Try.func13 (by kernel_rfl)
    (of_decide_eq_true (by kernel_rfl)) (by unfold Func.isWrapper; rw [if_neg (of_decide_eq_false (by kernel_rfl))]; exact ⟨rfl, rfl⟩)
    (fun os started H enc _ => lifted os started H enc)
end Go.Proofs.Ytmphmfhmcgpjcaa.ampRanks

namespace Go.Proofs.Ytmphmfhmcgpjcaa
/-- The statement. -/
theorem ampRanks_holds : Rows.AmpRanksSaid := ampRanks.over
end Go.Proofs.Ytmphmfhmcgpjcaa
#print axioms Go.Proofs.Ytmphmfhmcgpjcaa.ampRanks_holds
