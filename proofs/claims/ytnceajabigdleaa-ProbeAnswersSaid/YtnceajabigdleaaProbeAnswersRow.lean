/- The law ProbeAnswers: whatever the input, on every schedule, it returns true, without a race, and every argument reads on as it did. No condition. -/
import Derived.Test.YtnceajabigdleaaOpenTst
import Derived.Test.YtnceajabigdleaaRowAid
import Derived.Test.YtnceajabigdleaaHouseB
import Derived.Conc.LeavingOf
import Derived.ProofKit
import Derived.OpenShut
namespace Go.Proofs.Ytnceajabigdleaa.probeAnswers
open Go Go.ChangeShapes Go.WideShapes Go.ChangeAt Go.RowKit Go.Pt Go.Conc
open Go.ChangeMaps (open_string shut_string)

theorem own : ownKnob Try.prog.godebug = none := by kernel_rfl
theorem laidOut : laidOutB Try.prog = true := by kernel_rfl
theorem noGlobals : Qm.prog.globals.size = 0 := by kernel_rfl
theorem noInit : Qm.prog.inits.idxOf? 3 = none := by kernel_rfl

theorem turn_ghost {G : Nat → Prop} {W : World} {a : Option Addr} {len : Nat} {l : List Bool} (h : Qm.TurnAt W a len l) (τ : Nat → Question → Nat) : Qm.TurnAt ((ghostW Qm.prog G W).retape τ) a len l := by
  refine ⟨h.1, h.2.imp id ?_⟩
  rintro ⟨b, off, rfl, hb, hc⟩
  refine ⟨b, off, rfl, ?_, fun i x hx => ?_⟩
  · show b < (ghostW Qm.prog G W).heap.size
    rw [ghostW_size]; exact hb
  · show (ghostW Qm.prog G W).cell? _ = _
    exact ghostW_cell (hc i x hx) (.bool x)
theorem slice_rel {G : Nat → Prop} {W : World} {a : Option Addr} (h : Qm.OnCells W a) (len cap : Nat) : VRel (cellsInj Qm.prog G W) (.slice a len cap) (.slice a len cap) := by
  cases a with
  | none => exact .slice0 len cap
  | some x =>
    obtain ⟨b, o, s⟩ := x
    exact .slice o s len cap ⟨rfl, h _ rfl⟩

set_option maxRecDepth 100000 in
set_option maxHeartbeats 1000000 in
/-- The good run. -/
theorem the_run (n s i o : Int) (a : Option Addr) (len cap : Nat) (l : List Bool) (W : World) (hl : len ≤ 9223372036854775807) (ht : Qm.TurnAt W a len l) (ha : Qm.OnCells W a) :
    ∃ M last oc w' t', runNT Try.prog (M + 1) (solo (Conc.G (Frame.enter Try.prog 3 #[.int .i64 n, .int .i64 s, .agg #[.slice a len cap, .int .i64 i, .int .i64 o]] .normal) []) W) #[] = (.ended oc w', t') ∧
      runN Try.prog M (solo (Conc.G (Frame.enter Try.prog 3 #[.int .i64 n, .int .i64 s, .agg #[.slice a len cap, .int .i64 i, .int .i64 o]] .normal) []) W) = .next last ∧ step Try.prog last = .ended oc w' ∧
      Conc.Good Try.prog (fun v w' => v = .bool true ∧ Below W.heap.size W w') last oc w' t' := by
  obtain ⟨_, c, hc⟩ := Qm.fnB_parts Qm.ok3
  have hcr := Pt.fnB_crel Qm.hglob Qm.ok3 hc
  refine good_of_start (Q := Qm.prog) (F := Try.prog.funcs) Qm.funs Qm.self (floor_ok _) (W := W) (((ARel.one (.int .i64 n)).push (.int .i64 s)).push (ARel.agg (((ARel.one (slice_rel ha len cap)).push (.int .i64 i)).push (.int .i64 o)))) (by rw [noGlobals]; exact Nat.zero_le _) (fun g h => h.elim) noInit
    Qm.func3 Try.func3 hc hc rfl rfl hcr hcr (fun Rp g xs gw c k hg h => Qm.phase34 g xs gw c k hg h) (fun τ => ?_)
  refine (Qm.probeAnswers_walk n s i o a len cap l ((ghostW Qm.prog _ W).retape τ) hl (turn_ghost ht τ)).mono fun e w' ⟨he, hg⟩ => ⟨he, fun b hb => ?_⟩
  exact hg.block b (show b < (ghostW Qm.prog _ W).heap.size by rw [ghostW_size]; exact hb)

set_option maxRecDepth 100000 in
set_option maxHeartbeats 1000000 in
theorem lifted (os : Os) (started : os.Started) (H : Type) (enc : TypeId × Value → H) :
    ReturnsInLeavingWide {} Try.checked os 3 .any (Rows.probeAnswersSpec.pre6 enc Try.prog Try.f3 Rows.probeAnswersRow.domain false) (Rows.probeAnswersSpec.post enc Try.prog Try.f3 false true false false) := by
  refine returnsInLeavingWide_of_change_sized (C := Try.checked) own started Try.func3
    (ChangeSpec.witness6 (enc := enc) (C := Try.checked) false ⟨#[], #[.int .i64 0, .int .i64 0, .agg #[.slice none 0 0, .int .i64 0, .int .i64 0]], []⟩ 8 (by kernel_rfl) (by kernel_rfl) (by kernel_rfl) (by kernel_rfl)) ?_
  intro W base args ds gs before hval0 hW hcnd _ _
  have hval : ∀ (j : Nat) t v, Try.f3.params[j]? = some t → args[j]? = some v → Value.okWide Try.prog W .any base t v := hval0
  have hW' := hW
  obtain ⟨p, q, hA0, hV, rfl, hfz, hnd⟩ := hW
  have hA : DataW.TrodAll enc Try.prog W 0 (fun _ => true) true Try.f3.params.toList args.toList ds p := hA0
  rw [Try.params3] at hA hval
  obtain ⟨v0, vs0, d0, ds0, p0, q0, hargs, rfl, rfl, h0, r0⟩ := trodAll_cons hA
  obtain ⟨v1, vs1, d1, ds1, p1, q1, rfl, rfl, rfl, h1, r1⟩ := trodAll_cons r0
  obtain ⟨v2, vs2, d2, ds2, p2, q2, rfl, rfl, rfl, h2, r2⟩ := trodAll_cons r1
  obtain ⟨rfl, rfl, rfl⟩ := trodAll_nil r2
  obtain rfl : args = #[v0, v1, v2] := by cases args; simp_all
  obtain ⟨rfl, rfl⟩ := trodVars_none hV
  obtain ⟨n, rfl, rfl, rfl, _⟩ := open_int Try.underlying3 (hval 0 3 v0 rfl rfl) h0
  obtain ⟨s, rfl, rfl, rfl, _⟩ := open_int Try.underlying3 (hval 1 3 v1 rfl rfl) h1
  obtain ⟨a, len, cap, i, o, l, rfl, hl, ht, ha⟩ := Qm.open_test (hval 2 24 v2 rfl rfl) h2
  clear hA0 hval0
  obtain ⟨M, last, oc, w', t', e1, e2, e3, e4⟩ := the_run n s i o a len cap l W hl ht ha
  refine ⟨M, last, oc, w', t', e1, e2, e3, e4.mono fun v hv => ?_⟩
  obtain ⟨rfl, hb⟩ := hv
  exact ⟨_, _, _, [], _, [], hW', trodAll_mk1 (shut_bool Try.underlying4 _), trodAll_below laidOut hb _ _ _ _ (by kernel_rfl) hA, rfl, hb.frame _, fun h => by cases h⟩

theorem over : Rows.probeAnswersRow.holds Try.pinned (OpenSpec.ofChange Rows.probeAnswersSpec) :=
  OpenClaim.holds_of_wide_leaving 3 Try.f3 rfl rfl rfl rfl rfl rfl rfl ⟨rfl, rfl, rfl, rfl, rfl⟩ rfl rfl rfl rfl rfl (by kernel_rfl) Try.func3 (by kernel_rfl)
    (of_decide_eq_true (by kernel_rfl)) (by unfold Func.isWrapper; rw [if_neg (of_decide_eq_false (by kernel_rfl))]; exact ⟨rfl, rfl⟩)
    (fun os started H enc _ => lifted os started H enc)
end Go.Proofs.Ytnceajabigdleaa.probeAnswers

namespace Go.Proofs.Ytnceajabigdleaa
/-- The statement. -/
theorem probeAnswers_holds : Rows.ProbeAnswersSaid := probeAnswers.over
end Go.Proofs.Ytnceajabigdleaa
#print axioms Go.Proofs.Ytnceajabigdleaa.probeAnswers_holds
