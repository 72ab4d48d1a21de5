/- The law AmpTexts: whatever the input, it returns true, and every argument reads on as it did. Condition: the row's laid variables; the card ties them. -/
import Derived.Test.YtmjnjghhdkoljaaDoorAmpTextsWalk
import Derived.Test.YtmjnjghhdkoljaaDoorAmpTextsLaid
import Derived.Test.YtmjnjghhdkoljaaDoorCards
import Derived.Test.YtmjnjghhdkoljaaDoorTie
namespace Go.Proofs.YtmjnjghhdkoljaaDoor.ampTexts
open Go Go.ChangeShapes Go.WideShapes Go.ChangeAt Go.RowKit Amp
open Go.ChangeMaps (open_string shut_string)

set_option maxRecDepth 100000 in
set_option maxHeartbeats 1000000 in
theorem lifted (os : Os) (started : os.Started) (H : Type) (enc : TypeId × Value → H) :
    ReturnsInHanded {} Tryd.checked os 3 .any (fun w args => (Rows.ampTextsSpec.pre enc Tryd.prog Tryd.f3 Rows.ampTextsRow.domain false w args ∧ laidMet Tryd.prog Rows.ampTextsRow.laid w) ∧ sizedMet enc Tryd.prog Tryd.f3 (OpenSpec.ofChange Rows.ampTextsSpec) false w args)
      (Rows.ampTextsSpec.post enc Tryd.prog Tryd.f3 false true false false) := by
  refine returnsInHanded_of_change_and (C := Tryd.checked) (X := fun w _ => laidMet Tryd.prog Rows.ampTextsRow.laid w) (fun _ _ _ hh h => h.of_heap hh) own started (by kernel_rfl) Tryd.func3
    (ChangeSpec.witness_shaped (enc := enc) (C := Tryd.checked) (os := os) (X := fun w _ => laidMet Tryd.prog Rows.ampTextsRow.laid w) false (World.doorLaid Tryd.prog 62 os) #[.agg #[.int .i64 0, .int .i64 0, .int .i64 0, .int .i64 0, .int .i64 0], .string ⟨#[]⟩] 8 rfl (World.shaped_of_RefB (by kernel_rfl) (by kernel_rfl)) (by kernel_rfl) (by kernel_rfl) (by kernel_rfl) (door_met os _)) ?_
  intro W base args ds gs before hval0 hW _ hsz0 hL _
  have hsz : (DataW.weightsEach Tryd.prog (Tryd.f3.params.toList ++ Rows.ampTextsSpec.plain.varTypes Tryd.prog) (ds ++ gs)).all (· ≤ reachBytes) = true := hsz0
  clear hsz0
  have hval : ∀ (j : Nat) t v, Tryd.f3.params[j]? = some t → args[j]? = some v → Value.okWide Tryd.prog W .any base t v := hval0
  have hW' := hW
  obtain ⟨p, q, hA0, hV, rfl, hfz, hnd⟩ := hW
  have hA : DataW.TrodAll enc Tryd.prog W 0 (fun _ => true) true Tryd.f3.params.toList args.toList ds p := hA0
  rw [Tryd.params3] at hA hval hsz
  obtain ⟨v0, vs0, d0, ds0, p0, q0, hargs, rfl, rfl, h0, r0⟩ := trodAll_cons hA
  obtain ⟨v1, vs1, d1, ds1, p1, q1, rfl, rfl, rfl, h1, r1⟩ := trodAll_cons r0
  obtain ⟨rfl, rfl, rfl⟩ := trodAll_nil r1
  obtain rfl : args = #[v0, v1] := by cases args; simp_all
  obtain ⟨rfl, rfl⟩ := trodVars_none hV
  obtain ⟨l0, hl0, rfl⟩ := open_ints_agg (t := 24) (u := 3) (n := 5) (k := .i64) (by kernel_rfl) (by kernel_rfl) (by kernel_rfl) Tryd.underlying3 (hval 0 _ v0 rfl rfl)
  obtain ⟨a0, b0, c0, e0, k0, rfl⟩ := list5 hl0
  obtain ⟨s1, rfl, rfl, rfl, ws1⟩ := open_string Tryd.underlying9 (hval 1 9 v1 rfl rfl) h1
  clear hA0 hval0
  have hlen : s1.data.toList.length ≤ 140737488351232 := sized_string hsz (j := 1) (t := 9) rfl rfl
  have hwalk := ampTexts_walk ⟨a0, b0, c0, e0⟩ k0 s1.data.toList W hlen (met_laid hL)
  rw [strB_data] at hwalk
  refine hwalk.mono fun e W' ⟨he, hg⟩ => ?_
  subst he
  exact ⟨_, rfl, _, _, _, [], _, [], hW', trodAll_mk1 (shut_bool Tryd.underlying4 _), trodAll_below laidOut hg _ _ _ _ (by kernel_rfl) hA, rfl, hg.frame _, fun h => by cases h⟩

theorem over : Rows.ampTextsRow.holds Tryd.pinned (OpenSpec.ofChange Rows.ampTextsSpec) :=
  OpenClaim.holds_of_wide 3 Tryd.f3 rfl rfl rfl rfl rfl rfl rfl ⟨rfl, rfl, rfl, rfl, rfl⟩ rfl rfl rfl rfl rfl (by kernel_rfl) Tryd.func3 (by kernel_rfl)
    (of_decide_eq_true (by kernel_rfl)) (by unfold Func.isWrapper; rw [if_neg (of_decide_eq_false (by kernel_rfl))]; exact ⟨rfl, rfl⟩)
    (fun os started H enc _ => lifted os started H enc)
end Go.Proofs.YtmjnjghhdkoljaaDoor.ampTexts

namespace Go.Proofs.YtmjnjghhdkoljaaDoor
open Go
/-- The row's statement. -/
theorem ampTexts_holds : Rows.AmpTextsSaid := ampTexts.over
/-- The card. -/
theorem ampTexts_card : Rows.AmpTextsCardSaid :=
  Claim7.holds_tied_plain_at .later [] [.data, .data, .data, .sentinel, .sentinel] true (true, "860672bb483d431a4193647a666ef4cb5ebcb37735566e0a1768f6c264ebec92") true
    ampTexts_holds (fun _ h => by cases h) (by kernel_rfl) (fun _ h => by cases h) ampTexts_row_tie rfl ⟨rfl, rfl⟩ (by kernel_rfl) rfl
    (fun f fn hf hfn => by
      obtain rfl : f = 3 := Option.some.inj ((show Tryd.prog.funcNamed "photonmesh/photonmeshlaw01.AmpTexts" = some 3 by kernel_rfl).symm.trans hf) |>.symm
      obtain rfl : fn = Tryd.f3 := (Option.some.inj (Tryd.func3.symm.trans hfn)).symm
      exact ⟨by kernel_rfl, fun j t ht => by
        rw [Tryd.params3] at ht
        rcases j with _ | _ | j
        · obtain rfl : t = 24 := by simpa using ht.symm
          exact (show Tryd.prog.wantsStandIn 24 = false by kernel_rfl)
        · obtain rfl : t = 9 := by simpa using ht.symm
          exact (show Tryd.prog.wantsStandIn 9 = false by kernel_rfl)
        · simp at ht⟩)
    (by kernel_rfl)
end Go.Proofs.YtmjnjghhdkoljaaDoor
#print axioms Go.Proofs.YtmjnjghhdkoljaaDoor.ampTexts_card
