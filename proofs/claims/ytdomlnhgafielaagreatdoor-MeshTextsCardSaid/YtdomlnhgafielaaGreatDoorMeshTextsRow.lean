/- The law MeshTexts: whatever the input, it returns true, and the argument reads on as it did. Condition: the row's laid variables; the card ties them. -/
import Derived.Test.YtdomlnhgafielaaGreatDoorSmA
import Derived.Test.YtdomlnhgafielaaGreatDoorNetsLaid
import Derived.Test.YtdomlnhgafielaaGreatDoorCards
import Derived.Test.YtdomlnhgafielaaGreatDoorTie
namespace Go.Proofs.YtdomlnhgafielaaGreatDoor.meshTexts
open Go Go.ChangeShapes Go.WideShapes Go.ChangeAt Go.RowKit Amp Msh netsLaid
open Go.ChangeMaps (open_string shut_string)

set_option maxRecDepth 100000 in
set_option maxHeartbeats 1000000 in
theorem lifted (os : Os) (started : os.Started) (H : Type) (enc : TypeId × Value → H) :
    ReturnsInHanded {} Tryz.checked os 4 .any (fun w args => (Rows.meshTextsSpec.pre enc Tryz.prog Tryz.f4 Rows.meshTextsRow.domain false w args ∧ laidMet Tryz.prog Rows.meshTextsRow.laid w) ∧ sizedMet enc Tryz.prog Tryz.f4 (OpenSpec.ofChange Rows.meshTextsSpec) false w args)
      (Rows.meshTextsSpec.post enc Tryz.prog Tryz.f4 false true false false) := by
  refine handed (C := Tryz.checked) (X := fun w _ => laidMet Tryz.prog Rows.meshTextsRow.laid w) (fun _ _ _ hh h => h.of_heap hh) own started (by kernel_rfl) Tryz.func4
    (ChangeSpec.witness_shaped (enc := enc) (C := Tryz.checked) (os := os) (X := fun w _ => laidMet Tryz.prog Rows.meshTextsRow.laid w) false (World.laidAll Tryz.prog os Rows.meshTextsRow.laid) #[.string ⟨#[]⟩] 8 (World.laidAll_os _ _ _) (door_shape os _) (by kernel_rfl) (by kernel_rfl) (by kernel_rfl) (door_met os _)) ?_
  intro W base args ds gs before hval0 hW hsz0 hL hS
  have hsz : (DataW.weightsEach Tryz.prog (Tryz.f4.params.toList ++ Rows.meshTextsSpec.plain.varTypes Tryz.prog) (ds ++ gs)).all (· ≤ reachBytes) = true := hsz0
  clear hsz0
  have hval : ∀ (j : Nat) t v, Tryz.f4.params[j]? = some t → args[j]? = some v → Value.okWide Tryz.prog W .any base t v := hval0
  have hW' := hW
  obtain ⟨p, q, hA0, hV, rfl, hfz, hnd⟩ := hW
  have hA : DataW.TrodAll enc Tryz.prog W 0 (fun _ => true) true Tryz.f4.params.toList args.toList ds p := hA0
  rw [Tryz.params4] at hA hval hsz
  obtain ⟨v0, vs0, d0, ds0, p0, q0, hargs, rfl, rfl, h0, r0⟩ := trodAll_cons hA
  obtain ⟨rfl, rfl, rfl⟩ := trodAll_nil r0
  obtain rfl : args = #[v0] := by cases args; simp_all
  obtain ⟨rfl, rfl⟩ := trodVars_none hV
  obtain ⟨s1, rfl, rfl, rfl, ws1⟩ := open_string Tryz.underlying9 (hval 0 9 v0 rfl rfl) h0
  clear hA0 hval0
  have hlen : s1.data.toList.length ≤ 140737488351232 := sized_string hsz (j := 0) (t := 9) rfl rfl
  have hwalk := meshTexts_walk s1.data.toList W hlen (met_laid hS hL)
  rw [strB_data] at hwalk
  refine hwalk.mono fun e W' ⟨he, hg⟩ => ?_
  subst he
  exact ⟨_, rfl, _, _, _, [], _, [], hW', trodAll_mk1 (shut_bool Tryz.underlying4 _), trodAll_below laidOut hg _ _ _ _ (by kernel_rfl) hA, rfl, hg.frame _, fun h => by cases h⟩

theorem over : Rows.meshTextsRow.holds Tryz.pinned (OpenSpec.ofChange Rows.meshTextsSpec) :=
  OpenClaim.holds_of_wide 4 Tryz.f4 rfl rfl rfl rfl rfl rfl rfl ⟨rfl, rfl, rfl, rfl, rfl⟩ rfl rfl rfl rfl rfl (by kernel_rfl) Tryz.func4 (by kernel_rfl)
    (of_decide_eq_true (by kernel_rfl)) (by unfold Func.isWrapper; rw [if_neg (of_decide_eq_false (by kernel_rfl))]; exact ⟨rfl, rfl⟩)
    (fun os started H enc _ => lifted os started H enc)
end Go.Proofs.YtdomlnhgafielaaGreatDoor.meshTexts

namespace Go.Proofs.YtdomlnhgafielaaGreatDoor
open Go
/-- The row's statement. -/
theorem meshTexts_holds : Rows.MeshTextsSaid := meshTexts.over
/-- The card. -/
theorem meshTexts_card : Rows.MeshTextsCardSaid :=
  Claim7.holds_tied_plain_at .later [] [.data, .data, .data, .data, .sentinel, .sentinel, .pinned] true (true, "78f641e94fd793dc35686d9681969010cb074a14d5bf871086cfdeae9d69b75e") true
    meshTexts_holds (fun _ h => by cases h) (by kernel_rfl) (fun _ h => by cases h) meshTexts_row_tie rfl ⟨rfl, rfl⟩ (by kernel_rfl) rfl
    (fun f fn hf hfn => by
      obtain rfl : f = 4 := Option.some.inj ((show Tryz.prog.funcNamed "photonmesh/photonmeshlaw03.MeshTexts" = some 4 by kernel_rfl).symm.trans hf) |>.symm
      obtain rfl : fn = Tryz.f4 := (Option.some.inj (Tryz.func4.symm.trans hfn)).symm
      exact ⟨by kernel_rfl, fun j t ht => by
        rw [Tryz.params4] at ht
        rcases j with _ | j
        · obtain rfl : t = 9 := by simpa using ht.symm
          exact (show Tryz.prog.wantsStandIn 9 = false by kernel_rfl)
        · simp at ht⟩)
    (by kernel_rfl)
end Go.Proofs.YtdomlnhgafielaaGreatDoor
#print axioms Go.Proofs.YtdomlnhgafielaaGreatDoor.meshTexts_card
