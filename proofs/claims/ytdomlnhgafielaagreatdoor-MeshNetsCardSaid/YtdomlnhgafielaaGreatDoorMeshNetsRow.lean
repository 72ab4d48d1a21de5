/- The law MeshNets: whatever the input, it returns true, and the argument reads on as it did. Condition: the row's laid variables; the card ties them. -/
import Derived.Test.YtdomlnhgafielaaGreatDoorMeshNetsWalk
import Derived.Test.YtdomlnhgafielaaGreatDoorNetsLaid
import Derived.Test.YtdomlnhgafielaaGreatDoorOpenCls
import Derived.Test.YtdomlnhgafielaaGreatDoorCards
import Derived.Test.YtdomlnhgafielaaGreatDoorTie
namespace Go.Proofs.YtdomlnhgafielaaGreatDoor.meshNets
open Go Go.ChangeShapes Go.WideShapes Go.ChangeAt Go.RowKit Amp Msh netsLaid
open Go.ChangeMaps (open_string shut_string)

set_option maxRecDepth 100000 in
set_option maxHeartbeats 1000000 in
theorem lifted (os : Os) (started : os.Started) (H : Type) (enc : TypeId × Value → H) :
    ReturnsInHanded {} Tryz.checked os 3 .any (fun w args => (Rows.meshNetsSpec.pre enc Tryz.prog Tryz.f3 Rows.meshNetsRow.domain false w args ∧ laidMet Tryz.prog Rows.meshNetsRow.laid w) ∧ sizedMet enc Tryz.prog Tryz.f3 (OpenSpec.ofChange Rows.meshNetsSpec) false w args)
      (Rows.meshNetsSpec.post enc Tryz.prog Tryz.f3 false true false false) := by
  refine handed (C := Tryz.checked) (X := fun w _ => laidMet Tryz.prog Rows.meshNetsRow.laid w) (fun _ _ _ hh h => h.of_heap hh) own started (by kernel_rfl) Tryz.func3
    (ChangeSpec.witness_shaped (enc := enc) (C := Tryz.checked) (os := os) (X := fun w _ => laidMet Tryz.prog Rows.meshNetsRow.laid w) false (World.laidAll Tryz.prog os Rows.meshNetsRow.laid) #[.slice none 0 0] 8 (World.laidAll_os _ _ _) (door_shape os _) (by kernel_rfl) (by kernel_rfl) (by kernel_rfl) (door_met os _)) ?_
  intro W base args ds gs before hval0 hW _ hL hS
  have hval : ∀ (j : Nat) t v, Tryz.f3.params[j]? = some t → args[j]? = some v → Value.okWide Tryz.prog W .any base t v := hval0
  have hW' := hW
  obtain ⟨p, q, hA0, hV, rfl, hfz, hnd⟩ := hW
  have hA : DataW.TrodAll enc Tryz.prog W 0 (fun _ => true) true Tryz.f3.params.toList args.toList ds p := hA0
  rw [Tryz.params3] at hA hval
  obtain ⟨v0, vs0, d0, ds0, p0, q0, hargs, rfl, rfl, h0, r0⟩ := trodAll_cons hA
  obtain ⟨rfl, rfl, rfl⟩ := trodAll_nil r0
  obtain rfl : args = #[v0] := by cases args; simp_all
  obtain ⟨rfl, rfl⟩ := trodVars_none hV
  obtain ⟨a0, len0, cap0, rfl⟩ := okWide_slice Tryz.underlying22 (hval 0 _ v0 rfl rfl)
  obtain ⟨L, rfl, hl, hN, hk, hcap⟩ := open_cls h0
  clear hA0 hval0
  have hwalk := meshNets_walk a0 cap0 L W hl hN hk hcap (met_laid hS hL)
  refine hwalk.mono fun e W' ⟨he, hg⟩ => ?_
  subst he
  exact ⟨_, rfl, _, _, _, [], _, [], hW', trodAll_mk1 (shut_bool Tryz.underlying4 _), trodAll_below laidOut hg _ _ _ _ (by kernel_rfl) hA, rfl, hg.frame _, fun h => by cases h⟩

theorem over : Rows.meshNetsRow.holds Tryz.pinned (OpenSpec.ofChange Rows.meshNetsSpec) :=
  OpenClaim.holds_of_wide 3 Tryz.f3 rfl rfl rfl rfl rfl rfl rfl ⟨rfl, rfl, rfl, rfl, rfl⟩ rfl rfl rfl rfl rfl (by kernel_rfl) Tryz.func3 (by kernel_rfl)
    (of_decide_eq_true (by kernel_rfl)) (by unfold Func.isWrapper; rw [if_neg (of_decide_eq_false (by kernel_rfl))]; exact ⟨rfl, rfl⟩)
    (fun os started H enc _ => lifted os started H enc)
end Go.Proofs.YtdomlnhgafielaaGreatDoor.meshNets

namespace Go.Proofs.YtdomlnhgafielaaGreatDoor
open Go
/-- The row's statement. -/
theorem meshNets_holds : Rows.MeshNetsSaid := meshNets.over
/-- The card. -/
theorem meshNets_card : Rows.MeshNetsCardSaid :=
  Claim7.holds_tied_plain_at .later [] [.data, .data, .data, .data, .sentinel, .sentinel, .pinned] true (true, "78f641e94fd793dc35686d9681969010cb074a14d5bf871086cfdeae9d69b75e") true
    meshNets_holds (fun _ h => by cases h) (by kernel_rfl) (fun _ h => by cases h) meshNets_row_tie rfl ⟨rfl, rfl⟩ (by kernel_rfl) rfl
    (fun f fn hf hfn => by
      obtain rfl : f = 3 := Option.some.inj ((show Tryz.prog.funcNamed "photonmesh/photonmeshlaw03.MeshNets" = some 3 by kernel_rfl).symm.trans hf) |>.symm
      obtain rfl : fn = Tryz.f3 := (Option.some.inj (Tryz.func3.symm.trans hfn)).symm
      exact ⟨by kernel_rfl, fun j t ht => by
        rw [Tryz.params3] at ht
        rcases j with _ | j
        · obtain rfl : t = 22 := by simpa using ht.symm
          exact (show Tryz.prog.wantsStandIn 22 = false by kernel_rfl)
        · simp at ht⟩)
    (by kernel_rfl)
end Go.Proofs.YtdomlnhgafielaaGreatDoor
#print axioms Go.Proofs.YtdomlnhgafielaaGreatDoor.meshNets_card
