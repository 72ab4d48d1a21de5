/- The sanity check of layer 1 returns true. No condition. -/
import Derived.Test.YtmjnjghhdkoljaaDoorAmpF
namespace Go.Proofs.YtmjnjghhdkoljaaDoor
open Go Go.RowKit Amp

set_option maxHeartbeats 800000 in
theorem awake_any (w : World) : Calls Tryd.prog 8 #[] w fun e w' => e = .returned (.bool true) ∧ Grew w w' := by
  go_enter Tryd.func8, Tryd.ntmps8
  go_wp2_with fail
  refine (aMake_any ⟨1, 0, 1, 0⟩ 1 _).mono ?_
  rw [show makeN ⟨1, 0, 1, 0⟩ 1 = ⟨⟨0, 1, 0, 0⟩, 0, 0⟩ from by decide +kernel]
  rintro e w' ⟨rfl, g, n, rfl⟩
  go_wp2_with fail
  go_ret
  exact ⟨rfl, (by repeat (first | exact Grew.refl _ | refine Grew.drewN ?_ _ | refine Grew.grow ?_ _ | refine Grew.alloc ?_ _ | refine Grew.drew ?_))⟩

end Go.Proofs.YtmjnjghhdkoljaaDoor
