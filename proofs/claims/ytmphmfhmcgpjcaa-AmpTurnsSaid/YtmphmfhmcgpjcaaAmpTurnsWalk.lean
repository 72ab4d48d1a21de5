/- The walk of AmpTurns: it returns true. No condition. -/
import Derived.Test.YtmphmfhmcgpjcaaAmpK
import Derived.Test.YtmphmfhmcgpjcaaAmpL
import Derived.Test.YtmphmfhmcgpjcaaAmpAwake
namespace Go.Proofs.Ytmphmfhmcgpjcaa
open Go Go.RowKit Amp

set_option maxHeartbeats 800000 in
theorem ampTurns_walk (x : C4) (k n m : Int) (w : World) :
    Calls Try.prog 5 #[.agg #[.int .i64 x.a, .int .i64 x.b, .int .i64 x.c, .int .i64 x.d, .int .i64 k], .int .i64 n, .int .i64 m] w fun e w' => e = .returned (.bool true) ∧ Grew w w' := by
  go_enter Try.func5, Try.ntmps5
  go_wp2_with fail
  refine (aNeg_any x k _).mono ?_
  rintro e w' ⟨rfl, g0, n0, rfl⟩
  go_wp2_with fail
  refine (rNeg_any x k _).mono ?_
  rintro e w' ⟨rfl, g1, n1, rfl⟩
  go_wp2_with fail
  refine (aConj_any x k _).mono ?_
  rintro e w' ⟨rfl, g2, n2, rfl⟩
  go_wp2_with fail
  refine (rConj_any x k _).mono ?_
  rintro e w' ⟨rfl, g3, n3, rfl⟩
  go_wp2_with fail
  refine (aFlip_any x k _).mono ?_
  rintro e w' ⟨rfl, g4, n4, rfl⟩
  go_wp2_with fail
  refine (rFlip_any x k _).mono ?_
  rintro e w' ⟨rfl, g5, n5, rfl⟩
  go_wp2_with fail
  refine (aTurn_any x k n _).mono ?_
  rintro e w' ⟨rfl, g6, n6, rfl⟩
  go_wp2_with fail
  refine (rTurn_any x k n _).mono ?_
  rintro e w' ⟨rfl, g7, n7, rfl⟩
  go_wp2_with fail
  refine (aHalve_any x k m _).mono ?_
  rintro e w' ⟨rfl, g8, n8, rfl⟩
  go_wp2_with fail
  refine (rHalve_any x k m _).mono ?_
  rintro e w' ⟨rfl, g9, n9, rfl⟩
  go_wp2_with fail
  refine (awake_any _).mono ?_
  rintro e w' ⟨rfl, g10, n10, rfl⟩
  go_wp2_with fail
  go_ret
  exact ⟨rfl, (by repeat (first | exact Grew.refl _ | refine Grew.drewN ?_ _ | refine Grew.grow ?_ _ | refine Grew.alloc ?_ _ | refine Grew.drew ?_))⟩

end Go.Proofs.Ytmphmfhmcgpjcaa
