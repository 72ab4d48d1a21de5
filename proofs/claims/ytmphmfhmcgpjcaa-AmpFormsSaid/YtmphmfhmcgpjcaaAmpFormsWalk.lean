/- The walk of AmpForms: it returns true. No condition. -/
import Derived.Test.YtmphmfhmcgpjcaaAmpAwake
namespace Go.Proofs.Ytmphmfhmcgpjcaa
open Go Go.RowKit Amp

set_option maxHeartbeats 800000 in
theorem ampForms_walk (z : C4) (zk : Int) (a : C4) (k : Int) (w : World) :
    Calls Try.prog 3 #[.agg #[.int .i64 z.a, .int .i64 z.b, .int .i64 z.c, .int .i64 z.d, .int .i64 zk], .agg #[.int .i64 a.a, .int .i64 a.b, .int .i64 a.c, .int .i64 a.d], .int .i64 k] w fun e w' => e = .returned (.bool true) ∧ Grew w w' := by
  have hA := fun w => aValid_any z zk w
  have hR := fun w => rValid_any z zk w
  generalize validB z zk = b at hA hR
  have HA := hid hA
  have HR := hid hR
  clear hA hR
  go_enter Try.func3, Try.ntmps3
  go_wp2_with fail
  refine (aMake_any a k _).mono ?_
  rintro e w' ⟨rfl, g, n, rfl⟩
  go_wp2_with fail
  refine (rMake_any a k _).mono ?_
  rintro e w' ⟨rfl, g1, n1, rfl⟩
  go_wp2_with fail
  cases b
  all_goals
    refine wp_region_gentle_lit (by kernel_rfl) (by kernel_rfl) ?_
    repeat (first | go_big_quiet_skip | (go_big_quiet_want; go_big_quiet_op; first | go_big_quiet_on | (apply Exists.intro; refine ⟨fun qq => ?_, ?_⟩; (focus ((first | (go_at_call 17; refine Calls.gentle_of (HA.out _) ?_) | (go_at_call 18; refine Calls.gentle_of (HR.out _) ?_) | (go_at_call 19; refine Calls.gentle_of (awake_any _) ?_)); rintro _ ⟨g', n', rfl⟩; (first | exact gentle_fin_c _ _ _ _ _ | exact gentle_fin _ _ _ _ | exact gentle_fin_gc _ _ _ _ _ _ | exact gentle_fin_g _ _ _ _ _))); go_big_quiet_on)))
    refine wpQuiet_nil ?_
    rintro _ ⟨gg, ng, rfl⟩
    go_wp2_with fail
    go_ret
    exact ⟨rfl, (by repeat (first | exact Grew.refl _ | refine Grew.drewN ?_ _ | refine Grew.grow ?_ _ | refine Grew.alloc ?_ _ | refine Grew.drew ?_))⟩

end Go.Proofs.Ytmphmfhmcgpjcaa
