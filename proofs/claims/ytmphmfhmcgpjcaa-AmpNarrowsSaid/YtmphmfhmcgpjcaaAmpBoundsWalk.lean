/- Equality of spans, as the walk meets it; the walk of AmpBounds: it returns true. No condition. -/
import Derived.Test.YtmphmfhmcgpjcaaAmpZc
import Derived.Test.YtmphmfhmcgpjcaaAmpAwake
namespace Go.Proofs.Ytmphmfhmcgpjcaa
open Go Go.RowKit Amp

theorem eqSpan (a b c d : Int) (w : World) : (Op.equalIn 10000 46 (.agg #[.int .i64 a, .int .i64 b]) (.agg #[.int .i64 c, .int .i64 d])).run Try.prog w = .ok (a == c && b == d) w := by
  simp [go_sem]
  by_cases h1 : a = c
  · by_cases h2 : b = d <;> simp [h1, h2]
  · simp [h1]
@[go_sem high] theorem run_eql_span (a b c d : Int) (w : World) : (binOp .eql 46 (.agg #[.int .i64 a, .int .i64 b]) (.agg #[.int .i64 c, .int .i64 d])).run Try.prog w = .ok (.bool (a == c && b == d)) w := by
  rw [run_eql_struct, eqSpan]; rfl

set_option maxHeartbeats 800000 in
theorem ampBounds_walk (x : C4) (k b : Int) (w : World) :
    Calls Try.prog 10 #[.agg #[.int .i64 x.a, .int .i64 x.b, .int .i64 x.c, .int .i64 x.d, .int .i64 k], .int .i64 b] w fun e w' => e = .returned (.bool true) ∧ Grew w w' := by
  have H1 := hid fun w => aBounds_any x k b w
  have H2 := hid fun w => rBounds_any x k b w
  generalize bndN x k b = r at *
  go_enter Try.func10, Try.ntmps10
  go_wp2_with fail
  refine (H1.out _).mono ?_
  rintro e w' ⟨rfl, g0, n0, rfl⟩
  go_wp2_with fail
  refine (H2.out _).mono ?_
  rintro e w' ⟨rfl, g1, n1, rfl⟩
  go_wp2_with fail
  refine (awake_any _).mono ?_
  rintro e w' ⟨rfl, g2, n2, rfl⟩
  go_wp2_with fail
  go_ret
  exact ⟨rfl, (by repeat (first | exact Grew.refl _ | refine Grew.drewN ?_ _ | refine Grew.grow ?_ _ | refine Grew.alloc ?_ _ | refine Grew.drew ?_))⟩

end Go.Proofs.Ytmphmfhmcgpjcaa
