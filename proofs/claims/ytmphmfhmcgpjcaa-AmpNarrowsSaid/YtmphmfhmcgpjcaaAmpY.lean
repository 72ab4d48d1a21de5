/- The program's Bounds. No condition. -/
import Derived.Test.YtmphmfhmcgpjcaaAmpX
import Derived.Test.YtmphmfhmcgpjcaaAmpD
import Derived.Test.YtmphmfhmcgpjcaaHouseF
import Derived.Test.YtmphmfhmcgpjcaaRegionC
namespace Go.Proofs.Ytmphmfhmcgpjcaa
open Go Go.RowKit Amp

/-- The bounds of both parts, and an error. -/
structure Bnd where
  a : Int
  b : Int
  c : Int
  d : Int
  e : Int
def bndN (x : C4) (k b : Int) : Bnd := if validB x k = true then (if 0 ≤ b ∧ b ≤ 30 then ⟨lowN (x.b - x.d) x.a (2 * b - k - 1), hiN (x.b - x.d) x.a (2 * b - k - 1), lowN (x.b + x.d) x.c (2 * b - k - 1), hiN (x.b + x.d) x.c (2 * b - k - 1), 0⟩ else ⟨0, 0, 0, 0, 2⟩) else ⟨0, 0, 0, 0, 10⟩

set_option maxHeartbeats 800000 in
theorem aBounds_any (x : C4) (k b : Int) (w : World) :
    Calls Try.prog 43 #[.agg #[.int .i64 x.a, .int .i64 x.b, .int .i64 x.c, .int .i64 x.d, .int .i64 k], .int .i64 b] w fun e w' => e = .returned (.tuple #[.agg #[.int .i64 (bndN x k b).a, .int .i64 (bndN x k b).b], .agg #[.int .i64 (bndN x k b).c, .int .i64 (bndN x k b).d], .int .i64 (bndN x k b).e]) ∧ Grew w w' := by
  have hA := fun w => aValid_any x k w
  by_cases hv : validB x k = true
  case neg =>
    have he : Hid (bndN x k b = ⟨0, 0, 0, 0, 10⟩) := if_neg hv
    rw [show validB x k = false by simpa using hv] at hA
    have HA := hid hA
    clear hA hv
    go_enter Try.func43, Try.ntmps43
    go_wp2_with fail
    refine (HA.out _).mono ?_
    rintro e w' ⟨rfl, g, n, rfl⟩
    go_wp2_with fail
    exact bodyPost_ret (v := .tuple #[.agg #[.int .i64 0, .int .i64 0], .agg #[.int .i64 0, .int .i64 0], .int .i64 10]) (by simp [results, Try.results43, go_sem]) rfl ⟨by rw [he.out], (by repeat (first | exact Grew.refl _ | refine Grew.drewN ?_ _ | refine Grew.grow ?_ _ | refine Grew.alloc ?_ _ | refine Grew.drew ?_))⟩
  have hb : bndN x k b = (if 0 ≤ b ∧ b ≤ 30 then ⟨lowN (x.b - x.d) x.a (2 * b - k - 1), hiN (x.b - x.d) x.a (2 * b - k - 1), lowN (x.b + x.d) x.c (2 * b - k - 1), hiN (x.b + x.d) x.c (2 * b - k - 1), 0⟩ else ⟨0, 0, 0, 0, 2⟩) := if_pos hv
  have sx := smallB_iff.1 (validB_small hv)
  have kx := validB_k hv
  rw [hv] at hA
  have HA := hid hA
  clear hA hv
  by_cases h1 : 0 ≤ b
  case neg =>
    have he : Hid (bndN x k b = ⟨0, 0, 0, 0, 2⟩) := hb.trans (if_neg fun h => h1 h.1)
    have e1 : b < 0 := by omega
    clear hb h1 sx
    go_enter Try.func43, Try.ntmps43
    go_wp2_with fail
    refine (HA.out _).mono ?_
    rintro e w' ⟨rfl, g, n, rfl⟩
    go_wp2_with fail
    exact bodyPost_ret (v := .tuple #[.agg #[.int .i64 0, .int .i64 0], .agg #[.int .i64 0, .int .i64 0], .int .i64 2]) (by simp [results, Try.results43, go_sem]) rfl ⟨by rw [he.out], (by repeat (first | exact Grew.refl _ | refine Grew.drewN ?_ _ | refine Grew.grow ?_ _ | refine Grew.alloc ?_ _ | refine Grew.drew ?_))⟩
  by_cases h2 : b ≤ 30
  case neg =>
    have he : Hid (bndN x k b = ⟨0, 0, 0, 0, 2⟩) := hb.trans (if_neg fun h => h2 h.2)
    have e2 : 30 < b := by omega
    clear hb h2 sx
    go_enter Try.func43, Try.ntmps43
    go_wp2_with fail
    refine (HA.out _).mono ?_
    rintro e w' ⟨rfl, g, n, rfl⟩
    go_wp2_with fail
    exact bodyPost_ret (v := .tuple #[.agg #[.int .i64 0, .int .i64 0], .agg #[.int .i64 0, .int .i64 0], .int .i64 2]) (by simp [results, Try.results43, go_sem]) rfl ⟨by rw [he.out], (by repeat (first | exact Grew.refl _ | refine Grew.drewN ?_ _ | refine Grew.grow ?_ _ | refine Grew.alloc ?_ _ | refine Grew.drew ?_))⟩
  have he : Hid (bndN x k b = _) := hb.trans (if_pos ⟨h1, h2⟩)
  obtain ⟨⟨_, _⟩, ⟨_, _⟩, ⟨_, _⟩, ⟨_, _⟩⟩ := sx
  obtain ⟨_, _⟩ := kx
  have H1 := hid fun w => span_any x.a (x.b - x.d) k b w (by omega) (by omega) (by omega) (by omega) (by omega) (by omega) h1 h2
  have H2 := hid fun w => span_any x.c (x.b + x.d) k b w (by omega) (by omega) (by omega) (by omega) (by omega) (by omega) h1 h2
  clear hb
  go_enter Try.func43, Try.ntmps43
  go_wp2_with fail
  refine (HA.out _).mono ?_
  rintro e w' ⟨rfl, g, n, rfl⟩
  go_wp2_with fail
  refine R3.wp_region_gentle_tail 28 (by kernel_rfl) (by kernel_rfl) (by kernel_rfl) ?_
  simp only [List.take_succ_cons, List.take_zero, List.drop_succ_cons, List.drop_zero]
  repeat (first | go_big_quiet_skip | (go_big_quiet_want; go_big_quiet_op; first | go_big_quiet_on | (apply Exists.intro; refine ⟨fun qq => ?_, ?_⟩; (focus ((first | (go_at_call 67; with_reducible refine Calls.gentle_of (H1.out _) ?_) | (go_at_call 67; with_reducible refine Calls.gentle_of (H2.out _) ?_)); rintro _ ⟨g', n', rfl⟩; exact ⟨⟨qq.g ++ g', qq.n + n'⟩, by rw [World.grow_drewN, World.grow_grow, World.drewN_drewN]; repeat (first | rw [List.append_assoc] | rw [Nat.add_assoc])⟩)); go_big_quiet_on)))
  refine wpQuiet_nil ?_
  rintro _ ⟨gg, ng, rfl⟩
  go_wp2_with fail
  exact bodyPost_ret (v := .tuple #[.agg #[.int .i64 (lowN (x.b - x.d) x.a (2 * b - k - 1)), .int .i64 (hiN (x.b - x.d) x.a (2 * b - k - 1))], .agg #[.int .i64 (lowN (x.b + x.d) x.c (2 * b - k - 1)), .int .i64 (hiN (x.b + x.d) x.c (2 * b - k - 1))], .int .i64 0]) (by simp [results, Try.results43, go_sem]) rfl ⟨by rw [he.out], (by repeat (first | exact Grew.refl _ | refine Grew.drewN ?_ _ | refine Grew.grow ?_ _ | refine Grew.alloc ?_ _ | refine Grew.drew ?_))⟩

end Go.Proofs.Ytmphmfhmcgpjcaa
