/- The walk of ProbeFringes: it returns true. No condition. -/
import Derived.Test.YtecnidnaokbaiaaPrbD
import Derived.Test.YtecnidnaokbaiaaPrbEq
namespace Go.Proofs.Ytecnidnaokbaiaa
open Go Go.RowKit Prb

set_option maxHeartbeats 4000000 in
theorem probeFringes_walk (a b c d m x y : Int) (w : World) :
    Calls Try.prog 3 #[.agg #[.int .i64 a, .int .i64 b, .int .i64 c, .int .i64 d], .agg #[.int .i64 m, .int .i64 x, .int .i64 y]] w fun e w' => e = .returned (.bool true) ∧ Grew w w' := by
  have HA := fun w => aVldF_any m x y w
  have HR := fun w => rVldF_any m x y w
  generalize vldB m x y = v at HA HR
  replace HA := hid HA
  replace HR := hid HR
  have R1 := hid fun w => aReadings_any m x y w
  have R2 := hid fun w => rReadings_any m x y w
  generalize rdN m x y = r at R1 R2
  have F1 := fun w => aFringe_any a b c d w
  have F2 := fun w => rFringe_any a b c d w
  rcases frN_cases a b c d with ⟨e0, h0, he⟩ | ⟨he, ha, hb, hc, hd, hs, hv⟩
  · rw [he] at F1 F2
    have e1 : (e0 == 0) = false := by simpa using h0
    replace F1 := hid F1
    replace F2 := hid F2
    clear he h0
    go_enter Try.func3, Try.ntmps3
    go_wp2_with fail
    refine (F1.out _).mono ?_
    rintro e w' ⟨rfl, g0, n0, rfl⟩
    go_wp2_with fail
    refine (F2.out _).mono ?_
    rintro e w' ⟨rfl, g1, n1, rfl⟩
    go_wp2_with fail
    cases v
    all_goals
      refine wp_region_gentle_lit (by kernel_rfl) (by kernel_rfl) ?_
      repeat (first | go_big_quiet_skip | (go_big_quiet_want; go_big_quiet_op; first | go_big_quiet_on | (apply Exists.intro; refine ⟨fun qq => ?_, ?_⟩; (focus ((first | (go_at_call 8; refine Calls.gentle_of (HA.out _) ?_) | (go_at_call 9; refine Calls.gentle_of (HR.out _) ?_)); rintro _ ⟨g', n', rfl⟩; exact ⟨⟨qq.g ++ g', qq.n + n'⟩, by rw [World.grow_drewN, World.grow_grow, World.drewN_drewN]; repeat (first | rw [List.append_assoc] | rw [Nat.add_assoc])⟩)); go_big_quiet_on)))
      refine wpQuiet_nil ?_
      rintro _ ⟨gg, ng, rfl⟩
      go_wp2_with fail
      refine (R1.out _).mono ?_
      rintro e w' ⟨rfl, g2, n2, rfl⟩
      go_wp2_with fail
      refine (R2.out _).mono ?_
      rintro e w' ⟨rfl, g3, n3, rfl⟩
      go_wp2_with fail
      refine (awake9_any _).mono ?_
      rintro e w' ⟨rfl, g4, n4, rfl⟩
      go_wp2_with fail
      go_ret
      exact ⟨rfl, (by repeat (first | exact Grew.refl _ | refine Grew.drewN ?_ _ | refine Grew.grow ?_ _ | refine Grew.alloc ?_ _ | refine Grew.drew ?_))⟩

  · rw [he] at F1 F2
    have B1 := fun w => aReadings_any (a + c) (a - c) (b - d) w
    rw [rd_fr ha hb hc hd hs hv] at B1
    replace B1 := hid B1
    replace F1 := hid F1
    replace F2 := hid F2
    clear he ha hb hc hd hs hv
    go_enter Try.func3, Try.ntmps3
    go_wp2_with fail
    refine (F1.out _).mono ?_
    rintro e w' ⟨rfl, g0, n0, rfl⟩
    go_wp2_with fail
    refine (F2.out _).mono ?_
    rintro e w' ⟨rfl, g1, n1, rfl⟩
    go_wp2_with fail
    cases v
    all_goals
      refine wp_region_gentle_lit (by kernel_rfl) (by kernel_rfl) ?_
      repeat (first | go_big_quiet_skip | (go_big_quiet_want; go_big_quiet_op; first | go_big_quiet_on | (apply Exists.intro; refine ⟨fun qq => ?_, ?_⟩; (focus ((first | (go_at_call 8; refine Calls.gentle_of (HA.out _) ?_) | (go_at_call 9; refine Calls.gentle_of (HR.out _) ?_)); rintro _ ⟨g', n', rfl⟩; exact ⟨⟨qq.g ++ g', qq.n + n'⟩, by rw [World.grow_drewN, World.grow_grow, World.drewN_drewN]; repeat (first | rw [List.append_assoc] | rw [Nat.add_assoc])⟩)); go_big_quiet_on)))
      refine wpQuiet_nil ?_
      rintro _ ⟨gg, ng, rfl⟩
      go_wp2_with fail
      refine (B1.out _).mono ?_
      rintro e w' ⟨rfl, g5, n5, rfl⟩
      go_wp2_with fail
      refine (R1.out _).mono ?_
      rintro e w' ⟨rfl, g2, n2, rfl⟩
      go_wp2_with fail
      refine (R2.out _).mono ?_
      rintro e w' ⟨rfl, g3, n3, rfl⟩
      go_wp2_with fail
      refine (awake9_any _).mono ?_
      rintro e w' ⟨rfl, g4, n4, rfl⟩
      go_wp2_with fail
      go_ret
      exact ⟨rfl, (by repeat (first | exact Grew.refl _ | refine Grew.drewN ?_ _ | refine Grew.grow ?_ _ | refine Grew.alloc ?_ _ | refine Grew.drew ?_))⟩

end Go.Proofs.Ytecnidnaokbaiaa
