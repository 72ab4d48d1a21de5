/- The walk of AmpNarrows: it returns true. Condition: the byte is one. -/
import Derived.Test.YtmphmfhmcgpjcaaAmpNar
import Derived.Test.YtmphmfhmcgpjcaaAmpBoundsWalk
import Derived.Test.YtmphmfhmcgpjcaaRegionB
namespace Go.Proofs.Ytmphmfhmcgpjcaa
open Go Go.RowKit Amp

set_option maxHeartbeats 800000 in
theorem between_any (a b c d : Int) (w : World) (h : Btw a b c d) :
    Calls Try.prog 45 #[.agg #[.int .i64 a, .int .i64 b], .agg #[.int .i64 c, .int .i64 d]] w fun e w' => e = .returned (.bool true) ∧ Grew w w' := by
  obtain ⟨_, _, _, _, _, _, _, _, _, _⟩ := h
  have e1 : 0 ≤ b - a := by omega
  have e2 : b - a ≤ 1 := by omega
  have e3 : 0 ≤ d - c := by omega
  have e4 : d - c ≤ 1 := by omega
  go_enter Try.func45, Try.ntmps45
  go_wp2_with fail
  go_ret
  refine ⟨ret_bool ?_, (by repeat (first | exact Grew.refl _ | refine Grew.drewN ?_ _ | refine Grew.grow ?_ _ | refine Grew.alloc ?_ _ | refine Grew.drew ?_))⟩
  simp [*]

set_option maxHeartbeats 2000000 in
theorem ampNarrows_nat (x : C4) (k n m : Int) (w : World) (h0 : 0 ≤ n) (h1 : n ≤ 255) (b : Nat) (hb : n % 30 = (b : Int)) (hb2 : b ≤ 29) :
    Calls Try.prog 11 #[.agg #[.int .i64 x.a, .int .i64 x.b, .int .i64 x.c, .int .i64 x.d, .int .i64 k], .int .u8 n, .int .i64 m] w fun e w' => e = .returned (.bool true) ∧ Grew w w' := by
  by_cases hv : validB x k = true
  case neg =>
    have H1 := fun w => aBounds_any x k b w
    have H2 := fun w => aBounds_any x k (b + 1) w
    rw [bndN_bad hv] at H1 H2
    replace H1 := hid H1
    replace H2 := hid H2
    clear hv
    go_enter Try.func11, Try.ntmps11
    go_wp2_with fail
    refine (H1.out _).mono ?_
    rintro e w' ⟨rfl, g0, n0, rfl⟩
    go_wp2_with fail
    refine (H2.out _).mono ?_
    rintro e w' ⟨rfl, g1, n1, rfl⟩
    go_wp2_with fail
    refine (awake_any _).mono ?_
    rintro e w' ⟨rfl, g2, n2, rfl⟩
    go_wp2_with fail
    go_ret
    exact ⟨rfl, (by repeat (first | exact Grew.refl _ | refine Grew.drewN ?_ _ | refine Grew.grow ?_ _ | refine Grew.alloc ?_ _ | refine Grew.drew ?_))⟩

  obtain ⟨a, a', c, c', d, d', f, f', q1, q2, t1, t2⟩ := bndN_pair hv (b := b) (by omega) (by omega)
  have H1 := fun w => aBounds_any x k b w
  have H2 := fun w => aBounds_any x k (b + 1) w
  rw [q1] at H1
  rw [q2] at H2
  replace H1 := hid H1
  replace H2 := hid H2
  have B1 := hid fun w => between_any a a' d d' w t1
  have B2 := hid fun w => between_any c c' f f' w t2
  have m1 : -1000 < m.tmod 1000 := Int.lt_tmod_of_pos m (by decide)
  have m2 : m.tmod 1000 < 1000 := Int.tmod_lt_of_pos m (by decide)
  have H3 := fun w => aBounds_any ⟨m.tmod 1000, 0, 0, 0⟩ 0 b w
  rw [bndN_whole _ b (by omega) (by omega) (by omega)] at H3
  obtain ⟨i1, i2⟩ := pow29 hb2 (x := m.tmod 1000) (by omega) (by omega)
  have hw : IntKind.i64.wrap (m.tmod 1000 * 2 ^ b) = 2 ^ b * m.tmod 1000 := by
    rw [Int.mul_comm]
    exact IntWalk.i64_in _ (by omega)
  generalize 2 ^ b * m.tmod 1000 = v at *
  have HW := hid hw
  replace H3 := hid H3
  clear hv q1 q2 t1 t2 hw i1 i2
  go_enter Try.func11, Try.ntmps11
  go_wp2_with fail
  refine (H1.out _).mono ?_
  rintro e w' ⟨rfl, g0, n0, rfl⟩
  go_wp2_with fail
  refine (H2.out _).mono ?_
  rintro e w' ⟨rfl, g1, n1, rfl⟩
  go_wp2_with fail
  refine (B1.out _).mono ?_
  rintro e w' ⟨rfl, g2, n2, rfl⟩
  go_wp2_with fail
  refine (B2.out _).mono ?_
  rintro e w' ⟨rfl, g3, n3, rfl⟩
  go_wp2_with fail
  refine (H3.out _).mono ?_
  rintro e w' ⟨rfl, g4, n4, rfl⟩
  go_wp2_with fail
  refine R2.wp_region_makes_one 7 (.cells #[.int .i64 0, .int .i64 0] 46) (by kernel_rfl) (by kernel_rfl) (by decide) (fun _ _ => by kernel_rfl) ?_
  simp only [List.take_succ_cons, List.take_zero]
  repeat (refine wpGentle_step (fun K hK => ?_); go_simp; first | (refine hK _ ?_; clear hK K) | fail)
  refine wpGentle_nil ?_
  simp only [List.drop_succ_cons, List.drop_zero, List.getElem_cons_succ, List.getElem_cons_zero, Act.put, List.setIfInBounds_toArray, List.set_cons_zero, List.set_cons_succ]
  intro ga gb kk
  rw [HW.out]
  go_wp2_with fail
  refine (awake_any _).mono ?_
  rintro e w' ⟨rfl, g5, n5, rfl⟩
  go_wp2_with fail
  go_ret
  exact ⟨rfl, (by repeat (first | exact Grew.refl _ | refine Grew.drewN ?_ _ | refine Grew.grow ?_ _ | refine Grew.alloc ?_ _ | refine Grew.drew ?_))⟩

theorem ampNarrows_walk (x : C4) (k n m : Int) (w : World) (hn : (Lit.int .u8 n).wf = true) :
    Calls Try.prog 11 #[.agg #[.int .i64 x.a, .int .i64 x.b, .int .i64 x.c, .int .i64 x.d, .int .i64 k], .int .u8 n, .int .i64 m] w fun e w' => e = .returned (.bool true) ∧ Grew w w' := by
  have h : 0 ≤ n ∧ n ≤ 255 := by
    simp only [Lit.wf, Bool.and_eq_true, decide_eq_true_eq] at hn
    exact hn
  exact ampNarrows_nat x k n m w h.1 h.2 (n % 30).toNat (by omega) (by omega)

end Go.Proofs.Ytmphmfhmcgpjcaa
