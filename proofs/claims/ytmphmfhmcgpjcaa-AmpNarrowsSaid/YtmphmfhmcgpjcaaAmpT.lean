/- The reference's signs. Condition: within a word. -/
import Derived.Test.YtmphmfhmcgpjcaaAmpS
import Derived.Test.YtmphmfhmcgpjcaaAmpG
namespace Go.Proofs.Ytmphmfhmcgpjcaa
open Go Go.RowKit Amp

set_option maxHeartbeats 800000 in
theorem above_any (q0 p0 : Int) (w : World) (hq : 0 < q0) (hq' : q0 ≤ 4611686018427387904) (hp : 0 < p0) (hp' : p0 ≤ 4611686018427387904) :
    Calls Try.prog 76 #[.int .i64 q0, .int .i64 p0] w fun e w' => e = .returned (.bool (abN 1 q0 p0)) ∧ Grew w w' := by
  go_enter Try.func76, Try.ntmps76
  go_wp2_with fail
  go_loopw [0, 1, 5, 6] (fun a b c d wr => ∃ (q p part : Int) (t : Bool), 0 < q ∧ q ≤ 4611686018427387904 ∧ 0 < p ∧ p ≤ 4611686018427387904 ∧ (part = 1 ∨ part = 2) ∧ a = .int .i64 q ∧ b = .int .i64 p ∧ c = .int .i64 part ∧ d = .bool t ∧ Hid ((abN part q p != t) = abN 1 q0 p0) ∧ Grew w wr) (fun a _ _ _ _ => (intOf a).toNat)
  case atStart => exact ⟨q0, p0, 1, false, hq, hq', hp, hp', .inl rfl, rfl, rfl, rfl, rfl, hid (by simp), Grew.refl _⟩
  case round =>
    obtain ⟨q, p, part, t, h1, h2, h3, h4, h5, rfl, rfl, rfl, rfl, H, g, n, rfl⟩ := hrel
    clear hq hq' hp hp'
    have h0 : (0 : Int) ≤ p := by omega
    have hq0 : (q == 0) = false := by simp; omega
    have r0 := Int.emod_nonneg p (show q ≠ 0 by omega)
    have r1 := Int.emod_lt_of_pos p h1
    have n0 : 0 ≤ p / q := Int.ediv_nonneg (by omega) (by omega)
    have n1 : p / q ≤ p := Int.ediv_le_self _ (by omega)
    have hne := abN_ne h5 h1 h3
    have hze := abN_zero (p := p) h5 h1
    have hst := abN_step (p := p) h5 h1
    have ed : p.tdiv q = p / q := Int.tdiv_eq_ediv_of_nonneg h0
    have em : p.tmod q = p % q := Int.tmod_eq_emod_of_nonneg h0
    generalize p / q = nn at *
    generalize p % q = rr at *
    have Hne := hid hne
    have Hze := hid hze
    have Hst := hid hst
    have H5 := hid h5
    clear hne hze hst h5
    by_cases hn : nn = part
    · by_cases hr : rr = 0
      · have He : Hid (abN 1 q0 p0 = !t) := by
          have := H.out
          rw [Hze.out hn hr] at this
          rw [← this]; cases t <;> rfl
        subst hn
        subst hr
        clear H
        go_wp2_with fail
        refine wp_region_gentle_lit (by kernel_rfl) (by kernel_rfl) ?_
        repeat (first | go_big_quiet_skip | (go_big_quiet_want; go_big_quiet_op; first | go_big_quiet_on | fail))
        refine wpQuiet_nil ?_
        rintro _ ⟨gg, ng, rfl⟩
        go_wp2_with fail
        go_ret
        exact ⟨ret_bool He.out.symm, (by repeat (first | exact Grew.refl _ | refine Grew.drewN ?_ _ | refine Grew.grow ?_ _ | refine Grew.alloc ?_ _ | refine Grew.drew ?_))⟩
      · have He : Hid ((abN 2 rr q != !t) = abN 1 q0 p0) := by
          have := H.out
          rw [Hst.out hn hr] at this
          show (abN 2 rr q != !t) = _
          rw [← this]; cases t <;> cases abN 2 rr q <;> rfl
        have hb : (rr == 0) = false := by simpa using hr
        subst hn
        clear H
        go_wp2_with fail
        refine wp_region_gentle_lit (by kernel_rfl) (by kernel_rfl) ?_
        repeat (first | go_big_quiet_skip | (go_big_quiet_want; go_big_quiet_op; first | go_big_quiet_on | fail))
        refine wpQuiet_nil ?_
        rintro _ ⟨gg, ng, rfl⟩
        go_wp2_with fail
        go_roundw
        case rel => exact ⟨rr, q, 2, !t, by omega, by omega, by omega, by omega, .inr rfl, rfl, rfl, rfl, rfl, He, (by repeat (first | exact Grew.refl _ | refine Grew.drewN ?_ _ | refine Grew.grow ?_ _ | refine Grew.alloc ?_ _ | refine Grew.drew ?_))⟩
        case measure => simp [intOf]; omega
    · have He : Hid (abN 1 q0 p0 = (decide (nn < part) != t)) := by
        have := H.out
        rw [Hne.out hn] at this
        exact this.symm
      have hb : (nn == part) = false := by simpa using hn
      have hb' : (nn != part) = true := by simpa using hn
      clear H hn
      go_wp2_with fail
      refine wp_region_gentle_lit (by kernel_rfl) (by kernel_rfl) ?_
      repeat (first | go_big_quiet_skip | (go_big_quiet_want; go_big_quiet_op; first | go_big_quiet_on | fail))
      refine wpQuiet_nil ?_
      rintro _ ⟨gg, ng, rfl⟩
      go_wp2_with fail
      go_ret
      exact ⟨ret_bool He.out.symm, (by repeat (first | exact Grew.refl _ | refine Grew.drewN ?_ _ | refine Grew.grow ?_ _ | refine Grew.alloc ?_ _ | refine Grew.drew ?_))⟩

set_option maxHeartbeats 800000 in
theorem side_np (p q : Int) (w : World) (a1 : -4611686018427387903 ≤ p) (a2 : p ≤ 4611686018427387903) (b1 : -4611686018427387903 ≤ q) (b2 : q ≤ 4611686018427387903) (hp : p < 0) (hq : 0 < q) :
    Calls Try.prog 69 #[.int .i64 p, .int .i64 q] w fun e w' => e = .returned (.int .i64 (sgn p q)) ∧ Grew w w' := by
  have HA := hid fun w => above_any q (-p) w hq (by omega) (by omega) (by omega)
  have Hs := hid (sgn_above hp hq)
  have h1 : decide (0 ≤ p) = false := decide_eq_false (by omega)
  have h2 : decide (q ≤ 0) = false := decide_eq_false (by omega)
  have h3 : decide (0 < p) = false := decide_eq_false (by omega)
  go_enter Try.func69, Try.ntmps69
  go_wp2_with fail
  refine (HA.out _).mono ?_
  rintro e w' ⟨rfl, g, n, rfl⟩
  by_cases h : abN 1 q (-p) = true
  · have He := hid (Hs.out.trans (if_pos h))
    rw [h]
    clear h Hs
    go_wp2_with fail
    go_ret
    exact ⟨ret_int He.out.symm, (by repeat (first | exact Grew.refl _ | refine Grew.drewN ?_ _ | refine Grew.grow ?_ _ | refine Grew.alloc ?_ _ | refine Grew.drew ?_))⟩
  · have He := hid (Hs.out.trans (if_neg h))
    rw [show abN 1 q (-p) = false by simpa using h]
    clear h Hs
    go_wp2_with fail
    go_ret
    exact ⟨ret_int He.out.symm, (by repeat (first | exact Grew.refl _ | refine Grew.drewN ?_ _ | refine Grew.grow ?_ _ | refine Grew.alloc ?_ _ | refine Grew.drew ?_))⟩

set_option maxHeartbeats 800000 in
theorem side_any (p q : Int) (w : World) (a1 : -4611686018427387903 ≤ p) (a2 : p ≤ 4611686018427387903) (b1 : -4611686018427387903 ≤ q) (b2 : q ≤ 4611686018427387903) :
    Calls Try.prog 69 #[.int .i64 p, .int .i64 q] w fun e w' => e = .returned (.int .i64 (sgn p q)) ∧ Grew w w' := by
  by_cases hp : 0 ≤ p ∧ 0 ≤ q
  · have Hs := hid (sgn_nonneg hp.1 hp.2)
    obtain ⟨_, _⟩ := hp
    go_enter Try.func69, Try.ntmps69
    go_wp2
    all_goals
      go_ret
      exact ⟨ret_int (by rw [Hs.out]; omega), (by repeat (first | exact Grew.refl _ | refine Grew.drewN ?_ _ | refine Grew.grow ?_ _ | refine Grew.alloc ?_ _ | refine Grew.drew ?_))⟩
  by_cases hn : p ≤ 0 ∧ q ≤ 0
  · have Hs := hid (sgn_nonpos hn.1 hn.2)
    obtain ⟨_, _⟩ := hn
    have h1 : p < 0 ∨ (p = 0 ∧ q < 0) := by omega
    clear hp
    go_enter Try.func69, Try.ntmps69
    rcases h1 with h1 | ⟨h1, h2⟩
    · have e1 : decide (0 ≤ p) = false := decide_eq_false (by omega)
      go_wp2
      all_goals
        go_ret
        exact ⟨ret_int (by rw [Hs.out]; omega), (by repeat (first | exact Grew.refl _ | refine Grew.drewN ?_ _ | refine Grew.grow ?_ _ | refine Grew.alloc ?_ _ | refine Grew.drew ?_))⟩
    · subst h1
      have e1 : decide (0 ≤ q) = false := decide_eq_false (by omega)
      go_wp2
      all_goals
        go_ret
        exact ⟨ret_int (by rw [Hs.out]; omega), (by repeat (first | exact Grew.refl _ | refine Grew.drewN ?_ _ | refine Grew.grow ?_ _ | refine Grew.alloc ?_ _ | refine Grew.drew ?_))⟩
  by_cases h : p < 0
  · exact side_np p q w a1 a2 b1 b2 h (by omega)
  · have HA := hid fun w => side_np (-p) (-q) w (by omega) (by omega) (by omega) (by omega) (by omega) (by omega)
    have Hs := hid (sgn_opp (-p) (-q))
    obtain ⟨sl, su⟩ := sgn_le (-p) (-q)
    rw [Int.neg_neg, Int.neg_neg] at Hs
    generalize sgn (-p) (-q) = v at *
    have e1 : decide (0 ≤ q) = false := decide_eq_false (by omega)
    have e2 : decide (p ≤ 0) = false := decide_eq_false (by omega)
    have e3 : 0 < p := by omega
    have e4 : 0 ≤ p := by omega
    clear hp hn h
    go_enter Try.func69, Try.ntmps69
    go_wp2_with fail
    refine (HA.out _).mono ?_
    rintro e w' ⟨rfl, g, n, rfl⟩
    go_wp2_with fail
    go_ret
    exact ⟨ret_int Hs.out.symm, (by repeat (first | exact Grew.refl _ | refine Grew.drewN ?_ _ | refine Grew.grow ?_ _ | refine Grew.alloc ?_ _ | refine Grew.drew ?_))⟩

end Go.Proofs.Ytmphmfhmcgpjcaa
