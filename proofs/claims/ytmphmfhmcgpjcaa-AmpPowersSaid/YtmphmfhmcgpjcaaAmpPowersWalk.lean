/- The walk of AmpPowers: it returns true. No condition. -/
import Derived.Test.YtmphmfhmcgpjcaaAmpPows
import Derived.Test.YtmphmfhmcgpjcaaAmpK
import Derived.Test.YtmphmfhmcgpjcaaAmpAwake
namespace Go.Proofs.Ytmphmfhmcgpjcaa
open Go Go.RowKit Amp

theorem zero_k {k : Int} (h : validB zero k = true) : k = 0 := by
  simp only [validB, Bool.and_eq_true, Bool.or_eq_true, decide_eq_true_eq, Bool.not_eq_true'] at h
  rcases h.2 with h | h
  · exact h
  · exact absurd h (by decide)
theorem eq5_zero {x : C4} {k : Int} (h : validB x k = true) : eq5 x k zero 0 = decide (x = zero) := by
  rw [Bool.eq_iff_iff, eq5_iff, decide_eq_true_eq]
  constructor
  · exact fun h => h.1
  · rintro rfl; exact ⟨rfl, zero_k h⟩

set_option maxHeartbeats 4000000 in
theorem ampPowers_walk (x : C4) (k : Int) (y : C4) (j : Int) (w : World) :
    Calls Try.prog 14 #[.agg #[.int .i64 x.a, .int .i64 x.b, .int .i64 x.c, .int .i64 x.d, .int .i64 k], .agg #[.int .i64 y.a, .int .i64 y.b, .int .i64 y.c, .int .i64 y.d, .int .i64 j]] w fun e w' => e = .returned (.bool true) ∧ Grew w w' := by
  rcases powerN_cases x k with ⟨ea, he0, he⟩ | ⟨n, i, s, rfl, hx, hp, hs, hsame⟩
  · have H1 := fun w => aPower_any x k w
    rw [he] at H1
    simp only [fail, zero] at H1
    have he0' : (ea != 0) = true := by simpa using he0
    clear he he0
    replace H1 := hid H1
    go_enter Try.func14, Try.ntmps14
    go_wp2_with fail
    refine (H1.out _).mono ?_
    rintro e w' ⟨rfl, g0, n0, rfl⟩
    go_wp2_with fail
    refine (awake_any _).mono ?_
    rintro e w' ⟨rfl, g1, n1, rfl⟩
    go_wp2_with fail
    go_ret
    exact ⟨rfl, (by repeat (first | exact Grew.refl _ | refine Grew.drewN ?_ _ | refine Grew.grow ?_ _ | refine Grew.alloc ?_ _ | refine Grew.drew ?_))⟩

  have H1 := fun w => aPower_any x n w
  rw [hp] at H1
  have H2 := fun w => aSign_any s i w
  have H3 := fun w => aFlip_any s i w
  rw [changeR_e hs] at H3
  have H4 := fun w => aSign_any (flipK s i) i w
  obtain ⟨⟨h1, h2⟩, h3, h4⟩ := pow_signs hs hsame
  rw [h1, h2] at H2
  rw [h3, h4] at H4
  have hz : eq5 ⟨x.a, x.b, x.c, x.d⟩ n ⟨0, 0, 0, 0⟩ 0 = decide (x = zero) := eq5_zero hx
  have HR := hid fun w => aPower_any y j w
  have HZ := hid fun w => aMul_any x y n j w
  have HL := hid fun w => aPower_any (mulN x n y j).x (mulN x n y j).k w
  have HT := hid fun w => aMul_any s (powerN y j).x i (powerN y j).k w
  have hE : ∀ r z l t, powerN y j = r → mulN x n y j = z → powerN z.x z.k = l → mulN s i r.x r.k = t → r.e = 0 → z.e = 0 → l.e = 0 → t.e = 0 → eq5 l.x l.k t.x t.k = true := by
    intro r z l t hr hz hl ht e1 e2 e3 e4
    rcases powerN_cases y j with ⟨e, h0, hh1⟩ | ⟨m, ri, rs, rfl, hy, hh1, hv1, hs1⟩
    · rw [← hr, hh1] at e1; exact absurd e1 h0
    rcases mulN_cases x y n m with ⟨e, h0, hh2⟩ | ⟨n2, m2, zi, zs, hn, hm, _, _, hh2, hv2, hs2⟩
    · rw [← hz, hh2] at e2; exact absurd e2 h0
    obtain rfl : _ = n := (Int.ofNat.inj hn).symm
    obtain rfl : _ = m := (Int.ofNat.inj hm).symm
    rw [hh1] at hr
    rw [hh2] at hz
    subst hr
    subst hz
    rcases powerN_cases zs zi with ⟨e, h0, hh3⟩ | ⟨z2, li, ls, hz2, _, hh3, hv3, hs3⟩
    · have hl' : powerN zs zi = l := hl
      rw [← hl', hh3] at e3; exact absurd e3 h0
    obtain rfl : _ = zi := (Int.ofNat.inj hz2).symm
    rcases mulN_cases s rs i ri with ⟨e, h0, hh4⟩ | ⟨i2, r2, ti, ts, hi, hri, _, _, hh4, hv4, hs4⟩
    · have ht' : mulN s i rs ri = t := ht
      rw [← ht', hh4] at e4; exact absurd e4 h0
    obtain rfl : _ = i := (Int.ofNat.inj hi).symm
    obtain rfl : _ = ri := (Int.ofNat.inj hri).symm
    have hl' : powerN zs z2 = l := hl
    have ht' : mulN s i2 rs r2 = t := ht
    rw [hh3] at hl'
    rw [hh4] at ht'
    subst hl'
    subst ht'
    obtain ⟨hh5, hh6⟩ := pow_mul hsame hs1 hs2 hs3 hs4 hv3 hv4
    subst hh5
    subst hh6
    exact eq5_self _ _
  have HE := hid hE
  clear hE hx hp hs hsame h1 h2 h3 h4
  by_cases h0 : x = zero
  · rw [if_pos h0] at H2 H4
    rw [decide_eq_true h0] at hz
    clear h0
    replace H1 := hid H1
    replace H2 := hid H2
    replace H3 := hid H3
    replace H4 := hid H4
    go_enter Try.func14, Try.ntmps14
    go_wp2_with fail
    refine (H1.out _).mono ?_
    rintro e w' ⟨rfl, g0, n0, rfl⟩
    go_wp2_with fail
    refine (H2.out _).mono ?_
    rintro e w' ⟨rfl, g1, n1, rfl⟩
    go_wp2_with fail
    refine (H3.out _).mono ?_
    rintro e w' ⟨rfl, g2, n2, rfl⟩
    go_wp2_with fail
    refine (H4.out _).mono ?_
    rintro e w' ⟨rfl, g3, n3, rfl⟩
    go_wp2_with fail
    refine (HR.out _).mono ?_
    rintro e w' ⟨rfl, g4, n4, rfl⟩
    go_wp2_with fail
    refine (HZ.out _).mono ?_
    rintro e w' ⟨rfl, g5, n5, rfl⟩
    go_wp2_with fail
    refine (HL.out _).mono ?_
    rintro e w' ⟨rfl, g6, n6, rfl⟩
    go_wp2_with fail
    refine (HT.out _).mono ?_
    rintro e w' ⟨rfl, g7, n7, rfl⟩
    go_wp2_with fail
    all_goals first
      | (refine (awake_any _).mono ?_
         rintro e w' ⟨rfl, g9, n9, rfl⟩
         go_wp2_with fail
         go_ret
         exact ⟨rfl, (by repeat (first | exact Grew.refl _ | refine Grew.drewN ?_ _ | refine Grew.grow ?_ _ | refine Grew.alloc ?_ _ | refine Grew.drew ?_))⟩)
      | (rename_i h1 h2 h3 h4 h5
         exact absurd (HE.out _ _ _ _ rfl rfl rfl rfl h1 h2 h3 (by simpa using h4)) h5)
  · rw [if_neg h0] at H2 H4
    rw [decide_eq_false h0] at hz
    clear h0
    replace H1 := hid H1
    replace H2 := hid H2
    replace H3 := hid H3
    replace H4 := hid H4
    go_enter Try.func14, Try.ntmps14
    go_wp2_with fail
    refine (H1.out _).mono ?_
    rintro e w' ⟨rfl, g0, n0, rfl⟩
    go_wp2_with fail
    refine (H2.out _).mono ?_
    rintro e w' ⟨rfl, g1, n1, rfl⟩
    go_wp2_with fail
    refine (H3.out _).mono ?_
    rintro e w' ⟨rfl, g2, n2, rfl⟩
    go_wp2_with fail
    refine (H4.out _).mono ?_
    rintro e w' ⟨rfl, g3, n3, rfl⟩
    go_wp2_with fail
    refine (HR.out _).mono ?_
    rintro e w' ⟨rfl, g4, n4, rfl⟩
    go_wp2_with fail
    refine (HZ.out _).mono ?_
    rintro e w' ⟨rfl, g5, n5, rfl⟩
    go_wp2_with fail
    refine (HL.out _).mono ?_
    rintro e w' ⟨rfl, g6, n6, rfl⟩
    go_wp2_with fail
    refine (HT.out _).mono ?_
    rintro e w' ⟨rfl, g7, n7, rfl⟩
    go_wp2_with fail
    all_goals first
      | (refine (awake_any _).mono ?_
         rintro e w' ⟨rfl, g9, n9, rfl⟩
         go_wp2_with fail
         go_ret
         exact ⟨rfl, (by repeat (first | exact Grew.refl _ | refine Grew.drewN ?_ _ | refine Grew.grow ?_ _ | refine Grew.alloc ?_ _ | refine Grew.drew ?_))⟩)
      | (rename_i h1 h2 h3 h4 h5
         exact absurd (HE.out _ _ _ _ rfl rfl rfl rfl h1 h2 h3 (by simpa using h4)) h5)

end Go.Proofs.Ytmphmfhmcgpjcaa
