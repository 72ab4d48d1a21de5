/- The walk of AmpRanks: it returns true. No condition. -/
import Derived.Test.YtmphmfhmcgpjcaaAmpRanks
import Derived.Test.YtmphmfhmcgpjcaaAmpAwake
namespace Go.Proofs.Ytmphmfhmcgpjcaa
open Go Go.RowKit Amp

theorem cmp4 {x y z : C4} {k j i : Int} (h : cmpE x k y j = 0) (h' : cmpE y j z i = 0) : (cmpV x k y j = 0 ∧ cmpV x k z i = cmpV y j z i) ∨ (cmpV x k y j ≠ 0 ∧ cmpV y j z i = 0 ∧ cmpV x k z i = cmpV x k y j) ∨ (cmpV x k y j ≠ 0 ∧ cmpV y j z i ≠ 0 ∧ cmpV y j z i = cmpV x k y j ∧ cmpV x k z i = cmpV x k y j) ∨ (cmpV x k y j ≠ 0 ∧ cmpV y j z i ≠ 0 ∧ cmpV x k y j ≠ cmpV y j z i) := by
  obtain ⟨h1, h2, h3⟩ := cmp_trans h h'
  by_cases a : cmpV x k y j = 0
  · exact .inl ⟨a, h2 a⟩
  by_cases b : cmpV y j z i = 0
  · exact .inr (.inl ⟨a, b, h3 b⟩)
  by_cases c : cmpV x k y j = cmpV y j z i
  · exact .inr (.inr (.inl ⟨a, b, c.symm, h1 c⟩))
  · exact .inr (.inr (.inr ⟨a, b, c⟩))
theorem cmpE_third {x y z : C4} {k j i : Int} (h : cmpE x k y j = 0) (h' : cmpE y j z i = 0) : cmpE x k z i = 0 := by
  obtain ⟨h1, h2, h3, h4⟩ := cmpE_ok h
  obtain ⟨_, k2, _, k4⟩ := cmpE_ok h'
  exact (cmpE_good h1 k2 h3 k4).1
theorem cmpV_le (x y : C4) (k j : Int) : -1 ≤ cmpV x k y j ∧ cmpV x k y j ≤ 1 := by
  unfold cmpV
  split
  · split
    · exact sgn_le _ _
    · omega
  · omega

set_option maxHeartbeats 800000 in
theorem ranks_bad1 (x : C4) (k : Int) (y : C4) (j : Int) (z : C4) (t : Int) (w : World) (h : cmpE x k y j ≠ 0) :
    Calls Try.prog 13 #[.agg #[.int .i64 x.a, .int .i64 x.b, .int .i64 x.c, .int .i64 x.d, .int .i64 k], .agg #[.int .i64 y.a, .int .i64 y.b, .int .i64 y.c, .int .i64 y.d, .int .i64 j], .agg #[.int .i64 z.a, .int .i64 z.b, .int .i64 z.c, .int .i64 z.d, .int .i64 t]] w fun e w' => e = .returned (.bool true) ∧ Grew w w' := by
  have H1 := fun w => aCmp_any x y k j w
  have H2 := hid fun w => aCmp_any y z j t w
  have H3 := hid fun w => aCmp_any x z k t w
  have e1 : (cmpE x k y j != 0) = true := by simpa using h
  clear h
  generalize cmpE x k y j = E at *
  replace H1 := hid H1
  go_enter Try.func13, Try.ntmps13
  go_wp2_with fail
  refine (H1.out _).mono ?_
  rintro e w' ⟨rfl, g0, n0, rfl⟩
  go_wp2_with fail
  refine (H2.out _).mono ?_
  rintro e w' ⟨rfl, g1, n1, rfl⟩
  go_wp2_with fail
  refine (H3.out _).mono ?_
  rintro e w' ⟨rfl, g2, n2, rfl⟩
  go_wp2_with fail
  refine (awake_any _).mono ?_
  rintro e w' ⟨rfl, g3, n3, rfl⟩
  go_wp2_with fail
  go_ret
  exact ⟨rfl, (by repeat (first | exact Grew.refl _ | refine Grew.drewN ?_ _ | refine Grew.grow ?_ _ | refine Grew.alloc ?_ _ | refine Grew.drew ?_))⟩

set_option maxHeartbeats 800000 in
theorem ranks_bad2 (x : C4) (k : Int) (y : C4) (j : Int) (z : C4) (t : Int) (w : World) (h0 : cmpE x k y j = 0) (h : cmpE y j z t ≠ 0) :
    Calls Try.prog 13 #[.agg #[.int .i64 x.a, .int .i64 x.b, .int .i64 x.c, .int .i64 x.d, .int .i64 k], .agg #[.int .i64 y.a, .int .i64 y.b, .int .i64 y.c, .int .i64 y.d, .int .i64 j], .agg #[.int .i64 z.a, .int .i64 z.b, .int .i64 z.c, .int .i64 z.d, .int .i64 t]] w fun e w' => e = .returned (.bool true) ∧ Grew w w' := by
  have H1 := fun w => aCmp_any x y k j w
  rw [h0] at H1
  have H2 := fun w => aCmp_any y z j t w
  have H3 := hid fun w => aCmp_any x z k t w
  have e1 : (cmpE y j z t != 0) = true := by simpa using h
  clear h h0
  generalize cmpE y j z t = E at *
  replace H1 := hid H1
  replace H2 := hid H2
  go_enter Try.func13, Try.ntmps13
  go_wp2_with fail
  refine (H1.out _).mono ?_
  rintro e w' ⟨rfl, g0, n0, rfl⟩
  go_wp2_with fail
  refine (H2.out _).mono ?_
  rintro e w' ⟨rfl, g1, n1, rfl⟩
  go_wp2_with fail
  refine (H3.out _).mono ?_
  rintro e w' ⟨rfl, g2, n2, rfl⟩
  go_wp2_with fail
  refine (awake_any _).mono ?_
  rintro e w' ⟨rfl, g3, n3, rfl⟩
  go_wp2_with fail
  go_ret
  exact ⟨rfl, (by repeat (first | exact Grew.refl _ | refine Grew.drewN ?_ _ | refine Grew.grow ?_ _ | refine Grew.alloc ?_ _ | refine Grew.drew ?_))⟩

set_option maxHeartbeats 2000000 in
theorem ranks_fail1 (x : C4) (k : Int) (y : C4) (j : Int) (z : C4) (t : Int) (w : World) (h0 : cmpE x k y j = 0) (h1 : cmpE y j z t = 0) (ea : Int) (he0 : ea ≠ 0) (he : addN x k z t = fail ea) :
    Calls Try.prog 13 #[.agg #[.int .i64 x.a, .int .i64 x.b, .int .i64 x.c, .int .i64 x.d, .int .i64 k], .agg #[.int .i64 y.a, .int .i64 y.b, .int .i64 y.c, .int .i64 y.d, .int .i64 j], .agg #[.int .i64 z.a, .int .i64 z.b, .int .i64 z.c, .int .i64 z.d, .int .i64 t]] w fun e w' => e = .returned (.bool true) ∧ Grew w w' := by
  have H1 := fun w => aCmp_any x y k j w
  have H2 := fun w => aCmp_any y z j t w
  have H3 := fun w => aCmp_any x z k t w
  have H4 := fun w => aCmp_any y x j k w
  rw [h0] at H1
  rw [h1] at H2
  rw [cmpE_third h0 h1] at H3
  rw [(cmp_swap h0).1, (cmp_swap h0).2] at H4
  have hz := cmp_zero h0
  have hc := cmp4 h0 h1
  obtain ⟨la, ua⟩ := cmpV_le x y k j
  have H5 := fun w => aAdd_any x z k t w
  rw [he] at H5
  simp only [fail, zero] at H5
  have H6 := hid fun w => aAdd_any y z j t w
  have e5 : (ea != 0) = true := by simpa using he0
  clear he he0
  replace H5 := hid H5
  clear h0 h1
  generalize cmpV x k y j = a at *
  generalize cmpV y j z t = b at *
  generalize cmpV x k z t = c at *
  generalize he : eq5 x k y j = q at *
  have HE := hid he
  clear he
  replace H1 := hid H1
  replace H2 := hid H2
  replace H3 := hid H3
  replace H4 := hid H4
  go_enter Try.func13, Try.ntmps13
  go_wp2_with fail
  refine (H1.out _).mono ?_
  rintro e w' ⟨rfl, g0, n0, rfl⟩
  go_wp2_with fail
  refine (H2.out _).mono ?_
  rintro e w' ⟨rfl, g1, n1, rfl⟩
  go_wp2_with fail
  refine (H3.out _).mono ?_
  rintro e w' ⟨rfl, g2, n2, rfl⟩
  go_wp2_with fail
  refine (H4.out _).mono ?_
  rintro e w' ⟨rfl, g3, n3, rfl⟩
  have HEo := HE.out
  rw [← hz] at HEo
  clear HE hz
  replace hc : (a = 0 ∧ c = 0 ∧ b = 0) ∨ (a = 0 ∧ c = b ∧ b ≠ 0) ∨ _ := hc.elim (fun h => if h0 : b = 0 then .inl ⟨h.1, h.2.trans h0, h0⟩ else .inr (.inl ⟨h.1, h.2, h0⟩)) (fun h => .inr (.inr h))
  rcases hc with ⟨rfl, rfl, rfl⟩ | ⟨rfl, rfl, hb⟩ | ⟨ha, rfl, rfl⟩ | ⟨ha, hb, rfl, rfl⟩ | ⟨ha, hb, hab⟩
  case' inl => have e0 : eq5 x k y j = true := HEo
  case' inr.inl =>
    have e0 : eq5 x k y j = true := HEo
    have e1 : (c == 0) = false := by simpa using hb
    have e2 : ((0 : Int) == c) = false := by simpa using Ne.symm hb
    clear hb
  case' inr.inr.inl =>
    have e1 : (c == 0) = false := by simpa using ha
    have e0 : eq5 x k y j = false := HEo.trans e1
    clear ha
  case' inr.inr.inr.inl =>
    have e1 : (c == 0) = false := by simpa using ha
    have e0 : eq5 x k y j = false := HEo.trans e1
    clear ha hb
  case' inr.inr.inr.inr =>
    have e1 : (a == 0) = false := by simpa using ha
    have e0 : eq5 x k y j = false := HEo.trans e1
    have e2 : (b == 0) = false := by simpa using hb
    have e3 : (a == b) = false := by simpa using hab
    clear ha hb hab
  all_goals
    clear HEo
    go_wp2_with fail
    refine (H5.out _).mono ?_
    rintro e w' ⟨rfl, g4, n4, rfl⟩
    go_wp2_with fail
    refine (H6.out _).mono ?_
    rintro e w' ⟨rfl, g5, n5, rfl⟩
    go_wp2_with fail
    refine (awake_any _).mono ?_
    rintro e w' ⟨rfl, g7, n7, rfl⟩
    go_wp2_with fail
    go_ret
    exact ⟨rfl, (by repeat (first | exact Grew.refl _ | refine Grew.drewN ?_ _ | refine Grew.grow ?_ _ | refine Grew.alloc ?_ _ | refine Grew.drew ?_))⟩

set_option maxHeartbeats 2000000 in
theorem ranks_fail2 (x : C4) (k : Int) (y : C4) (j : Int) (z : C4) (t : Int) (w : World) (h0 : cmpE x k y j = 0) (h1 : cmpE y j z t = 0) (p : C4) (i : Nat) (hp : addN x k z t = ⟨p, i, 0⟩) (ea : Int) (he0 : ea ≠ 0) (he : addN y j z t = fail ea) :
    Calls Try.prog 13 #[.agg #[.int .i64 x.a, .int .i64 x.b, .int .i64 x.c, .int .i64 x.d, .int .i64 k], .agg #[.int .i64 y.a, .int .i64 y.b, .int .i64 y.c, .int .i64 y.d, .int .i64 j], .agg #[.int .i64 z.a, .int .i64 z.b, .int .i64 z.c, .int .i64 z.d, .int .i64 t]] w fun e w' => e = .returned (.bool true) ∧ Grew w w' := by
  have H1 := fun w => aCmp_any x y k j w
  have H2 := fun w => aCmp_any y z j t w
  have H3 := fun w => aCmp_any x z k t w
  have H4 := fun w => aCmp_any y x j k w
  rw [h0] at H1
  rw [h1] at H2
  rw [cmpE_third h0 h1] at H3
  rw [(cmp_swap h0).1, (cmp_swap h0).2] at H4
  have hz := cmp_zero h0
  have hc := cmp4 h0 h1
  obtain ⟨la, ua⟩ := cmpV_le x y k j
  have H5 := fun w => aAdd_any x z k t w
  rw [hp] at H5
  have H6 := fun w => aAdd_any y z j t w
  rw [he] at H6
  simp only [fail, zero] at H6
  have e5 : (ea != 0) = true := by simpa using he0
  clear he he0 hp
  replace H5 := hid H5
  replace H6 := hid H6
  clear h0 h1
  generalize cmpV x k y j = a at *
  generalize cmpV y j z t = b at *
  generalize cmpV x k z t = c at *
  generalize he : eq5 x k y j = q at *
  have HE := hid he
  clear he
  replace H1 := hid H1
  replace H2 := hid H2
  replace H3 := hid H3
  replace H4 := hid H4
  go_enter Try.func13, Try.ntmps13
  go_wp2_with fail
  refine (H1.out _).mono ?_
  rintro e w' ⟨rfl, g0, n0, rfl⟩
  go_wp2_with fail
  refine (H2.out _).mono ?_
  rintro e w' ⟨rfl, g1, n1, rfl⟩
  go_wp2_with fail
  refine (H3.out _).mono ?_
  rintro e w' ⟨rfl, g2, n2, rfl⟩
  go_wp2_with fail
  refine (H4.out _).mono ?_
  rintro e w' ⟨rfl, g3, n3, rfl⟩
  have HEo := HE.out
  rw [← hz] at HEo
  clear HE hz
  replace hc : (a = 0 ∧ c = 0 ∧ b = 0) ∨ (a = 0 ∧ c = b ∧ b ≠ 0) ∨ _ := hc.elim (fun h => if h0 : b = 0 then .inl ⟨h.1, h.2.trans h0, h0⟩ else .inr (.inl ⟨h.1, h.2, h0⟩)) (fun h => .inr (.inr h))
  rcases hc with ⟨rfl, rfl, rfl⟩ | ⟨rfl, rfl, hb⟩ | ⟨ha, rfl, rfl⟩ | ⟨ha, hb, rfl, rfl⟩ | ⟨ha, hb, hab⟩
  case' inl => have e0 : eq5 x k y j = true := HEo
  case' inr.inl =>
    have e0 : eq5 x k y j = true := HEo
    have e1 : (c == 0) = false := by simpa using hb
    have e2 : ((0 : Int) == c) = false := by simpa using Ne.symm hb
    clear hb
  case' inr.inr.inl =>
    have e1 : (c == 0) = false := by simpa using ha
    have e0 : eq5 x k y j = false := HEo.trans e1
    clear ha
  case' inr.inr.inr.inl =>
    have e1 : (c == 0) = false := by simpa using ha
    have e0 : eq5 x k y j = false := HEo.trans e1
    clear ha hb
  case' inr.inr.inr.inr =>
    have e1 : (a == 0) = false := by simpa using ha
    have e0 : eq5 x k y j = false := HEo.trans e1
    have e2 : (b == 0) = false := by simpa using hb
    have e3 : (a == b) = false := by simpa using hab
    clear ha hb hab
  all_goals
    clear HEo
    go_wp2_with fail
    refine (H5.out _).mono ?_
    rintro e w' ⟨rfl, g4, n4, rfl⟩
    go_wp2_with fail
    refine (H6.out _).mono ?_
    rintro e w' ⟨rfl, g5, n5, rfl⟩
    go_wp2_with fail
    refine (awake_any _).mono ?_
    rintro e w' ⟨rfl, g7, n7, rfl⟩
    go_wp2_with fail
    go_ret
    exact ⟨rfl, (by repeat (first | exact Grew.refl _ | refine Grew.drewN ?_ _ | refine Grew.grow ?_ _ | refine Grew.alloc ?_ _ | refine Grew.drew ?_))⟩

set_option maxHeartbeats 2000000 in
theorem ranks_ok (x : C4) (k : Int) (y : C4) (j : Int) (z : C4) (t : Int) (w : World) (h0 : cmpE x k y j = 0) (h1 : cmpE y j z t = 0) (p : C4) (i : Nat) (hp : addN x k z t = ⟨p, i, 0⟩) (q0 : C4) (i0 : Nat) (hq : addN y j z t = ⟨q0, i0, 0⟩) (h7 : cmpE p i q0 i0 = 0) (h8 : cmpV p i q0 i0 = cmpV x k y j) :
    Calls Try.prog 13 #[.agg #[.int .i64 x.a, .int .i64 x.b, .int .i64 x.c, .int .i64 x.d, .int .i64 k], .agg #[.int .i64 y.a, .int .i64 y.b, .int .i64 y.c, .int .i64 y.d, .int .i64 j], .agg #[.int .i64 z.a, .int .i64 z.b, .int .i64 z.c, .int .i64 z.d, .int .i64 t]] w fun e w' => e = .returned (.bool true) ∧ Grew w w' := by
  have H1 := fun w => aCmp_any x y k j w
  have H2 := fun w => aCmp_any y z j t w
  have H3 := fun w => aCmp_any x z k t w
  have H4 := fun w => aCmp_any y x j k w
  rw [h0] at H1
  rw [h1] at H2
  rw [cmpE_third h0 h1] at H3
  rw [(cmp_swap h0).1, (cmp_swap h0).2] at H4
  have hz := cmp_zero h0
  have hc := cmp4 h0 h1
  obtain ⟨la, ua⟩ := cmpV_le x y k j
  have H5 := fun w => aAdd_any x z k t w
  rw [hp] at H5
  have H6 := fun w => aAdd_any y z j t w
  rw [hq] at H6
  have H7 := fun w => aCmp_any p q0 i i0 w
  rw [h7, h8] at H7
  clear hp hq h7 h8
  replace H5 := hid H5
  replace H6 := hid H6
  clear h0 h1
  generalize cmpV x k y j = a at *
  generalize cmpV y j z t = b at *
  generalize cmpV x k z t = c at *
  generalize he : eq5 x k y j = q at *
  have HE := hid he
  clear he
  replace H1 := hid H1
  replace H2 := hid H2
  replace H3 := hid H3
  replace H4 := hid H4
  have H7 := hid H7
  go_enter Try.func13, Try.ntmps13
  go_wp2_with fail
  refine (H1.out _).mono ?_
  rintro e w' ⟨rfl, g0, n0, rfl⟩
  go_wp2_with fail
  refine (H2.out _).mono ?_
  rintro e w' ⟨rfl, g1, n1, rfl⟩
  go_wp2_with fail
  refine (H3.out _).mono ?_
  rintro e w' ⟨rfl, g2, n2, rfl⟩
  go_wp2_with fail
  refine (H4.out _).mono ?_
  rintro e w' ⟨rfl, g3, n3, rfl⟩
  have HEo := HE.out
  rw [← hz] at HEo
  clear HE hz
  replace hc : (a = 0 ∧ c = 0 ∧ b = 0) ∨ (a = 0 ∧ c = b ∧ b ≠ 0) ∨ _ := hc.elim (fun h => if h0 : b = 0 then .inl ⟨h.1, h.2.trans h0, h0⟩ else .inr (.inl ⟨h.1, h.2, h0⟩)) (fun h => .inr (.inr h))
  rcases hc with ⟨rfl, rfl, rfl⟩ | ⟨rfl, rfl, hb⟩ | ⟨ha, rfl, rfl⟩ | ⟨ha, hb, rfl, rfl⟩ | ⟨ha, hb, hab⟩
  case' inl => have e0 : eq5 x k y j = true := HEo
  case' inr.inl =>
    have e0 : eq5 x k y j = true := HEo
    have e1 : (c == 0) = false := by simpa using hb
    have e2 : ((0 : Int) == c) = false := by simpa using Ne.symm hb
    clear hb
  case' inr.inr.inl =>
    have e1 : (c == 0) = false := by simpa using ha
    have e0 : eq5 x k y j = false := HEo.trans e1
    clear ha
  case' inr.inr.inr.inl =>
    have e1 : (c == 0) = false := by simpa using ha
    have e0 : eq5 x k y j = false := HEo.trans e1
    clear ha hb
  case' inr.inr.inr.inr =>
    have e1 : (a == 0) = false := by simpa using ha
    have e0 : eq5 x k y j = false := HEo.trans e1
    have e2 : (b == 0) = false := by simpa using hb
    have e3 : (a == b) = false := by simpa using hab
    clear ha hb hab
  all_goals
    clear HEo
    go_wp2_with fail
    refine (H5.out _).mono ?_
    rintro e w' ⟨rfl, g4, n4, rfl⟩
    go_wp2_with fail
    refine (H6.out _).mono ?_
    rintro e w' ⟨rfl, g5, n5, rfl⟩
    go_wp2_with fail
    refine (H7.out _).mono ?_
    rintro e w' ⟨rfl, g6, n6, rfl⟩
    go_wp2_with fail
    refine (awake_any _).mono ?_
    rintro e w' ⟨rfl, g7, n7, rfl⟩
    go_wp2_with fail
    go_ret
    exact ⟨rfl, (by repeat (first | exact Grew.refl _ | refine Grew.drewN ?_ _ | refine Grew.grow ?_ _ | refine Grew.alloc ?_ _ | refine Grew.drew ?_))⟩

theorem ampRanks_walk (x : C4) (k : Int) (y : C4) (j : Int) (z : C4) (t : Int) (w : World) :
    Calls Try.prog 13 #[.agg #[.int .i64 x.a, .int .i64 x.b, .int .i64 x.c, .int .i64 x.d, .int .i64 k], .agg #[.int .i64 y.a, .int .i64 y.b, .int .i64 y.c, .int .i64 y.d, .int .i64 j], .agg #[.int .i64 z.a, .int .i64 z.b, .int .i64 z.c, .int .i64 z.d, .int .i64 t]] w fun e w' => e = .returned (.bool true) ∧ Grew w w' := by
  by_cases h0 : cmpE x k y j = 0
  case neg => exact ranks_bad1 x k y j z t w h0
  by_cases h1 : cmpE y j z t = 0
  case neg => exact ranks_bad2 x k y j z t w h0 h1
  rcases addN_cases x z k t with ⟨ea, he0, he⟩ | ⟨n, p, i, s, rfl, rfl, hx, hz, ha, hs, hsame⟩
  · exact ranks_fail1 x k y j z t w h0 h1 ea he0 he
  rcases addN_cases y z j p with ⟨ea, he0, he⟩ | ⟨m, p2, i2, s2, rfl, hp2, hy, _, hb, hs2, hsame2⟩
  · exact ranks_fail2 x n y j z p w h0 h1 s i ha ea he0 he
  obtain rfl : p = p2 := Int.ofNat.inj hp2
  obtain ⟨h7, h8⟩ := cmp_add h0 (cmpE_ok h1).2.2.2 hs hs2 hsame hsame2
  exact ranks_ok x n y m z p w h0 h1 s i ha s2 i2 hb h7 h8

end Go.Proofs.Ytmphmfhmcgpjcaa
