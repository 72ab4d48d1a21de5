/- The sum of two numbers, in no form: the program's add, the reference's combined. Conditions: elements in range. -/
import Derived.Test.YtdomlnhgafielaaGreatDoorAmpK
import Derived.Test.YtdomlnhgafielaaGreatDoorRegion
import Derived.Test.YtdomlnhgafielaaGreatDoorAmpI

namespace Go.Proofs.YtdomlnhgafielaaGreatDoor
open Go Go.RowKit Amp

set_option maxHeartbeats 2000000 in
theorem add_lt (x y : C4) (k j : Int) (w : World) (hx : smallB x = true) (hy : smallB y = true) (hk : 0 ≤ k ∧ k ≤ 40) (hj : 0 ≤ j ∧ j ≤ 40) (hlt : k < j) :
    Calls Tryz.prog 119 #[.agg #[.int .i64 x.a, .int .i64 x.b, .int .i64 x.c, .int .i64 x.d, .int .i64 k], .agg #[.int .i64 y.a, .int .i64 y.b, .int .i64 y.c, .int .i64 y.d, .int .i64 j]] w fun e w' => e = .returned (.agg #[.int .i64 ((rpow (j - k).toNat x).a + y.a), .int .i64 ((rpow (j - k).toNat x).b + y.b), .int .i64 ((rpow (j - k).toNat x).c + y.c), .int .i64 ((rpow (j - k).toNat x).d + y.d), .int .i64 j]) ∧ Grew w w' := by
  obtain ⟨_, _⟩ := hk
  obtain ⟨_, _⟩ := hj
  have hm : max k j = j := by omega
  have HB := hid fun w => by_any x (j - k) w hx (by omega) (by omega)
  obtain ⟨⟨_, _⟩, ⟨_, _⟩, ⟨_, _⟩, ⟨_, _⟩⟩ := bd_rpow (n := (j - k).toNat) (by omega) hx
  obtain ⟨⟨_, _⟩, ⟨_, _⟩, ⟨_, _⟩, ⟨_, _⟩⟩ := smallB_iff.1 hy
  have Hm := hid hm
  clear hx hy hm
  go_enter Tryz.func119, Tryz.ntmps119
  go_wp2_with fail
  refine (HB.out _).mono ?_
  rintro e w' ⟨rfl, g, n, rfl⟩
  go_wp2_with fail
  refine wp_loop_rounds 5 ?_
  simp only [rounds_succ]
  go_wp2_with fail
  refine wp_region_gentle_tail 9 (by kernel_rfl) (by kernel_rfl) (by kernel_rfl) ?_
  simp only [List.take_succ_cons, List.take_zero, List.drop_succ_cons, List.drop_zero]
  repeat (first | go_big_quiet_skip | (go_big_quiet_want; go_big_quiet_op; first | go_big_quiet_on | fail))
  refine wpQuiet_nil ?_
  rintro _ ⟨gg, ng, rfl⟩
  go_wp2_with fail
  simp only [rounds_succ]
  go_wp2_with fail
  refine wp_region_gentle_tail 9 (by kernel_rfl) (by kernel_rfl) (by kernel_rfl) ?_
  simp only [List.take_succ_cons, List.take_zero, List.drop_succ_cons, List.drop_zero]
  repeat (first | go_big_quiet_skip | (go_big_quiet_want; go_big_quiet_op; first | go_big_quiet_on | fail))
  refine wpQuiet_nil ?_
  rintro _ ⟨gg, ng, rfl⟩
  go_wp2_with fail
  simp only [rounds_succ]
  go_wp2_with fail
  refine wp_region_gentle_tail 9 (by kernel_rfl) (by kernel_rfl) (by kernel_rfl) ?_
  simp only [List.take_succ_cons, List.take_zero, List.drop_succ_cons, List.drop_zero]
  repeat (first | go_big_quiet_skip | (go_big_quiet_want; go_big_quiet_op; first | go_big_quiet_on | fail))
  refine wpQuiet_nil ?_
  rintro _ ⟨gg, ng, rfl⟩
  go_wp2_with fail
  simp only [rounds_succ]
  go_wp2_with fail
  refine wp_region_gentle_tail 9 (by kernel_rfl) (by kernel_rfl) (by kernel_rfl) ?_
  simp only [List.take_succ_cons, List.take_zero, List.drop_succ_cons, List.drop_zero]
  repeat (first | go_big_quiet_skip | (go_big_quiet_want; go_big_quiet_op; first | go_big_quiet_on | fail))
  refine wpQuiet_nil ?_
  rintro _ ⟨gg, ng, rfl⟩
  go_wp2_with fail
  simp only [rounds_succ]
  go_wp2_with fail
  exact bodyPost_ret (v := .agg #[.int .i64 ((rpow (j - k).toNat x).a + y.a), .int .i64 ((rpow (j - k).toNat x).b + y.b), .int .i64 ((rpow (j - k).toNat x).c + y.c), .int .i64 ((rpow (j - k).toNat x).d + y.d), .int .i64 j]) (by simp [results, Tryz.results119, go_sem]) rfl ⟨rfl, (by repeat (first | exact Grew.refl _ | refine Grew.drewN ?_ _ | refine Grew.grow ?_ _ | refine Grew.alloc ?_ _ | refine Grew.drew ?_))⟩

set_option maxHeartbeats 2000000 in
theorem add_ge (x y : C4) (k j : Int) (w : World) (hx : smallB x = true) (hy : smallB y = true) (hk : 0 ≤ k ∧ k ≤ 40) (hj : 0 ≤ j ∧ j ≤ 40) (hlt : ¬ k < j) :
    Calls Tryz.prog 119 #[.agg #[.int .i64 x.a, .int .i64 x.b, .int .i64 x.c, .int .i64 x.d, .int .i64 k], .agg #[.int .i64 y.a, .int .i64 y.b, .int .i64 y.c, .int .i64 y.d, .int .i64 j]] w fun e w' => e = .returned (.agg #[.int .i64 ((rpow (k - j).toNat y).a + x.a), .int .i64 ((rpow (k - j).toNat y).b + x.b), .int .i64 ((rpow (k - j).toNat y).c + x.c), .int .i64 ((rpow (k - j).toNat y).d + x.d), .int .i64 k]) ∧ Grew w w' := by
  obtain ⟨_, _⟩ := hk
  obtain ⟨_, _⟩ := hj
  have hm : max k j = k := by omega
  have HB := hid fun w => by_any y (k - j) w hy (by omega) (by omega)
  obtain ⟨⟨_, _⟩, ⟨_, _⟩, ⟨_, _⟩, ⟨_, _⟩⟩ := bd_rpow (n := (k - j).toNat) (by omega) hy
  obtain ⟨⟨_, _⟩, ⟨_, _⟩, ⟨_, _⟩, ⟨_, _⟩⟩ := smallB_iff.1 hx
  have Hm := hid hm
  clear hx hy hm
  go_enter Tryz.func119, Tryz.ntmps119
  go_wp2_with fail
  refine (HB.out _).mono ?_
  rintro e w' ⟨rfl, g, n, rfl⟩
  go_wp2_with fail
  refine wp_loop_rounds 5 ?_
  simp only [rounds_succ]
  go_wp2_with fail
  refine wp_region_gentle_tail 9 (by kernel_rfl) (by kernel_rfl) (by kernel_rfl) ?_
  simp only [List.take_succ_cons, List.take_zero, List.drop_succ_cons, List.drop_zero]
  repeat (first | go_big_quiet_skip | (go_big_quiet_want; go_big_quiet_op; first | go_big_quiet_on | fail))
  refine wpQuiet_nil ?_
  rintro _ ⟨gg, ng, rfl⟩
  go_wp2_with fail
  simp only [rounds_succ]
  go_wp2_with fail
  refine wp_region_gentle_tail 9 (by kernel_rfl) (by kernel_rfl) (by kernel_rfl) ?_
  simp only [List.take_succ_cons, List.take_zero, List.drop_succ_cons, List.drop_zero]
  repeat (first | go_big_quiet_skip | (go_big_quiet_want; go_big_quiet_op; first | go_big_quiet_on | fail))
  refine wpQuiet_nil ?_
  rintro _ ⟨gg, ng, rfl⟩
  go_wp2_with fail
  simp only [rounds_succ]
  go_wp2_with fail
  refine wp_region_gentle_tail 9 (by kernel_rfl) (by kernel_rfl) (by kernel_rfl) ?_
  simp only [List.take_succ_cons, List.take_zero, List.drop_succ_cons, List.drop_zero]
  repeat (first | go_big_quiet_skip | (go_big_quiet_want; go_big_quiet_op; first | go_big_quiet_on | fail))
  refine wpQuiet_nil ?_
  rintro _ ⟨gg, ng, rfl⟩
  go_wp2_with fail
  simp only [rounds_succ]
  go_wp2_with fail
  refine wp_region_gentle_tail 9 (by kernel_rfl) (by kernel_rfl) (by kernel_rfl) ?_
  simp only [List.take_succ_cons, List.take_zero, List.drop_succ_cons, List.drop_zero]
  repeat (first | go_big_quiet_skip | (go_big_quiet_want; go_big_quiet_op; first | go_big_quiet_on | fail))
  refine wpQuiet_nil ?_
  rintro _ ⟨gg, ng, rfl⟩
  go_wp2_with fail
  simp only [rounds_succ]
  go_wp2_with fail
  exact bodyPost_ret (v := .agg #[.int .i64 ((rpow (k - j).toNat y).a + x.a), .int .i64 ((rpow (k - j).toNat y).b + x.b), .int .i64 ((rpow (k - j).toNat y).c + x.c), .int .i64 ((rpow (k - j).toNat y).d + x.d), .int .i64 k]) (by simp [results, Tryz.results119, go_sem]) rfl ⟨rfl, (by repeat (first | exact Grew.refl _ | refine Grew.drewN ?_ _ | refine Grew.grow ?_ _ | refine Grew.alloc ?_ _ | refine Grew.drew ?_))⟩

theorem add_any (x y : C4) (k j : Int) (w : World) (hx : smallB x = true) (hy : smallB y = true) (hk : 0 ≤ k ∧ k ≤ 40) (hj : 0 ≤ j ∧ j ≤ 40) :
    Calls Tryz.prog 119 #[.agg #[.int .i64 x.a, .int .i64 x.b, .int .i64 x.c, .int .i64 x.d, .int .i64 k], .agg #[.int .i64 y.a, .int .i64 y.b, .int .i64 y.c, .int .i64 y.d, .int .i64 j]] w fun e w' => e = .returned (.agg #[.int .i64 (addK x k y j).a, .int .i64 (addK x k y j).b, .int .i64 (addK x k y j).c, .int .i64 (addK x k y j).d, .int .i64 (max k j)]) ∧ Grew w w' := by
  by_cases hlt : k < j
  · refine (add_lt x y k j w hx hy hk hj hlt).mono fun e w' h => ⟨h.1.trans ?_, h.2⟩
    rw [addK_lt hlt, show max k j = j by omega]
  · refine (add_ge x y k j w hx hy hk hj hlt).mono fun e w' h => ⟨h.1.trans ?_, h.2⟩
    rw [addK_ge hlt, show max k j = k by omega]
    simp only [Int.add_comm]

end Go.Proofs.YtdomlnhgafielaaGreatDoor

/- The reference's combined: a sum or a difference in no form. Conditions: elements in range. -/

namespace Go.Proofs.YtdomlnhgafielaaGreatDoor
open Go Go.RowKit Amp

end Go.Proofs.YtdomlnhgafielaaGreatDoor

/- Add and Sub of the program and of the reference. No condition. -/

namespace Go.Proofs.YtdomlnhgafielaaGreatDoor
open Go Go.RowKit Amp

set_option maxHeartbeats 800000 in
theorem aAdd_any (x y : C4) (k j : Int) (w : World) :
    Calls Tryz.prog 96 #[.agg #[.int .i64 x.a, .int .i64 x.b, .int .i64 x.c, .int .i64 x.d, .int .i64 k], .agg #[.int .i64 y.a, .int .i64 y.b, .int .i64 y.c, .int .i64 y.d, .int .i64 j]] w fun e w' => e = .returned (.tuple #[.agg #[.int .i64 (addN x k y j).x.a, .int .i64 (addN x k y j).x.b, .int .i64 (addN x k y j).x.c, .int .i64 (addN x k y j).x.d, .int .i64 (addN x k y j).k], .int .i64 (addN x k y j).e]) ∧ Grew w w' := by
  by_cases hv : validB x k = true ∧ validB y j = true
  case neg =>
    have he : Hid ((addN x k y j) = fail 10) := if_neg hv
    have hb : (validB x k && validB y j) = false := by
      rw [Bool.eq_false_iff]; simpa using hv
    clear hv
    go_enter Tryz.func96, Tryz.ntmps96
    go_wp2_with fail
    refine (valid2_any x y k j _ _ _ _ (by first | exact blk_new_drewN (by simp [go_sem]) | exact blk_new (by simp [go_sem]))).mono ?_
    rintro e w1 ⟨rfl, g, n, rfl⟩
    rw [hb]
    clear hb
    go_wp2_with fail
    exact bodyPost_ret (v := .tuple #[.agg #[.int .i64 0, .int .i64 0, .int .i64 0, .int .i64 0, .int .i64 0], .int .i64 10]) (by simp [results, Tryz.results96, go_sem]) rfl ⟨by rw [he.out]; rfl, (by repeat (first | exact Grew.refl _ | refine Grew.drewN ?_ _ | refine Grew.grow ?_ _ | refine Grew.alloc ?_ _ | refine Grew.drew ?_))⟩
  have he : Hid ((addN x k y j) = (made (addK x k y j) (max k j))) := if_pos hv
  have hb : (validB x k && validB y j) = true := by simpa using hv
  obtain ⟨h1, h2⟩ := hv
  have sx := validB_small h1
  have sy := validB_small h2
  have kx := validB_k h1
  have ky := validB_k h2
  have HM := hid fun w => aresult_any (addK x k y j) (max k j) w (in4_addK sx sy kx ky) (by omega) (by omega)
  have HA := hid fun w => add_any x y k j w sx sy kx ky
  clear h1 h2 sx sy kx ky
  go_enter Tryz.func96, Tryz.ntmps96
  go_wp2_with fail
  refine (valid2_any x y k j _ _ _ _ (by first | exact blk_new_drewN (by simp [go_sem]) | exact blk_new (by simp [go_sem]))).mono ?_
  rintro e w1 ⟨rfl, g, n, rfl⟩
  rw [hb]
  clear hb
  go_wp2_with fail
  refine (HA.out _).mono ?_
  rintro e w' ⟨rfl, g1, n1, rfl⟩
  go_wp2_with fail
  refine (HM.out _).mono ?_
  rintro e w' ⟨rfl, g2, n2, rfl⟩
  go_wp2_with fail
  exact bodyPost_ret (v := .tuple #[.agg #[.int .i64 (made (addK x k y j) (max k j)).x.a, .int .i64 (made (addK x k y j) (max k j)).x.b, .int .i64 (made (addK x k y j) (max k j)).x.c, .int .i64 (made (addK x k y j) (max k j)).x.d, .int .i64 (made (addK x k y j) (max k j)).k], .int .i64 (made (addK x k y j) (max k j)).e]) (by simp [results, Tryz.results96, go_sem]) rfl ⟨by rw [he.out], (by repeat (first | exact Grew.refl _ | refine Grew.drewN ?_ _ | refine Grew.grow ?_ _ | refine Grew.alloc ?_ _ | refine Grew.drew ?_))⟩

end Go.Proofs.YtdomlnhgafielaaGreatDoor
