/- The sum of two numbers, in no form: the program's add, the reference's combined. Conditions: elements in range. -/
import Derived.Test.YtkglnnkghillpaaAmpK
import Derived.Test.YtkglnnkghillpaaRegion
import Derived.Test.YtkglnnkghillpaaAmpI

namespace Go.Proofs.Ytkglnnkghillpaa
open Go Go.RowKit Amp

set_option maxHeartbeats 2000000 in
theorem add_lt (x y : C4) (k j : Int) (w : World) (hx : smallB x = true) (hy : smallB y = true) (hk : 0 ≤ k ∧ k ≤ 40) (hj : 0 ≤ j ∧ j ≤ 40) (hlt : k < j) :
    Calls Try.prog 130 #[.agg #[.int .i64 x.a, .int .i64 x.b, .int .i64 x.c, .int .i64 x.d, .int .i64 k], .agg #[.int .i64 y.a, .int .i64 y.b, .int .i64 y.c, .int .i64 y.d, .int .i64 j]] w fun e w' => e = .returned (.agg #[.int .i64 ((rpow (j - k).toNat x).a + y.a), .int .i64 ((rpow (j - k).toNat x).b + y.b), .int .i64 ((rpow (j - k).toNat x).c + y.c), .int .i64 ((rpow (j - k).toNat x).d + y.d), .int .i64 j]) ∧ Grew w w' := by
  obtain ⟨_, _⟩ := hk
  obtain ⟨_, _⟩ := hj
  have hm : max k j = j := by omega
  have HB := hid fun w => by_any x (j - k) w hx (by omega) (by omega)
  obtain ⟨⟨_, _⟩, ⟨_, _⟩, ⟨_, _⟩, ⟨_, _⟩⟩ := bd_rpow (n := (j - k).toNat) (by omega) hx
  obtain ⟨⟨_, _⟩, ⟨_, _⟩, ⟨_, _⟩, ⟨_, _⟩⟩ := smallB_iff.1 hy
  have Hm := hid hm
  clear hx hy hm
  go_enter Try.func130, Try.ntmps130
  go_wp2_with fail
  refine (HB.out _).mono ?_
  rintro e w' ⟨rfl, g, n, rfl⟩
  go_wp2_with fail
  refine wp_loop_rounds 5 ?_
  simp only [rounds_succ]
  go_wp2_with fail
  refine wp_region_gentle_tail 9 (by kernel_rfl) (by kernel_rfl) (by kernel_rfl) ?_
  simp only [List.take_succ_cons, List.take_zero, List.drop_succ_cons, List.drop_zero]
  repeat (first | go_big_quiet_skip | (go_big_quiet_want; go_big_quiet_op; first | go_big_quiet_on | fail))
  refine wpQuiet_nil ?_
  rintro _ ⟨gg, ng, rfl⟩
  go_wp2_with fail
  simp only [rounds_succ]
  go_wp2_with fail
  refine wp_region_gentle_tail 9 (by kernel_rfl) (by kernel_rfl) (by kernel_rfl) ?_
  simp only [List.take_succ_cons, List.take_zero, List.drop_succ_cons, List.drop_zero]
  repeat (first | go_big_quiet_skip | (go_big_quiet_want; go_big_quiet_op; first | go_big_quiet_on | fail))
  refine wpQuiet_nil ?_
  rintro _ ⟨gg, ng, rfl⟩
  go_wp2_with fail
  simp only [rounds_succ]
  go_wp2_with fail
  refine wp_region_gentle_tail 9 (by kernel_rfl) (by kernel_rfl) (by kernel_rfl) ?_
  simp only [List.take_succ_cons, List.take_zero, List.drop_succ_cons, List.drop_zero]
  repeat (first | go_big_quiet_skip | (go_big_quiet_want; go_big_quiet_op; first | go_big_quiet_on | fail))
  refine wpQuiet_nil ?_
  rintro _ ⟨gg, ng, rfl⟩
  go_wp2_with fail
  simp only [rounds_succ]
  go_wp2_with fail
  refine wp_region_gentle_tail 9 (by kernel_rfl) (by kernel_rfl) (by kernel_rfl) ?_
  simp only [List.take_succ_cons, List.take_zero, List.drop_succ_cons, List.drop_zero]
  repeat (first | go_big_quiet_skip | (go_big_quiet_want; go_big_quiet_op; first | go_big_quiet_on | fail))
  refine wpQuiet_nil ?_
  rintro _ ⟨gg, ng, rfl⟩
  go_wp2_with fail
  simp only [rounds_succ]
  go_wp2_with fail
  exact bodyPost_ret (v := .agg #[.int .i64 ((rpow (j - k).toNat x).a + y.a), .int .i64 ((rpow (j - k).toNat x).b + y.b), .int .i64 ((rpow (j - k).toNat x).c + y.c), .int .i64 ((rpow (j - k).toNat x).d + y.d), .int .i64 j]) (by simp [results, Try.results130, go_sem]) rfl ⟨rfl, (by repeat (first | exact Grew.refl _ | refine Grew.drewN ?_ _ | refine Grew.grow ?_ _ | refine Grew.alloc ?_ _ | refine Grew.drew ?_))⟩

set_option maxHeartbeats 2000000 in
theorem add_ge (x y : C4) (k j : Int) (w : World) (hx : smallB x = true) (hy : smallB y = true) (hk : 0 ≤ k ∧ k ≤ 40) (hj : 0 ≤ j ∧ j ≤ 40) (hlt : ¬ k < j) :
    Calls Try.prog 130 #[.agg #[.int .i64 x.a, .int .i64 x.b, .int .i64 x.c, .int .i64 x.d, .int .i64 k], .agg #[.int .i64 y.a, .int .i64 y.b, .int .i64 y.c, .int .i64 y.d, .int .i64 j]] w fun e w' => e = .returned (.agg #[.int .i64 ((rpow (k - j).toNat y).a + x.a), .int .i64 ((rpow (k - j).toNat y).b + x.b), .int .i64 ((rpow (k - j).toNat y).c + x.c), .int .i64 ((rpow (k - j).toNat y).d + x.d), .int .i64 k]) ∧ Grew w w' := by
  obtain ⟨_, _⟩ := hk
  obtain ⟨_, _⟩ := hj
  have hm : max k j = k := by omega
  have HB := hid fun w => by_any y (k - j) w hy (by omega) (by omega)
  obtain ⟨⟨_, _⟩, ⟨_, _⟩, ⟨_, _⟩, ⟨_, _⟩⟩ := bd_rpow (n := (k - j).toNat) (by omega) hy
  obtain ⟨⟨_, _⟩, ⟨_, _⟩, ⟨_, _⟩, ⟨_, _⟩⟩ := smallB_iff.1 hx
  have Hm := hid hm
  clear hx hy hm
  go_enter Try.func130, Try.ntmps130
  go_wp2_with fail
  refine (HB.out _).mono ?_
  rintro e w' ⟨rfl, g, n, rfl⟩
  go_wp2_with fail
  refine wp_loop_rounds 5 ?_
  simp only [rounds_succ]
  go_wp2_with fail
  refine wp_region_gentle_tail 9 (by kernel_rfl) (by kernel_rfl) (by kernel_rfl) ?_
  simp only [List.take_succ_cons, List.take_zero, List.drop_succ_cons, List.drop_zero]
  repeat (first | go_big_quiet_skip | (go_big_quiet_want; go_big_quiet_op; first | go_big_quiet_on | fail))
  refine wpQuiet_nil ?_
  rintro _ ⟨gg, ng, rfl⟩
  go_wp2_with fail
  simp only [rounds_succ]
  go_wp2_with fail
  refine wp_region_gentle_tail 9 (by kernel_rfl) (by kernel_rfl) (by kernel_rfl) ?_
  simp only [List.take_succ_cons, List.take_zero, List.drop_succ_cons, List.drop_zero]
  repeat (first | go_big_quiet_skip | (go_big_quiet_want; go_big_quiet_op; first | go_big_quiet_on | fail))
  refine wpQuiet_nil ?_
  rintro _ ⟨gg, ng, rfl⟩
  go_wp2_with fail
  simp only [rounds_succ]
  go_wp2_with fail
  refine wp_region_gentle_tail 9 (by kernel_rfl) (by kernel_rfl) (by kernel_rfl) ?_
  simp only [List.take_succ_cons, List.take_zero, List.drop_succ_cons, List.drop_zero]
  repeat (first | go_big_quiet_skip | (go_big_quiet_want; go_big_quiet_op; first | go_big_quiet_on | fail))
  refine wpQuiet_nil ?_
  rintro _ ⟨gg, ng, rfl⟩
  go_wp2_with fail
  simp only [rounds_succ]
  go_wp2_with fail
  refine wp_region_gentle_tail 9 (by kernel_rfl) (by kernel_rfl) (by kernel_rfl) ?_
  simp only [List.take_succ_cons, List.take_zero, List.drop_succ_cons, List.drop_zero]
  repeat (first | go_big_quiet_skip | (go_big_quiet_want; go_big_quiet_op; first | go_big_quiet_on | fail))
  refine wpQuiet_nil ?_
  rintro _ ⟨gg, ng, rfl⟩
  go_wp2_with fail
  simp only [rounds_succ]
  go_wp2_with fail
  exact bodyPost_ret (v := .agg #[.int .i64 ((rpow (k - j).toNat y).a + x.a), .int .i64 ((rpow (k - j).toNat y).b + x.b), .int .i64 ((rpow (k - j).toNat y).c + x.c), .int .i64 ((rpow (k - j).toNat y).d + x.d), .int .i64 k]) (by simp [results, Try.results130, go_sem]) rfl ⟨rfl, (by repeat (first | exact Grew.refl _ | refine Grew.drewN ?_ _ | refine Grew.grow ?_ _ | refine Grew.alloc ?_ _ | refine Grew.drew ?_))⟩

theorem add_any (x y : C4) (k j : Int) (w : World) (hx : smallB x = true) (hy : smallB y = true) (hk : 0 ≤ k ∧ k ≤ 40) (hj : 0 ≤ j ∧ j ≤ 40) :
    Calls Try.prog 130 #[.agg #[.int .i64 x.a, .int .i64 x.b, .int .i64 x.c, .int .i64 x.d, .int .i64 k], .agg #[.int .i64 y.a, .int .i64 y.b, .int .i64 y.c, .int .i64 y.d, .int .i64 j]] w fun e w' => e = .returned (.agg #[.int .i64 (addK x k y j).a, .int .i64 (addK x k y j).b, .int .i64 (addK x k y j).c, .int .i64 (addK x k y j).d, .int .i64 (max k j)]) ∧ Grew w w' := by
  by_cases hlt : k < j
  · refine (add_lt x y k j w hx hy hk hj hlt).mono fun e w' h => ⟨h.1.trans ?_, h.2⟩
    rw [addK_lt hlt, show max k j = j by omega]
  · refine (add_ge x y k j w hx hy hk hj hlt).mono fun e w' h => ⟨h.1.trans ?_, h.2⟩
    rw [addK_ge hlt, show max k j = k by omega]
    simp only [Int.add_comm]

end Go.Proofs.Ytkglnnkghillpaa

/- The reference's combined: a sum or a difference in no form. Conditions: elements in range. -/

namespace Go.Proofs.Ytkglnnkghillpaa
open Go Go.RowKit Amp

set_option maxHeartbeats 1600000 in
theorem combined_pos_lt (x y : C4) (k j : Int) (w : World) (hx : smallB x = true) (hy : smallB y = true) (hk : 0 ≤ k ∧ k ≤ 40) (hj : 0 ≤ j ∧ j ≤ 40) (hlt : k < j) :
    Calls Try.prog 107 #[.agg #[.int .i64 x.a, .int .i64 x.b, .int .i64 x.c, .int .i64 x.d, .int .i64 k], .agg #[.int .i64 y.a, .int .i64 y.b, .int .i64 y.c, .int .i64 y.d, .int .i64 j], .int .i64 1] w fun e w' => e = .returned (.tuple #[.agg #[.int .i64 ((rpow (j - k).toNat x).a + (rpow 0 y).a), .int .i64 ((rpow (j - k).toNat x).b + (rpow 0 y).b), .int .i64 ((rpow (j - k).toNat x).c + (rpow 0 y).c), .int .i64 ((rpow (j - k).toNat x).d + (rpow 0 y).d)], .int .i64 j]) ∧ Grew w w' := by
  obtain ⟨_, _⟩ := hk
  obtain ⟨_, _⟩ := hj
  have HP := hid fun w => raised_any x k j w hx (by omega) (by omega) (by omega)
  have HQ := hid fun w => raised_any y j j w hy (by omega) (by omega) (by omega)
  rw [show (j - j).toNat = 0 by omega] at HQ
  obtain ⟨⟨_, _⟩, ⟨_, _⟩, ⟨_, _⟩, ⟨_, _⟩⟩ := bd_rpow (n := (j - k).toNat) (by omega) hx
  obtain ⟨⟨_, _⟩, ⟨_, _⟩, ⟨_, _⟩, ⟨_, _⟩⟩ := bd_rpow (n := 0) (by omega) hy
  clear hx hy
  go_enter Try.func107, Try.ntmps107
  go_wp2_with fail
  refine R2.wp_region_makes_two 6 (.cells #[.int .i64 0, .int .i64 0, .int .i64 0, .int .i64 0] 110) (.cells #[.int .i64 0, .int .i64 0, .int .i64 0, .int .i64 0] 110) (by kernel_rfl) (by kernel_rfl) (by decide) (fun _ _ => by kernel_rfl) (fun _ _ => by kernel_rfl) ?_
  simp only [List.take_succ_cons, List.take_zero]
  repeat (refine wpGentle_step (fun K hK => ?_); go_simp; first | (refine hK _ ?_; clear hK K) | (apply Exists.intro; refine ⟨fun gq kq => ?_, hK _ ?_⟩; (focus (first | (go_at_call 124; with_reducible exact HP.out _) | (go_at_call 124; with_reducible exact HQ.out _))); clear hK K))
  refine wpGentle_nil ?_
  simp only [List.drop_succ_cons, List.drop_zero, List.getElem_cons_succ, List.getElem_cons_zero, Act.put, List.setIfInBounds_toArray, List.set_cons_zero, List.set_cons_succ]
  refine ⟨fun ga gb gc kk => ?_, fun ga gb gc kk => ?_⟩
  all_goals
    go_wp2_with fail
    refine wp_loop_rounds 5 ?_
    simp only [rounds_succ]
    go_wp2_with fail
    refine wp_region_gentle_tail 10 (by kernel_rfl) (by kernel_rfl) (by kernel_rfl) ?_
    simp only [List.take_succ_cons, List.take_zero, List.drop_succ_cons, List.drop_zero]
    repeat (first | go_big_quiet_skip | (go_big_quiet_want; go_big_quiet_op; first | go_big_quiet_on | fail))
    refine wpQuiet_nil ?_
    rintro _ ⟨gg, ng, rfl⟩
    go_wp2_with fail
    simp only [rounds_succ]
    go_wp2_with fail
    refine wp_region_gentle_tail 10 (by kernel_rfl) (by kernel_rfl) (by kernel_rfl) ?_
    simp only [List.take_succ_cons, List.take_zero, List.drop_succ_cons, List.drop_zero]
    repeat (first | go_big_quiet_skip | (go_big_quiet_want; go_big_quiet_op; first | go_big_quiet_on | fail))
    refine wpQuiet_nil ?_
    rintro _ ⟨gg, ng, rfl⟩
    go_wp2_with fail
    simp only [rounds_succ]
    go_wp2_with fail
    refine wp_region_gentle_tail 10 (by kernel_rfl) (by kernel_rfl) (by kernel_rfl) ?_
    simp only [List.take_succ_cons, List.take_zero, List.drop_succ_cons, List.drop_zero]
    repeat (first | go_big_quiet_skip | (go_big_quiet_want; go_big_quiet_op; first | go_big_quiet_on | fail))
    refine wpQuiet_nil ?_
    rintro _ ⟨gg, ng, rfl⟩
    go_wp2_with fail
    simp only [rounds_succ]
    go_wp2_with fail
    refine wp_region_gentle_tail 10 (by kernel_rfl) (by kernel_rfl) (by kernel_rfl) ?_
    simp only [List.take_succ_cons, List.take_zero, List.drop_succ_cons, List.drop_zero]
    repeat (first | go_big_quiet_skip | (go_big_quiet_want; go_big_quiet_op; first | go_big_quiet_on | fail))
    refine wpQuiet_nil ?_
    rintro _ ⟨gg, ng, rfl⟩
    go_wp2_with fail
    simp only [rounds_succ]
    go_wp2_with fail
    exact bodyPost_ret (v := .tuple #[.agg #[.int .i64 ((rpow (j - k).toNat x).a + (rpow 0 y).a), .int .i64 ((rpow (j - k).toNat x).b + (rpow 0 y).b), .int .i64 ((rpow (j - k).toNat x).c + (rpow 0 y).c), .int .i64 ((rpow (j - k).toNat x).d + (rpow 0 y).d)], .int .i64 j]) (by simp [results, Try.results107, go_sem]) rfl ⟨rfl, (by repeat (first | exact Grew.refl _ | refine Grew.drewN ?_ _ | refine Grew.grow ?_ _ | refine Grew.alloc ?_ _ | refine Grew.drew ?_))⟩

set_option maxHeartbeats 1600000 in
theorem combined_pos_ge (x y : C4) (k j : Int) (w : World) (hx : smallB x = true) (hy : smallB y = true) (hk : 0 ≤ k ∧ k ≤ 40) (hj : 0 ≤ j ∧ j ≤ 40) (hlt : ¬ k < j) :
    Calls Try.prog 107 #[.agg #[.int .i64 x.a, .int .i64 x.b, .int .i64 x.c, .int .i64 x.d, .int .i64 k], .agg #[.int .i64 y.a, .int .i64 y.b, .int .i64 y.c, .int .i64 y.d, .int .i64 j], .int .i64 1] w fun e w' => e = .returned (.tuple #[.agg #[.int .i64 ((rpow 0 x).a + (rpow (k - j).toNat y).a), .int .i64 ((rpow 0 x).b + (rpow (k - j).toNat y).b), .int .i64 ((rpow 0 x).c + (rpow (k - j).toNat y).c), .int .i64 ((rpow 0 x).d + (rpow (k - j).toNat y).d)], .int .i64 k]) ∧ Grew w w' := by
  obtain ⟨_, _⟩ := hk
  obtain ⟨_, _⟩ := hj
  have HP := hid fun w => raised_any x k k w hx (by omega) (by omega) (by omega)
  have HQ := hid fun w => raised_any y j k w hy (by omega) (by omega) (by omega)
  rw [show (k - k).toNat = 0 by omega] at HP
  obtain ⟨⟨_, _⟩, ⟨_, _⟩, ⟨_, _⟩, ⟨_, _⟩⟩ := bd_rpow (n := 0) (by omega) hx
  obtain ⟨⟨_, _⟩, ⟨_, _⟩, ⟨_, _⟩, ⟨_, _⟩⟩ := bd_rpow (n := (k - j).toNat) (by omega) hy
  clear hx hy
  go_enter Try.func107, Try.ntmps107
  go_wp2_with fail
  refine R2.wp_region_makes_two 6 (.cells #[.int .i64 0, .int .i64 0, .int .i64 0, .int .i64 0] 110) (.cells #[.int .i64 0, .int .i64 0, .int .i64 0, .int .i64 0] 110) (by kernel_rfl) (by kernel_rfl) (by decide) (fun _ _ => by kernel_rfl) (fun _ _ => by kernel_rfl) ?_
  simp only [List.take_succ_cons, List.take_zero]
  repeat (refine wpGentle_step (fun K hK => ?_); go_simp; first | (refine hK _ ?_; clear hK K) | (apply Exists.intro; refine ⟨fun gq kq => ?_, hK _ ?_⟩; (focus (first | (go_at_call 124; with_reducible exact HP.out _) | (go_at_call 124; with_reducible exact HQ.out _))); clear hK K))
  refine wpGentle_nil ?_
  simp only [List.drop_succ_cons, List.drop_zero, List.getElem_cons_succ, List.getElem_cons_zero, Act.put, List.setIfInBounds_toArray, List.set_cons_zero, List.set_cons_succ]
  refine ⟨fun ga gb gc kk => ?_, fun ga gb gc kk => ?_⟩
  all_goals
    go_wp2_with fail
    refine wp_loop_rounds 5 ?_
    simp only [rounds_succ]
    go_wp2_with fail
    refine wp_region_gentle_tail 10 (by kernel_rfl) (by kernel_rfl) (by kernel_rfl) ?_
    simp only [List.take_succ_cons, List.take_zero, List.drop_succ_cons, List.drop_zero]
    repeat (first | go_big_quiet_skip | (go_big_quiet_want; go_big_quiet_op; first | go_big_quiet_on | fail))
    refine wpQuiet_nil ?_
    rintro _ ⟨gg, ng, rfl⟩
    go_wp2_with fail
    simp only [rounds_succ]
    go_wp2_with fail
    refine wp_region_gentle_tail 10 (by kernel_rfl) (by kernel_rfl) (by kernel_rfl) ?_
    simp only [List.take_succ_cons, List.take_zero, List.drop_succ_cons, List.drop_zero]
    repeat (first | go_big_quiet_skip | (go_big_quiet_want; go_big_quiet_op; first | go_big_quiet_on | fail))
    refine wpQuiet_nil ?_
    rintro _ ⟨gg, ng, rfl⟩
    go_wp2_with fail
    simp only [rounds_succ]
    go_wp2_with fail
    refine wp_region_gentle_tail 10 (by kernel_rfl) (by kernel_rfl) (by kernel_rfl) ?_
    simp only [List.take_succ_cons, List.take_zero, List.drop_succ_cons, List.drop_zero]
    repeat (first | go_big_quiet_skip | (go_big_quiet_want; go_big_quiet_op; first | go_big_quiet_on | fail))
    refine wpQuiet_nil ?_
    rintro _ ⟨gg, ng, rfl⟩
    go_wp2_with fail
    simp only [rounds_succ]
    go_wp2_with fail
    refine wp_region_gentle_tail 10 (by kernel_rfl) (by kernel_rfl) (by kernel_rfl) ?_
    simp only [List.take_succ_cons, List.take_zero, List.drop_succ_cons, List.drop_zero]
    repeat (first | go_big_quiet_skip | (go_big_quiet_want; go_big_quiet_op; first | go_big_quiet_on | fail))
    refine wpQuiet_nil ?_
    rintro _ ⟨gg, ng, rfl⟩
    go_wp2_with fail
    simp only [rounds_succ]
    go_wp2_with fail
    exact bodyPost_ret (v := .tuple #[.agg #[.int .i64 ((rpow 0 x).a + (rpow (k - j).toNat y).a), .int .i64 ((rpow 0 x).b + (rpow (k - j).toNat y).b), .int .i64 ((rpow 0 x).c + (rpow (k - j).toNat y).c), .int .i64 ((rpow 0 x).d + (rpow (k - j).toNat y).d)], .int .i64 k]) (by simp [results, Try.results107, go_sem]) rfl ⟨rfl, (by repeat (first | exact Grew.refl _ | refine Grew.drewN ?_ _ | refine Grew.grow ?_ _ | refine Grew.alloc ?_ _ | refine Grew.drew ?_))⟩

set_option maxHeartbeats 1600000 in
theorem combined_neg_lt (x y : C4) (k j : Int) (w : World) (hx : smallB x = true) (hy : smallB y = true) (hk : 0 ≤ k ∧ k ≤ 40) (hj : 0 ≤ j ∧ j ≤ 40) (hlt : k < j) :
    Calls Try.prog 107 #[.agg #[.int .i64 x.a, .int .i64 x.b, .int .i64 x.c, .int .i64 x.d, .int .i64 k], .agg #[.int .i64 y.a, .int .i64 y.b, .int .i64 y.c, .int .i64 y.d, .int .i64 j], .int .i64 (-1)] w fun e w' => e = .returned (.tuple #[.agg #[.int .i64 ((rpow (j - k).toNat x).a + -(rpow 0 y).a), .int .i64 ((rpow (j - k).toNat x).b + -(rpow 0 y).b), .int .i64 ((rpow (j - k).toNat x).c + -(rpow 0 y).c), .int .i64 ((rpow (j - k).toNat x).d + -(rpow 0 y).d)], .int .i64 j]) ∧ Grew w w' := by
  obtain ⟨_, _⟩ := hk
  obtain ⟨_, _⟩ := hj
  have HP := hid fun w => raised_any x k j w hx (by omega) (by omega) (by omega)
  have HQ := hid fun w => raised_any y j j w hy (by omega) (by omega) (by omega)
  rw [show (j - j).toNat = 0 by omega] at HQ
  obtain ⟨⟨_, _⟩, ⟨_, _⟩, ⟨_, _⟩, ⟨_, _⟩⟩ := bd_rpow (n := (j - k).toNat) (by omega) hx
  obtain ⟨⟨_, _⟩, ⟨_, _⟩, ⟨_, _⟩, ⟨_, _⟩⟩ := bd_rpow (n := 0) (by omega) hy
  clear hx hy
  go_enter Try.func107, Try.ntmps107
  go_wp2_with fail
  refine R2.wp_region_makes_two 6 (.cells #[.int .i64 0, .int .i64 0, .int .i64 0, .int .i64 0] 110) (.cells #[.int .i64 0, .int .i64 0, .int .i64 0, .int .i64 0] 110) (by kernel_rfl) (by kernel_rfl) (by decide) (fun _ _ => by kernel_rfl) (fun _ _ => by kernel_rfl) ?_
  simp only [List.take_succ_cons, List.take_zero]
  repeat (refine wpGentle_step (fun K hK => ?_); go_simp; first | (refine hK _ ?_; clear hK K) | (apply Exists.intro; refine ⟨fun gq kq => ?_, hK _ ?_⟩; (focus (first | (go_at_call 124; with_reducible exact HP.out _) | (go_at_call 124; with_reducible exact HQ.out _))); clear hK K))
  refine wpGentle_nil ?_
  simp only [List.drop_succ_cons, List.drop_zero, List.getElem_cons_succ, List.getElem_cons_zero, Act.put, List.setIfInBounds_toArray, List.set_cons_zero, List.set_cons_succ]
  refine ⟨fun ga gb gc kk => ?_, fun ga gb gc kk => ?_⟩
  all_goals
    go_wp2_with fail
    refine wp_loop_rounds 5 ?_
    simp only [rounds_succ]
    go_wp2_with fail
    refine wp_region_gentle_tail 10 (by kernel_rfl) (by kernel_rfl) (by kernel_rfl) ?_
    simp only [List.take_succ_cons, List.take_zero, List.drop_succ_cons, List.drop_zero]
    repeat (first | go_big_quiet_skip | (go_big_quiet_want; go_big_quiet_op; first | go_big_quiet_on | fail))
    refine wpQuiet_nil ?_
    rintro _ ⟨gg, ng, rfl⟩
    go_wp2_with fail
    simp only [rounds_succ]
    go_wp2_with fail
    refine wp_region_gentle_tail 10 (by kernel_rfl) (by kernel_rfl) (by kernel_rfl) ?_
    simp only [List.take_succ_cons, List.take_zero, List.drop_succ_cons, List.drop_zero]
    repeat (first | go_big_quiet_skip | (go_big_quiet_want; go_big_quiet_op; first | go_big_quiet_on | fail))
    refine wpQuiet_nil ?_
    rintro _ ⟨gg, ng, rfl⟩
    go_wp2_with fail
    simp only [rounds_succ]
    go_wp2_with fail
    refine wp_region_gentle_tail 10 (by kernel_rfl) (by kernel_rfl) (by kernel_rfl) ?_
    simp only [List.take_succ_cons, List.take_zero, List.drop_succ_cons, List.drop_zero]
    repeat (first | go_big_quiet_skip | (go_big_quiet_want; go_big_quiet_op; first | go_big_quiet_on | fail))
    refine wpQuiet_nil ?_
    rintro _ ⟨gg, ng, rfl⟩
    go_wp2_with fail
    simp only [rounds_succ]
    go_wp2_with fail
    refine wp_region_gentle_tail 10 (by kernel_rfl) (by kernel_rfl) (by kernel_rfl) ?_
    simp only [List.take_succ_cons, List.take_zero, List.drop_succ_cons, List.drop_zero]
    repeat (first | go_big_quiet_skip | (go_big_quiet_want; go_big_quiet_op; first | go_big_quiet_on | fail))
    refine wpQuiet_nil ?_
    rintro _ ⟨gg, ng, rfl⟩
    go_wp2_with fail
    simp only [rounds_succ]
    go_wp2_with fail
    exact bodyPost_ret (v := .tuple #[.agg #[.int .i64 ((rpow (j - k).toNat x).a + -(rpow 0 y).a), .int .i64 ((rpow (j - k).toNat x).b + -(rpow 0 y).b), .int .i64 ((rpow (j - k).toNat x).c + -(rpow 0 y).c), .int .i64 ((rpow (j - k).toNat x).d + -(rpow 0 y).d)], .int .i64 j]) (by simp [results, Try.results107, go_sem]) rfl ⟨rfl, (by repeat (first | exact Grew.refl _ | refine Grew.drewN ?_ _ | refine Grew.grow ?_ _ | refine Grew.alloc ?_ _ | refine Grew.drew ?_))⟩

set_option maxHeartbeats 1600000 in
theorem combined_neg_ge (x y : C4) (k j : Int) (w : World) (hx : smallB x = true) (hy : smallB y = true) (hk : 0 ≤ k ∧ k ≤ 40) (hj : 0 ≤ j ∧ j ≤ 40) (hlt : ¬ k < j) :
    Calls Try.prog 107 #[.agg #[.int .i64 x.a, .int .i64 x.b, .int .i64 x.c, .int .i64 x.d, .int .i64 k], .agg #[.int .i64 y.a, .int .i64 y.b, .int .i64 y.c, .int .i64 y.d, .int .i64 j], .int .i64 (-1)] w fun e w' => e = .returned (.tuple #[.agg #[.int .i64 ((rpow 0 x).a + -(rpow (k - j).toNat y).a), .int .i64 ((rpow 0 x).b + -(rpow (k - j).toNat y).b), .int .i64 ((rpow 0 x).c + -(rpow (k - j).toNat y).c), .int .i64 ((rpow 0 x).d + -(rpow (k - j).toNat y).d)], .int .i64 k]) ∧ Grew w w' := by
  obtain ⟨_, _⟩ := hk
  obtain ⟨_, _⟩ := hj
  have HP := hid fun w => raised_any x k k w hx (by omega) (by omega) (by omega)
  have HQ := hid fun w => raised_any y j k w hy (by omega) (by omega) (by omega)
  rw [show (k - k).toNat = 0 by omega] at HP
  obtain ⟨⟨_, _⟩, ⟨_, _⟩, ⟨_, _⟩, ⟨_, _⟩⟩ := bd_rpow (n := 0) (by omega) hx
  obtain ⟨⟨_, _⟩, ⟨_, _⟩, ⟨_, _⟩, ⟨_, _⟩⟩ := bd_rpow (n := (k - j).toNat) (by omega) hy
  clear hx hy
  go_enter Try.func107, Try.ntmps107
  go_wp2_with fail
  refine R2.wp_region_makes_two 6 (.cells #[.int .i64 0, .int .i64 0, .int .i64 0, .int .i64 0] 110) (.cells #[.int .i64 0, .int .i64 0, .int .i64 0, .int .i64 0] 110) (by kernel_rfl) (by kernel_rfl) (by decide) (fun _ _ => by kernel_rfl) (fun _ _ => by kernel_rfl) ?_
  simp only [List.take_succ_cons, List.take_zero]
  repeat (refine wpGentle_step (fun K hK => ?_); go_simp; first | (refine hK _ ?_; clear hK K) | (apply Exists.intro; refine ⟨fun gq kq => ?_, hK _ ?_⟩; (focus (first | (go_at_call 124; with_reducible exact HP.out _) | (go_at_call 124; with_reducible exact HQ.out _))); clear hK K))
  refine wpGentle_nil ?_
  simp only [List.drop_succ_cons, List.drop_zero, List.getElem_cons_succ, List.getElem_cons_zero, Act.put, List.setIfInBounds_toArray, List.set_cons_zero, List.set_cons_succ]
  refine ⟨fun ga gb gc kk => ?_, fun ga gb gc kk => ?_⟩
  all_goals
    go_wp2_with fail
    refine wp_loop_rounds 5 ?_
    simp only [rounds_succ]
    go_wp2_with fail
    refine wp_region_gentle_tail 10 (by kernel_rfl) (by kernel_rfl) (by kernel_rfl) ?_
    simp only [List.take_succ_cons, List.take_zero, List.drop_succ_cons, List.drop_zero]
    repeat (first | go_big_quiet_skip | (go_big_quiet_want; go_big_quiet_op; first | go_big_quiet_on | fail))
    refine wpQuiet_nil ?_
    rintro _ ⟨gg, ng, rfl⟩
    go_wp2_with fail
    simp only [rounds_succ]
    go_wp2_with fail
    refine wp_region_gentle_tail 10 (by kernel_rfl) (by kernel_rfl) (by kernel_rfl) ?_
    simp only [List.take_succ_cons, List.take_zero, List.drop_succ_cons, List.drop_zero]
    repeat (first | go_big_quiet_skip | (go_big_quiet_want; go_big_quiet_op; first | go_big_quiet_on | fail))
    refine wpQuiet_nil ?_
    rintro _ ⟨gg, ng, rfl⟩
    go_wp2_with fail
    simp only [rounds_succ]
    go_wp2_with fail
    refine wp_region_gentle_tail 10 (by kernel_rfl) (by kernel_rfl) (by kernel_rfl) ?_
    simp only [List.take_succ_cons, List.take_zero, List.drop_succ_cons, List.drop_zero]
    repeat (first | go_big_quiet_skip | (go_big_quiet_want; go_big_quiet_op; first | go_big_quiet_on | fail))
    refine wpQuiet_nil ?_
    rintro _ ⟨gg, ng, rfl⟩
    go_wp2_with fail
    simp only [rounds_succ]
    go_wp2_with fail
    refine wp_region_gentle_tail 10 (by kernel_rfl) (by kernel_rfl) (by kernel_rfl) ?_
    simp only [List.take_succ_cons, List.take_zero, List.drop_succ_cons, List.drop_zero]
    repeat (first | go_big_quiet_skip | (go_big_quiet_want; go_big_quiet_op; first | go_big_quiet_on | fail))
    refine wpQuiet_nil ?_
    rintro _ ⟨gg, ng, rfl⟩
    go_wp2_with fail
    simp only [rounds_succ]
    go_wp2_with fail
    exact bodyPost_ret (v := .tuple #[.agg #[.int .i64 ((rpow 0 x).a + -(rpow (k - j).toNat y).a), .int .i64 ((rpow 0 x).b + -(rpow (k - j).toNat y).b), .int .i64 ((rpow 0 x).c + -(rpow (k - j).toNat y).c), .int .i64 ((rpow 0 x).d + -(rpow (k - j).toNat y).d)], .int .i64 k]) (by simp [results, Try.results107, go_sem]) rfl ⟨rfl, (by repeat (first | exact Grew.refl _ | refine Grew.drewN ?_ _ | refine Grew.grow ?_ _ | refine Grew.alloc ?_ _ | refine Grew.drew ?_))⟩

theorem combined_pos (x y : C4) (k j : Int) (w : World) (hx : smallB x = true) (hy : smallB y = true) (hk : 0 ≤ k ∧ k ≤ 40) (hj : 0 ≤ j ∧ j ≤ 40) :
    Calls Try.prog 107 #[.agg #[.int .i64 x.a, .int .i64 x.b, .int .i64 x.c, .int .i64 x.d, .int .i64 k], .agg #[.int .i64 y.a, .int .i64 y.b, .int .i64 y.c, .int .i64 y.d, .int .i64 j], .int .i64 1] w fun e w' => e = .returned (.tuple #[.agg #[.int .i64 (addK x k y j).a, .int .i64 (addK x k y j).b, .int .i64 (addK x k y j).c, .int .i64 (addK x k y j).d], .int .i64 (max k j)]) ∧ Grew w w' := by
  by_cases hlt : k < j
  · refine (combined_pos_lt x y k j w hx hy hk hj hlt).mono fun e w' h => ⟨h.1.trans ?_, h.2⟩
    rw [addK_lt hlt, show max k j = j by omega]
    rfl
  · refine (combined_pos_ge x y k j w hx hy hk hj hlt).mono fun e w' h => ⟨h.1.trans ?_, h.2⟩
    rw [addK_ge hlt, show max k j = k by omega]
    rfl
theorem combined_neg (x y : C4) (k j : Int) (w : World) (hx : smallB x = true) (hy : smallB y = true) (hk : 0 ≤ k ∧ k ≤ 40) (hj : 0 ≤ j ∧ j ≤ 40) :
    Calls Try.prog 107 #[.agg #[.int .i64 x.a, .int .i64 x.b, .int .i64 x.c, .int .i64 x.d, .int .i64 k], .agg #[.int .i64 y.a, .int .i64 y.b, .int .i64 y.c, .int .i64 y.d, .int .i64 j], .int .i64 (-1)] w fun e w' => e = .returned (.tuple #[.agg #[.int .i64 (addK x k (negC y) j).a, .int .i64 (addK x k (negC y) j).b, .int .i64 (addK x k (negC y) j).c, .int .i64 (addK x k (negC y) j).d], .int .i64 (max k j)]) ∧ Grew w w' := by
  by_cases hlt : k < j
  · refine (combined_neg_lt x y k j w hx hy hk hj hlt).mono fun e w' h => ⟨h.1.trans ?_, h.2⟩
    rw [addK_lt hlt, show max k j = j by omega]
    rfl
  · refine (combined_neg_ge x y k j w hx hy hk hj hlt).mono fun e w' h => ⟨h.1.trans ?_, h.2⟩
    rw [addK_ge hlt, show max k j = k by omega, rpow_neg]
    rfl

end Go.Proofs.Ytkglnnkghillpaa

/- Add and Sub of the program and of the reference. No condition. -/

namespace Go.Proofs.Ytkglnnkghillpaa
open Go Go.RowKit Amp

set_option maxHeartbeats 800000 in
theorem aAdd_any (x y : C4) (k j : Int) (w : World) :
    Calls Try.prog 120 #[.agg #[.int .i64 x.a, .int .i64 x.b, .int .i64 x.c, .int .i64 x.d, .int .i64 k], .agg #[.int .i64 y.a, .int .i64 y.b, .int .i64 y.c, .int .i64 y.d, .int .i64 j]] w fun e w' => e = .returned (.tuple #[.agg #[.int .i64 (addN x k y j).x.a, .int .i64 (addN x k y j).x.b, .int .i64 (addN x k y j).x.c, .int .i64 (addN x k y j).x.d, .int .i64 (addN x k y j).k], .int .i64 (addN x k y j).e]) ∧ Grew w w' := by
  by_cases hv : validB x k = true ∧ validB y j = true
  case neg =>
    have he : Hid ((addN x k y j) = fail 10) := if_neg hv
    have hb : (validB x k && validB y j) = false := by
      rw [Bool.eq_false_iff]; simpa using hv
    clear hv
    go_enter Try.func120, Try.ntmps120
    go_wp2_with fail
    refine (valid2_any x y k j _ _ _ _ (by first | exact blk_new_drewN (by simp [go_sem]) | exact blk_new (by simp [go_sem]))).mono ?_
    rintro e w1 ⟨rfl, g, n, rfl⟩
    rw [hb]
    clear hb
    go_wp2_with fail
    exact bodyPost_ret (v := .tuple #[.agg #[.int .i64 0, .int .i64 0, .int .i64 0, .int .i64 0, .int .i64 0], .int .i64 10]) (by simp [results, Try.results120, go_sem]) rfl ⟨by rw [he.out]; rfl, (by repeat (first | exact Grew.refl _ | refine Grew.drewN ?_ _ | refine Grew.grow ?_ _ | refine Grew.alloc ?_ _ | refine Grew.drew ?_))⟩
  have he : Hid ((addN x k y j) = (made (addK x k y j) (max k j))) := if_pos hv
  have hb : (validB x k && validB y j) = true := by simpa using hv
  obtain ⟨h1, h2⟩ := hv
  have sx := validB_small h1
  have sy := validB_small h2
  have kx := validB_k h1
  have ky := validB_k h2
  have HM := hid fun w => aresult_any (addK x k y j) (max k j) w (in4_addK sx sy kx ky) (by omega) (by omega)
  have HA := hid fun w => add_any x y k j w sx sy kx ky
  clear h1 h2 sx sy kx ky
  go_enter Try.func120, Try.ntmps120
  go_wp2_with fail
  refine (valid2_any x y k j _ _ _ _ (by first | exact blk_new_drewN (by simp [go_sem]) | exact blk_new (by simp [go_sem]))).mono ?_
  rintro e w1 ⟨rfl, g, n, rfl⟩
  rw [hb]
  clear hb
  go_wp2_with fail
  refine (HA.out _).mono ?_
  rintro e w' ⟨rfl, g1, n1, rfl⟩
  go_wp2_with fail
  refine (HM.out _).mono ?_
  rintro e w' ⟨rfl, g2, n2, rfl⟩
  go_wp2_with fail
  exact bodyPost_ret (v := .tuple #[.agg #[.int .i64 (made (addK x k y j) (max k j)).x.a, .int .i64 (made (addK x k y j) (max k j)).x.b, .int .i64 (made (addK x k y j) (max k j)).x.c, .int .i64 (made (addK x k y j) (max k j)).x.d, .int .i64 (made (addK x k y j) (max k j)).k], .int .i64 (made (addK x k y j) (max k j)).e]) (by simp [results, Try.results120, go_sem]) rfl ⟨by rw [he.out], (by repeat (first | exact Grew.refl _ | refine Grew.drewN ?_ _ | refine Grew.grow ?_ _ | refine Grew.alloc ?_ _ | refine Grew.drew ?_))⟩

set_option maxHeartbeats 800000 in
theorem rAdd_any (x y : C4) (k j : Int) (w : World) :
    Calls Try.prog 72 #[.agg #[.int .i64 x.a, .int .i64 x.b, .int .i64 x.c, .int .i64 x.d, .int .i64 k], .agg #[.int .i64 y.a, .int .i64 y.b, .int .i64 y.c, .int .i64 y.d, .int .i64 j]] w fun e w' => e = .returned (.tuple #[.agg #[.int .i64 (addN x k y j).x.a, .int .i64 (addN x k y j).x.b, .int .i64 (addN x k y j).x.c, .int .i64 (addN x k y j).x.d, .int .i64 (addN x k y j).k], .int .i64 (addN x k y j).e]) ∧ Grew w w' := by
  have hA := fun w => rValid_any x k w
  have hB := fun w => rValid_any y j w
  by_cases h1 : validB x k = true
  case neg =>
    have he : Hid ((addN x k y j) = fail 10) := if_neg fun h => h1 h.1
    rw [show validB x k = false by simpa using h1] at hA
    have HA := hid hA
    clear hA hB h1
    go_enter Try.func72, Try.ntmps72
    go_wp2_with fail
    refine (HA.out _).mono ?_
    rintro e w' ⟨rfl, g, n, rfl⟩
    go_wp2_with fail
    exact bodyPost_ret (v := .tuple #[.agg #[.int .i64 0, .int .i64 0, .int .i64 0, .int .i64 0, .int .i64 0], .int .i64 10]) (by simp [results, Try.results72, go_sem]) rfl ⟨by rw [he.out]; rfl, (by repeat (first | exact Grew.refl _ | refine Grew.drewN ?_ _ | refine Grew.grow ?_ _ | refine Grew.alloc ?_ _ | refine Grew.drew ?_))⟩

  rw [h1] at hA
  have HA := hid hA
  clear hA
  by_cases h2 : validB y j = true
  case neg =>
    have he : Hid ((addN x k y j) = fail 10) := if_neg fun h => h2 h.2
    rw [show validB y j = false by simpa using h2] at hB
    have HB := hid hB
    clear hB h1 h2
    go_enter Try.func72, Try.ntmps72
    go_wp2_with fail
    refine (HA.out _).mono ?_
    rintro e w' ⟨rfl, g, n, rfl⟩
    go_wp2_with fail
    refine (HB.out _).mono ?_
    rintro e w' ⟨rfl, g1, n1, rfl⟩
    go_wp2_with fail
    exact bodyPost_ret (v := .tuple #[.agg #[.int .i64 0, .int .i64 0, .int .i64 0, .int .i64 0, .int .i64 0], .int .i64 10]) (by simp [results, Try.results72, go_sem]) rfl ⟨by rw [he.out]; rfl, (by repeat (first | exact Grew.refl _ | refine Grew.drewN ?_ _ | refine Grew.grow ?_ _ | refine Grew.alloc ?_ _ | refine Grew.drew ?_))⟩
  rw [h2] at hB
  have HB := hid hB
  clear hB
  have he : Hid ((addN x k y j) = (made (addK x k y j) (max k j))) := if_pos ⟨h1, h2⟩
  have sx := validB_small h1
  have sy := validB_small h2
  have kx := validB_k h1
  have ky := validB_k h2
  have HC := hid fun w => combined_pos x y k j w sx sy kx ky
  have HM := hid fun w => made_any (addK x k y j) (max k j) w (in4_addK sx sy kx ky) (by omega) (by omega)
  clear h1 h2 sx sy kx ky
  go_enter Try.func72, Try.ntmps72
  go_wp2_with fail
  refine (HA.out _).mono ?_
  rintro e w' ⟨rfl, g, n, rfl⟩
  go_wp2_with fail
  refine (HB.out _).mono ?_
  rintro e w' ⟨rfl, g1, n1, rfl⟩
  go_wp2_with fail
  refine (HC.out _).mono ?_
  rintro e w' ⟨rfl, g2, n2, rfl⟩
  go_wp2_with fail
  refine (HM.out _).mono ?_
  rintro e w' ⟨rfl, g3, n3, rfl⟩
  go_wp2_with fail
  exact bodyPost_ret (v := .tuple #[.agg #[.int .i64 (made (addK x k y j) (max k j)).x.a, .int .i64 (made (addK x k y j) (max k j)).x.b, .int .i64 (made (addK x k y j) (max k j)).x.c, .int .i64 (made (addK x k y j) (max k j)).x.d, .int .i64 (made (addK x k y j) (max k j)).k], .int .i64 (made (addK x k y j) (max k j)).e]) (by simp [results, Try.results72, go_sem]) rfl ⟨by rw [he.out], (by repeat (first | exact Grew.refl _ | refine Grew.drewN ?_ _ | refine Grew.grow ?_ _ | refine Grew.alloc ?_ _ | refine Grew.drew ?_))⟩

end Go.Proofs.Ytkglnnkghillpaa
