/- The reference's combined: a sum or a difference in no form. Conditions: elements in range. -/
import Derived.Test.YtkglnnkghillpaaAmpN
import Derived.Test.YtkglnnkghillpaaRegionB
namespace Go.Proofs.Ytkglnnkghillpaa
open Go Go.RowKit Amp

set_option maxHeartbeats 1600000 in
theorem combined_pos_lt (x y : C4) (k j : Int) (w : World) (hx : smallB x = true) (hy : smallB y = true) (hk : 0 ≤ k ∧ k ≤ 40) (hj : 0 ≤ j ∧ j ≤ 40) (hlt : k < j) :
    Calls Try.prog 107 #[.agg #[.int .i64 x.a, .int .i64 x.b, .int .i64 x.c, .int .i64 x.d, .int .i64 k], .agg #[.int .i64 y.a, .int .i64 y.b, .int .i64 y.c, .int .i64 y.d, .int .i64 j], .int .i64 1] w fun e w' => e = .returned (.tuple #[.agg #[.int .i64 ((rpow (j - k).toNat x).a + (rpow 0 y).a), .int .i64 ((rpow (j - k).toNat x).b + (rpow 0 y).b), .int .i64 ((rpow (j - k).toNat x).c + (rpow 0 y).c), .int .i64 ((rpow (j - k).toNat x).d + (rpow 0 y).d)], .int .i64 j]) ∧ Grew w w' := by
  obtain ⟨_, _⟩ := hk
  obtain ⟨_, _⟩ := hj
  have HP := hid fun w => raised_any x k j w hx (by omega) (by omega) (by omega)
  have HQ := hid fun w => raised_any y j j w hy (by omega) (by omega) (by omega)
  rw [show (j - j).toNat = 0 by omega] at HQ
  obtain ⟨⟨_, _⟩, ⟨_, _⟩, ⟨_, _⟩, ⟨_, _⟩⟩ := bd_rpow (n := (j - k).toNat) (by omega) hx
  obtain ⟨⟨_, _⟩, ⟨_, _⟩, ⟨_, _⟩, ⟨_, _⟩⟩ := bd_rpow (n := 0) (by omega) hy
  clear hx hy
  go_enter Try.func107, Try.ntmps107
  go_wp2_with fail
  refine R2.wp_region_makes_two 6 (.cells #[.int .i64 0, .int .i64 0, .int .i64 0, .int .i64 0] 110) (.cells #[.int .i64 0, .int .i64 0, .int .i64 0, .int .i64 0] 110) (by kernel_rfl) (by kernel_rfl) (by decide) (fun _ _ => by kernel_rfl) (fun _ _ => by kernel_rfl) ?_
  simp only [List.take_succ_cons, List.take_zero]
  repeat (refine wpGentle_step (fun K hK => ?_); go_simp; first | (refine hK _ ?_; clear hK K) | (apply Exists.intro; refine ⟨fun gq kq => ?_, hK _ ?_⟩; (focus (first | (go_at_call 124; with_reducible exact HP.out _) | (go_at_call 124; with_reducible exact HQ.out _))); clear hK K))
  refine wpGentle_nil ?_
  simp only [List.drop_succ_cons, List.drop_zero, List.getElem_cons_succ, List.getElem_cons_zero, Act.put, List.setIfInBounds_toArray, List.set_cons_zero, List.set_cons_succ]
  refine ⟨fun ga gb gc kk => ?_, fun ga gb gc kk => ?_⟩
  all_goals
    go_wp2_with fail
    refine wp_loop_rounds 5 ?_
    simp only [rounds_succ]
    go_wp2_with fail
    refine wp_region_gentle_tail 10 (by kernel_rfl) (by kernel_rfl) (by kernel_rfl) ?_
    simp only [List.take_succ_cons, List.take_zero, List.drop_succ_cons, List.drop_zero]
    repeat (first | go_big_quiet_skip | (go_big_quiet_want; go_big_quiet_op; first | go_big_quiet_on | fail))
    refine wpQuiet_nil ?_
    rintro _ ⟨gg, ng, rfl⟩
    go_wp2_with fail
    simp only [rounds_succ]
    go_wp2_with fail
    refine wp_region_gentle_tail 10 (by kernel_rfl) (by kernel_rfl) (by kernel_rfl) ?_
    simp only [List.take_succ_cons, List.take_zero, List.drop_succ_cons, List.drop_zero]
    repeat (first | go_big_quiet_skip | (go_big_quiet_want; go_big_quiet_op; first | go_big_quiet_on | fail))
    refine wpQuiet_nil ?_
    rintro _ ⟨gg, ng, rfl⟩
    go_wp2_with fail
    simp only [rounds_succ]
    go_wp2_with fail
    refine wp_region_gentle_tail 10 (by kernel_rfl) (by kernel_rfl) (by kernel_rfl) ?_
    simp only [List.take_succ_cons, List.take_zero, List.drop_succ_cons, List.drop_zero]
    repeat (first | go_big_quiet_skip | (go_big_quiet_want; go_big_quiet_op; first | go_big_quiet_on | fail))
    refine wpQuiet_nil ?_
    rintro _ ⟨gg, ng, rfl⟩
    go_wp2_with fail
    simp only [rounds_succ]
    go_wp2_with fail
    refine wp_region_gentle_tail 10 (by kernel_rfl) (by kernel_rfl) (by kernel_rfl) ?_
    simp only [List.take_succ_cons, List.take_zero, List.drop_succ_cons, List.drop_zero]
    repeat (first | go_big_quiet_skip | (go_big_quiet_want; go_big_quiet_op; first | go_big_quiet_on | fail))
    refine wpQuiet_nil ?_
    rintro _ ⟨gg, ng, rfl⟩
    go_wp2_with fail
    simp only [rounds_succ]
    go_wp2_with fail
    exact bodyPost_ret (v := .tuple #[.agg #[.int .i64 ((rpow (j - k).toNat x).a + (rpow 0 y).a), .int .i64 ((rpow (j - k).toNat x).b + (rpow 0 y).b), .int .i64 ((rpow (j - k).toNat x).c + (rpow 0 y).c), .int .i64 ((rpow (j - k).toNat x).d + (rpow 0 y).d)], .int .i64 j]) (by simp [results, Try.results107, go_sem]) rfl ⟨rfl, (by repeat (first | exact Grew.refl _ | refine Grew.drewN ?_ _ | refine Grew.grow ?_ _ | refine Grew.alloc ?_ _ | refine Grew.drew ?_))⟩

set_option maxHeartbeats 1600000 in
theorem combined_pos_ge (x y : C4) (k j : Int) (w : World) (hx : smallB x = true) (hy : smallB y = true) (hk : 0 ≤ k ∧ k ≤ 40) (hj : 0 ≤ j ∧ j ≤ 40) (hlt : ¬ k < j) :
    Calls Try.prog 107 #[.agg #[.int .i64 x.a, .int .i64 x.b, .int .i64 x.c, .int .i64 x.d, .int .i64 k], .agg #[.int .i64 y.a, .int .i64 y.b, .int .i64 y.c, .int .i64 y.d, .int .i64 j], .int .i64 1] w fun e w' => e = .returned (.tuple #[.agg #[.int .i64 ((rpow 0 x).a + (rpow (k - j).toNat y).a), .int .i64 ((rpow 0 x).b + (rpow (k - j).toNat y).b), .int .i64 ((rpow 0 x).c + (rpow (k - j).toNat y).c), .int .i64 ((rpow 0 x).d + (rpow (k - j).toNat y).d)], .int .i64 k]) ∧ Grew w w' := by
  obtain ⟨_, _⟩ := hk
  obtain ⟨_, _⟩ := hj
  have HP := hid fun w => raised_any x k k w hx (by omega) (by omega) (by omega)
  have HQ := hid fun w => raised_any y j k w hy (by omega) (by omega) (by omega)
  rw [show (k - k).toNat = 0 by omega] at HP
  obtain ⟨⟨_, _⟩, ⟨_, _⟩, ⟨_, _⟩, ⟨_, _⟩⟩ := bd_rpow (n := 0) (by omega) hx
  obtain ⟨⟨_, _⟩, ⟨_, _⟩, ⟨_, _⟩, ⟨_, _⟩⟩ := bd_rpow (n := (k - j).toNat) (by omega) hy
  clear hx hy
  go_enter Try.func107, Try.ntmps107
  go_wp2_with fail
  refine R2.wp_region_makes_two 6 (.cells #[.int .i64 0, .int .i64 0, .int .i64 0, .int .i64 0] 110) (.cells #[.int .i64 0, .int .i64 0, .int .i64 0, .int .i64 0] 110) (by kernel_rfl) (by kernel_rfl) (by decide) (fun _ _ => by kernel_rfl) (fun _ _ => by kernel_rfl) ?_
  simp only [List.take_succ_cons, List.take_zero]
  repeat (refine wpGentle_step (fun K hK => ?_); go_simp; first | (refine hK _ ?_; clear hK K) | (apply Exists.intro; refine ⟨fun gq kq => ?_, hK _ ?_⟩; (focus (first | (go_at_call 124; with_reducible exact HP.out _) | (go_at_call 124; with_reducible exact HQ.out _))); clear hK K))
  refine wpGentle_nil ?_
  simp only [List.drop_succ_cons, List.drop_zero, List.getElem_cons_succ, List.getElem_cons_zero, Act.put, List.setIfInBounds_toArray, List.set_cons_zero, List.set_cons_succ]
  refine ⟨fun ga gb gc kk => ?_, fun ga gb gc kk => ?_⟩
  all_goals
    go_wp2_with fail
    refine wp_loop_rounds 5 ?_
    simp only [rounds_succ]
    go_wp2_with fail
    refine wp_region_gentle_tail 10 (by kernel_rfl) (by kernel_rfl) (by kernel_rfl) ?_
    simp only [List.take_succ_cons, List.take_zero, List.drop_succ_cons, List.drop_zero]
    repeat (first | go_big_quiet_skip | (go_big_quiet_want; go_big_quiet_op; first | go_big_quiet_on | fail))
    refine wpQuiet_nil ?_
    rintro _ ⟨gg, ng, rfl⟩
    go_wp2_with fail
    simp only [rounds_succ]
    go_wp2_with fail
    refine wp_region_gentle_tail 10 (by kernel_rfl) (by kernel_rfl) (by kernel_rfl) ?_
    simp only [List.take_succ_cons, List.take_zero, List.drop_succ_cons, List.drop_zero]
    repeat (first | go_big_quiet_skip | (go_big_quiet_want; go_big_quiet_op; first | go_big_quiet_on | fail))
    refine wpQuiet_nil ?_
    rintro _ ⟨gg, ng, rfl⟩
    go_wp2_with fail
    simp only [rounds_succ]
    go_wp2_with fail
    refine wp_region_gentle_tail 10 (by kernel_rfl) (by kernel_rfl) (by kernel_rfl) ?_
    simp only [List.take_succ_cons, List.take_zero, List.drop_succ_cons, List.drop_zero]
    repeat (first | go_big_quiet_skip | (go_big_quiet_want; go_big_quiet_op; first | go_big_quiet_on | fail))
    refine wpQuiet_nil ?_
    rintro _ ⟨gg, ng, rfl⟩
    go_wp2_with fail
    simp only [rounds_succ]
    go_wp2_with fail
    refine wp_region_gentle_tail 10 (by kernel_rfl) (by kernel_rfl) (by kernel_rfl) ?_
    simp only [List.take_succ_cons, List.take_zero, List.drop_succ_cons, List.drop_zero]
    repeat (first | go_big_quiet_skip | (go_big_quiet_want; go_big_quiet_op; first | go_big_quiet_on | fail))
    refine wpQuiet_nil ?_
    rintro _ ⟨gg, ng, rfl⟩
    go_wp2_with fail
    simp only [rounds_succ]
    go_wp2_with fail
    exact bodyPost_ret (v := .tuple #[.agg #[.int .i64 ((rpow 0 x).a + (rpow (k - j).toNat y).a), .int .i64 ((rpow 0 x).b + (rpow (k - j).toNat y).b), .int .i64 ((rpow 0 x).c + (rpow (k - j).toNat y).c), .int .i64 ((rpow 0 x).d + (rpow (k - j).toNat y).d)], .int .i64 k]) (by simp [results, Try.results107, go_sem]) rfl ⟨rfl, (by repeat (first | exact Grew.refl _ | refine Grew.drewN ?_ _ | refine Grew.grow ?_ _ | refine Grew.alloc ?_ _ | refine Grew.drew ?_))⟩

set_option maxHeartbeats 1600000 in
theorem combined_neg_lt (x y : C4) (k j : Int) (w : World) (hx : smallB x = true) (hy : smallB y = true) (hk : 0 ≤ k ∧ k ≤ 40) (hj : 0 ≤ j ∧ j ≤ 40) (hlt : k < j) :
    Calls Try.prog 107 #[.agg #[.int .i64 x.a, .int .i64 x.b, .int .i64 x.c, .int .i64 x.d, .int .i64 k], .agg #[.int .i64 y.a, .int .i64 y.b, .int .i64 y.c, .int .i64 y.d, .int .i64 j], .int .i64 (-1)] w fun e w' => e = .returned (.tuple #[.agg #[.int .i64 ((rpow (j - k).toNat x).a + -(rpow 0 y).a), .int .i64 ((rpow (j - k).toNat x).b + -(rpow 0 y).b), .int .i64 ((rpow (j - k).toNat x).c + -(rpow 0 y).c), .int .i64 ((rpow (j - k).toNat x).d + -(rpow 0 y).d)], .int .i64 j]) ∧ Grew w w' := by
  obtain ⟨_, _⟩ := hk
  obtain ⟨_, _⟩ := hj
  have HP := hid fun w => raised_any x k j w hx (by omega) (by omega) (by omega)
  have HQ := hid fun w => raised_any y j j w hy (by omega) (by omega) (by omega)
  rw [show (j - j).toNat = 0 by omega] at HQ
  obtain ⟨⟨_, _⟩, ⟨_, _⟩, ⟨_, _⟩, ⟨_, _⟩⟩ := bd_rpow (n := (j - k).toNat) (by omega) hx
  obtain ⟨⟨_, _⟩, ⟨_, _⟩, ⟨_, _⟩, ⟨_, _⟩⟩ := bd_rpow (n := 0) (by omega) hy
  clear hx hy
  go_enter Try.func107, Try.ntmps107
  go_wp2_with fail
  refine R2.wp_region_makes_two 6 (.cells #[.int .i64 0, .int .i64 0, .int .i64 0, .int .i64 0] 110) (.cells #[.int .i64 0, .int .i64 0, .int .i64 0, .int .i64 0] 110) (by kernel_rfl) (by kernel_rfl) (by decide) (fun _ _ => by kernel_rfl) (fun _ _ => by kernel_rfl) ?_
  simp only [List.take_succ_cons, List.take_zero]
  repeat (refine wpGentle_step (fun K hK => ?_); go_simp; first | (refine hK _ ?_; clear hK K) | (apply Exists.intro; refine ⟨fun gq kq => ?_, hK _ ?_⟩; (focus (first | (go_at_call 124; with_reducible exact HP.out _) | (go_at_call 124; with_reducible exact HQ.out _))); clear hK K))
  refine wpGentle_nil ?_
  simp only [List.drop_succ_cons, List.drop_zero, List.getElem_cons_succ, List.getElem_cons_zero, Act.put, List.setIfInBounds_toArray, List.set_cons_zero, List.set_cons_succ]
  refine ⟨fun ga gb gc kk => ?_, fun ga gb gc kk => ?_⟩
  all_goals
    go_wp2_with fail
    refine wp_loop_rounds 5 ?_
    simp only [rounds_succ]
    go_wp2_with fail
    refine wp_region_gentle_tail 10 (by kernel_rfl) (by kernel_rfl) (by kernel_rfl) ?_
    simp only [List.take_succ_cons, List.take_zero, List.drop_succ_cons, List.drop_zero]
    repeat (first | go_big_quiet_skip | (go_big_quiet_want; go_big_quiet_op; first | go_big_quiet_on | fail))
    refine wpQuiet_nil ?_
    rintro _ ⟨gg, ng, rfl⟩
    go_wp2_with fail
    simp only [rounds_succ]
    go_wp2_with fail
    refine wp_region_gentle_tail 10 (by kernel_rfl) (by kernel_rfl) (by kernel_rfl) ?_
    simp only [List.take_succ_cons, List.take_zero, List.drop_succ_cons, List.drop_zero]
    repeat (first | go_big_quiet_skip | (go_big_quiet_want; go_big_quiet_op; first | go_big_quiet_on | fail))
    refine wpQuiet_nil ?_
    rintro _ ⟨gg, ng, rfl⟩
    go_wp2_with fail
    simp only [rounds_succ]
    go_wp2_with fail
    refine wp_region_gentle_tail 10 (by kernel_rfl) (by kernel_rfl) (by kernel_rfl) ?_
    simp only [List.take_succ_cons, List.take_zero, List.drop_succ_cons, List.drop_zero]
    repeat (first | go_big_quiet_skip | (go_big_quiet_want; go_big_quiet_op; first | go_big_quiet_on | fail))
    refine wpQuiet_nil ?_
    rintro _ ⟨gg, ng, rfl⟩
    go_wp2_with fail
    simp only [rounds_succ]
    go_wp2_with fail
    refine wp_region_gentle_tail 10 (by kernel_rfl) (by kernel_rfl) (by kernel_rfl) ?_
    simp only [List.take_succ_cons, List.take_zero, List.drop_succ_cons, List.drop_zero]
    repeat (first | go_big_quiet_skip | (go_big_quiet_want; go_big_quiet_op; first | go_big_quiet_on | fail))
    refine wpQuiet_nil ?_
    rintro _ ⟨gg, ng, rfl⟩
    go_wp2_with fail
    simp only [rounds_succ]
    go_wp2_with fail
    exact bodyPost_ret (v := .tuple #[.agg #[.int .i64 ((rpow (j - k).toNat x).a + -(rpow 0 y).a), .int .i64 ((rpow (j - k).toNat x).b + -(rpow 0 y).b), .int .i64 ((rpow (j - k).toNat x).c + -(rpow 0 y).c), .int .i64 ((rpow (j - k).toNat x).d + -(rpow 0 y).d)], .int .i64 j]) (by simp [results, Try.results107, go_sem]) rfl ⟨rfl, (by repeat (first | exact Grew.refl _ | refine Grew.drewN ?_ _ | refine Grew.grow ?_ _ | refine Grew.alloc ?_ _ | refine Grew.drew ?_))⟩

set_option maxHeartbeats 1600000 in
theorem combined_neg_ge (x y : C4) (k j : Int) (w : World) (hx : smallB x = true) (hy : smallB y = true) (hk : 0 ≤ k ∧ k ≤ 40) (hj : 0 ≤ j ∧ j ≤ 40) (hlt : ¬ k < j) :
    Calls Try.prog 107 #[.agg #[.int .i64 x.a, .int .i64 x.b, .int .i64 x.c, .int .i64 x.d, .int .i64 k], .agg #[.int .i64 y.a, .int .i64 y.b, .int .i64 y.c, .int .i64 y.d, .int .i64 j], .int .i64 (-1)] w fun e w' => e = .returned (.tuple #[.agg #[.int .i64 ((rpow 0 x).a + -(rpow (k - j).toNat y).a), .int .i64 ((rpow 0 x).b + -(rpow (k - j).toNat y).b), .int .i64 ((rpow 0 x).c + -(rpow (k - j).toNat y).c), .int .i64 ((rpow 0 x).d + -(rpow (k - j).toNat y).d)], .int .i64 k]) ∧ Grew w w' := by
  obtain ⟨_, _⟩ := hk
  obtain ⟨_, _⟩ := hj
  have HP := hid fun w => raised_any x k k w hx (by omega) (by omega) (by omega)
  have HQ := hid fun w => raised_any y j k w hy (by omega) (by omega) (by omega)
  rw [show (k - k).toNat = 0 by omega] at HP
  obtain ⟨⟨_, _⟩, ⟨_, _⟩, ⟨_, _⟩, ⟨_, _⟩⟩ := bd_rpow (n := 0) (by omega) hx
  obtain ⟨⟨_, _⟩, ⟨_, _⟩, ⟨_, _⟩, ⟨_, _⟩⟩ := bd_rpow (n := (k - j).toNat) (by omega) hy
  clear hx hy
  go_enter Try.func107, Try.ntmps107
  go_wp2_with fail
  refine R2.wp_region_makes_two 6 (.cells #[.int .i64 0, .int .i64 0, .int .i64 0, .int .i64 0] 110) (.cells #[.int .i64 0, .int .i64 0, .int .i64 0, .int .i64 0] 110) (by kernel_rfl) (by kernel_rfl) (by decide) (fun _ _ => by kernel_rfl) (fun _ _ => by kernel_rfl) ?_
  simp only [List.take_succ_cons, List.take_zero]
  repeat (refine wpGentle_step (fun K hK => ?_); go_simp; first | (refine hK _ ?_; clear hK K) | (apply Exists.intro; refine ⟨fun gq kq => ?_, hK _ ?_⟩; (focus (first | (go_at_call 124; with_reducible exact HP.out _) | (go_at_call 124; with_reducible exact HQ.out _))); clear hK K))
  refine wpGentle_nil ?_
  simp only [List.drop_succ_cons, List.drop_zero, List.getElem_cons_succ, List.getElem_cons_zero, Act.put, List.setIfInBounds_toArray, List.set_cons_zero, List.set_cons_succ]
  refine ⟨fun ga gb gc kk => ?_, fun ga gb gc kk => ?_⟩
  all_goals
    go_wp2_with fail
    refine wp_loop_rounds 5 ?_
    simp only [rounds_succ]
    go_wp2_with fail
    refine wp_region_gentle_tail 10 (by kernel_rfl) (by kernel_rfl) (by kernel_rfl) ?_
    simp only [List.take_succ_cons, List.take_zero, List.drop_succ_cons, List.drop_zero]
    repeat (first | go_big_quiet_skip | (go_big_quiet_want; go_big_quiet_op; first | go_big_quiet_on | fail))
    refine wpQuiet_nil ?_
    rintro _ ⟨gg, ng, rfl⟩
    go_wp2_with fail
    simp only [rounds_succ]
    go_wp2_with fail
    refine wp_region_gentle_tail 10 (by kernel_rfl) (by kernel_rfl) (by kernel_rfl) ?_
    simp only [List.take_succ_cons, List.take_zero, List.drop_succ_cons, List.drop_zero]
    repeat (first | go_big_quiet_skip | (go_big_quiet_want; go_big_quiet_op; first | go_big_quiet_on | fail))
    refine wpQuiet_nil ?_
    rintro _ ⟨gg, ng, rfl⟩
    go_wp2_with fail
    simp only [rounds_succ]
    go_wp2_with fail
    refine wp_region_gentle_tail 10 (by kernel_rfl) (by kernel_rfl) (by kernel_rfl) ?_
    simp only [List.take_succ_cons, List.take_zero, List.drop_succ_cons, List.drop_zero]
    repeat (first | go_big_quiet_skip | (go_big_quiet_want; go_big_quiet_op; first | go_big_quiet_on | fail))
    refine wpQuiet_nil ?_
    rintro _ ⟨gg, ng, rfl⟩
    go_wp2_with fail
    simp only [rounds_succ]
    go_wp2_with fail
    refine wp_region_gentle_tail 10 (by kernel_rfl) (by kernel_rfl) (by kernel_rfl) ?_
    simp only [List.take_succ_cons, List.take_zero, List.drop_succ_cons, List.drop_zero]
    repeat (first | go_big_quiet_skip | (go_big_quiet_want; go_big_quiet_op; first | go_big_quiet_on | fail))
    refine wpQuiet_nil ?_
    rintro _ ⟨gg, ng, rfl⟩
    go_wp2_with fail
    simp only [rounds_succ]
    go_wp2_with fail
    exact bodyPost_ret (v := .tuple #[.agg #[.int .i64 ((rpow 0 x).a + -(rpow (k - j).toNat y).a), .int .i64 ((rpow 0 x).b + -(rpow (k - j).toNat y).b), .int .i64 ((rpow 0 x).c + -(rpow (k - j).toNat y).c), .int .i64 ((rpow 0 x).d + -(rpow (k - j).toNat y).d)], .int .i64 k]) (by simp [results, Try.results107, go_sem]) rfl ⟨rfl, (by repeat (first | exact Grew.refl _ | refine Grew.drewN ?_ _ | refine Grew.grow ?_ _ | refine Grew.alloc ?_ _ | refine Grew.drew ?_))⟩

theorem combined_pos (x y : C4) (k j : Int) (w : World) (hx : smallB x = true) (hy : smallB y = true) (hk : 0 ≤ k ∧ k ≤ 40) (hj : 0 ≤ j ∧ j ≤ 40) :
    Calls Try.prog 107 #[.agg #[.int .i64 x.a, .int .i64 x.b, .int .i64 x.c, .int .i64 x.d, .int .i64 k], .agg #[.int .i64 y.a, .int .i64 y.b, .int .i64 y.c, .int .i64 y.d, .int .i64 j], .int .i64 1] w fun e w' => e = .returned (.tuple #[.agg #[.int .i64 (addK x k y j).a, .int .i64 (addK x k y j).b, .int .i64 (addK x k y j).c, .int .i64 (addK x k y j).d], .int .i64 (max k j)]) ∧ Grew w w' := by
  by_cases hlt : k < j
  · refine (combined_pos_lt x y k j w hx hy hk hj hlt).mono fun e w' h => ⟨h.1.trans ?_, h.2⟩
    rw [addK_lt hlt, show max k j = j by omega]
    rfl
  · refine (combined_pos_ge x y k j w hx hy hk hj hlt).mono fun e w' h => ⟨h.1.trans ?_, h.2⟩
    rw [addK_ge hlt, show max k j = k by omega]
    rfl
theorem combined_neg (x y : C4) (k j : Int) (w : World) (hx : smallB x = true) (hy : smallB y = true) (hk : 0 ≤ k ∧ k ≤ 40) (hj : 0 ≤ j ∧ j ≤ 40) :
    Calls Try.prog 107 #[.agg #[.int .i64 x.a, .int .i64 x.b, .int .i64 x.c, .int .i64 x.d, .int .i64 k], .agg #[.int .i64 y.a, .int .i64 y.b, .int .i64 y.c, .int .i64 y.d, .int .i64 j], .int .i64 (-1)] w fun e w' => e = .returned (.tuple #[.agg #[.int .i64 (addK x k (negC y) j).a, .int .i64 (addK x k (negC y) j).b, .int .i64 (addK x k (negC y) j).c, .int .i64 (addK x k (negC y) j).d], .int .i64 (max k j)]) ∧ Grew w w' := by
  by_cases hlt : k < j
  · refine (combined_neg_lt x y k j w hx hy hk hj hlt).mono fun e w' h => ⟨h.1.trans ?_, h.2⟩
    rw [addK_lt hlt, show max k j = j by omega]
    rfl
  · refine (combined_neg_ge x y k j w hx hy hk hj hlt).mono fun e w' h => ⟨h.1.trans ?_, h.2⟩
    rw [addK_ge hlt, show max k j = k by omega, rpow_neg]
    rfl

end Go.Proofs.Ytkglnnkghillpaa
