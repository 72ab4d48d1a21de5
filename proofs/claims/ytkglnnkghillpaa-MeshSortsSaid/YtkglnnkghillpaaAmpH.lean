/- The reference's product. Condition: elements in range. -/
import Derived.Test.YtkglnnkghillpaaAmpG
namespace Go.Proofs.Ytkglnnkghillpaa
open Go Go.RowKit Amp

set_option maxHeartbeats 8000000 in
theorem product_any (x y : C4) (w : World) (hx : smallB x = true) (hy : smallB y = true) :
    Calls Try.prog 106 #[.agg #[.int .i64 x.a, .int .i64 x.b, .int .i64 x.c, .int .i64 x.d], .agg #[.int .i64 y.a, .int .i64 y.b, .int .i64 y.c, .int .i64 y.d]] w fun e w' => e = .returned (.agg #[.int .i64 (mulC x y).a, .int .i64 (mulC x y).b, .int .i64 (mulC x y).c, .int .i64 (mulC x y).d]) ∧ Grew w w' := by
  obtain ⟨⟨_, _⟩, ⟨_, _⟩, ⟨_, _⟩, ⟨_, _⟩, ⟨_, _⟩, ⟨_, _⟩, ⟨_, _⟩, ⟨_, _⟩, ⟨_, _⟩, ⟨_, _⟩, ⟨_, _⟩, ⟨_, _⟩, ⟨_, _⟩, ⟨_, _⟩, ⟨_, _⟩, ⟨_, _⟩⟩ := prods hx hy
  clear hx hy
  go_enter Try.func106, Try.ntmps106
  go_wp2_with fail
  refine wp_loop_rounds 5 ?_
  simp only [rounds_succ]
  go_wp2_with fail
  refine wp_loop_rounds 5 ?_
  simp only [rounds_succ]
  go_wp2_with fail
  refine wp_region_gentle_tail 14 (by kernel_rfl) (by kernel_rfl) (by kernel_rfl) ?_
  simp only [List.take_succ_cons, List.take_zero, List.drop_succ_cons, List.drop_zero]
  repeat (first | go_big_quiet_skip | (go_big_quiet_want; go_big_quiet_op; first | go_big_quiet_on | fail))
  refine wpQuiet_nil ?_
  rintro _ ⟨gg, ng, rfl⟩
  go_wp2_with fail
  simp only [rounds_succ]
  go_wp2_with fail
  refine wp_region_gentle_tail 14 (by kernel_rfl) (by kernel_rfl) (by kernel_rfl) ?_
  simp only [List.take_succ_cons, List.take_zero, List.drop_succ_cons, List.drop_zero]
  repeat (first | go_big_quiet_skip | (go_big_quiet_want; go_big_quiet_op; first | go_big_quiet_on | fail))
  refine wpQuiet_nil ?_
  rintro _ ⟨gg, ng, rfl⟩
  go_wp2_with fail
  simp only [rounds_succ]
  go_wp2_with fail
  refine wp_region_gentle_tail 14 (by kernel_rfl) (by kernel_rfl) (by kernel_rfl) ?_
  simp only [List.take_succ_cons, List.take_zero, List.drop_succ_cons, List.drop_zero]
  repeat (first | go_big_quiet_skip | (go_big_quiet_want; go_big_quiet_op; first | go_big_quiet_on | fail))
  refine wpQuiet_nil ?_
  rintro _ ⟨gg, ng, rfl⟩
  go_wp2_with fail
  simp only [rounds_succ]
  go_wp2_with fail
  refine wp_region_gentle_tail 14 (by kernel_rfl) (by kernel_rfl) (by kernel_rfl) ?_
  simp only [List.take_succ_cons, List.take_zero, List.drop_succ_cons, List.drop_zero]
  repeat (first | go_big_quiet_skip | (go_big_quiet_want; go_big_quiet_op; first | go_big_quiet_on | fail))
  refine wpQuiet_nil ?_
  rintro _ ⟨gg, ng, rfl⟩
  go_wp2_with fail
  simp only [rounds_succ]
  go_wp2_with fail
  simp only [rounds_succ]
  go_wp2_with fail
  refine wp_loop_rounds 5 ?_
  simp only [rounds_succ]
  go_wp2_with fail
  refine wp_region_gentle_tail 14 (by kernel_rfl) (by kernel_rfl) (by kernel_rfl) ?_
  simp only [List.take_succ_cons, List.take_zero, List.drop_succ_cons, List.drop_zero]
  repeat (first | go_big_quiet_skip | (go_big_quiet_want; go_big_quiet_op; first | go_big_quiet_on | fail))
  refine wpQuiet_nil ?_
  rintro _ ⟨gg, ng, rfl⟩
  go_wp2_with fail
  simp only [rounds_succ]
  go_wp2_with fail
  refine wp_region_gentle_tail 14 (by kernel_rfl) (by kernel_rfl) (by kernel_rfl) ?_
  simp only [List.take_succ_cons, List.take_zero, List.drop_succ_cons, List.drop_zero]
  repeat (first | go_big_quiet_skip | (go_big_quiet_want; go_big_quiet_op; first | go_big_quiet_on | fail))
  refine wpQuiet_nil ?_
  rintro _ ⟨gg, ng, rfl⟩
  go_wp2_with fail
  simp only [rounds_succ]
  go_wp2_with fail
  refine wp_region_gentle_tail 14 (by kernel_rfl) (by kernel_rfl) (by kernel_rfl) ?_
  simp only [List.take_succ_cons, List.take_zero, List.drop_succ_cons, List.drop_zero]
  repeat (first | go_big_quiet_skip | (go_big_quiet_want; go_big_quiet_op; first | go_big_quiet_on | fail))
  refine wpQuiet_nil ?_
  rintro _ ⟨gg, ng, rfl⟩
  go_wp2_with fail
  simp only [rounds_succ]
  go_wp2_with fail
  refine wp_region_gentle_tail 15 (by kernel_rfl) (by kernel_rfl) (by kernel_rfl) ?_
  simp only [List.take_succ_cons, List.take_zero, List.drop_succ_cons, List.drop_zero]
  repeat (first | go_big_quiet_skip | (go_big_quiet_want; go_big_quiet_op; first | go_big_quiet_on | fail))
  refine wpQuiet_nil ?_
  rintro _ ⟨gg, ng, rfl⟩
  go_wp2_with fail
  simp only [rounds_succ]
  go_wp2_with fail
  simp only [rounds_succ]
  go_wp2_with fail
  refine wp_loop_rounds 5 ?_
  simp only [rounds_succ]
  go_wp2_with fail
  refine wp_region_gentle_tail 14 (by kernel_rfl) (by kernel_rfl) (by kernel_rfl) ?_
  simp only [List.take_succ_cons, List.take_zero, List.drop_succ_cons, List.drop_zero]
  repeat (first | go_big_quiet_skip | (go_big_quiet_want; go_big_quiet_op; first | go_big_quiet_on | fail))
  refine wpQuiet_nil ?_
  rintro _ ⟨gg, ng, rfl⟩
  go_wp2_with fail
  simp only [rounds_succ]
  go_wp2_with fail
  refine wp_region_gentle_tail 14 (by kernel_rfl) (by kernel_rfl) (by kernel_rfl) ?_
  simp only [List.take_succ_cons, List.take_zero, List.drop_succ_cons, List.drop_zero]
  repeat (first | go_big_quiet_skip | (go_big_quiet_want; go_big_quiet_op; first | go_big_quiet_on | fail))
  refine wpQuiet_nil ?_
  rintro _ ⟨gg, ng, rfl⟩
  go_wp2_with fail
  simp only [rounds_succ]
  go_wp2_with fail
  refine wp_region_gentle_tail 15 (by kernel_rfl) (by kernel_rfl) (by kernel_rfl) ?_
  simp only [List.take_succ_cons, List.take_zero, List.drop_succ_cons, List.drop_zero]
  repeat (first | go_big_quiet_skip | (go_big_quiet_want; go_big_quiet_op; first | go_big_quiet_on | fail))
  refine wpQuiet_nil ?_
  rintro _ ⟨gg, ng, rfl⟩
  go_wp2_with fail
  simp only [rounds_succ]
  go_wp2_with fail
  refine wp_region_gentle_tail 15 (by kernel_rfl) (by kernel_rfl) (by kernel_rfl) ?_
  simp only [List.take_succ_cons, List.take_zero, List.drop_succ_cons, List.drop_zero]
  repeat (first | go_big_quiet_skip | (go_big_quiet_want; go_big_quiet_op; first | go_big_quiet_on | fail))
  refine wpQuiet_nil ?_
  rintro _ ⟨gg, ng, rfl⟩
  go_wp2_with fail
  simp only [rounds_succ]
  go_wp2_with fail
  simp only [rounds_succ]
  go_wp2_with fail
  refine wp_loop_rounds 5 ?_
  simp only [rounds_succ]
  go_wp2_with fail
  refine wp_region_gentle_tail 14 (by kernel_rfl) (by kernel_rfl) (by kernel_rfl) ?_
  simp only [List.take_succ_cons, List.take_zero, List.drop_succ_cons, List.drop_zero]
  repeat (first | go_big_quiet_skip | (go_big_quiet_want; go_big_quiet_op; first | go_big_quiet_on | fail))
  refine wpQuiet_nil ?_
  rintro _ ⟨gg, ng, rfl⟩
  go_wp2_with fail
  simp only [rounds_succ]
  go_wp2_with fail
  refine wp_region_gentle_tail 15 (by kernel_rfl) (by kernel_rfl) (by kernel_rfl) ?_
  simp only [List.take_succ_cons, List.take_zero, List.drop_succ_cons, List.drop_zero]
  repeat (first | go_big_quiet_skip | (go_big_quiet_want; go_big_quiet_op; first | go_big_quiet_on | fail))
  refine wpQuiet_nil ?_
  rintro _ ⟨gg, ng, rfl⟩
  go_wp2_with fail
  simp only [rounds_succ]
  go_wp2_with fail
  refine wp_region_gentle_tail 15 (by kernel_rfl) (by kernel_rfl) (by kernel_rfl) ?_
  simp only [List.take_succ_cons, List.take_zero, List.drop_succ_cons, List.drop_zero]
  repeat (first | go_big_quiet_skip | (go_big_quiet_want; go_big_quiet_op; first | go_big_quiet_on | fail))
  refine wpQuiet_nil ?_
  rintro _ ⟨gg, ng, rfl⟩
  go_wp2_with fail
  simp only [rounds_succ]
  go_wp2_with fail
  refine wp_region_gentle_tail 15 (by kernel_rfl) (by kernel_rfl) (by kernel_rfl) ?_
  simp only [List.take_succ_cons, List.take_zero, List.drop_succ_cons, List.drop_zero]
  repeat (first | go_big_quiet_skip | (go_big_quiet_want; go_big_quiet_op; first | go_big_quiet_on | fail))
  refine wpQuiet_nil ?_
  rintro _ ⟨gg, ng, rfl⟩
  go_wp2_with fail
  simp only [rounds_succ]
  go_wp2_with fail
  simp only [rounds_succ]
  go_wp2_with fail
  exact bodyPost_ret (v := .agg #[.int .i64 (x.a * y.a - x.b * y.d - x.c * y.c - x.d * y.b), .int .i64 (x.a * y.b + x.b * y.a - x.c * y.d - x.d * y.c), .int .i64 (x.a * y.c + x.b * y.b + x.c * y.a - x.d * y.d), .int .i64 (x.a * y.d + x.b * y.c + x.c * y.b + x.d * y.a)]) (by simp [results, Try.results106, go_sem]) rfl ⟨rfl, (by repeat (first | exact Grew.refl _ | refine Grew.drewN ?_ _ | refine Grew.grow ?_ _ | refine Grew.alloc ?_ _ | refine Grew.drew ?_))⟩

end Go.Proofs.Ytkglnnkghillpaa
