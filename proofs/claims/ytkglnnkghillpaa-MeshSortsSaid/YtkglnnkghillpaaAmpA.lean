/- The reference's small functions of layer 1: small, even, timesRoot. Conditions: bounds that keep sums within a word. -/
import Derived.Test.YtkglnnkghillpaaRows
import Derived.Test.YtkglnnkghillpaaHouse
import Derived.Test.YtkglnnkghillpaaRegion
import Derived.Test.YtkglnnkghillpaaAmpPlain
namespace Go.Proofs.Ytkglnnkghillpaa
open Go Go.RowKit Amp

@[go_sem] theorem idxC_0 (x0 x1 x2 x3 : Value) (w : World) : (Instr.index 110 (.agg #[x0, x1, x2, x3]) (.int .i64 0)).run Try.prog w = .ok x0 w := by kernel_rfl
@[go_sem] theorem idxC_1 (x0 x1 x2 x3 : Value) (w : World) : (Instr.index 110 (.agg #[x0, x1, x2, x3]) (.int .i64 1)).run Try.prog w = .ok x1 w := by kernel_rfl
@[go_sem] theorem idxC_2 (x0 x1 x2 x3 : Value) (w : World) : (Instr.index 110 (.agg #[x0, x1, x2, x3]) (.int .i64 2)).run Try.prog w = .ok x2 w := by kernel_rfl
@[go_sem] theorem idxC_3 (x0 x1 x2 x3 : Value) (w : World) : (Instr.index 110 (.agg #[x0, x1, x2, x3]) (.int .i64 3)).run Try.prog w = .ok x3 w := by kernel_rfl
@[go_sem] theorem idxA_0 (x0 x1 x2 x3 : Value) (w : World) : (Instr.index 45 (.agg #[x0, x1, x2, x3]) (.int .i64 0)).run Try.prog w = .ok x0 w := by kernel_rfl
@[go_sem] theorem idxA_1 (x0 x1 x2 x3 : Value) (w : World) : (Instr.index 45 (.agg #[x0, x1, x2, x3]) (.int .i64 1)).run Try.prog w = .ok x1 w := by kernel_rfl
@[go_sem] theorem idxA_2 (x0 x1 x2 x3 : Value) (w : World) : (Instr.index 45 (.agg #[x0, x1, x2, x3]) (.int .i64 2)).run Try.prog w = .ok x2 w := by kernel_rfl
@[go_sem] theorem idxA_3 (x0 x1 x2 x3 : Value) (w : World) : (Instr.index 45 (.agg #[x0, x1, x2, x3]) (.int .i64 3)).run Try.prog w = .ok x3 w := by kernel_rfl

theorem ret_bool {a b : Bool} (h : a = b) : Ending.returned (.bool a) = .returned (.bool b) := by rw [h]
theorem ret_int {k : IntKind} {a b : Int} (h : a = b) : Ending.returned (.int k a) = .returned (.int k b) := by rw [h]

set_option maxHeartbeats 800000 in
theorem small_any (x : C4) (w : World) :
    Calls Try.prog 86 #[.agg #[.int .i64 x.a, .int .i64 x.b, .int .i64 x.c, .int .i64 x.d]] w fun e w' => e = .returned (.bool (smallB x)) ∧ Grew w w' := by
  go_enter Try.func86, Try.ntmps86
  go_wp2
  refine wp_loop_rounds 5 ?_
  iterate 5 (all_goals (try simp only [rounds_succ]); go_wp2)
  all_goals
    go_ret
    refine ⟨ret_bool ?_, (Grew.refl _).alloc _⟩
    simp [smallB, okC]
    try omega

set_option maxHeartbeats 800000 in
theorem even_any (x : C4) (w : World) (h : In4 x) :
    Calls Try.prog 87 #[.agg #[.int .i64 x.a, .int .i64 x.b, .int .i64 x.c, .int .i64 x.d]] w fun e w' => e = .returned (.bool (evenB x)) ∧ Grew w w' := by
  obtain ⟨⟨_, _⟩, ⟨_, _⟩, ⟨_, _⟩, ⟨_, _⟩⟩ := h
  go_enter Try.func87, Try.ntmps87
  go_wp2
  all_goals
    go_ret
    refine ⟨ret_bool ?_, (Grew.refl _).alloc _⟩
    simp only [tmod2] at *
    simp [evenB, *]
  rw [Bool.eq_iff_iff]
  simp [tmod2]

set_option maxHeartbeats 800000 in
theorem timesRoot_any (x : C4) (w : World) (h : In4 x) :
    Calls Try.prog 131 #[.agg #[.int .i64 x.a, .int .i64 x.b, .int .i64 x.c, .int .i64 x.d]] w fun e w' => e = .returned (.agg #[.int .i64 (x.b - x.d), .int .i64 (x.a + x.c), .int .i64 (x.b + x.d), .int .i64 (x.c - x.a)]) ∧ Grew w w' := by
  obtain ⟨⟨_, _⟩, ⟨_, _⟩, ⟨_, _⟩, ⟨_, _⟩⟩ := h
  go_enter Try.func131, Try.ntmps131
  go_wp2
  exact bodyPost_ret (v := .agg #[.int .i64 (x.b - x.d), .int .i64 (x.a + x.c), .int .i64 (x.b + x.d), .int .i64 (x.c - x.a)]) (by simp [results, Try.results131, go_sem]) rfl ⟨rfl, (by repeat (first | exact Grew.refl _ | refine Grew.drewN ?_ _ | refine Grew.grow ?_ _ | refine Grew.alloc ?_ _ | refine Grew.drew ?_))⟩

end Go.Proofs.Ytkglnnkghillpaa
