/- The reference's small functions of layer 1: small, even, timesRoot. Conditions: bounds that keep sums within a word. -/
import Derived.Test.YtmjnjghhdkoljaaDoorRows
import Derived.Test.YtmjnjghhdkoljaaDoorHouse
import Derived.Test.YtmjnjghhdkoljaaDoorRegion
import Derived.Test.YtmjnjghhdkoljaaDoorAmpPlain


namespace Go.Proofs.YtmjnjghhdkoljaaDoor
open Go Go.RowKit Amp

@[go_sem] theorem idxC_0 (x0 x1 x2 x3 : Value) (w : World) : (Instr.index 59 (.agg #[x0, x1, x2, x3]) (.int .i64 0)).run Tryd.prog w = .ok x0 w := by kernel_rfl
@[go_sem] theorem idxC_1 (x0 x1 x2 x3 : Value) (w : World) : (Instr.index 59 (.agg #[x0, x1, x2, x3]) (.int .i64 1)).run Tryd.prog w = .ok x1 w := by kernel_rfl
@[go_sem] theorem idxC_2 (x0 x1 x2 x3 : Value) (w : World) : (Instr.index 59 (.agg #[x0, x1, x2, x3]) (.int .i64 2)).run Tryd.prog w = .ok x2 w := by kernel_rfl
@[go_sem] theorem idxC_3 (x0 x1 x2 x3 : Value) (w : World) : (Instr.index 59 (.agg #[x0, x1, x2, x3]) (.int .i64 3)).run Tryd.prog w = .ok x3 w := by kernel_rfl
@[go_sem] theorem idxA_0 (x0 x1 x2 x3 : Value) (w : World) : (Instr.index 22 (.agg #[x0, x1, x2, x3]) (.int .i64 0)).run Tryd.prog w = .ok x0 w := by kernel_rfl
@[go_sem] theorem idxA_1 (x0 x1 x2 x3 : Value) (w : World) : (Instr.index 22 (.agg #[x0, x1, x2, x3]) (.int .i64 1)).run Tryd.prog w = .ok x1 w := by kernel_rfl
@[go_sem] theorem idxA_2 (x0 x1 x2 x3 : Value) (w : World) : (Instr.index 22 (.agg #[x0, x1, x2, x3]) (.int .i64 2)).run Tryd.prog w = .ok x2 w := by kernel_rfl
@[go_sem] theorem idxA_3 (x0 x1 x2 x3 : Value) (w : World) : (Instr.index 22 (.agg #[x0, x1, x2, x3]) (.int .i64 3)).run Tryd.prog w = .ok x3 w := by kernel_rfl

theorem ret_bool {a b : Bool} (h : a = b) : Ending.returned (.bool a) = .returned (.bool b) := by rw [h]
theorem ret_int {k : IntKind} {a b : Int} (h : a = b) : Ending.returned (.int k a) = .returned (.int k b) := by rw [h]

set_option maxHeartbeats 800000 in
theorem small_any (x : C4) (w : World) :
    Calls Tryd.prog 26 #[.agg #[.int .i64 x.a, .int .i64 x.b, .int .i64 x.c, .int .i64 x.d]] w fun e w' => e = .returned (.bool (smallB x)) ∧ Grew w w' := by
  go_enter Tryd.func26, Tryd.ntmps26
  go_wp2
  refine wp_loop_rounds 5 ?_
  iterate 5 (all_goals (try simp only [rounds_succ]); go_wp2)
  all_goals
    go_ret
    refine ⟨ret_bool ?_, (Grew.refl _).alloc _⟩
    simp [smallB, okC]
    try omega

set_option maxHeartbeats 800000 in
theorem even_any (x : C4) (w : World) (h : In4 x) :
    Calls Tryd.prog 27 #[.agg #[.int .i64 x.a, .int .i64 x.b, .int .i64 x.c, .int .i64 x.d]] w fun e w' => e = .returned (.bool (evenB x)) ∧ Grew w w' := by
  obtain ⟨⟨_, _⟩, ⟨_, _⟩, ⟨_, _⟩, ⟨_, _⟩⟩ := h
  go_enter Tryd.func27, Tryd.ntmps27
  go_wp2
  all_goals
    go_ret
    refine ⟨ret_bool ?_, (Grew.refl _).alloc _⟩
    simp only [tmod2] at *
    simp [evenB, *]
  rw [Bool.eq_iff_iff]
  simp [tmod2]

end Go.Proofs.YtmjnjghhdkoljaaDoor

/- The reference's reduced, Valid, made and Make. Conditions: bounds that keep sums within a word. -/

namespace Go.Proofs.YtmjnjghhdkoljaaDoor
open Go Go.RowKit Amp

set_option maxHeartbeats 800000 in
theorem rValid_any (x : C4) (k : Int) (w : World) :
    Calls Tryd.prog 11 #[.agg #[.int .i64 x.a, .int .i64 x.b, .int .i64 x.c, .int .i64 x.d, .int .i64 k]] w fun e w' => e = .returned (.bool (validB x k)) ∧ Grew w w' := by
  by_cases hs : smallB x = true
  case neg =>
    have hv : validB x k = false := by simp [validB, hs]
    rw [hv]
    go_enter Tryd.func11, Tryd.ntmps11
    go_wp2_with fail
    refine (small_any x _).mono ?_
    rintro e w' ⟨rfl, g, n, rfl⟩
    rw [show smallB x = false from by simpa using hs]
    clear hs hv
    go_wp2_with fail
    go_ret
    exact ⟨rfl, (by repeat (first | exact Grew.refl _ | refine Grew.drewN ?_ _ | refine Grew.grow ?_ _ | refine Grew.alloc ?_ _ | refine Grew.drew ?_))⟩
  have hx := in4_small hs
  by_cases hk : 0 ≤ k ∧ k ≤ 40
  case neg =>
    have hv : validB x k = false := by simp [validB, hk]
    rw [hv]
    go_enter Tryd.func11, Tryd.ntmps11
    go_wp2_with fail
    refine (small_any x _).mono ?_
    rintro e w' ⟨rfl, g, n, rfl⟩
    rw [hs]
    clear hs hv
    by_cases h1 : 0 ≤ k
    · have h2 : ¬ k ≤ 40 := fun h => hk ⟨h1, h⟩
      clear hk
      go_wp2_with fail
      go_ret
      exact ⟨rfl, (by repeat (first | exact Grew.refl _ | refine Grew.drewN ?_ _ | refine Grew.grow ?_ _ | refine Grew.alloc ?_ _ | refine Grew.drew ?_))⟩
    · clear hk
      go_wp2_with fail
      go_ret
      exact ⟨rfl, (by repeat (first | exact Grew.refl _ | refine Grew.drewN ?_ _ | refine Grew.grow ?_ _ | refine Grew.alloc ?_ _ | refine Grew.drew ?_))⟩
  obtain ⟨hk1, hk2⟩ := hk
  by_cases hk0 : k = 0
  · subst hk0
    have hv : validB x 0 = true := by simp [validB, hs]
    rw [hv]
    go_enter Tryd.func11, Tryd.ntmps11
    go_wp2_with fail
    refine (small_any x _).mono ?_
    rintro e w' ⟨rfl, g, n, rfl⟩
    rw [hs]
    clear hs hv
    go_wp2_with fail
    go_ret
    exact ⟨rfl, (by repeat (first | exact Grew.refl _ | refine Grew.drewN ?_ _ | refine Grew.grow ?_ _ | refine Grew.alloc ?_ _ | refine Grew.drew ?_))⟩
  · have hv : validB x k = !evenB x := by simp [validB, hs, hk0, hk1, hk2]
    have hkb : (k == 0) = false := by simpa using hk0
    rw [hv]
    go_enter Tryd.func11, Tryd.ntmps11
    go_wp2_with fail
    refine (small_any x _).mono ?_
    rintro e w' ⟨rfl, g, n, rfl⟩
    rw [hs]
    clear hs hv hk0
    go_wp2_with fail
    refine (even_any x _ hx).mono ?_
    rintro e w' ⟨rfl, g1, n1, rfl⟩
    go_wp2_with fail
    go_ret
    exact ⟨rfl, (by repeat (first | exact Grew.refl _ | refine Grew.drewN ?_ _ | refine Grew.grow ?_ _ | refine Grew.alloc ?_ _ | refine Grew.drew ?_))⟩

end Go.Proofs.YtmjnjghhdkoljaaDoor
