/- The reference's small functions of layer 1: small, even, timesRoot. Conditions: bounds that keep sums within a word. -/
import Derived.Test.YtkglnnkghillpaaRows
import Derived.Test.YtkglnnkghillpaaHouse
import Derived.Test.YtkglnnkghillpaaRegion
import Derived.Test.YtkglnnkghillpaaAmpPlain


namespace Go.Proofs.Ytkglnnkghillpaa
open Go Go.RowKit Amp

@[go_sem] theorem idxC_0 (x0 x1 x2 x3 : Value) (w : World) : (Instr.index 110 (.agg #[x0, x1, x2, x3]) (.int .i64 0)).run Try.prog w = .ok x0 w := by kernel_rfl
@[go_sem] theorem idxC_1 (x0 x1 x2 x3 : Value) (w : World) : (Instr.index 110 (.agg #[x0, x1, x2, x3]) (.int .i64 1)).run Try.prog w = .ok x1 w := by kernel_rfl
@[go_sem] theorem idxC_2 (x0 x1 x2 x3 : Value) (w : World) : (Instr.index 110 (.agg #[x0, x1, x2, x3]) (.int .i64 2)).run Try.prog w = .ok x2 w := by kernel_rfl
@[go_sem] theorem idxC_3 (x0 x1 x2 x3 : Value) (w : World) : (Instr.index 110 (.agg #[x0, x1, x2, x3]) (.int .i64 3)).run Try.prog w = .ok x3 w := by kernel_rfl
@[go_sem] theorem idxA_0 (x0 x1 x2 x3 : Value) (w : World) : (Instr.index 45 (.agg #[x0, x1, x2, x3]) (.int .i64 0)).run Try.prog w = .ok x0 w := by kernel_rfl
@[go_sem] theorem idxA_1 (x0 x1 x2 x3 : Value) (w : World) : (Instr.index 45 (.agg #[x0, x1, x2, x3]) (.int .i64 1)).run Try.prog w = .ok x1 w := by kernel_rfl
@[go_sem] theorem idxA_2 (x0 x1 x2 x3 : Value) (w : World) : (Instr.index 45 (.agg #[x0, x1, x2, x3]) (.int .i64 2)).run Try.prog w = .ok x2 w := by kernel_rfl
@[go_sem] theorem idxA_3 (x0 x1 x2 x3 : Value) (w : World) : (Instr.index 45 (.agg #[x0, x1, x2, x3]) (.int .i64 3)).run Try.prog w = .ok x3 w := by kernel_rfl

theorem ret_bool {a b : Bool} (h : a = b) : Ending.returned (.bool a) = .returned (.bool b) := by rw [h]
theorem ret_int {k : IntKind} {a b : Int} (h : a = b) : Ending.returned (.int k a) = .returned (.int k b) := by rw [h]

set_option maxHeartbeats 800000 in
theorem small_any (x : C4) (w : World) :
    Calls Try.prog 86 #[.agg #[.int .i64 x.a, .int .i64 x.b, .int .i64 x.c, .int .i64 x.d]] w fun e w' => e = .returned (.bool (smallB x)) ∧ Grew w w' := by
  go_enter Try.func86, Try.ntmps86
  go_wp2
  refine wp_loop_rounds 5 ?_
  iterate 5 (all_goals (try simp only [rounds_succ]); go_wp2)
  all_goals
    go_ret
    refine ⟨ret_bool ?_, (Grew.refl _).alloc _⟩
    simp [smallB, okC]
    try omega

set_option maxHeartbeats 800000 in
theorem even_any (x : C4) (w : World) (h : In4 x) :
    Calls Try.prog 87 #[.agg #[.int .i64 x.a, .int .i64 x.b, .int .i64 x.c, .int .i64 x.d]] w fun e w' => e = .returned (.bool (evenB x)) ∧ Grew w w' := by
  obtain ⟨⟨_, _⟩, ⟨_, _⟩, ⟨_, _⟩, ⟨_, _⟩⟩ := h
  go_enter Try.func87, Try.ntmps87
  go_wp2
  all_goals
    go_ret
    refine ⟨ret_bool ?_, (Grew.refl _).alloc _⟩
    simp only [tmod2] at *
    simp [evenB, *]
  rw [Bool.eq_iff_iff]
  simp [tmod2]

set_option maxHeartbeats 800000 in
theorem timesRoot_any (x : C4) (w : World) (h : In4 x) :
    Calls Try.prog 131 #[.agg #[.int .i64 x.a, .int .i64 x.b, .int .i64 x.c, .int .i64 x.d]] w fun e w' => e = .returned (.agg #[.int .i64 (x.b - x.d), .int .i64 (x.a + x.c), .int .i64 (x.b + x.d), .int .i64 (x.c - x.a)]) ∧ Grew w w' := by
  obtain ⟨⟨_, _⟩, ⟨_, _⟩, ⟨_, _⟩, ⟨_, _⟩⟩ := h
  go_enter Try.func131, Try.ntmps131
  go_wp2
  exact bodyPost_ret (v := .agg #[.int .i64 (x.b - x.d), .int .i64 (x.a + x.c), .int .i64 (x.b + x.d), .int .i64 (x.c - x.a)]) (by simp [results, Try.results131, go_sem]) rfl ⟨rfl, (by repeat (first | exact Grew.refl _ | refine Grew.drewN ?_ _ | refine Grew.grow ?_ _ | refine Grew.alloc ?_ _ | refine Grew.drew ?_))⟩

end Go.Proofs.Ytkglnnkghillpaa

/- The reference's reduced, Valid, made and Make. Conditions: bounds that keep sums within a word. -/

namespace Go.Proofs.Ytkglnnkghillpaa
open Go Go.RowKit Amp

set_option maxHeartbeats 800000 in
theorem reduced_nat (x0 : C4) (k : Nat) (w : World) (h : In4 x0) (hk : k ≤ 2000) :
    Calls Try.prog 123 #[.agg #[.int .i64 x0.a, .int .i64 x0.b, .int .i64 x0.c, .int .i64 x0.d], .int .i64 k] w fun e w' => e = .returned (.tuple #[.agg #[.int .i64 (red k x0).1.a, .int .i64 (red k x0).1.b, .int .i64 (red k x0).1.c, .int .i64 (red k x0).1.d], .int .i64 (red k x0).2]) ∧ Grew w w' := by
  go_enter Try.func123, Try.ntmps123
  go_wp2
  go_loopw [1] (fun n wr => ∃ (m : Nat) (x : C4), m ≤ 2000 ∧ n = .int .i64 m ∧ In4 x ∧ Hid (red m x = red k x0) ∧ Grew ((w.alloc (.cells #[.int .i64 x.a, .int .i64 x.b, .int .i64 x.c, .int .i64 x.d] 110)).alloc (.cells #[.int .i64 0, .int .i64 0, .int .i64 0, .int .i64 0] 110)) wr) (fun n _ => (intOf n).toNat)
  case atStart => exact ⟨k, x0, hk, rfl, h, rfl, Grew.refl _⟩
  case round =>
    obtain ⟨m, x, hm, rfl, hx, hr, g, n, rfl⟩ := hrel
    clear h
    have hx' := hx
    obtain ⟨⟨_, _⟩, ⟨_, _⟩, ⟨_, _⟩, ⟨_, _⟩⟩ := hx'
    by_cases h0 : 0 < m
    · by_cases he : evenB x = true
      · go_wp2_with fail
        refine (even_any x _ hx).mono ?_
        rintro e w' ⟨rfl, g1, n1, rfl⟩
        rw [he]
        have He := hid he
        clear he
        go_wp2_with fail
        refine (timesRoot_any x _ hx).mono ?_
        rintro e w' ⟨rfl, g2, n2, rfl⟩
        go_wp2_with fail
        refine wp_loop_rounds 5 ?_
        iterate 5 (simp only [rounds_succ]; go_wp2_with fail)
        go_roundw
        case rel =>
          have hrm : red m x = red (m - 1) (half (root x)) := by
            obtain ⟨q, rfl⟩ : ∃ q, m = q + 1 := ⟨m - 1, by omega⟩
            simp [red, He.out]
          exact ⟨m - 1, half (root x), by omega, congrArg (Value.int .i64) (by omega), in4_half_root hx, by rw [← hrm]; exact hr, (((Grew.refl _).grow _).alloc _).drewN _⟩
        case measure => simp [intOf]; omega
      · go_wp2_with fail
        refine (even_any x _ hx).mono ?_
        rintro e w' ⟨rfl, g1, n1, rfl⟩
        rw [show evenB x = false from by simpa using he]
        have hrm : (x, m) = red k x0 := by
          rw [← hr.out]
          obtain ⟨q, rfl⟩ : ∃ q, m = q + 1 := ⟨m - 1, by omega⟩
          simp [red, he]
        have Hrm := hid hrm
        clear hr hrm he
        go_wp2_with fail
        exact bodyPost_ret (v := .tuple #[.agg #[.int .i64 x.a, .int .i64 x.b, .int .i64 x.c, .int .i64 x.d], .int .i64 m]) (by simp [results, Try.results123, go_sem]) rfl ⟨by rw [← Hrm.out], (by repeat (first | exact Grew.refl _ | refine Grew.drewN ?_ _ | refine Grew.grow ?_ _ | refine Grew.alloc ?_ _ | refine Grew.drew ?_))⟩
    · obtain rfl : m = 0 := by omega
      go_wp2_with fail
      exact bodyPost_ret (v := .tuple #[.agg #[.int .i64 x.a, .int .i64 x.b, .int .i64 x.c, .int .i64 x.d], .int .i64 0]) (by simp [results, Try.results123, go_sem]) rfl ⟨by rw [← hr.out]; rfl, (by repeat (first | exact Grew.refl _ | refine Grew.drewN ?_ _ | refine Grew.grow ?_ _ | refine Grew.alloc ?_ _ | refine Grew.drew ?_))⟩

theorem reduced_any (x : C4) (k : Int) (w : World) (h : In4 x) (h0 : 0 ≤ k) (h1 : k ≤ 2000) :
    Calls Try.prog 123 #[.agg #[.int .i64 x.a, .int .i64 x.b, .int .i64 x.c, .int .i64 x.d], .int .i64 k] w fun e w' => e = .returned (.tuple #[.agg #[.int .i64 (red k.toNat x).1.a, .int .i64 (red k.toNat x).1.b, .int .i64 (red k.toNat x).1.c, .int .i64 (red k.toNat x).1.d], .int .i64 (red k.toNat x).2]) ∧ Grew w w' := by
  obtain ⟨q, rfl⟩ := Int.eq_ofNat_of_zero_le h0
  exact reduced_nat x q w h (by omega)

set_option maxHeartbeats 800000 in
theorem rValid_any (x : C4) (k : Int) (w : World) :
    Calls Try.prog 50 #[.agg #[.int .i64 x.a, .int .i64 x.b, .int .i64 x.c, .int .i64 x.d, .int .i64 k]] w fun e w' => e = .returned (.bool (validB x k)) ∧ Grew w w' := by
  by_cases hs : smallB x = true
  case neg =>
    have hv : validB x k = false := by simp [validB, hs]
    rw [hv]
    go_enter Try.func50, Try.ntmps50
    go_wp2_with fail
    refine (small_any x _).mono ?_
    rintro e w' ⟨rfl, g, n, rfl⟩
    rw [show smallB x = false from by simpa using hs]
    clear hs hv
    go_wp2_with fail
    go_ret
    exact ⟨rfl, (by repeat (first | exact Grew.refl _ | refine Grew.drewN ?_ _ | refine Grew.grow ?_ _ | refine Grew.alloc ?_ _ | refine Grew.drew ?_))⟩
  have hx := in4_small hs
  by_cases hk : 0 ≤ k ∧ k ≤ 40
  case neg =>
    have hv : validB x k = false := by simp [validB, hk]
    rw [hv]
    go_enter Try.func50, Try.ntmps50
    go_wp2_with fail
    refine (small_any x _).mono ?_
    rintro e w' ⟨rfl, g, n, rfl⟩
    rw [hs]
    clear hs hv
    by_cases h1 : 0 ≤ k
    · have h2 : ¬ k ≤ 40 := fun h => hk ⟨h1, h⟩
      clear hk
      go_wp2_with fail
      go_ret
      exact ⟨rfl, (by repeat (first | exact Grew.refl _ | refine Grew.drewN ?_ _ | refine Grew.grow ?_ _ | refine Grew.alloc ?_ _ | refine Grew.drew ?_))⟩
    · clear hk
      go_wp2_with fail
      go_ret
      exact ⟨rfl, (by repeat (first | exact Grew.refl _ | refine Grew.drewN ?_ _ | refine Grew.grow ?_ _ | refine Grew.alloc ?_ _ | refine Grew.drew ?_))⟩
  obtain ⟨hk1, hk2⟩ := hk
  by_cases hk0 : k = 0
  · subst hk0
    have hv : validB x 0 = true := by simp [validB, hs]
    rw [hv]
    go_enter Try.func50, Try.ntmps50
    go_wp2_with fail
    refine (small_any x _).mono ?_
    rintro e w' ⟨rfl, g, n, rfl⟩
    rw [hs]
    clear hs hv
    go_wp2_with fail
    go_ret
    exact ⟨rfl, (by repeat (first | exact Grew.refl _ | refine Grew.drewN ?_ _ | refine Grew.grow ?_ _ | refine Grew.alloc ?_ _ | refine Grew.drew ?_))⟩
  · have hv : validB x k = !evenB x := by simp [validB, hs, hk0, hk1, hk2]
    have hkb : (k == 0) = false := by simpa using hk0
    rw [hv]
    go_enter Try.func50, Try.ntmps50
    go_wp2_with fail
    refine (small_any x _).mono ?_
    rintro e w' ⟨rfl, g, n, rfl⟩
    rw [hs]
    clear hs hv hk0
    go_wp2_with fail
    refine (even_any x _ hx).mono ?_
    rintro e w' ⟨rfl, g1, n1, rfl⟩
    go_wp2_with fail
    go_ret
    exact ⟨rfl, (by repeat (first | exact Grew.refl _ | refine Grew.drewN ?_ _ | refine Grew.grow ?_ _ | refine Grew.alloc ?_ _ | refine Grew.drew ?_))⟩

set_option maxHeartbeats 800000 in
theorem made_any (x : C4) (k : Int) (w : World) (h : In4 x) (h0 : 0 ≤ k) (h1 : k ≤ 2000) :
    Calls Try.prog 105 #[.agg #[.int .i64 x.a, .int .i64 x.b, .int .i64 x.c, .int .i64 x.d], .int .i64 k] w fun e w' => e = .returned (.tuple #[.agg #[.int .i64 (made x k).x.a, .int .i64 (made x k).x.b, .int .i64 (made x k).x.c, .int .i64 (made x k).x.d, .int .i64 (made x k).k], .int .i64 (made x k).e]) ∧ Grew w w' := by
  have hm : made x k = if validB (red k.toNat x).1 (red k.toNat x).2 = true then ⟨(red k.toNat x).1, (red k.toNat x).2, 0⟩ else fail 4 := rfl
  have hred := fun w => reduced_any x k w h h0 h1
  generalize red k.toNat x = r at *
  obtain ⟨y, j⟩ := r
  have Hm := hid hm
  clear hm
  have Hr := hid hred
  clear hred
  go_enter Try.func105, Try.ntmps105
  go_wp2_with fail
  refine (Hr.out _).mono ?_
  rintro e w' ⟨rfl, g, n, rfl⟩
  go_wp2_with fail
  refine (rValid_any y j _).mono ?_
  rintro e w' ⟨rfl, g1, n1, rfl⟩
  by_cases hv : validB y j = true
  · have He := hid (Hm.out.trans (if_pos hv))
    rw [hv]
    clear hv Hm
    go_wp2_with fail
    exact bodyPost_ret (v := .tuple #[.agg #[.int .i64 y.a, .int .i64 y.b, .int .i64 y.c, .int .i64 y.d, .int .i64 j], .int .i64 0]) (by simp [results, Try.results105, go_sem]) rfl ⟨by rw [He.out], (by repeat (first | exact Grew.refl _ | refine Grew.drewN ?_ _ | refine Grew.grow ?_ _ | refine Grew.alloc ?_ _ | refine Grew.drew ?_))⟩
  · have He := hid (Hm.out.trans (if_neg hv))
    rw [show validB y j = false from by simpa using hv]
    clear hv Hm
    go_wp2_with fail
    exact bodyPost_ret (v := .tuple #[.agg #[.int .i64 0, .int .i64 0, .int .i64 0, .int .i64 0, .int .i64 0], .int .i64 4]) (by simp [results, Try.results105, go_sem]) rfl ⟨by rw [He.out]; rfl, (by repeat (first | exact Grew.refl _ | refine Grew.drewN ?_ _ | refine Grew.grow ?_ _ | refine Grew.alloc ?_ _ | refine Grew.drew ?_))⟩

end Go.Proofs.Ytkglnnkghillpaa
