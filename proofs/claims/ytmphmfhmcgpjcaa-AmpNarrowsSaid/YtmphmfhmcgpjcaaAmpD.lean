/- Valid and Make of the program, Make of the reference. No condition. -/
import Derived.Test.YtmphmfhmcgpjcaaAmpC
import Derived.Test.YtmphmfhmcgpjcaaAmpEq
namespace Go.Proofs.Ytmphmfhmcgpjcaa
open Go Go.RowKit Amp

set_option maxHeartbeats 800000 in
theorem aValid_any (x : C4) (k : Int) (w : World) :
    Calls Try.prog 17 #[.agg #[.int .i64 x.a, .int .i64 x.b, .int .i64 x.c, .int .i64 x.d, .int .i64 k]] w fun e w' => e = .returned (.bool (validB x k)) ∧ Grew w w' := by
  by_cases hk : 0 ≤ k ∧ k ≤ 40
  case neg =>
    have hv : validB x k = false := by simp [validB, hk]
    rw [hv]
    have hk' : k < 0 ∨ 40 < k := by omega
    clear hk hv
    go_enter Try.func17, Try.ntmps17
    rcases hk' with h | h
    · go_wp2_with fail
      go_ret
      exact ⟨rfl, (by repeat (first | exact Grew.refl _ | refine Grew.drewN ?_ _ | refine Grew.grow ?_ _ | refine Grew.alloc ?_ _ | refine Grew.drew ?_))⟩
    · have h0 : 0 ≤ k := by omega
      go_wp2_with fail
      go_ret
      exact ⟨rfl, (by repeat (first | exact Grew.refl _ | refine Grew.drewN ?_ _ | refine Grew.grow ?_ _ | refine Grew.alloc ?_ _ | refine Grew.drew ?_))⟩
  obtain ⟨hk1, hk2⟩ := hk
  by_cases hs : smallB x = true
  case neg =>
    have hv : validB x k = false := by simp [validB, hs]
    rw [hv]
    have hb := mt smallB_iff.2 hs
    clear hs hv
    go_enter Try.func17, Try.ntmps17
    go_wp2_with fail
    refine wp_loop_rounds 5 ?_
    iterate 5 (all_goals (try simp only [rounds_succ]); go_wp2_with fail)
    all_goals first
      | (go_ret; exact ⟨rfl, (by repeat (first | exact Grew.refl _ | refine Grew.drewN ?_ _ | refine Grew.grow ?_ _ | refine Grew.alloc ?_ _ | refine Grew.drew ?_))⟩)
      | (exfalso; exact hb (by omega))
  have hx := in4_small hs
  have hb := smallB_iff.1 hs
  obtain ⟨⟨_, _⟩, ⟨_, _⟩, ⟨_, _⟩, ⟨_, _⟩⟩ := hb
  obtain ⟨q, rfl⟩ := Int.eq_ofNat_of_zero_le hk1
  have hv : validB x q = decide (red q x = (x, q)) := by
    have h0 := @red_valid q x
    have h1 := @red_same q x
    simp only [validB, hs, Bool.true_and]
    rw [Bool.eq_iff_iff]
    simp only [Bool.and_eq_true, decide_eq_true_eq, Bool.or_eq_true, Bool.not_eq_true']
    constructor
    · rintro ⟨_, h⟩; exact h0 (h.imp (fun h => by omega) id)
    · intro h; exact ⟨by omega, (h1 h).imp (fun h => by omega) id⟩
  rw [hv]
  clear hv
  have hred := fun w => areduced_nat x q w hx (by omega)
  generalize red q x = r at *
  obtain ⟨y, j⟩ := r
  have Hr := hid hred
  clear hred hs
  go_enter Try.func17, Try.ntmps17
  go_wp2_with fail
  refine wp_loop_rounds 5 ?_
  iterate 5 (all_goals (try simp only [rounds_succ]); go_wp2_with fail)
  refine (Hr.out _).mono ?_
  rintro e w' ⟨rfl, g, n, rfl⟩
  go_wp2_with fail
  go_ret
  refine ⟨ret_bool ?_, (by repeat (first | exact Grew.refl _ | refine Grew.drewN ?_ _ | refine Grew.grow ?_ _ | refine Grew.alloc ?_ _ | refine Grew.drew ?_))⟩
  rw [Bool.eq_iff_iff, eq5_iff]
  simp only [decide_eq_true_eq, Prod.mk.injEq]
  constructor <;> rintro ⟨h1, h2⟩ <;> exact ⟨h1, by omega⟩

set_option maxHeartbeats 800000 in
theorem aMake_any (x : C4) (k : Int) (w : World) :
    Calls Try.prog 15 #[.agg #[.int .i64 x.a, .int .i64 x.b, .int .i64 x.c, .int .i64 x.d], .int .i64 k] w fun e w' => e = .returned (.tuple #[.agg #[.int .i64 (makeN x k).x.a, .int .i64 (makeN x k).x.b, .int .i64 (makeN x k).x.c, .int .i64 (makeN x k).x.d, .int .i64 (makeN x k).k], .int .i64 (makeN x k).e]) ∧ Grew w w' := by
  by_cases h60 : in60 x
  case neg =>
    have hv : makeN x k = fail 2 := by simp [makeN, h60]
    rw [hv]
    have hb : ¬ in60 x := h60
    clear h60 hv
    go_enter Try.func15, Try.ntmps15
    go_wp2_with fail
    refine wp_loop_rounds 5 ?_
    iterate 5 (all_goals (try simp only [rounds_succ]); go_wp2_with fail)
    all_goals first
      | exact bodyPost_ret (v := .tuple #[.agg #[.int .i64 0, .int .i64 0, .int .i64 0, .int .i64 0, .int .i64 0], .int .i64 2]) (by simp [results, Try.results15, go_sem]) rfl ⟨rfl, (by repeat (first | exact Grew.refl _ | refine Grew.drewN ?_ _ | refine Grew.grow ?_ _ | refine Grew.alloc ?_ _ | refine Grew.drew ?_))⟩
      | (exfalso; exact hb (by unfold in60; omega))
  have hv : makeN x k = if 0 ≤ k ∧ k ≤ 1000 then made x k else fail 2 := by simp [makeN, h60]
  rw [hv]
  clear hv
  have hx := in4_60 h60
  obtain ⟨⟨_, _⟩, ⟨_, _⟩, ⟨_, _⟩, ⟨_, _⟩⟩ := h60
  by_cases hk : 0 ≤ k ∧ k ≤ 1000
  · rw [if_pos hk]
    obtain ⟨hk1, hk2⟩ := hk
    go_enter Try.func15, Try.ntmps15
    go_wp2_with fail
    refine wp_loop_rounds 5 ?_
    iterate 5 ((try simp only [rounds_succ]); go_wp2_with fail)
    refine (aresult_any x k _ hx hk1 (by omega)).mono ?_
    rintro e w' ⟨rfl, g, n, rfl⟩
    go_wp2_with fail
    exact bodyPost_ret (v := .tuple #[.agg #[.int .i64 (made x k).x.a, .int .i64 (made x k).x.b, .int .i64 (made x k).x.c, .int .i64 (made x k).x.d, .int .i64 (made x k).k], .int .i64 (made x k).e]) (by simp [results, Try.results15, go_sem]) rfl ⟨rfl, (by repeat (first | exact Grew.refl _ | refine Grew.drewN ?_ _ | refine Grew.grow ?_ _ | refine Grew.alloc ?_ _ | refine Grew.drew ?_))⟩
  · rw [if_neg hk]
    have hk' : k < 0 ∨ 1000 < k := by omega
    clear hk
    go_enter Try.func15, Try.ntmps15
    go_wp2_with fail
    refine wp_loop_rounds 5 ?_
    rcases hk' with h | h
    · iterate 5 ((try simp only [rounds_succ]); go_wp2_with fail)
      exact bodyPost_ret (v := .tuple #[.agg #[.int .i64 0, .int .i64 0, .int .i64 0, .int .i64 0, .int .i64 0], .int .i64 2]) (by simp [results, Try.results15, go_sem]) rfl ⟨rfl, (by repeat (first | exact Grew.refl _ | refine Grew.drewN ?_ _ | refine Grew.grow ?_ _ | refine Grew.alloc ?_ _ | refine Grew.drew ?_))⟩
    · have h0 : 0 ≤ k := by omega
      iterate 5 ((try simp only [rounds_succ]); go_wp2_with fail)
      exact bodyPost_ret (v := .tuple #[.agg #[.int .i64 0, .int .i64 0, .int .i64 0, .int .i64 0, .int .i64 0], .int .i64 2]) (by simp [results, Try.results15, go_sem]) rfl ⟨rfl, (by repeat (first | exact Grew.refl _ | refine Grew.drewN ?_ _ | refine Grew.grow ?_ _ | refine Grew.alloc ?_ _ | refine Grew.drew ?_))⟩

set_option maxHeartbeats 800000 in
theorem rMake_any (x : C4) (k : Int) (w : World) :
    Calls Try.prog 16 #[.agg #[.int .i64 x.a, .int .i64 x.b, .int .i64 x.c, .int .i64 x.d], .int .i64 k] w fun e w' => e = .returned (.tuple #[.agg #[.int .i64 (makeN x k).x.a, .int .i64 (makeN x k).x.b, .int .i64 (makeN x k).x.c, .int .i64 (makeN x k).x.d, .int .i64 (makeN x k).k], .int .i64 (makeN x k).e]) ∧ Grew w w' := by
  by_cases h60 : in60 x
  case neg =>
    have hv : makeN x k = fail 2 := by simp [makeN, h60]
    rw [hv]
    have hb : ¬ in60 x := h60
    clear h60 hv
    go_enter Try.func16, Try.ntmps16
    go_wp2_with fail
    refine wp_loop_rounds 5 ?_
    iterate 5 (all_goals (try simp only [rounds_succ]); go_wp2_with fail)
    all_goals first
      | exact bodyPost_ret (v := .tuple #[.agg #[.int .i64 0, .int .i64 0, .int .i64 0, .int .i64 0, .int .i64 0], .int .i64 2]) (by simp [results, Try.results16, go_sem]) rfl ⟨rfl, (by repeat (first | exact Grew.refl _ | refine Grew.drewN ?_ _ | refine Grew.grow ?_ _ | refine Grew.alloc ?_ _ | refine Grew.drew ?_))⟩
      | (exfalso; exact hb (by unfold in60; omega))
  have hv : makeN x k = if 0 ≤ k ∧ k ≤ 1000 then made x k else fail 2 := by simp [makeN, h60]
  rw [hv]
  clear hv
  have hx := in4_60 h60
  obtain ⟨⟨_, _⟩, ⟨_, _⟩, ⟨_, _⟩, ⟨_, _⟩⟩ := h60
  by_cases hk : 0 ≤ k ∧ k ≤ 1000
  · rw [if_pos hk]
    obtain ⟨hk1, hk2⟩ := hk
    go_enter Try.func16, Try.ntmps16
    go_wp2_with fail
    refine wp_loop_rounds 5 ?_
    iterate 5 ((try simp only [rounds_succ]); go_wp2_with fail)
    refine (made_any x k _ hx hk1 (by omega)).mono ?_
    rintro e w' ⟨rfl, g, n, rfl⟩
    go_wp2_with fail
    exact bodyPost_ret (v := .tuple #[.agg #[.int .i64 (made x k).x.a, .int .i64 (made x k).x.b, .int .i64 (made x k).x.c, .int .i64 (made x k).x.d, .int .i64 (made x k).k], .int .i64 (made x k).e]) (by simp [results, Try.results16, go_sem]) rfl ⟨rfl, (by repeat (first | exact Grew.refl _ | refine Grew.drewN ?_ _ | refine Grew.grow ?_ _ | refine Grew.alloc ?_ _ | refine Grew.drew ?_))⟩
  · rw [if_neg hk]
    have hk' : k < 0 ∨ 1000 < k := by omega
    clear hk
    go_enter Try.func16, Try.ntmps16
    go_wp2_with fail
    refine wp_loop_rounds 5 ?_
    rcases hk' with h | h
    · iterate 5 ((try simp only [rounds_succ]); go_wp2_with fail)
      exact bodyPost_ret (v := .tuple #[.agg #[.int .i64 0, .int .i64 0, .int .i64 0, .int .i64 0, .int .i64 0], .int .i64 2]) (by simp [results, Try.results16, go_sem]) rfl ⟨rfl, (by repeat (first | exact Grew.refl _ | refine Grew.drewN ?_ _ | refine Grew.grow ?_ _ | refine Grew.alloc ?_ _ | refine Grew.drew ?_))⟩
    · have h0 : 0 ≤ k := by omega
      iterate 5 ((try simp only [rounds_succ]); go_wp2_with fail)
      exact bodyPost_ret (v := .tuple #[.agg #[.int .i64 0, .int .i64 0, .int .i64 0, .int .i64 0, .int .i64 0], .int .i64 2]) (by simp [results, Try.results16, go_sem]) rfl ⟨rfl, (by repeat (first | exact Grew.refl _ | refine Grew.drewN ?_ _ | refine Grew.grow ?_ _ | refine Grew.alloc ?_ _ | refine Grew.drew ?_))⟩

end Go.Proofs.Ytmphmfhmcgpjcaa
