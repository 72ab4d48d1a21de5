/- Valid and Make of the program, Make of the reference. No condition. -/
import Derived.Test.YtkglnnkghillpaaAmpC
import Derived.Test.YtkglnnkghillpaaAmpEq
namespace Go.Proofs.Ytkglnnkghillpaa
open Go Go.RowKit Amp

set_option maxHeartbeats 800000 in
theorem aValid_any (x : C4) (k : Int) (w : World) :
    Calls Try.prog 66 #[.agg #[.int .i64 x.a, .int .i64 x.b, .int .i64 x.c, .int .i64 x.d, .int .i64 k]] w fun e w' => e = .returned (.bool (validB x k)) ∧ Grew w w' := by
  by_cases hk : 0 ≤ k ∧ k ≤ 40
  case neg =>
    have hv : validB x k = false := by simp [validB, hk]
    rw [hv]
    have hk' : k < 0 ∨ 40 < k := by omega
    clear hk hv
    go_enter Try.func66, Try.ntmps66
    rcases hk' with h | h
    · go_wp2_with fail
      go_ret
      exact ⟨rfl, (by repeat (first | exact Grew.refl _ | refine Grew.drewN ?_ _ | refine Grew.grow ?_ _ | refine Grew.alloc ?_ _ | refine Grew.drew ?_))⟩
    · have h0 : 0 ≤ k := by omega
      go_wp2_with fail
      go_ret
      exact ⟨rfl, (by repeat (first | exact Grew.refl _ | refine Grew.drewN ?_ _ | refine Grew.grow ?_ _ | refine Grew.alloc ?_ _ | refine Grew.drew ?_))⟩
  obtain ⟨hk1, hk2⟩ := hk
  by_cases hs : smallB x = true
  case neg =>
    have hv : validB x k = false := by simp [validB, hs]
    rw [hv]
    have hb := mt smallB_iff.2 hs
    clear hs hv
    go_enter Try.func66, Try.ntmps66
    go_wp2_with fail
    refine wp_loop_rounds 5 ?_
    iterate 5 (all_goals (try simp only [rounds_succ]); go_wp2_with fail)
    all_goals first
      | (go_ret; exact ⟨rfl, (by repeat (first | exact Grew.refl _ | refine Grew.drewN ?_ _ | refine Grew.grow ?_ _ | refine Grew.alloc ?_ _ | refine Grew.drew ?_))⟩)
      | (exfalso; exact hb (by omega))
  have hx := in4_small hs
  have hb := smallB_iff.1 hs
  obtain ⟨⟨_, _⟩, ⟨_, _⟩, ⟨_, _⟩, ⟨_, _⟩⟩ := hb
  obtain ⟨q, rfl⟩ := Int.eq_ofNat_of_zero_le hk1
  have hv : validB x q = decide (red q x = (x, q)) := by
    have h0 := @red_valid q x
    have h1 := @red_same q x
    simp only [validB, hs, Bool.true_and]
    rw [Bool.eq_iff_iff]
    simp only [Bool.and_eq_true, decide_eq_true_eq, Bool.or_eq_true, Bool.not_eq_true']
    constructor
    · rintro ⟨_, h⟩; exact h0 (h.imp (fun h => by omega) id)
    · intro h; exact ⟨by omega, (h1 h).imp (fun h => by omega) id⟩
  rw [hv]
  clear hv
  have hred := fun w => areduced_nat x q w hx (by omega)
  generalize red q x = r at *
  obtain ⟨y, j⟩ := r
  have Hr := hid hred
  clear hred hs
  go_enter Try.func66, Try.ntmps66
  go_wp2_with fail
  refine wp_loop_rounds 5 ?_
  iterate 5 (all_goals (try simp only [rounds_succ]); go_wp2_with fail)
  refine (Hr.out _).mono ?_
  rintro e w' ⟨rfl, g, n, rfl⟩
  go_wp2_with fail
  go_ret
  refine ⟨ret_bool ?_, (by repeat (first | exact Grew.refl _ | refine Grew.drewN ?_ _ | refine Grew.grow ?_ _ | refine Grew.alloc ?_ _ | refine Grew.drew ?_))⟩
  rw [Bool.eq_iff_iff, eq5_iff]
  simp only [decide_eq_true_eq, Prod.mk.injEq]
  constructor <;> rintro ⟨h1, h2⟩ <;> exact ⟨h1, by omega⟩

end Go.Proofs.Ytkglnnkghillpaa
