/- Halve of the program and of the reference; Turn, Neg, Conj, Flip of the reference. No condition. -/
import Derived.Test.YtkglnnkghillpaaAmpJ
import Derived.Test.YtkglnnkghillpaaHouseB
import Derived.Test.YtkglnnkghillpaaAmpPlain
namespace Go.Proofs.Ytkglnnkghillpaa
open Go Go.RowKit Amp

set_option maxHeartbeats 800000 in
theorem rTurn_any (x : C4) (k n : Int) (w : World) :
    Calls Try.prog 91 #[.agg #[.int .i64 x.a, .int .i64 x.b, .int .i64 x.c, .int .i64 x.d, .int .i64 k], .int .i64 n] w fun e w' => e = .returned (.tuple #[.agg #[.int .i64 (changeR (validB x k) (turnC (n % 8).toNat x) k).x.a, .int .i64 (changeR (validB x k) (turnC (n % 8).toNat x) k).x.b, .int .i64 (changeR (validB x k) (turnC (n % 8).toNat x) k).x.c, .int .i64 (changeR (validB x k) (turnC (n % 8).toNat x) k).x.d, .int .i64 (changeR (validB x k) (turnC (n % 8).toNat x) k).k], .int .i64 (changeR (validB x k) (turnC (n % 8).toNat x) k).e]) ∧ Grew w w' := by
  have hA := fun w => rValid_any x k w
  by_cases h1 : validB x k = true
  case neg =>
    have h2 : validB x k = false := by simpa using h1
    have he : Hid ((changeR (validB x k) (turnC (n % 8).toNat x) k) = fail 10) := changeR_f h2
    rw [h2] at hA
    have HA := hid hA
    clear hA h1 h2
    go_enter Try.func91, Try.ntmps91
    go_wp2_with fail
    refine (HA.out _).mono ?_
    rintro e w' ⟨rfl, g, n, rfl⟩
    go_wp2_with fail
    exact bodyPost_ret (v := .tuple #[.agg #[.int .i64 0, .int .i64 0, .int .i64 0, .int .i64 0, .int .i64 0], .int .i64 10]) (by simp [results, Try.results91, go_sem]) rfl ⟨by rw [he.out]; rfl, (by repeat (first | exact Grew.refl _ | refine Grew.drewN ?_ _ | refine Grew.grow ?_ _ | refine Grew.alloc ?_ _ | refine Grew.drew ?_))⟩

  have he : Hid ((changeR (validB x k) (turnC (n % 8).toNat x) k) = ⟨(turnC (n % 8).toNat x), k, 0⟩) := changeR_e h1
  rw [h1] at hA
  have HA := hid hA
  have h := validB_small h1
  obtain ⟨m, hm⟩ : ∃ m : Nat, (n.tmod 8 + 8) % 8 = m := ⟨(n % 8).toNat, by rw [turnmod]; omega⟩
  have hm8 : m < 8 := by omega
  have hm' : (n % 8).toNat = m := by rw [turnmod] at hm; omega
  rw [hm'] at he ⊢
  obtain ⟨ht0, ht1⟩ := tmod8 n
  clear hA h1 hm'
  go_enter Try.func91, Try.ntmps91
  go_wp2_with fail
  refine (HA.out _).mono ?_
  rintro e w' ⟨rfl, g, n', rfl⟩
  go_wp2_with fail
  go_loopw [15] (fun i wr => ∃ (q : Nat) (y : C4), q ≤ m ∧ i = .int .i64 q ∧ smallB y = true ∧ Hid (turnC (m - q) y = turnC m x) ∧ Grew ((w.alloc (.cells #[.int .i64 y.a, .int .i64 y.b, .int .i64 y.c, .int .i64 y.d, .int .i64 k] 53)).alloc (.cells #[.int .i64 0, .int .i64 0, .int .i64 0, .int .i64 0, .int .i64 0] 53)) wr) (fun i _ => m - (intOf i).toNat)
  case atStart => exact ⟨0, x, Nat.zero_le _, rfl, h, rfl, (by repeat (first | exact Grew.refl _ | refine Grew.drewN ?_ _ | refine Grew.grow ?_ _ | refine Grew.alloc ?_ _ | refine Grew.drew ?_))⟩
  case round =>
    obtain ⟨q, y, hq, rfl, hy, ht, g1, n1, rfl⟩ := hrel
    obtain ⟨⟨_, _⟩, ⟨_, _⟩, ⟨_, _⟩, ⟨_, _⟩⟩ := smallB_iff.1 hy
    have hr := hid (small_rot hy)
    clear h hy
    by_cases hlt : q < m
    · go_wp2_with fail
      go_roundw
      case rel => exact ⟨q + 1, rotC y, by omega, by go_num, hr.out, by unfold Hid; rw [← ht.out, show m - q = (m - (q + 1)) + 1 by omega]; rfl, (by repeat (first | exact Grew.refl _ | refine Grew.drewN ?_ _ | refine Grew.grow ?_ _ | refine Grew.alloc ?_ _ | refine Grew.drew ?_))⟩
      case measure => simp [intOf]; omega
    · obtain rfl : q = m := by omega
      have ht' : Hid (y = turnC q x) := by have := ht.out; rw [Nat.sub_self] at this; exact this
      clear ht
      go_wp2_with fail
      exact bodyPost_ret (v := .tuple #[.agg #[.int .i64 y.a, .int .i64 y.b, .int .i64 y.c, .int .i64 y.d, .int .i64 k], .int .i64 0]) (by simp [results, Try.results91, go_sem]) rfl ⟨by rw [he.out, ← ht'.out], (by repeat (first | exact Grew.refl _ | refine Grew.drewN ?_ _ | refine Grew.grow ?_ _ | refine Grew.alloc ?_ _ | refine Grew.drew ?_))⟩

end Go.Proofs.Ytkglnnkghillpaa
