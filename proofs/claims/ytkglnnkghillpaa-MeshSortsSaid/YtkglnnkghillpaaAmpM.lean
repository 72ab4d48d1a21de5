/- Powers of the root of 2: the program's by, the reference's raised. Conditions: elements in range. -/
import Derived.Test.YtkglnnkghillpaaAmpG
import Derived.Test.YtkglnnkghillpaaAmpPlain
import Derived.Test.YtkglnnkghillpaaHouseB
namespace Go.Proofs.Ytkglnnkghillpaa
open Go Go.RowKit Amp

set_option maxHeartbeats 800000 in
theorem by_nat (x : C4) (n : Nat) (w : World) (h : smallB x = true) (hn : n ≤ 40) :
    Calls Try.prog 132 #[.agg #[.int .i64 x.a, .int .i64 x.b, .int .i64 x.c, .int .i64 x.d], .int .i64 n] w fun e w' => e = .returned (.agg #[.int .i64 (rpow n x).a, .int .i64 (rpow n x).b, .int .i64 (rpow n x).c, .int .i64 (rpow n x).d]) ∧ Grew w w' := by
  go_enter Try.func132, Try.ntmps132
  go_wp2_with fail
  go_loopw [1] (fun i wr => ∃ (m j : Nat) (y : C4), m + 2 * j = n ∧ i = .int .i64 m ∧ Hid (y = rpow (2 * j) x) ∧ Grew ((w.alloc (.cells #[.int .i64 y.a, .int .i64 y.b, .int .i64 y.c, .int .i64 y.d] 45)).alloc (.cells #[.int .i64 0, .int .i64 0, .int .i64 0, .int .i64 0] 45)) wr) (fun i _ => (intOf i).toNat)
  case atStart => exact ⟨n, 0, x, rfl, rfl, rfl, Grew.refl _⟩
  case round =>
    obtain ⟨m, j, y, hm, rfl, hy, g, n1, rfl⟩ := hrel
    have hb : Bd 1048576000000000 y := by rw [hy.out]; exact bd_rpow (by omega) h
    obtain ⟨⟨_, _⟩, ⟨_, _⟩, ⟨_, _⟩, ⟨_, _⟩⟩ := hb
    have Hm := hid hm
    have hm40 : m ≤ 40 := by omega
    clear h hm
    by_cases h2 : 2 ≤ m
    · go_wp2_with fail
      refine wp_loop_rounds 5 ?_
      iterate 5 (simp only [rounds_succ]; go_wp2_with fail)
      go_roundw
      case rel =>
        refine ⟨m - 2, j + 1, dbl y, by have := Hm.out; omega, congrArg (Value.int .i64) (by omega), ?_, (by repeat (first | exact Grew.refl _ | refine Grew.drewN ?_ _ | refine Grew.grow ?_ _ | refine Grew.alloc ?_ _ | refine Grew.drew ?_))⟩
        unfold Hid
        rw [hy.out, ← root_root, ← rpow_succ, ← rpow_succ]
        rfl
      case measure => simp [intOf]; omega
    · by_cases h1 : m = 1
      · subst h1
        have he : Hid (rpow n x = root y) := by
          unfold Hid
          rw [hy.out, ← rpow_succ, ← Hm.out, Nat.add_comm]
        clear hy hn
        go_wp2_with fail
        exact bodyPost_ret (v := .agg #[.int .i64 (y.b - y.d), .int .i64 (y.a + y.c), .int .i64 (y.b + y.d), .int .i64 (y.c - y.a)]) (by simp [results, Try.results132, go_sem]) rfl ⟨by rw [he.out]; rfl, (by repeat (first | exact Grew.refl _ | refine Grew.drewN ?_ _ | refine Grew.grow ?_ _ | refine Grew.alloc ?_ _ | refine Grew.drew ?_))⟩
      · obtain rfl : m = 0 := by omega
        have he : Hid (rpow n x = y) := by
          unfold Hid
          rw [hy.out, ← Hm.out, Nat.zero_add]
        clear hy hn
        go_wp2_with fail
        exact bodyPost_ret (v := .agg #[.int .i64 y.a, .int .i64 y.b, .int .i64 y.c, .int .i64 y.d]) (by simp [results, Try.results132, go_sem]) rfl ⟨by rw [he.out], (by repeat (first | exact Grew.refl _ | refine Grew.drewN ?_ _ | refine Grew.grow ?_ _ | refine Grew.alloc ?_ _ | refine Grew.drew ?_))⟩

theorem by_any (x : C4) (n : Int) (w : World) (h : smallB x = true) (h0 : 0 ≤ n) (hn : n ≤ 40) :
    Calls Try.prog 132 #[.agg #[.int .i64 x.a, .int .i64 x.b, .int .i64 x.c, .int .i64 x.d], .int .i64 n] w fun e w' => e = .returned (.agg #[.int .i64 (rpow n.toNat x).a, .int .i64 (rpow n.toNat x).b, .int .i64 (rpow n.toNat x).c, .int .i64 (rpow n.toNat x).d]) ∧ Grew w w' := by
  obtain ⟨q, rfl⟩ := Int.eq_ofNat_of_zero_le h0
  exact by_nat x q w h (by omega)

set_option maxHeartbeats 800000 in
theorem raised_any (x : C4) (k m : Int) (w : World) (h : smallB x = true) (h0 : 0 ≤ k) (hk : k ≤ m) (hm : m ≤ 40) :
    Calls Try.prog 124 #[.agg #[.int .i64 x.a, .int .i64 x.b, .int .i64 x.c, .int .i64 x.d, .int .i64 k], .int .i64 m] w fun e w' => e = .returned (.agg #[.int .i64 (rpow (m - k).toNat x).a, .int .i64 (rpow (m - k).toNat x).b, .int .i64 (rpow (m - k).toNat x).c, .int .i64 (rpow (m - k).toNat x).d]) ∧ Grew w w' := by
  go_enter Try.func124, Try.ntmps124
  go_wp2_with fail
  go_loopw [6] (fun i wr => ∃ (q : Int) (y : C4), k ≤ q ∧ q ≤ m ∧ i = .int .i64 q ∧ Hid (y = rpow (q - k).toNat x) ∧ Grew (((w.alloc (.cells #[.int .i64 x.a, .int .i64 x.b, .int .i64 x.c, .int .i64 x.d, .int .i64 k] 53)).alloc (.cells #[.int .i64 0, .int .i64 0, .int .i64 0, .int .i64 0] 110)).alloc (.cells #[.int .i64 y.a, .int .i64 y.b, .int .i64 y.c, .int .i64 y.d] 110)) wr) (fun i _ => (m - intOf i).toNat)
  case atStart => exact ⟨k, x, Int.le_refl _, hk, rfl, by unfold Hid; rw [Int.sub_self]; rfl, Grew.refl _⟩
  case round =>
    obtain ⟨q, y, hq, hq2, rfl, hy, g, n1, rfl⟩ := hrel
    have hb : Bd 1048576000000000 y := by rw [hy.out]; exact bd_rpow (by omega) h
    have hi := in4_bd hb
    clear hb h
    by_cases hlt : q < m
    · go_wp2_with fail
      refine (timesRoot_any y _ hi).mono ?_
      rintro e w' ⟨rfl, g2, n2, rfl⟩
      go_wp2_with fail
      go_roundw
      case rel =>
        refine ⟨q + 1, root y, by omega, by omega, rfl, ?_, (by repeat (first | exact Grew.refl _ | refine Grew.drewN ?_ _ | refine Grew.grow ?_ _ | refine Grew.alloc ?_ _ | refine Grew.drew ?_))⟩
        unfold Hid
        rw [hy.out, ← rpow_succ, show (q + 1 - k).toNat = (q - k).toNat + 1 by omega]
      case measure => simp [intOf]; omega
    · obtain rfl : q = m := by omega
      go_wp2_with fail
      exact bodyPost_ret (v := .agg #[.int .i64 y.a, .int .i64 y.b, .int .i64 y.c, .int .i64 y.d]) (by simp [results, Try.results124, go_sem]) rfl ⟨by rw [← hy.out], (by repeat (first | exact Grew.refl _ | refine Grew.drewN ?_ _ | refine Grew.grow ?_ _ | refine Grew.alloc ?_ _ | refine Grew.drew ?_))⟩

end Go.Proofs.Ytkglnnkghillpaa
