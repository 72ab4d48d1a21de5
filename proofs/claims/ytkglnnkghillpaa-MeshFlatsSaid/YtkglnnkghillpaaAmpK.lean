/- Neg, Conj, Flip, Turn and Halve of the program. No condition. -/
import Derived.Test.YtkglnnkghillpaaAmpI
import Derived.Test.YtkglnnkghillpaaHouseB
import Derived.Test.YtkglnnkghillpaaAmpPlain
import Derived.Test.YtkglnnkghillpaaAmpF

namespace Go.Proofs.Ytkglnnkghillpaa
open Go Go.RowKit Amp

set_option maxHeartbeats 800000 in
theorem changed_turn (x : C4) (k : Int) (m : Int) (b : Nat) (w : World) (hb : b < w.heap.size) (hn : w.cell? ⟨b, 0, none⟩ = some (.int .i64 m)) :
    Calls Try.prog 121 #[.agg #[.int .i64 x.a, .int .i64 x.b, .int .i64 x.c, .int .i64 x.d, .int .i64 k], .func (.func 122) #[] #[.pointer (some ⟨b, 0, none⟩)]] w fun e w' => e = .returned (.tuple #[.agg #[.int .i64 (changeR (validB x k) (turnC (m % 8).toNat x) k).x.a, .int .i64 (changeR (validB x k) (turnC (m % 8).toNat x) k).x.b, .int .i64 (changeR (validB x k) (turnC (m % 8).toNat x) k).x.c, .int .i64 (changeR (validB x k) (turnC (m % 8).toNat x) k).x.d, .int .i64 (changeR (validB x k) (turnC (m % 8).toNat x) k).k], .int .i64 (changeR (validB x k) (turnC (m % 8).toNat x) k).e]) ∧ Grew w w' := by
  have hA := fun w => aValid_any x k w
  by_cases h1 : validB x k = true
  case neg =>
    have h2 : validB x k = false := by simpa using h1
    have he : Hid (changeR (validB x k) (turnC (m % 8).toNat x) k = fail 10) := changeR_f h2
    rw [h2] at hA
    have HA := hid hA
    clear hA h1 h2
    go_enter Try.func121, Try.ntmps121
    go_wp2_with fail
    refine (HA.out _).mono ?_
    rintro e w' ⟨rfl, g, n, rfl⟩
    go_wp2_with fail
    exact bodyPost_ret (v := .tuple #[.agg #[.int .i64 0, .int .i64 0, .int .i64 0, .int .i64 0, .int .i64 0], .int .i64 10]) (by simp [results, Try.results121, go_sem]) rfl ⟨by rw [he.out]; rfl, (by repeat (first | exact Grew.refl _ | refine Grew.drewN ?_ _ | refine Grew.grow ?_ _ | refine Grew.alloc ?_ _ | refine Grew.drew ?_))⟩

  have he : Hid (changeR (validB x k) (turnC (m % 8).toNat x) k = ⟨(turnC (m % 8).toNat x), k, 0⟩) := changeR_e h1
  rw [h1] at hA
  have HA := hid hA
  have HS := hid (validB_small h1)
  have hk0 := (validB_k h1).1
  clear hA h1
  go_enter Try.func121, Try.ntmps121
  go_wp2_with fail
  refine (HA.out _).mono ?_
  rintro e w' ⟨rfl, g, n, rfl⟩
  go_wp2_with fail
  refine (turn1_any x k m b _ HS.out (by simp [go_sem]; omega) ((Grew.cell (a := w) (by repeat (first | exact Grew.refl _ | refine Grew.drewN ?_ _ | refine Grew.grow ?_ _ | refine Grew.alloc ?_ _ | refine Grew.drew ?_)) hb 0).trans hn)).mono ?_
  rintro e w' ⟨rfl, g1, n1, rfl⟩
  go_wp2_with fail
  exact bodyPost_ret (v := .tuple #[.agg #[.int .i64 (turnC (m % 8).toNat x).a, .int .i64 (turnC (m % 8).toNat x).b, .int .i64 (turnC (m % 8).toNat x).c, .int .i64 (turnC (m % 8).toNat x).d, .int .i64 k], .int .i64 0]) (by simp [results, Try.results121, go_sem]) rfl ⟨by rw [he.out], (by repeat (first | exact Grew.refl _ | refine Grew.drewN ?_ _ | refine Grew.grow ?_ _ | refine Grew.alloc ?_ _ | refine Grew.drew ?_))⟩

set_option maxHeartbeats 800000 in
theorem aTurn_any (x : C4) (k m : Int) (w : World) :
    Calls Try.prog 104 #[.agg #[.int .i64 x.a, .int .i64 x.b, .int .i64 x.c, .int .i64 x.d, .int .i64 k], .int .i64 m] w fun e w' => e = .returned (.tuple #[.agg #[.int .i64 (changeR (validB x k) (turnC (m % 8).toNat x) k).x.a, .int .i64 (changeR (validB x k) (turnC (m % 8).toNat x) k).x.b, .int .i64 (changeR (validB x k) (turnC (m % 8).toNat x) k).x.c, .int .i64 (changeR (validB x k) (turnC (m % 8).toNat x) k).x.d, .int .i64 (changeR (validB x k) (turnC (m % 8).toNat x) k).k], .int .i64 (changeR (validB x k) (turnC (m % 8).toNat x) k).e]) ∧ Grew w w' := by
  go_enter Try.func104, Try.ntmps104
  go_wp2_with fail
  refine (changed_turn x k m _ _ (by simp [go_sem]) (by simp [go_sem])).mono ?_
  rintro e w' ⟨rfl, g, n, rfl⟩
  go_wp2_with fail
  exact bodyPost_ret (v := .tuple #[.agg #[.int .i64 (changeR (validB x k) (turnC (m % 8).toNat x) k).x.a, .int .i64 (changeR (validB x k) (turnC (m % 8).toNat x) k).x.b, .int .i64 (changeR (validB x k) (turnC (m % 8).toNat x) k).x.c, .int .i64 (changeR (validB x k) (turnC (m % 8).toNat x) k).x.d, .int .i64 (changeR (validB x k) (turnC (m % 8).toNat x) k).k], .int .i64 (changeR (validB x k) (turnC (m % 8).toNat x) k).e]) (by simp [results, Try.results104, go_sem]) rfl ⟨rfl, (by repeat (first | exact Grew.refl _ | refine Grew.drewN ?_ _ | refine Grew.grow ?_ _ | refine Grew.alloc ?_ _ | refine Grew.drew ?_))⟩

end Go.Proofs.Ytkglnnkghillpaa

/- Halve of the program and of the reference; Turn, Neg, Conj, Flip of the reference. No condition. -/

namespace Go.Proofs.Ytkglnnkghillpaa
open Go Go.RowKit Amp

set_option maxHeartbeats 800000 in
theorem rTurn_any (x : C4) (k n : Int) (w : World) :
    Calls Try.prog 91 #[.agg #[.int .i64 x.a, .int .i64 x.b, .int .i64 x.c, .int .i64 x.d, .int .i64 k], .int .i64 n] w fun e w' => e = .returned (.tuple #[.agg #[.int .i64 (changeR (validB x k) (turnC (n % 8).toNat x) k).x.a, .int .i64 (changeR (validB x k) (turnC (n % 8).toNat x) k).x.b, .int .i64 (changeR (validB x k) (turnC (n % 8).toNat x) k).x.c, .int .i64 (changeR (validB x k) (turnC (n % 8).toNat x) k).x.d, .int .i64 (changeR (validB x k) (turnC (n % 8).toNat x) k).k], .int .i64 (changeR (validB x k) (turnC (n % 8).toNat x) k).e]) ∧ Grew w w' := by
  have hA := fun w => rValid_any x k w
  by_cases h1 : validB x k = true
  case neg =>
    have h2 : validB x k = false := by simpa using h1
    have he : Hid ((changeR (validB x k) (turnC (n % 8).toNat x) k) = fail 10) := changeR_f h2
    rw [h2] at hA
    have HA := hid hA
    clear hA h1 h2
    go_enter Try.func91, Try.ntmps91
    go_wp2_with fail
    refine (HA.out _).mono ?_
    rintro e w' ⟨rfl, g, n, rfl⟩
    go_wp2_with fail
    exact bodyPost_ret (v := .tuple #[.agg #[.int .i64 0, .int .i64 0, .int .i64 0, .int .i64 0, .int .i64 0], .int .i64 10]) (by simp [results, Try.results91, go_sem]) rfl ⟨by rw [he.out]; rfl, (by repeat (first | exact Grew.refl _ | refine Grew.drewN ?_ _ | refine Grew.grow ?_ _ | refine Grew.alloc ?_ _ | refine Grew.drew ?_))⟩

  have he : Hid ((changeR (validB x k) (turnC (n % 8).toNat x) k) = ⟨(turnC (n % 8).toNat x), k, 0⟩) := changeR_e h1
  rw [h1] at hA
  have HA := hid hA
  have h := validB_small h1
  obtain ⟨m, hm⟩ : ∃ m : Nat, (n.tmod 8 + 8) % 8 = m := ⟨(n % 8).toNat, by rw [turnmod]; omega⟩
  have hm8 : m < 8 := by omega
  have hm' : (n % 8).toNat = m := by rw [turnmod] at hm; omega
  rw [hm'] at he ⊢
  obtain ⟨ht0, ht1⟩ := tmod8 n
  clear hA h1 hm'
  go_enter Try.func91, Try.ntmps91
  go_wp2_with fail
  refine (HA.out _).mono ?_
  rintro e w' ⟨rfl, g, n', rfl⟩
  go_wp2_with fail
  go_loopw [15] (fun i wr => ∃ (q : Nat) (y : C4), q ≤ m ∧ i = .int .i64 q ∧ smallB y = true ∧ Hid (turnC (m - q) y = turnC m x) ∧ Grew ((w.alloc (.cells #[.int .i64 y.a, .int .i64 y.b, .int .i64 y.c, .int .i64 y.d, .int .i64 k] 53)).alloc (.cells #[.int .i64 0, .int .i64 0, .int .i64 0, .int .i64 0, .int .i64 0] 53)) wr) (fun i _ => m - (intOf i).toNat)
  case atStart => exact ⟨0, x, Nat.zero_le _, rfl, h, rfl, (by repeat (first | exact Grew.refl _ | refine Grew.drewN ?_ _ | refine Grew.grow ?_ _ | refine Grew.alloc ?_ _ | refine Grew.drew ?_))⟩
  case round =>
    obtain ⟨q, y, hq, rfl, hy, ht, g1, n1, rfl⟩ := hrel
    obtain ⟨⟨_, _⟩, ⟨_, _⟩, ⟨_, _⟩, ⟨_, _⟩⟩ := smallB_iff.1 hy
    have hr := hid (small_rot hy)
    clear h hy
    by_cases hlt : q < m
    · go_wp2_with fail
      go_roundw
      case rel => exact ⟨q + 1, rotC y, by omega, by go_num, hr.out, by unfold Hid; rw [← ht.out, show m - q = (m - (q + 1)) + 1 by omega]; rfl, (by repeat (first | exact Grew.refl _ | refine Grew.drewN ?_ _ | refine Grew.grow ?_ _ | refine Grew.alloc ?_ _ | refine Grew.drew ?_))⟩
      case measure => simp [intOf]; omega
    · obtain rfl : q = m := by omega
      have ht' : Hid (y = turnC q x) := by have := ht.out; rw [Nat.sub_self] at this; exact this
      clear ht
      go_wp2_with fail
      exact bodyPost_ret (v := .tuple #[.agg #[.int .i64 y.a, .int .i64 y.b, .int .i64 y.c, .int .i64 y.d, .int .i64 k], .int .i64 0]) (by simp [results, Try.results91, go_sem]) rfl ⟨by rw [he.out, ← ht'.out], (by repeat (first | exact Grew.refl _ | refine Grew.drewN ?_ _ | refine Grew.grow ?_ _ | refine Grew.alloc ?_ _ | refine Grew.drew ?_))⟩

end Go.Proofs.Ytkglnnkghillpaa

/- Powers of the root of 2: the program's by, the reference's raised. Conditions: elements in range. -/

namespace Go.Proofs.Ytkglnnkghillpaa
open Go Go.RowKit Amp

set_option maxHeartbeats 800000 in
theorem by_nat (x : C4) (n : Nat) (w : World) (h : smallB x = true) (hn : n ≤ 40) :
    Calls Try.prog 132 #[.agg #[.int .i64 x.a, .int .i64 x.b, .int .i64 x.c, .int .i64 x.d], .int .i64 n] w fun e w' => e = .returned (.agg #[.int .i64 (rpow n x).a, .int .i64 (rpow n x).b, .int .i64 (rpow n x).c, .int .i64 (rpow n x).d]) ∧ Grew w w' := by
  go_enter Try.func132, Try.ntmps132
  go_wp2_with fail
  go_loopw [1] (fun i wr => ∃ (m j : Nat) (y : C4), m + 2 * j = n ∧ i = .int .i64 m ∧ Hid (y = rpow (2 * j) x) ∧ Grew ((w.alloc (.cells #[.int .i64 y.a, .int .i64 y.b, .int .i64 y.c, .int .i64 y.d] 45)).alloc (.cells #[.int .i64 0, .int .i64 0, .int .i64 0, .int .i64 0] 45)) wr) (fun i _ => (intOf i).toNat)
  case atStart => exact ⟨n, 0, x, rfl, rfl, rfl, Grew.refl _⟩
  case round =>
    obtain ⟨m, j, y, hm, rfl, hy, g, n1, rfl⟩ := hrel
    have hb : Bd 1048576000000000 y := by rw [hy.out]; exact bd_rpow (by omega) h
    obtain ⟨⟨_, _⟩, ⟨_, _⟩, ⟨_, _⟩, ⟨_, _⟩⟩ := hb
    have Hm := hid hm
    have hm40 : m ≤ 40 := by omega
    clear h hm
    by_cases h2 : 2 ≤ m
    · go_wp2_with fail
      refine wp_loop_rounds 5 ?_
      iterate 5 (simp only [rounds_succ]; go_wp2_with fail)
      go_roundw
      case rel =>
        refine ⟨m - 2, j + 1, dbl y, by have := Hm.out; omega, congrArg (Value.int .i64) (by omega), ?_, (by repeat (first | exact Grew.refl _ | refine Grew.drewN ?_ _ | refine Grew.grow ?_ _ | refine Grew.alloc ?_ _ | refine Grew.drew ?_))⟩
        unfold Hid
        rw [hy.out, ← root_root, ← rpow_succ, ← rpow_succ]
        rfl
      case measure => simp [intOf]; omega
    · by_cases h1 : m = 1
      · subst h1
        have he : Hid (rpow n x = root y) := by
          unfold Hid
          rw [hy.out, ← rpow_succ, ← Hm.out, Nat.add_comm]
        clear hy hn
        go_wp2_with fail
        exact bodyPost_ret (v := .agg #[.int .i64 (y.b - y.d), .int .i64 (y.a + y.c), .int .i64 (y.b + y.d), .int .i64 (y.c - y.a)]) (by simp [results, Try.results132, go_sem]) rfl ⟨by rw [he.out]; rfl, (by repeat (first | exact Grew.refl _ | refine Grew.drewN ?_ _ | refine Grew.grow ?_ _ | refine Grew.alloc ?_ _ | refine Grew.drew ?_))⟩
      · obtain rfl : m = 0 := by omega
        have he : Hid (rpow n x = y) := by
          unfold Hid
          rw [hy.out, ← Hm.out, Nat.zero_add]
        clear hy hn
        go_wp2_with fail
        exact bodyPost_ret (v := .agg #[.int .i64 y.a, .int .i64 y.b, .int .i64 y.c, .int .i64 y.d]) (by simp [results, Try.results132, go_sem]) rfl ⟨by rw [he.out], (by repeat (first | exact Grew.refl _ | refine Grew.drewN ?_ _ | refine Grew.grow ?_ _ | refine Grew.alloc ?_ _ | refine Grew.drew ?_))⟩

theorem by_any (x : C4) (n : Int) (w : World) (h : smallB x = true) (h0 : 0 ≤ n) (hn : n ≤ 40) :
    Calls Try.prog 132 #[.agg #[.int .i64 x.a, .int .i64 x.b, .int .i64 x.c, .int .i64 x.d], .int .i64 n] w fun e w' => e = .returned (.agg #[.int .i64 (rpow n.toNat x).a, .int .i64 (rpow n.toNat x).b, .int .i64 (rpow n.toNat x).c, .int .i64 (rpow n.toNat x).d]) ∧ Grew w w' := by
  obtain ⟨q, rfl⟩ := Int.eq_ofNat_of_zero_le h0
  exact by_nat x q w h (by omega)

set_option maxHeartbeats 800000 in
theorem raised_any (x : C4) (k m : Int) (w : World) (h : smallB x = true) (h0 : 0 ≤ k) (hk : k ≤ m) (hm : m ≤ 40) :
    Calls Try.prog 124 #[.agg #[.int .i64 x.a, .int .i64 x.b, .int .i64 x.c, .int .i64 x.d, .int .i64 k], .int .i64 m] w fun e w' => e = .returned (.agg #[.int .i64 (rpow (m - k).toNat x).a, .int .i64 (rpow (m - k).toNat x).b, .int .i64 (rpow (m - k).toNat x).c, .int .i64 (rpow (m - k).toNat x).d]) ∧ Grew w w' := by
  go_enter Try.func124, Try.ntmps124
  go_wp2_with fail
  go_loopw [6] (fun i wr => ∃ (q : Int) (y : C4), k ≤ q ∧ q ≤ m ∧ i = .int .i64 q ∧ Hid (y = rpow (q - k).toNat x) ∧ Grew (((w.alloc (.cells #[.int .i64 x.a, .int .i64 x.b, .int .i64 x.c, .int .i64 x.d, .int .i64 k] 53)).alloc (.cells #[.int .i64 0, .int .i64 0, .int .i64 0, .int .i64 0] 110)).alloc (.cells #[.int .i64 y.a, .int .i64 y.b, .int .i64 y.c, .int .i64 y.d] 110)) wr) (fun i _ => (m - intOf i).toNat)
  case atStart => exact ⟨k, x, Int.le_refl _, hk, rfl, by unfold Hid; rw [Int.sub_self]; rfl, Grew.refl _⟩
  case round =>
    obtain ⟨q, y, hq, hq2, rfl, hy, g, n1, rfl⟩ := hrel
    have hb : Bd 1048576000000000 y := by rw [hy.out]; exact bd_rpow (by omega) h
    have hi := in4_bd hb
    clear hb h
    by_cases hlt : q < m
    · go_wp2_with fail
      refine (timesRoot_any y _ hi).mono ?_
      rintro e w' ⟨rfl, g2, n2, rfl⟩
      go_wp2_with fail
      go_roundw
      case rel =>
        refine ⟨q + 1, root y, by omega, by omega, rfl, ?_, (by repeat (first | exact Grew.refl _ | refine Grew.drewN ?_ _ | refine Grew.grow ?_ _ | refine Grew.alloc ?_ _ | refine Grew.drew ?_))⟩
        unfold Hid
        rw [hy.out, ← rpow_succ, show (q + 1 - k).toNat = (q - k).toNat + 1 by omega]
      case measure => simp [intOf]; omega
    · obtain rfl : q = m := by omega
      go_wp2_with fail
      exact bodyPost_ret (v := .agg #[.int .i64 y.a, .int .i64 y.b, .int .i64 y.c, .int .i64 y.d]) (by simp [results, Try.results124, go_sem]) rfl ⟨by rw [← hy.out], (by repeat (first | exact Grew.refl _ | refine Grew.drewN ?_ _ | refine Grew.grow ?_ _ | refine Grew.alloc ?_ _ | refine Grew.drew ?_))⟩

end Go.Proofs.Ytkglnnkghillpaa
