/- Neg, Conj, Flip, Turn and Halve of the program. No condition. -/
import Derived.Test.YtdomlnhgafielaaGreatDoorAmpI
import Derived.Test.YtdomlnhgafielaaGreatDoorHouseB
import Derived.Test.YtdomlnhgafielaaGreatDoorAmpPlain
import Derived.Test.YtdomlnhgafielaaGreatDoorAmpF

namespace Go.Proofs.YtdomlnhgafielaaGreatDoor
open Go Go.RowKit Amp

set_option maxHeartbeats 800000 in
theorem changed_turn (x : C4) (k : Int) (m : Int) (b : Nat) (w : World) (hb : b < w.heap.size) (hn : w.cell? ⟨b, 0, none⟩ = some (.int .i64 m)) :
    Calls Tryz.prog 92 #[.agg #[.int .i64 x.a, .int .i64 x.b, .int .i64 x.c, .int .i64 x.d, .int .i64 k], .func (.func 93) #[] #[.pointer (some ⟨b, 0, none⟩)]] w fun e w' => e = .returned (.tuple #[.agg #[.int .i64 (changeR (validB x k) (turnC (m % 8).toNat x) k).x.a, .int .i64 (changeR (validB x k) (turnC (m % 8).toNat x) k).x.b, .int .i64 (changeR (validB x k) (turnC (m % 8).toNat x) k).x.c, .int .i64 (changeR (validB x k) (turnC (m % 8).toNat x) k).x.d, .int .i64 (changeR (validB x k) (turnC (m % 8).toNat x) k).k], .int .i64 (changeR (validB x k) (turnC (m % 8).toNat x) k).e]) ∧ Grew w w' := by
  have hA := fun w => aValid_any x k w
  by_cases h1 : validB x k = true
  case neg =>
    have h2 : validB x k = false := by simpa using h1
    have he : Hid (changeR (validB x k) (turnC (m % 8).toNat x) k = fail 10) := changeR_f h2
    rw [h2] at hA
    have HA := hid hA
    clear hA h1 h2
    go_enter Tryz.func92, Tryz.ntmps92
    go_wp2_with fail
    refine (HA.out _).mono ?_
    rintro e w' ⟨rfl, g, n, rfl⟩
    go_wp2_with fail
    exact bodyPost_ret (v := .tuple #[.agg #[.int .i64 0, .int .i64 0, .int .i64 0, .int .i64 0, .int .i64 0], .int .i64 10]) (by simp [results, Tryz.results92, go_sem]) rfl ⟨by rw [he.out]; rfl, (by repeat (first | exact Grew.refl _ | refine Grew.drewN ?_ _ | refine Grew.grow ?_ _ | refine Grew.alloc ?_ _ | refine Grew.drew ?_))⟩

  have he : Hid (changeR (validB x k) (turnC (m % 8).toNat x) k = ⟨(turnC (m % 8).toNat x), k, 0⟩) := changeR_e h1
  rw [h1] at hA
  have HA := hid hA
  have HS := hid (validB_small h1)
  have hk0 := (validB_k h1).1
  clear hA h1
  go_enter Tryz.func92, Tryz.ntmps92
  go_wp2_with fail
  refine (HA.out _).mono ?_
  rintro e w' ⟨rfl, g, n, rfl⟩
  go_wp2_with fail
  refine (turn1_any x k m b _ HS.out (by simp [go_sem]; omega) ((Grew.cell (a := w) (by repeat (first | exact Grew.refl _ | refine Grew.drewN ?_ _ | refine Grew.grow ?_ _ | refine Grew.alloc ?_ _ | refine Grew.drew ?_)) hb 0).trans hn)).mono ?_
  rintro e w' ⟨rfl, g1, n1, rfl⟩
  go_wp2_with fail
  exact bodyPost_ret (v := .tuple #[.agg #[.int .i64 (turnC (m % 8).toNat x).a, .int .i64 (turnC (m % 8).toNat x).b, .int .i64 (turnC (m % 8).toNat x).c, .int .i64 (turnC (m % 8).toNat x).d, .int .i64 k], .int .i64 0]) (by simp [results, Tryz.results92, go_sem]) rfl ⟨by rw [he.out], (by repeat (first | exact Grew.refl _ | refine Grew.drewN ?_ _ | refine Grew.grow ?_ _ | refine Grew.alloc ?_ _ | refine Grew.drew ?_))⟩

set_option maxHeartbeats 800000 in
theorem aTurn_any (x : C4) (k m : Int) (w : World) :
    Calls Tryz.prog 72 #[.agg #[.int .i64 x.a, .int .i64 x.b, .int .i64 x.c, .int .i64 x.d, .int .i64 k], .int .i64 m] w fun e w' => e = .returned (.tuple #[.agg #[.int .i64 (changeR (validB x k) (turnC (m % 8).toNat x) k).x.a, .int .i64 (changeR (validB x k) (turnC (m % 8).toNat x) k).x.b, .int .i64 (changeR (validB x k) (turnC (m % 8).toNat x) k).x.c, .int .i64 (changeR (validB x k) (turnC (m % 8).toNat x) k).x.d, .int .i64 (changeR (validB x k) (turnC (m % 8).toNat x) k).k], .int .i64 (changeR (validB x k) (turnC (m % 8).toNat x) k).e]) ∧ Grew w w' := by
  go_enter Tryz.func72, Tryz.ntmps72
  go_wp2_with fail
  refine (changed_turn x k m _ _ (by simp [go_sem]) (by simp [go_sem])).mono ?_
  rintro e w' ⟨rfl, g, n, rfl⟩
  go_wp2_with fail
  exact bodyPost_ret (v := .tuple #[.agg #[.int .i64 (changeR (validB x k) (turnC (m % 8).toNat x) k).x.a, .int .i64 (changeR (validB x k) (turnC (m % 8).toNat x) k).x.b, .int .i64 (changeR (validB x k) (turnC (m % 8).toNat x) k).x.c, .int .i64 (changeR (validB x k) (turnC (m % 8).toNat x) k).x.d, .int .i64 (changeR (validB x k) (turnC (m % 8).toNat x) k).k], .int .i64 (changeR (validB x k) (turnC (m % 8).toNat x) k).e]) (by simp [results, Tryz.results72, go_sem]) rfl ⟨rfl, (by repeat (first | exact Grew.refl _ | refine Grew.drewN ?_ _ | refine Grew.grow ?_ _ | refine Grew.alloc ?_ _ | refine Grew.drew ?_))⟩

end Go.Proofs.YtdomlnhgafielaaGreatDoor

/- Halve of the program and of the reference; Turn, Neg, Conj, Flip of the reference. No condition. -/

namespace Go.Proofs.YtdomlnhgafielaaGreatDoor
open Go Go.RowKit Amp

end Go.Proofs.YtdomlnhgafielaaGreatDoor

/- Powers of the root of 2: the program's by, the reference's raised. Conditions: elements in range. -/

namespace Go.Proofs.YtdomlnhgafielaaGreatDoor
open Go Go.RowKit Amp

set_option maxHeartbeats 800000 in
theorem by_nat (x : C4) (n : Nat) (w : World) (h : smallB x = true) (hn : n ≤ 40) :
    Calls Tryz.prog 128 #[.agg #[.int .i64 x.a, .int .i64 x.b, .int .i64 x.c, .int .i64 x.d], .int .i64 n] w fun e w' => e = .returned (.agg #[.int .i64 (rpow n x).a, .int .i64 (rpow n x).b, .int .i64 (rpow n x).c, .int .i64 (rpow n x).d]) ∧ Grew w w' := by
  go_enter Tryz.func128, Tryz.ntmps128
  go_wp2_with fail
  go_loopw [1] (fun i wr => ∃ (m j : Nat) (y : C4), m + 2 * j = n ∧ i = .int .i64 m ∧ Hid (y = rpow (2 * j) x) ∧ Grew ((w.alloc (.cells #[.int .i64 y.a, .int .i64 y.b, .int .i64 y.c, .int .i64 y.d] 51)).alloc (.cells #[.int .i64 0, .int .i64 0, .int .i64 0, .int .i64 0] 51)) wr) (fun i _ => (intOf i).toNat)
  case atStart => exact ⟨n, 0, x, rfl, rfl, rfl, Grew.refl _⟩
  case round =>
    obtain ⟨m, j, y, hm, rfl, hy, g, n1, rfl⟩ := hrel
    have hb : Bd 1048576000000000 y := by rw [hy.out]; exact bd_rpow (by omega) h
    obtain ⟨⟨_, _⟩, ⟨_, _⟩, ⟨_, _⟩, ⟨_, _⟩⟩ := hb
    have Hm := hid hm
    have hm40 : m ≤ 40 := by omega
    clear h hm
    by_cases h2 : 2 ≤ m
    · go_wp2_with fail
      refine wp_loop_rounds 5 ?_
      iterate 5 (simp only [rounds_succ]; go_wp2_with fail)
      go_roundw
      case rel =>
        refine ⟨m - 2, j + 1, dbl y, by have := Hm.out; omega, congrArg (Value.int .i64) (by omega), ?_, (by repeat (first | exact Grew.refl _ | refine Grew.drewN ?_ _ | refine Grew.grow ?_ _ | refine Grew.alloc ?_ _ | refine Grew.drew ?_))⟩
        unfold Hid
        rw [hy.out, ← root_root, ← rpow_succ, ← rpow_succ]
        rfl
      case measure => simp [intOf]; omega
    · by_cases h1 : m = 1
      · subst h1
        have he : Hid (rpow n x = root y) := by
          unfold Hid
          rw [hy.out, ← rpow_succ, ← Hm.out, Nat.add_comm]
        clear hy hn
        go_wp2_with fail
        exact bodyPost_ret (v := .agg #[.int .i64 (y.b - y.d), .int .i64 (y.a + y.c), .int .i64 (y.b + y.d), .int .i64 (y.c - y.a)]) (by simp [results, Tryz.results128, go_sem]) rfl ⟨by rw [he.out]; rfl, (by repeat (first | exact Grew.refl _ | refine Grew.drewN ?_ _ | refine Grew.grow ?_ _ | refine Grew.alloc ?_ _ | refine Grew.drew ?_))⟩
      · obtain rfl : m = 0 := by omega
        have he : Hid (rpow n x = y) := by
          unfold Hid
          rw [hy.out, ← Hm.out, Nat.zero_add]
        clear hy hn
        go_wp2_with fail
        exact bodyPost_ret (v := .agg #[.int .i64 y.a, .int .i64 y.b, .int .i64 y.c, .int .i64 y.d]) (by simp [results, Tryz.results128, go_sem]) rfl ⟨by rw [he.out], (by repeat (first | exact Grew.refl _ | refine Grew.drewN ?_ _ | refine Grew.grow ?_ _ | refine Grew.alloc ?_ _ | refine Grew.drew ?_))⟩

theorem by_any (x : C4) (n : Int) (w : World) (h : smallB x = true) (h0 : 0 ≤ n) (hn : n ≤ 40) :
    Calls Tryz.prog 128 #[.agg #[.int .i64 x.a, .int .i64 x.b, .int .i64 x.c, .int .i64 x.d], .int .i64 n] w fun e w' => e = .returned (.agg #[.int .i64 (rpow n.toNat x).a, .int .i64 (rpow n.toNat x).b, .int .i64 (rpow n.toNat x).c, .int .i64 (rpow n.toNat x).d]) ∧ Grew w w' := by
  obtain ⟨q, rfl⟩ := Int.eq_ofNat_of_zero_le h0
  exact by_nat x q w h (by omega)

end Go.Proofs.YtdomlnhgafielaaGreatDoor
