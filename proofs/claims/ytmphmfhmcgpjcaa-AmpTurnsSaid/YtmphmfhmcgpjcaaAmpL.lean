/- Halve of the program and of the reference; Turn, Neg, Conj, Flip of the reference. No condition. -/
import Derived.Test.YtmphmfhmcgpjcaaAmpJ
import Derived.Test.YtmphmfhmcgpjcaaHouseD
import Derived.Test.YtmphmfhmcgpjcaaAmpPlainD
namespace Go.Proofs.Ytmphmfhmcgpjcaa
open Go Go.RowKit Amp

set_option maxHeartbeats 800000 in
theorem aHalve_any (x : C4) (k m : Int) (w : World) :
    Calls Try.prog 34 #[.agg #[.int .i64 x.a, .int .i64 x.b, .int .i64 x.c, .int .i64 x.d, .int .i64 k], .int .i64 m] w fun e w' => e = .returned (.tuple #[.agg #[.int .i64 (halveN x k m).x.a, .int .i64 (halveN x k m).x.b, .int .i64 (halveN x k m).x.c, .int .i64 (halveN x k m).x.d, .int .i64 (halveN x k m).k], .int .i64 (halveN x k m).e]) ∧ Grew w w' := by
  have hA := fun w => aValid_any x k w
  by_cases h1 : validB x k = true
  case neg =>
    have h2 : validB x k = false := by simpa using h1
    have he : Hid (halveN x k m = fail 10) := if_neg h1
    rw [h2] at hA
    have HA := hid hA
    clear hA h1 h2
    go_enter Try.func34, Try.ntmps34
    go_wp2_with fail
    refine (HA.out _).mono ?_
    rintro e w' ⟨rfl, g, n, rfl⟩
    go_wp2_with fail
    exact bodyPost_ret (v := .tuple #[.agg #[.int .i64 0, .int .i64 0, .int .i64 0, .int .i64 0, .int .i64 0], .int .i64 10]) (by simp [results, Try.results34, go_sem]) rfl ⟨by rw [he.out]; rfl, (by repeat (first | exact Grew.refl _ | refine Grew.drewN ?_ _ | refine Grew.grow ?_ _ | refine Grew.alloc ?_ _ | refine Grew.drew ?_))⟩

  rw [h1] at hA
  have HA := hid hA
  have hs := in4_small (validB_small h1)
  obtain ⟨hk0, hk1⟩ := validB_k h1
  by_cases h3 : 0 ≤ m ∧ m ≤ 100
  case neg =>
    have he : Hid (halveN x k m = fail 2) := (if_pos h1).trans (if_neg h3)
    have h4 : m < 0 ∨ 100 < m := by omega
    clear hA h1 h3 hs
    rcases h4 with h4 | h4
    · go_enter Try.func34, Try.ntmps34
      go_wp2_with fail
      refine (HA.out _).mono ?_
      rintro e w' ⟨rfl, g, n, rfl⟩
      go_wp2_with fail
      exact bodyPost_ret (v := .tuple #[.agg #[.int .i64 0, .int .i64 0, .int .i64 0, .int .i64 0, .int .i64 0], .int .i64 2]) (by simp [results, Try.results34, go_sem]) rfl ⟨by rw [he.out]; rfl, (by repeat (first | exact Grew.refl _ | refine Grew.drewN ?_ _ | refine Grew.grow ?_ _ | refine Grew.alloc ?_ _ | refine Grew.drew ?_))⟩
    · have h5 : 0 ≤ m := by omega
      go_enter Try.func34, Try.ntmps34
      go_wp2_with fail
      refine (HA.out _).mono ?_
      rintro e w' ⟨rfl, g, n, rfl⟩
      go_wp2_with fail
      exact bodyPost_ret (v := .tuple #[.agg #[.int .i64 0, .int .i64 0, .int .i64 0, .int .i64 0, .int .i64 0], .int .i64 2]) (by simp [results, Try.results34, go_sem]) rfl ⟨by rw [he.out]; rfl, (by repeat (first | exact Grew.refl _ | refine Grew.drewN ?_ _ | refine Grew.grow ?_ _ | refine Grew.alloc ?_ _ | refine Grew.drew ?_))⟩
  have he : Hid (halveN x k m = made x (k + m)) := (if_pos h1).trans (if_pos h3)
  obtain ⟨h4, h5⟩ := h3
  clear hA h1
  go_enter Try.func34, Try.ntmps34
  go_wp2_with fail
  refine (HA.out _).mono ?_
  rintro e w' ⟨rfl, g, n, rfl⟩
  go_wp2_with fail
  refine (aresult_any x (k + m) _ hs (by omega) (by omega)).mono ?_
  rintro e w' ⟨rfl, g1, n1, rfl⟩
  go_wp2_with fail
  exact bodyPost_ret (v := .tuple #[.agg #[.int .i64 (made x (k + m)).x.a, .int .i64 (made x (k + m)).x.b, .int .i64 (made x (k + m)).x.c, .int .i64 (made x (k + m)).x.d, .int .i64 (made x (k + m)).k], .int .i64 (made x (k + m)).e]) (by simp [results, Try.results34, go_sem]) rfl ⟨by rw [he.out], (by repeat (first | exact Grew.refl _ | refine Grew.drewN ?_ _ | refine Grew.grow ?_ _ | refine Grew.alloc ?_ _ | refine Grew.drew ?_))⟩

set_option maxHeartbeats 800000 in
theorem rHalve_any (x : C4) (k m : Int) (w : World) :
    Calls Try.prog 35 #[.agg #[.int .i64 x.a, .int .i64 x.b, .int .i64 x.c, .int .i64 x.d, .int .i64 k], .int .i64 m] w fun e w' => e = .returned (.tuple #[.agg #[.int .i64 (halveN x k m).x.a, .int .i64 (halveN x k m).x.b, .int .i64 (halveN x k m).x.c, .int .i64 (halveN x k m).x.d, .int .i64 (halveN x k m).k], .int .i64 (halveN x k m).e]) ∧ Grew w w' := by
  have hA := fun w => rValid_any x k w
  by_cases h1 : validB x k = true
  case neg =>
    have h2 : validB x k = false := by simpa using h1
    have he : Hid (halveN x k m = fail 10) := if_neg h1
    rw [h2] at hA
    have HA := hid hA
    clear hA h1 h2
    go_enter Try.func35, Try.ntmps35
    go_wp2_with fail
    refine (HA.out _).mono ?_
    rintro e w' ⟨rfl, g, n, rfl⟩
    go_wp2_with fail
    exact bodyPost_ret (v := .tuple #[.agg #[.int .i64 0, .int .i64 0, .int .i64 0, .int .i64 0, .int .i64 0], .int .i64 10]) (by simp [results, Try.results35, go_sem]) rfl ⟨by rw [he.out]; rfl, (by repeat (first | exact Grew.refl _ | refine Grew.drewN ?_ _ | refine Grew.grow ?_ _ | refine Grew.alloc ?_ _ | refine Grew.drew ?_))⟩

  rw [h1] at hA
  have HA := hid hA
  have hs := in4_small (validB_small h1)
  obtain ⟨hk0, hk1⟩ := validB_k h1
  by_cases h3 : 0 ≤ m ∧ m ≤ 100
  case neg =>
    have he : Hid (halveN x k m = fail 2) := (if_pos h1).trans (if_neg h3)
    have h4 : m < 0 ∨ 100 < m := by omega
    clear hA h1 h3 hs
    rcases h4 with h4 | h4
    · go_enter Try.func35, Try.ntmps35
      go_wp2_with fail
      refine (HA.out _).mono ?_
      rintro e w' ⟨rfl, g, n, rfl⟩
      go_wp2_with fail
      exact bodyPost_ret (v := .tuple #[.agg #[.int .i64 0, .int .i64 0, .int .i64 0, .int .i64 0, .int .i64 0], .int .i64 2]) (by simp [results, Try.results35, go_sem]) rfl ⟨by rw [he.out]; rfl, (by repeat (first | exact Grew.refl _ | refine Grew.drewN ?_ _ | refine Grew.grow ?_ _ | refine Grew.alloc ?_ _ | refine Grew.drew ?_))⟩
    · have h5 : 0 ≤ m := by omega
      go_enter Try.func35, Try.ntmps35
      go_wp2_with fail
      refine (HA.out _).mono ?_
      rintro e w' ⟨rfl, g, n, rfl⟩
      go_wp2_with fail
      exact bodyPost_ret (v := .tuple #[.agg #[.int .i64 0, .int .i64 0, .int .i64 0, .int .i64 0, .int .i64 0], .int .i64 2]) (by simp [results, Try.results35, go_sem]) rfl ⟨by rw [he.out]; rfl, (by repeat (first | exact Grew.refl _ | refine Grew.drewN ?_ _ | refine Grew.grow ?_ _ | refine Grew.alloc ?_ _ | refine Grew.drew ?_))⟩
  have he : Hid (halveN x k m = made x (k + m)) := (if_pos h1).trans (if_pos h3)
  obtain ⟨h4, h5⟩ := h3
  clear hA h1
  go_enter Try.func35, Try.ntmps35
  go_wp2_with fail
  refine (HA.out _).mono ?_
  rintro e w' ⟨rfl, g, n, rfl⟩
  go_wp2_with fail
  refine (made_any x (k + m) _ hs (by omega) (by omega)).mono ?_
  rintro e w' ⟨rfl, g1, n1, rfl⟩
  go_wp2_with fail
  exact bodyPost_ret (v := .tuple #[.agg #[.int .i64 (made x (k + m)).x.a, .int .i64 (made x (k + m)).x.b, .int .i64 (made x (k + m)).x.c, .int .i64 (made x (k + m)).x.d, .int .i64 (made x (k + m)).k], .int .i64 (made x (k + m)).e]) (by simp [results, Try.results35, go_sem]) rfl ⟨by rw [he.out], (by repeat (first | exact Grew.refl _ | refine Grew.drewN ?_ _ | refine Grew.grow ?_ _ | refine Grew.alloc ?_ _ | refine Grew.drew ?_))⟩

set_option maxHeartbeats 800000 in
theorem rTurn_any (x : C4) (k n : Int) (w : World) :
    Calls Try.prog 33 #[.agg #[.int .i64 x.a, .int .i64 x.b, .int .i64 x.c, .int .i64 x.d, .int .i64 k], .int .i64 n] w fun e w' => e = .returned (.tuple #[.agg #[.int .i64 (changeR (validB x k) (turnC (n % 8).toNat x) k).x.a, .int .i64 (changeR (validB x k) (turnC (n % 8).toNat x) k).x.b, .int .i64 (changeR (validB x k) (turnC (n % 8).toNat x) k).x.c, .int .i64 (changeR (validB x k) (turnC (n % 8).toNat x) k).x.d, .int .i64 (changeR (validB x k) (turnC (n % 8).toNat x) k).k], .int .i64 (changeR (validB x k) (turnC (n % 8).toNat x) k).e]) ∧ Grew w w' := by
  have hA := fun w => rValid_any x k w
  by_cases h1 : validB x k = true
  case neg =>
    have h2 : validB x k = false := by simpa using h1
    have he : Hid ((changeR (validB x k) (turnC (n % 8).toNat x) k) = fail 10) := changeR_f h2
    rw [h2] at hA
    have HA := hid hA
    clear hA h1 h2
    go_enter Try.func33, Try.ntmps33
    go_wp2_with fail
    refine (HA.out _).mono ?_
    rintro e w' ⟨rfl, g, n, rfl⟩
    go_wp2_with fail
    exact bodyPost_ret (v := .tuple #[.agg #[.int .i64 0, .int .i64 0, .int .i64 0, .int .i64 0, .int .i64 0], .int .i64 10]) (by simp [results, Try.results33, go_sem]) rfl ⟨by rw [he.out]; rfl, (by repeat (first | exact Grew.refl _ | refine Grew.drewN ?_ _ | refine Grew.grow ?_ _ | refine Grew.alloc ?_ _ | refine Grew.drew ?_))⟩

  have he : Hid ((changeR (validB x k) (turnC (n % 8).toNat x) k) = ⟨(turnC (n % 8).toNat x), k, 0⟩) := changeR_e h1
  rw [h1] at hA
  have HA := hid hA
  have h := validB_small h1
  obtain ⟨m, hm⟩ : ∃ m : Nat, (n.tmod 8 + 8) % 8 = m := ⟨(n % 8).toNat, by rw [turnmod]; omega⟩
  have hm8 : m < 8 := by omega
  have hm' : (n % 8).toNat = m := by rw [turnmod] at hm; omega
  rw [hm'] at he ⊢
  obtain ⟨ht0, ht1⟩ := tmod8 n
  clear hA h1 hm'
  go_enter Try.func33, Try.ntmps33
  go_wp2_with fail
  refine (HA.out _).mono ?_
  rintro e w' ⟨rfl, g, n', rfl⟩
  go_wp2_with fail
  go_loopw [15] (fun i wr => ∃ (q : Nat) (y : C4), q ≤ m ∧ i = .int .i64 q ∧ smallB y = true ∧ Hid (turnC (m - q) y = turnC m x) ∧ Grew ((w.alloc (.cells #[.int .i64 y.a, .int .i64 y.b, .int .i64 y.c, .int .i64 y.d, .int .i64 k] 24)).alloc (.cells #[.int .i64 0, .int .i64 0, .int .i64 0, .int .i64 0, .int .i64 0] 24)) wr) (fun i _ => m - (intOf i).toNat)
  case atStart => exact ⟨0, x, Nat.zero_le _, rfl, h, rfl, (by repeat (first | exact Grew.refl _ | refine Grew.drewN ?_ _ | refine Grew.grow ?_ _ | refine Grew.alloc ?_ _ | refine Grew.drew ?_))⟩
  case round =>
    obtain ⟨q, y, hq, rfl, hy, ht, g1, n1, rfl⟩ := hrel
    obtain ⟨⟨_, _⟩, ⟨_, _⟩, ⟨_, _⟩, ⟨_, _⟩⟩ := smallB_iff.1 hy
    have hr := hid (small_rot hy)
    clear h hy
    by_cases hlt : q < m
    · go_wp2_with fail
      go_roundw
      case rel => exact ⟨q + 1, rotC y, by omega, by go_num, hr.out, by unfold Hid; rw [← ht.out, show m - q = (m - (q + 1)) + 1 by omega]; rfl, (by repeat (first | exact Grew.refl _ | refine Grew.drewN ?_ _ | refine Grew.grow ?_ _ | refine Grew.alloc ?_ _ | refine Grew.drew ?_))⟩
      case measure => simp [intOf]; omega
    · obtain rfl : q = m := by omega
      have ht' : Hid (y = turnC q x) := by have := ht.out; rw [Nat.sub_self] at this; exact this
      clear ht
      go_wp2_with fail
      exact bodyPost_ret (v := .tuple #[.agg #[.int .i64 y.a, .int .i64 y.b, .int .i64 y.c, .int .i64 y.d, .int .i64 k], .int .i64 0]) (by simp [results, Try.results33, go_sem]) rfl ⟨by rw [he.out, ← ht'.out], (by repeat (first | exact Grew.refl _ | refine Grew.drewN ?_ _ | refine Grew.grow ?_ _ | refine Grew.alloc ?_ _ | refine Grew.drew ?_))⟩

set_option maxHeartbeats 800000 in
theorem rNeg_any (x : C4) (k : Int) (w : World) :
    Calls Try.prog 27 #[.agg #[.int .i64 x.a, .int .i64 x.b, .int .i64 x.c, .int .i64 x.d, .int .i64 k]] w fun e w' => e = .returned (.tuple #[.agg #[.int .i64 (changeR (validB x k) (negC x) k).x.a, .int .i64 (changeR (validB x k) (negC x) k).x.b, .int .i64 (changeR (validB x k) (negC x) k).x.c, .int .i64 (changeR (validB x k) (negC x) k).x.d, .int .i64 (changeR (validB x k) (negC x) k).k], .int .i64 (changeR (validB x k) (negC x) k).e]) ∧ Grew w w' := by
  go_enter Try.func27, Try.ntmps27
  go_wp2_with fail
  refine (rTurn_any x k 4 _).mono ?_
  rw [show turnC ((4 : Int) % 8).toNat x = negC x from rfl]
  rintro e w' ⟨rfl, g, n, rfl⟩
  go_wp2_with fail
  exact bodyPost_ret (v := .tuple #[.agg #[.int .i64 (changeR (validB x k) (negC x) k).x.a, .int .i64 (changeR (validB x k) (negC x) k).x.b, .int .i64 (changeR (validB x k) (negC x) k).x.c, .int .i64 (changeR (validB x k) (negC x) k).x.d, .int .i64 (changeR (validB x k) (negC x) k).k], .int .i64 (changeR (validB x k) (negC x) k).e]) (by simp [results, Try.results27, go_sem]) rfl ⟨rfl, (by repeat (first | exact Grew.refl _ | refine Grew.drewN ?_ _ | refine Grew.grow ?_ _ | refine Grew.alloc ?_ _ | refine Grew.drew ?_))⟩

set_option maxHeartbeats 800000 in
theorem rConj_any (x : C4) (k : Int) (w : World) :
    Calls Try.prog 29 #[.agg #[.int .i64 x.a, .int .i64 x.b, .int .i64 x.c, .int .i64 x.d, .int .i64 k]] w fun e w' => e = .returned (.tuple #[.agg #[.int .i64 (changeR (validB x k) (conjC x) k).x.a, .int .i64 (changeR (validB x k) (conjC x) k).x.b, .int .i64 (changeR (validB x k) (conjC x) k).x.c, .int .i64 (changeR (validB x k) (conjC x) k).x.d, .int .i64 (changeR (validB x k) (conjC x) k).k], .int .i64 (changeR (validB x k) (conjC x) k).e]) ∧ Grew w w' := by
  have hA := fun w => rValid_any x k w
  by_cases h1 : validB x k = true
  case neg =>
    have h2 : validB x k = false := by simpa using h1
    have he : Hid ((changeR (validB x k) (conjC x) k) = fail 10) := changeR_f h2
    rw [h2] at hA
    have HA := hid hA
    clear hA h1 h2
    go_enter Try.func29, Try.ntmps29
    go_wp2_with fail
    refine (HA.out _).mono ?_
    rintro e w' ⟨rfl, g, n, rfl⟩
    go_wp2_with fail
    exact bodyPost_ret (v := .tuple #[.agg #[.int .i64 0, .int .i64 0, .int .i64 0, .int .i64 0, .int .i64 0], .int .i64 10]) (by simp [results, Try.results29, go_sem]) rfl ⟨by rw [he.out]; rfl, (by repeat (first | exact Grew.refl _ | refine Grew.drewN ?_ _ | refine Grew.grow ?_ _ | refine Grew.alloc ?_ _ | refine Grew.drew ?_))⟩

  have he : Hid ((changeR (validB x k) (conjC x) k) = ⟨(conjC x), k, 0⟩) := changeR_e h1
  rw [h1] at hA
  have HA := hid hA
  have HC := hid fun w => rconj_any x w (validB_small h1)
  clear hA h1
  go_enter Try.func29, Try.ntmps29
  go_wp2_with fail
  refine (HA.out _).mono ?_
  rintro e w' ⟨rfl, g, n, rfl⟩
  go_wp2_with fail
  refine wp_region_gentle_tail 6 (by kernel_rfl) (by kernel_rfl) (by kernel_rfl) ?_
  simp only [List.take_succ_cons, List.take_zero, List.drop_succ_cons, List.drop_zero]
  repeat (first | go_big_quiet_skip | (go_big_quiet_want; go_big_quiet_op; first | go_big_quiet_on | (apply Exists.intro; refine ⟨fun qq => ?_, ?_⟩; (focus ((first | (go_at_call 59; refine Calls.gentle_of (HC.out _) ?_)); rintro _ ⟨g', n', rfl⟩; exact ⟨⟨qq.g ++ g', qq.n + n'⟩, by rw [World.grow_drewN, World.grow_grow, World.drewN_drewN]; repeat (first | rw [List.append_assoc] | rw [Nat.add_assoc])⟩)); go_big_quiet_on)))
  refine wpQuiet_nil ?_
  rintro _ ⟨gg, ng, rfl⟩
  go_wp2_with fail
  exact bodyPost_ret (v := .tuple #[.agg #[.int .i64 (conjC x).a, .int .i64 (conjC x).b, .int .i64 (conjC x).c, .int .i64 (conjC x).d, .int .i64 k], .int .i64 0]) (by simp [results, Try.results29, go_sem]) rfl ⟨by rw [he.out], (by repeat (first | exact Grew.refl _ | refine Grew.drewN ?_ _ | refine Grew.grow ?_ _ | refine Grew.alloc ?_ _ | refine Grew.drew ?_))⟩

set_option maxHeartbeats 800000 in
theorem rFlip_any (x : C4) (k : Int) (w : World) :
    Calls Try.prog 31 #[.agg #[.int .i64 x.a, .int .i64 x.b, .int .i64 x.c, .int .i64 x.d, .int .i64 k]] w fun e w' => e = .returned (.tuple #[.agg #[.int .i64 (changeR (validB x k) (flipK x k) k).x.a, .int .i64 (changeR (validB x k) (flipK x k) k).x.b, .int .i64 (changeR (validB x k) (flipK x k) k).x.c, .int .i64 (changeR (validB x k) (flipK x k) k).x.d, .int .i64 (changeR (validB x k) (flipK x k) k).k], .int .i64 (changeR (validB x k) (flipK x k) k).e]) ∧ Grew w w' := by
  have hA := fun w => rValid_any x k w
  by_cases h1 : validB x k = true
  case neg =>
    have h2 : validB x k = false := by simpa using h1
    have he : Hid ((changeR (validB x k) (flipK x k) k) = fail 10) := changeR_f h2
    rw [h2] at hA
    have HA := hid hA
    clear hA h1 h2
    go_enter Try.func31, Try.ntmps31
    go_wp2_with fail
    refine (HA.out _).mono ?_
    rintro e w' ⟨rfl, g, n, rfl⟩
    go_wp2_with fail
    exact bodyPost_ret (v := .tuple #[.agg #[.int .i64 0, .int .i64 0, .int .i64 0, .int .i64 0, .int .i64 0], .int .i64 10]) (by simp [results, Try.results31, go_sem]) rfl ⟨by rw [he.out]; rfl, (by repeat (first | exact Grew.refl _ | refine Grew.drewN ?_ _ | refine Grew.grow ?_ _ | refine Grew.alloc ?_ _ | refine Grew.drew ?_))⟩

  have he0 : (changeR (validB x k) (flipK x k) k) = ⟨flipK x k, k, 0⟩ := changeR_e h1
  rw [h1] at hA
  have HA := hid hA
  have hs := validB_small h1
  obtain ⟨⟨_, _⟩, ⟨_, _⟩, ⟨_, _⟩, ⟨_, _⟩⟩ := smallB_iff.1 hs
  have hk0 := (validB_k h1).1
  by_cases h3 : k % 2 = 0
  · have he : Hid ((changeR (validB x k) (flipK x k) k) = ⟨flipC x, k, 0⟩) := by
      unfold Hid
      rw [he0]
      unfold flipK
      rw [if_neg (by omega)]
    have h3' : (k % 2 == 0) = true := by simpa using h3
    clear hA h1 h3 he0 hs
    go_enter Try.func31, Try.ntmps31
    go_wp2_with fail
    refine (HA.out _).mono ?_
    rintro e w' ⟨rfl, g, n, rfl⟩
    go_wp2_with fail
    exact bodyPost_ret (v := .tuple #[.agg #[.int .i64 x.a, .int .i64 (-x.b), .int .i64 x.c, .int .i64 (-x.d), .int .i64 k], .int .i64 0]) (by simp [results, Try.results31, go_sem]) rfl ⟨by rw [he.out]; rfl, (by repeat (first | exact Grew.refl _ | refine Grew.drewN ?_ _ | refine Grew.grow ?_ _ | refine Grew.alloc ?_ _ | refine Grew.drew ?_))⟩
  · have he : Hid ((changeR (validB x k) (flipK x k) k) = changeR (validB (flipC x) k) (negC (flipC x)) k) := by
      unfold Hid
      rw [valid_flip, he0, changeR_e h1]
      unfold flipK
      rw [if_pos (by omega)]
    have h3' : (k % 2 == 0) = false := by simpa using h3
    clear hA h1 h3 he0 hs
    go_enter Try.func31, Try.ntmps31
    go_wp2_with fail
    refine (HA.out _).mono ?_
    rintro e w' ⟨rfl, g, n, rfl⟩
    go_wp2_with fail
    refine (rNeg_any (flipC x) k _).mono ?_
    rintro e w' ⟨rfl, g1, n1, rfl⟩
    go_wp2_with fail
    exact bodyPost_ret (v := .tuple #[.agg #[.int .i64 (changeR (validB (flipC x) k) (negC (flipC x)) k).x.a, .int .i64 (changeR (validB (flipC x) k) (negC (flipC x)) k).x.b, .int .i64 (changeR (validB (flipC x) k) (negC (flipC x)) k).x.c, .int .i64 (changeR (validB (flipC x) k) (negC (flipC x)) k).x.d, .int .i64 (changeR (validB (flipC x) k) (negC (flipC x)) k).k], .int .i64 (changeR (validB (flipC x) k) (negC (flipC x)) k).e]) (by simp [results, Try.results31, go_sem]) rfl ⟨by rw [he.out], (by repeat (first | exact Grew.refl _ | refine Grew.drewN ?_ _ | refine Grew.grow ?_ _ | refine Grew.alloc ?_ _ | refine Grew.drew ?_))⟩

end Go.Proofs.Ytmphmfhmcgpjcaa
