/- The program's neg and the functions that Flip and Turn hand on. Conditions: elements in range. -/
import Derived.Test.YtmphmfhmcgpjcaaAmpG
import Derived.Test.YtmphmfhmcgpjcaaAmpPlainD
namespace Go.Proofs.Ytmphmfhmcgpjcaa
open Go Go.RowKit Amp

set_option maxHeartbeats 800000 in
theorem neg_any (x : C4) (k : Int) (w : World) (h : smallB x = true) :
    Calls Try.prog 62 #[.agg #[.int .i64 x.a, .int .i64 x.b, .int .i64 x.c, .int .i64 x.d, .int .i64 k]] w fun e w' => e = .returned (.agg #[.int .i64 (negC x).a, .int .i64 (negC x).b, .int .i64 (negC x).c, .int .i64 (negC x).d, .int .i64 k]) ∧ Grew w w' := by
  obtain ⟨⟨_, _⟩, ⟨_, _⟩, ⟨_, _⟩, ⟨_, _⟩⟩ := smallB_iff.1 h
  clear h
  go_enter Try.func62, Try.ntmps62
  go_wp2_with fail
  refine wp_loop_rounds 5 ?_
  iterate 5 (simp only [rounds_succ]; go_wp2_with fail)
  exact bodyPost_ret (v := .agg #[.int .i64 (-x.a), .int .i64 (-x.b), .int .i64 (-x.c), .int .i64 (-x.d), .int .i64 k]) (by simp [results, Try.results62, go_sem]) rfl ⟨rfl, (by repeat (first | exact Grew.refl _ | refine Grew.drewN ?_ _ | refine Grew.grow ?_ _ | refine Grew.alloc ?_ _ | refine Grew.drew ?_))⟩

set_option maxHeartbeats 800000 in
theorem flip1_any (x : C4) (k : Int) (w : World) (h : smallB x = true) (hk : 0 ≤ k) :
    Calls Try.prog 63 #[.agg #[.int .i64 x.a, .int .i64 x.b, .int .i64 x.c, .int .i64 x.d, .int .i64 k]] w fun e w' => e = .returned (.agg #[.int .i64 (flipK x k).a, .int .i64 (flipK x k).b, .int .i64 (flipK x k).c, .int .i64 (flipK x k).d, .int .i64 k]) ∧ Grew w w' := by
  have hs := small_flip h
  obtain ⟨⟨_, _⟩, ⟨_, _⟩, ⟨_, _⟩, ⟨_, _⟩⟩ := smallB_iff.1 h
  clear h
  by_cases h1 : k % 2 = 1
  · have he : Hid (flipK x k = negC (flipC x)) := if_pos h1
    have h1' : (k % 2 == 1) = true := by simpa using h1
    have HN := hid fun w => neg_any (flipC x) k w hs
    clear h1 hs
    go_enter Try.func63, Try.ntmps63
    go_wp2_with fail
    refine (HN.out _).mono ?_
    rintro e w' ⟨rfl, g, n, rfl⟩
    go_wp2_with fail
    exact bodyPost_ret (v := .agg #[.int .i64 (negC (flipC x)).a, .int .i64 (negC (flipC x)).b, .int .i64 (negC (flipC x)).c, .int .i64 (negC (flipC x)).d, .int .i64 k]) (by simp [results, Try.results63, go_sem]) rfl ⟨by rw [he.out], (by repeat (first | exact Grew.refl _ | refine Grew.drewN ?_ _ | refine Grew.grow ?_ _ | refine Grew.alloc ?_ _ | refine Grew.drew ?_))⟩
  · have he : Hid (flipK x k = flipC x) := if_neg h1
    have h1' : (k % 2 == 1) = false := by simpa using h1
    clear h1 hs
    go_enter Try.func63, Try.ntmps63
    go_wp2_with fail
    exact bodyPost_ret (v := .agg #[.int .i64 x.a, .int .i64 (-x.b), .int .i64 x.c, .int .i64 (-x.d), .int .i64 k]) (by simp [results, Try.results63, go_sem]) rfl ⟨by rw [he.out]; rfl, (by repeat (first | exact Grew.refl _ | refine Grew.drewN ?_ _ | refine Grew.grow ?_ _ | refine Grew.alloc ?_ _ | refine Grew.drew ?_))⟩

set_option maxHeartbeats 800000 in
theorem turn1_any (x : C4) (k n : Int) (b : Nat) (w : World) (h : smallB x = true) (hb : b < w.heap.size) (hn : w.cell? ⟨b, 0, none⟩ = some (.int .i64 n)) :
    Calls Try.prog 64 #[.agg #[.int .i64 x.a, .int .i64 x.b, .int .i64 x.c, .int .i64 x.d, .int .i64 k], .pointer (some ⟨b, 0, none⟩)] w fun e w' => e = .returned (.agg #[.int .i64 (turnC (n % 8).toNat x).a, .int .i64 (turnC (n % 8).toNat x).b, .int .i64 (turnC (n % 8).toNat x).c, .int .i64 (turnC (n % 8).toNat x).d, .int .i64 k]) ∧ Grew w w' := by
  obtain ⟨m, hm⟩ : ∃ m : Nat, n % 8 = m := ⟨(n % 8).toNat, by omega⟩
  have hm8 : m < 8 := by omega
  have he : Hid ((n % 8).toNat = m) := by unfold Hid; omega
  go_enter Try.func64, Try.ntmps64
  go_wp2_with fail
  go_loopw [6] (fun i wr => ∃ (q : Nat) (y : C4), q ≤ m ∧ i = .int .i64 q ∧ smallB y = true ∧ Hid (turnC (m - q) y = turnC m x) ∧ Grew ((w.alloc (.cells #[.int .i64 y.a, .int .i64 y.b, .int .i64 y.c, .int .i64 y.d, .int .i64 k] 24)).alloc (.cells #[.int .i64 0, .int .i64 0, .int .i64 0, .int .i64 0, .int .i64 0] 24)) wr) (fun i _ => m - (intOf i).toNat)
  case atStart => exact ⟨0, x, Nat.zero_le _, rfl, h, rfl, Grew.refl _⟩
  case round =>
    obtain ⟨q, y, hq, rfl, hy, ht, g, n1, rfl⟩ := hrel
    obtain ⟨⟨_, _⟩, ⟨_, _⟩, ⟨_, _⟩, ⟨_, _⟩⟩ := smallB_iff.1 hy
    have hr := hid (small_rot hy)
    clear h hy
    by_cases hlt : q < m
    · go_wp2_with fail
      go_roundw
      case rel => exact ⟨q + 1, rotC y, by omega, by go_num, hr.out, by unfold Hid; rw [← ht.out, show m - q = (m - (q + 1)) + 1 by omega]; rfl, (by repeat (first | exact Grew.refl _ | refine Grew.drewN ?_ _ | refine Grew.grow ?_ _ | refine Grew.alloc ?_ _ | refine Grew.drew ?_))⟩
      case measure => simp [intOf]; omega
    · obtain rfl : q = m := by omega
      have ht' : Hid (y = turnC q x) := by have := ht.out; rw [Nat.sub_self] at this; exact this
      clear ht
      go_wp2_with fail
      exact bodyPost_ret (v := .agg #[.int .i64 y.a, .int .i64 y.b, .int .i64 y.c, .int .i64 y.d, .int .i64 k]) (by simp [results, Try.results64, go_sem]) rfl ⟨by rw [he.out, ← ht'.out], (by repeat (first | exact Grew.refl _ | refine Grew.drewN ?_ _ | refine Grew.grow ?_ _ | refine Grew.alloc ?_ _ | refine Grew.drew ?_))⟩

end Go.Proofs.Ytmphmfhmcgpjcaa
