/- The program's neg and the functions that Flip and Turn hand on. Conditions: elements in range. -/
import Derived.Test.YtkglnnkghillpaaAmpG
import Derived.Test.YtkglnnkghillpaaAmpPlain
namespace Go.Proofs.Ytkglnnkghillpaa
open Go Go.RowKit Amp

set_option maxHeartbeats 800000 in
theorem turn1_any (x : C4) (k n : Int) (b : Nat) (w : World) (h : smallB x = true) (hb : b < w.heap.size) (hn : w.cell? ⟨b, 0, none⟩ = some (.int .i64 n)) :
    Calls Try.prog 122 #[.agg #[.int .i64 x.a, .int .i64 x.b, .int .i64 x.c, .int .i64 x.d, .int .i64 k], .pointer (some ⟨b, 0, none⟩)] w fun e w' => e = .returned (.agg #[.int .i64 (turnC (n % 8).toNat x).a, .int .i64 (turnC (n % 8).toNat x).b, .int .i64 (turnC (n % 8).toNat x).c, .int .i64 (turnC (n % 8).toNat x).d, .int .i64 k]) ∧ Grew w w' := by
  obtain ⟨m, hm⟩ : ∃ m : Nat, n % 8 = m := ⟨(n % 8).toNat, by omega⟩
  have hm8 : m < 8 := by omega
  have he : Hid ((n % 8).toNat = m) := by unfold Hid; omega
  go_enter Try.func122, Try.ntmps122
  go_wp2_with fail
  go_loopw [6] (fun i wr => ∃ (q : Nat) (y : C4), q ≤ m ∧ i = .int .i64 q ∧ smallB y = true ∧ Hid (turnC (m - q) y = turnC m x) ∧ Grew ((w.alloc (.cells #[.int .i64 y.a, .int .i64 y.b, .int .i64 y.c, .int .i64 y.d, .int .i64 k] 53)).alloc (.cells #[.int .i64 0, .int .i64 0, .int .i64 0, .int .i64 0, .int .i64 0] 53)) wr) (fun i _ => m - (intOf i).toNat)
  case atStart => exact ⟨0, x, Nat.zero_le _, rfl, h, rfl, Grew.refl _⟩
  case round =>
    obtain ⟨q, y, hq, rfl, hy, ht, g, n1, rfl⟩ := hrel
    obtain ⟨⟨_, _⟩, ⟨_, _⟩, ⟨_, _⟩, ⟨_, _⟩⟩ := smallB_iff.1 hy
    have hr := hid (small_rot hy)
    clear h hy
    by_cases hlt : q < m
    · go_wp2_with fail
      go_roundw
      case rel => exact ⟨q + 1, rotC y, by omega, by go_num, hr.out, by unfold Hid; rw [← ht.out, show m - q = (m - (q + 1)) + 1 by omega]; rfl, (by repeat (first | exact Grew.refl _ | refine Grew.drewN ?_ _ | refine Grew.grow ?_ _ | refine Grew.alloc ?_ _ | refine Grew.drew ?_))⟩
      case measure => simp [intOf]; omega
    · obtain rfl : q = m := by omega
      have ht' : Hid (y = turnC q x) := by have := ht.out; rw [Nat.sub_self] at this; exact this
      clear ht
      go_wp2_with fail
      exact bodyPost_ret (v := .agg #[.int .i64 y.a, .int .i64 y.b, .int .i64 y.c, .int .i64 y.d, .int .i64 k]) (by simp [results, Try.results122, go_sem]) rfl ⟨by rw [he.out, ← ht'.out], (by repeat (first | exact Grew.refl _ | refine Grew.drewN ?_ _ | refine Grew.grow ?_ _ | refine Grew.alloc ?_ _ | refine Grew.drew ?_))⟩

end Go.Proofs.Ytkglnnkghillpaa
