/- Mul, Power and Real of the program and of the reference. No condition. -/
import Derived.Test.YtdomlnhgafielaaGreatDoorAmpF
import Derived.Test.YtdomlnhgafielaaGreatDoorAmpPlain
import Derived.Test.YtdomlnhgafielaaGreatDoorHouseB

namespace Go.Proofs.YtdomlnhgafielaaGreatDoor
open Go Go.RowKit Amp

@[go_sem] theorem eq5_k (x y : C4) (k : Int) : eq5 x k y k = eq4 x y := by simp [eq5]

set_option maxHeartbeats 800000 in
theorem aMul_any (x y : C4) (k j : Int) (w : World) :
    Calls Tryz.prog 95 #[.agg #[.int .i64 x.a, .int .i64 x.b, .int .i64 x.c, .int .i64 x.d, .int .i64 k], .agg #[.int .i64 y.a, .int .i64 y.b, .int .i64 y.c, .int .i64 y.d, .int .i64 j]] w fun e w' => e = .returned (.tuple #[.agg #[.int .i64 (mulN x k y j).x.a, .int .i64 (mulN x k y j).x.b, .int .i64 (mulN x k y j).x.c, .int .i64 (mulN x k y j).x.d, .int .i64 (mulN x k y j).k], .int .i64 (mulN x k y j).e]) ∧ Grew w w' := by
  by_cases hv : validB x k = true ∧ validB y j = true
  case neg =>
    have he : Hid (mulN x k y j = fail 10) := if_neg hv
    have hb : (validB x k && validB y j) = false := by
      rw [Bool.eq_false_iff]; simpa using hv
    clear hv
    go_enter Tryz.func95, Tryz.ntmps95
    go_wp2_with fail
    refine (valid2_any x y k j _ _ _ _ (by first | exact blk_new_drewN (by simp [go_sem]) | exact blk_new (by simp [go_sem]))).mono ?_
    rintro e w1 ⟨rfl, g, n, rfl⟩
    rw [hb]
    clear hb
    go_wp2_with fail
    exact bodyPost_ret (v := .tuple #[.agg #[.int .i64 0, .int .i64 0, .int .i64 0, .int .i64 0, .int .i64 0], .int .i64 10]) (by simp [results, Tryz.results95, go_sem]) rfl ⟨by rw [he.out]; rfl, (by repeat (first | exact Grew.refl _ | refine Grew.drewN ?_ _ | refine Grew.grow ?_ _ | refine Grew.alloc ?_ _ | refine Grew.drew ?_))⟩
  have he : Hid (mulN x k y j = made (mulC x y) (k + j)) := if_pos hv
  have hb : (validB x k && validB y j) = true := by simpa using hv
  obtain ⟨h1, h2⟩ := hv
  have sx := validB_small h1
  have sy := validB_small h2
  have kx := validB_k h1
  have ky := validB_k h2
  clear h1 h2
  go_enter Tryz.func95, Tryz.ntmps95
  go_wp2_with fail
  refine (valid2_any x y k j _ _ _ _ (by first | exact blk_new_drewN (by simp [go_sem]) | exact blk_new (by simp [go_sem]))).mono ?_
  rintro e w1 ⟨rfl, g, n, rfl⟩
  rw [hb]
  have hi := in4_mul sx sy
  have Hs := hid (And.intro sx sy)
  clear hb sx sy
  go_wp2_with fail
  refine (amul_any x y k j _ Hs.out.1 Hs.out.2 kx ky).mono ?_
  rintro e w' ⟨rfl, g1, n1, rfl⟩
  go_wp2_with fail
  refine (aresult_any (mulC x y) (k + j) _ hi (by omega) (by omega)).mono ?_
  rintro e w' ⟨rfl, g2, n2, rfl⟩
  go_wp2_with fail
  exact bodyPost_ret (v := .tuple #[.agg #[.int .i64 (made (mulC x y) (k + j)).x.a, .int .i64 (made (mulC x y) (k + j)).x.b, .int .i64 (made (mulC x y) (k + j)).x.c, .int .i64 (made (mulC x y) (k + j)).x.d, .int .i64 (made (mulC x y) (k + j)).k], .int .i64 (made (mulC x y) (k + j)).e]) (by simp [results, Tryz.results95, go_sem]) rfl ⟨by rw [he.out], (by repeat (first | exact Grew.refl _ | refine Grew.drewN ?_ _ | refine Grew.grow ?_ _ | refine Grew.alloc ?_ _ | refine Grew.drew ?_))⟩

end Go.Proofs.YtdomlnhgafielaaGreatDoor

/- The program's neg and the functions that Flip and Turn hand on. Conditions: elements in range. -/

namespace Go.Proofs.YtdomlnhgafielaaGreatDoor
open Go Go.RowKit Amp

set_option maxHeartbeats 800000 in
theorem turn1_any (x : C4) (k n : Int) (b : Nat) (w : World) (h : smallB x = true) (hb : b < w.heap.size) (hn : w.cell? ⟨b, 0, none⟩ = some (.int .i64 n)) :
    Calls Tryz.prog 93 #[.agg #[.int .i64 x.a, .int .i64 x.b, .int .i64 x.c, .int .i64 x.d, .int .i64 k], .pointer (some ⟨b, 0, none⟩)] w fun e w' => e = .returned (.agg #[.int .i64 (turnC (n % 8).toNat x).a, .int .i64 (turnC (n % 8).toNat x).b, .int .i64 (turnC (n % 8).toNat x).c, .int .i64 (turnC (n % 8).toNat x).d, .int .i64 k]) ∧ Grew w w' := by
  obtain ⟨m, hm⟩ : ∃ m : Nat, n % 8 = m := ⟨(n % 8).toNat, by omega⟩
  have hm8 : m < 8 := by omega
  have he : Hid ((n % 8).toNat = m) := by unfold Hid; omega
  go_enter Tryz.func93, Tryz.ntmps93
  go_wp2_with fail
  go_loopw [6] (fun i wr => ∃ (q : Nat) (y : C4), q ≤ m ∧ i = .int .i64 q ∧ smallB y = true ∧ Hid (turnC (m - q) y = turnC m x) ∧ Grew ((w.alloc (.cells #[.int .i64 y.a, .int .i64 y.b, .int .i64 y.c, .int .i64 y.d, .int .i64 k] 53)).alloc (.cells #[.int .i64 0, .int .i64 0, .int .i64 0, .int .i64 0, .int .i64 0] 53)) wr) (fun i _ => m - (intOf i).toNat)
  case atStart => exact ⟨0, x, Nat.zero_le _, rfl, h, rfl, Grew.refl _⟩
  case round =>
    obtain ⟨q, y, hq, rfl, hy, ht, g, n1, rfl⟩ := hrel
    obtain ⟨⟨_, _⟩, ⟨_, _⟩, ⟨_, _⟩, ⟨_, _⟩⟩ := smallB_iff.1 hy
    have hr := hid (small_rot hy)
    clear h hy
    by_cases hlt : q < m
    · go_wp2_with fail
      go_roundw
      case rel => exact ⟨q + 1, rotC y, by omega, by go_num, hr.out, by unfold Hid; rw [← ht.out, show m - q = (m - (q + 1)) + 1 by omega]; rfl, (by repeat (first | exact Grew.refl _ | refine Grew.drewN ?_ _ | refine Grew.grow ?_ _ | refine Grew.alloc ?_ _ | refine Grew.drew ?_))⟩
      case measure => simp [intOf]; omega
    · obtain rfl : q = m := by omega
      have ht' : Hid (y = turnC q x) := by have := ht.out; rw [Nat.sub_self] at this; exact this
      clear ht
      go_wp2_with fail
      exact bodyPost_ret (v := .agg #[.int .i64 y.a, .int .i64 y.b, .int .i64 y.c, .int .i64 y.d, .int .i64 k]) (by simp [results, Tryz.results93, go_sem]) rfl ⟨by rw [he.out, ← ht'.out], (by repeat (first | exact Grew.refl _ | refine Grew.drewN ?_ _ | refine Grew.grow ?_ _ | refine Grew.alloc ?_ _ | refine Grew.drew ?_))⟩

end Go.Proofs.YtdomlnhgafielaaGreatDoor
