/- Neg, Conj, Flip, Turn and Halve of the program. No condition. -/
import Derived.Test.YtkglnnkghillpaaAmpJ
import Derived.Test.YtkglnnkghillpaaHouseB
import Derived.Test.YtkglnnkghillpaaAmpPlain
namespace Go.Proofs.Ytkglnnkghillpaa
open Go Go.RowKit Amp

set_option maxHeartbeats 800000 in
theorem changed_turn (x : C4) (k : Int) (m : Int) (b : Nat) (w : World) (hb : b < w.heap.size) (hn : w.cell? ⟨b, 0, none⟩ = some (.int .i64 m)) :
    Calls Try.prog 121 #[.agg #[.int .i64 x.a, .int .i64 x.b, .int .i64 x.c, .int .i64 x.d, .int .i64 k], .func (.func 122) #[] #[.pointer (some ⟨b, 0, none⟩)]] w fun e w' => e = .returned (.tuple #[.agg #[.int .i64 (changeR (validB x k) (turnC (m % 8).toNat x) k).x.a, .int .i64 (changeR (validB x k) (turnC (m % 8).toNat x) k).x.b, .int .i64 (changeR (validB x k) (turnC (m % 8).toNat x) k).x.c, .int .i64 (changeR (validB x k) (turnC (m % 8).toNat x) k).x.d, .int .i64 (changeR (validB x k) (turnC (m % 8).toNat x) k).k], .int .i64 (changeR (validB x k) (turnC (m % 8).toNat x) k).e]) ∧ Grew w w' := by
  have hA := fun w => aValid_any x k w
  by_cases h1 : validB x k = true
  case neg =>
    have h2 : validB x k = false := by simpa using h1
    have he : Hid (changeR (validB x k) (turnC (m % 8).toNat x) k = fail 10) := changeR_f h2
    rw [h2] at hA
    have HA := hid hA
    clear hA h1 h2
    go_enter Try.func121, Try.ntmps121
    go_wp2_with fail
    refine (HA.out _).mono ?_
    rintro e w' ⟨rfl, g, n, rfl⟩
    go_wp2_with fail
    exact bodyPost_ret (v := .tuple #[.agg #[.int .i64 0, .int .i64 0, .int .i64 0, .int .i64 0, .int .i64 0], .int .i64 10]) (by simp [results, Try.results121, go_sem]) rfl ⟨by rw [he.out]; rfl, (by repeat (first | exact Grew.refl _ | refine Grew.drewN ?_ _ | refine Grew.grow ?_ _ | refine Grew.alloc ?_ _ | refine Grew.drew ?_))⟩

  have he : Hid (changeR (validB x k) (turnC (m % 8).toNat x) k = ⟨(turnC (m % 8).toNat x), k, 0⟩) := changeR_e h1
  rw [h1] at hA
  have HA := hid hA
  have HS := hid (validB_small h1)
  have hk0 := (validB_k h1).1
  clear hA h1
  go_enter Try.func121, Try.ntmps121
  go_wp2_with fail
  refine (HA.out _).mono ?_
  rintro e w' ⟨rfl, g, n, rfl⟩
  go_wp2_with fail
  refine (turn1_any x k m b _ HS.out (by simp [go_sem]; omega) ((Grew.cell (a := w) (by repeat (first | exact Grew.refl _ | refine Grew.drewN ?_ _ | refine Grew.grow ?_ _ | refine Grew.alloc ?_ _ | refine Grew.drew ?_)) hb 0).trans hn)).mono ?_
  rintro e w' ⟨rfl, g1, n1, rfl⟩
  go_wp2_with fail
  exact bodyPost_ret (v := .tuple #[.agg #[.int .i64 (turnC (m % 8).toNat x).a, .int .i64 (turnC (m % 8).toNat x).b, .int .i64 (turnC (m % 8).toNat x).c, .int .i64 (turnC (m % 8).toNat x).d, .int .i64 k], .int .i64 0]) (by simp [results, Try.results121, go_sem]) rfl ⟨by rw [he.out], (by repeat (first | exact Grew.refl _ | refine Grew.drewN ?_ _ | refine Grew.grow ?_ _ | refine Grew.alloc ?_ _ | refine Grew.drew ?_))⟩

set_option maxHeartbeats 800000 in
theorem aTurn_any (x : C4) (k m : Int) (w : World) :
    Calls Try.prog 104 #[.agg #[.int .i64 x.a, .int .i64 x.b, .int .i64 x.c, .int .i64 x.d, .int .i64 k], .int .i64 m] w fun e w' => e = .returned (.tuple #[.agg #[.int .i64 (changeR (validB x k) (turnC (m % 8).toNat x) k).x.a, .int .i64 (changeR (validB x k) (turnC (m % 8).toNat x) k).x.b, .int .i64 (changeR (validB x k) (turnC (m % 8).toNat x) k).x.c, .int .i64 (changeR (validB x k) (turnC (m % 8).toNat x) k).x.d, .int .i64 (changeR (validB x k) (turnC (m % 8).toNat x) k).k], .int .i64 (changeR (validB x k) (turnC (m % 8).toNat x) k).e]) ∧ Grew w w' := by
  go_enter Try.func104, Try.ntmps104
  go_wp2_with fail
  refine (changed_turn x k m _ _ (by simp [go_sem]) (by simp [go_sem])).mono ?_
  rintro e w' ⟨rfl, g, n, rfl⟩
  go_wp2_with fail
  exact bodyPost_ret (v := .tuple #[.agg #[.int .i64 (changeR (validB x k) (turnC (m % 8).toNat x) k).x.a, .int .i64 (changeR (validB x k) (turnC (m % 8).toNat x) k).x.b, .int .i64 (changeR (validB x k) (turnC (m % 8).toNat x) k).x.c, .int .i64 (changeR (validB x k) (turnC (m % 8).toNat x) k).x.d, .int .i64 (changeR (validB x k) (turnC (m % 8).toNat x) k).k], .int .i64 (changeR (validB x k) (turnC (m % 8).toNat x) k).e]) (by simp [results, Try.results104, go_sem]) rfl ⟨rfl, (by repeat (first | exact Grew.refl _ | refine Grew.drewN ?_ _ | refine Grew.grow ?_ _ | refine Grew.alloc ?_ _ | refine Grew.drew ?_))⟩

end Go.Proofs.Ytkglnnkghillpaa
