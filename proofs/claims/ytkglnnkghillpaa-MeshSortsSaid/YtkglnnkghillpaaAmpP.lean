/- Add and Sub of the program and of the reference. No condition. -/
import Derived.Test.YtkglnnkghillpaaAmpO
import Derived.Test.YtkglnnkghillpaaAmpI
import Derived.Test.YtkglnnkghillpaaAmpJ
namespace Go.Proofs.Ytkglnnkghillpaa
open Go Go.RowKit Amp

set_option maxHeartbeats 800000 in
theorem aAdd_any (x y : C4) (k j : Int) (w : World) :
    Calls Try.prog 120 #[.agg #[.int .i64 x.a, .int .i64 x.b, .int .i64 x.c, .int .i64 x.d, .int .i64 k], .agg #[.int .i64 y.a, .int .i64 y.b, .int .i64 y.c, .int .i64 y.d, .int .i64 j]] w fun e w' => e = .returned (.tuple #[.agg #[.int .i64 (addN x k y j).x.a, .int .i64 (addN x k y j).x.b, .int .i64 (addN x k y j).x.c, .int .i64 (addN x k y j).x.d, .int .i64 (addN x k y j).k], .int .i64 (addN x k y j).e]) ∧ Grew w w' := by
  by_cases hv : validB x k = true ∧ validB y j = true
  case neg =>
    have he : Hid ((addN x k y j) = fail 10) := if_neg hv
    have hb : (validB x k && validB y j) = false := by
      rw [Bool.eq_false_iff]; simpa using hv
    clear hv
    go_enter Try.func120, Try.ntmps120
    go_wp2_with fail
    refine (valid2_any x y k j _ _ _ _ (by first | exact blk_new_drewN (by simp [go_sem]) | exact blk_new (by simp [go_sem]))).mono ?_
    rintro e w1 ⟨rfl, g, n, rfl⟩
    rw [hb]
    clear hb
    go_wp2_with fail
    exact bodyPost_ret (v := .tuple #[.agg #[.int .i64 0, .int .i64 0, .int .i64 0, .int .i64 0, .int .i64 0], .int .i64 10]) (by simp [results, Try.results120, go_sem]) rfl ⟨by rw [he.out]; rfl, (by repeat (first | exact Grew.refl _ | refine Grew.drewN ?_ _ | refine Grew.grow ?_ _ | refine Grew.alloc ?_ _ | refine Grew.drew ?_))⟩
  have he : Hid ((addN x k y j) = (made (addK x k y j) (max k j))) := if_pos hv
  have hb : (validB x k && validB y j) = true := by simpa using hv
  obtain ⟨h1, h2⟩ := hv
  have sx := validB_small h1
  have sy := validB_small h2
  have kx := validB_k h1
  have ky := validB_k h2
  have HM := hid fun w => aresult_any (addK x k y j) (max k j) w (in4_addK sx sy kx ky) (by omega) (by omega)
  have HA := hid fun w => add_any x y k j w sx sy kx ky
  clear h1 h2 sx sy kx ky
  go_enter Try.func120, Try.ntmps120
  go_wp2_with fail
  refine (valid2_any x y k j _ _ _ _ (by first | exact blk_new_drewN (by simp [go_sem]) | exact blk_new (by simp [go_sem]))).mono ?_
  rintro e w1 ⟨rfl, g, n, rfl⟩
  rw [hb]
  clear hb
  go_wp2_with fail
  refine (HA.out _).mono ?_
  rintro e w' ⟨rfl, g1, n1, rfl⟩
  go_wp2_with fail
  refine (HM.out _).mono ?_
  rintro e w' ⟨rfl, g2, n2, rfl⟩
  go_wp2_with fail
  exact bodyPost_ret (v := .tuple #[.agg #[.int .i64 (made (addK x k y j) (max k j)).x.a, .int .i64 (made (addK x k y j) (max k j)).x.b, .int .i64 (made (addK x k y j) (max k j)).x.c, .int .i64 (made (addK x k y j) (max k j)).x.d, .int .i64 (made (addK x k y j) (max k j)).k], .int .i64 (made (addK x k y j) (max k j)).e]) (by simp [results, Try.results120, go_sem]) rfl ⟨by rw [he.out], (by repeat (first | exact Grew.refl _ | refine Grew.drewN ?_ _ | refine Grew.grow ?_ _ | refine Grew.alloc ?_ _ | refine Grew.drew ?_))⟩

set_option maxHeartbeats 800000 in
theorem rAdd_any (x y : C4) (k j : Int) (w : World) :
    Calls Try.prog 72 #[.agg #[.int .i64 x.a, .int .i64 x.b, .int .i64 x.c, .int .i64 x.d, .int .i64 k], .agg #[.int .i64 y.a, .int .i64 y.b, .int .i64 y.c, .int .i64 y.d, .int .i64 j]] w fun e w' => e = .returned (.tuple #[.agg #[.int .i64 (addN x k y j).x.a, .int .i64 (addN x k y j).x.b, .int .i64 (addN x k y j).x.c, .int .i64 (addN x k y j).x.d, .int .i64 (addN x k y j).k], .int .i64 (addN x k y j).e]) ∧ Grew w w' := by
  have hA := fun w => rValid_any x k w
  have hB := fun w => rValid_any y j w
  by_cases h1 : validB x k = true
  case neg =>
    have he : Hid ((addN x k y j) = fail 10) := if_neg fun h => h1 h.1
    rw [show validB x k = false by simpa using h1] at hA
    have HA := hid hA
    clear hA hB h1
    go_enter Try.func72, Try.ntmps72
    go_wp2_with fail
    refine (HA.out _).mono ?_
    rintro e w' ⟨rfl, g, n, rfl⟩
    go_wp2_with fail
    exact bodyPost_ret (v := .tuple #[.agg #[.int .i64 0, .int .i64 0, .int .i64 0, .int .i64 0, .int .i64 0], .int .i64 10]) (by simp [results, Try.results72, go_sem]) rfl ⟨by rw [he.out]; rfl, (by repeat (first | exact Grew.refl _ | refine Grew.drewN ?_ _ | refine Grew.grow ?_ _ | refine Grew.alloc ?_ _ | refine Grew.drew ?_))⟩

  rw [h1] at hA
  have HA := hid hA
  clear hA
  by_cases h2 : validB y j = true
  case neg =>
    have he : Hid ((addN x k y j) = fail 10) := if_neg fun h => h2 h.2
    rw [show validB y j = false by simpa using h2] at hB
    have HB := hid hB
    clear hB h1 h2
    go_enter Try.func72, Try.ntmps72
    go_wp2_with fail
    refine (HA.out _).mono ?_
    rintro e w' ⟨rfl, g, n, rfl⟩
    go_wp2_with fail
    refine (HB.out _).mono ?_
    rintro e w' ⟨rfl, g1, n1, rfl⟩
    go_wp2_with fail
    exact bodyPost_ret (v := .tuple #[.agg #[.int .i64 0, .int .i64 0, .int .i64 0, .int .i64 0, .int .i64 0], .int .i64 10]) (by simp [results, Try.results72, go_sem]) rfl ⟨by rw [he.out]; rfl, (by repeat (first | exact Grew.refl _ | refine Grew.drewN ?_ _ | refine Grew.grow ?_ _ | refine Grew.alloc ?_ _ | refine Grew.drew ?_))⟩
  rw [h2] at hB
  have HB := hid hB
  clear hB
  have he : Hid ((addN x k y j) = (made (addK x k y j) (max k j))) := if_pos ⟨h1, h2⟩
  have sx := validB_small h1
  have sy := validB_small h2
  have kx := validB_k h1
  have ky := validB_k h2
  have HC := hid fun w => combined_pos x y k j w sx sy kx ky
  have HM := hid fun w => made_any (addK x k y j) (max k j) w (in4_addK sx sy kx ky) (by omega) (by omega)
  clear h1 h2 sx sy kx ky
  go_enter Try.func72, Try.ntmps72
  go_wp2_with fail
  refine (HA.out _).mono ?_
  rintro e w' ⟨rfl, g, n, rfl⟩
  go_wp2_with fail
  refine (HB.out _).mono ?_
  rintro e w' ⟨rfl, g1, n1, rfl⟩
  go_wp2_with fail
  refine (HC.out _).mono ?_
  rintro e w' ⟨rfl, g2, n2, rfl⟩
  go_wp2_with fail
  refine (HM.out _).mono ?_
  rintro e w' ⟨rfl, g3, n3, rfl⟩
  go_wp2_with fail
  exact bodyPost_ret (v := .tuple #[.agg #[.int .i64 (made (addK x k y j) (max k j)).x.a, .int .i64 (made (addK x k y j) (max k j)).x.b, .int .i64 (made (addK x k y j) (max k j)).x.c, .int .i64 (made (addK x k y j) (max k j)).x.d, .int .i64 (made (addK x k y j) (max k j)).k], .int .i64 (made (addK x k y j) (max k j)).e]) (by simp [results, Try.results72, go_sem]) rfl ⟨by rw [he.out], (by repeat (first | exact Grew.refl _ | refine Grew.drewN ?_ _ | refine Grew.grow ?_ _ | refine Grew.alloc ?_ _ | refine Grew.drew ?_))⟩

end Go.Proofs.Ytkglnnkghillpaa
