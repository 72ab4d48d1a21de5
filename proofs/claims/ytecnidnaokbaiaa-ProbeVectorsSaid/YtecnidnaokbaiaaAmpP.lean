/- Add and Sub of the program and of the reference. No condition. -/
import Derived.Test.YtecnidnaokbaiaaAmpO
import Derived.Test.YtecnidnaokbaiaaAmpI
import Derived.Test.YtecnidnaokbaiaaAmpJ
namespace Go.Proofs.Ytecnidnaokbaiaa
open Go Go.RowKit Amp

set_option maxHeartbeats 800000 in
theorem aAdd_any (x y : C4) (k j : Int) (w : World) :
    Calls Try.prog 23 #[.agg #[.int .i64 x.a, .int .i64 x.b, .int .i64 x.c, .int .i64 x.d, .int .i64 k], .agg #[.int .i64 y.a, .int .i64 y.b, .int .i64 y.c, .int .i64 y.d, .int .i64 j]] w fun e w' => e = .returned (.tuple #[.agg #[.int .i64 (addN x k y j).x.a, .int .i64 (addN x k y j).x.b, .int .i64 (addN x k y j).x.c, .int .i64 (addN x k y j).x.d, .int .i64 (addN x k y j).k], .int .i64 (addN x k y j).e]) ∧ Grew w w' := by
  by_cases hv : validB x k = true ∧ validB y j = true
  case neg =>
    have he : Hid ((addN x k y j) = fail 10) := if_neg hv
    have hb : (validB x k && validB y j) = false := by
      rw [Bool.eq_false_iff]; simpa using hv
    clear hv
    go_enter Try.func23, Try.ntmps23
    go_wp2_with fail
    refine (valid2_any x y k j _ _ _ _ (by first | exact blk_new_drewN (by simp [go_sem]) | exact blk_new (by simp [go_sem]))).mono ?_
    rintro e w1 ⟨rfl, g, n, rfl⟩
    rw [hb]
    clear hb
    go_wp2_with fail
    exact bodyPost_ret (v := .tuple #[.agg #[.int .i64 0, .int .i64 0, .int .i64 0, .int .i64 0, .int .i64 0], .int .i64 10]) (by simp [results, Try.results23, go_sem]) rfl ⟨by rw [he.out]; rfl, (by repeat (first | exact Grew.refl _ | refine Grew.drewN ?_ _ | refine Grew.grow ?_ _ | refine Grew.alloc ?_ _ | refine Grew.drew ?_))⟩
  have he : Hid ((addN x k y j) = (made (addK x k y j) (max k j))) := if_pos hv
  have hb : (validB x k && validB y j) = true := by simpa using hv
  obtain ⟨h1, h2⟩ := hv
  have sx := validB_small h1
  have sy := validB_small h2
  have kx := validB_k h1
  have ky := validB_k h2
  have HM := hid fun w => aresult_any (addK x k y j) (max k j) w (in4_addK sx sy kx ky) (by omega) (by omega)
  have HA := hid fun w => add_any x y k j w sx sy kx ky
  clear h1 h2 sx sy kx ky
  go_enter Try.func23, Try.ntmps23
  go_wp2_with fail
  refine (valid2_any x y k j _ _ _ _ (by first | exact blk_new_drewN (by simp [go_sem]) | exact blk_new (by simp [go_sem]))).mono ?_
  rintro e w1 ⟨rfl, g, n, rfl⟩
  rw [hb]
  clear hb
  go_wp2_with fail
  refine (HA.out _).mono ?_
  rintro e w' ⟨rfl, g1, n1, rfl⟩
  go_wp2_with fail
  refine (HM.out _).mono ?_
  rintro e w' ⟨rfl, g2, n2, rfl⟩
  go_wp2_with fail
  exact bodyPost_ret (v := .tuple #[.agg #[.int .i64 (made (addK x k y j) (max k j)).x.a, .int .i64 (made (addK x k y j) (max k j)).x.b, .int .i64 (made (addK x k y j) (max k j)).x.c, .int .i64 (made (addK x k y j) (max k j)).x.d, .int .i64 (made (addK x k y j) (max k j)).k], .int .i64 (made (addK x k y j) (max k j)).e]) (by simp [results, Try.results23, go_sem]) rfl ⟨by rw [he.out], (by repeat (first | exact Grew.refl _ | refine Grew.drewN ?_ _ | refine Grew.grow ?_ _ | refine Grew.alloc ?_ _ | refine Grew.drew ?_))⟩

end Go.Proofs.Ytecnidnaokbaiaa
