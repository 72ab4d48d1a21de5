/- The walk of AmpMirrors: it returns true. No condition. -/
import Derived.Test.YtmphmfhmcgpjcaaAmpK
import Derived.Test.YtmphmfhmcgpjcaaAmpI
import Derived.Test.YtmphmfhmcgpjcaaAmpAwake
import Derived.Test.YtmphmfhmcgpjcaaAmpAlgC
import Derived.Test.YtmphmfhmcgpjcaaHouseE
namespace Go.Proofs.Ytmphmfhmcgpjcaa
open Go Go.RowKit Amp

set_option maxHeartbeats 800000 in
theorem ok_neg (x : C4) (k : Int) (w : World) (h : validB x k = true) : Calls Try.prog 26 #[.agg #[.int .i64 x.a, .int .i64 x.b, .int .i64 x.c, .int .i64 x.d, .int .i64 k]] w fun e w' => e = .returned (.tuple #[.agg #[.int .i64 (negC x).a, .int .i64 (negC x).b, .int .i64 (negC x).c, .int .i64 (negC x).d, .int .i64 k], .int .i64 0]) ∧ Grew w w' := by
  have := aNeg_any x k w
  rwa [changeR_e h] at this
set_option maxHeartbeats 800000 in
theorem twice_neg (x : C4) (k : Int) (w : World) (h : validB x k = true) :
    Calls Try.prog 42 #[.agg #[.int .i64 x.a, .int .i64 x.b, .int .i64 x.c, .int .i64 x.d, .int .i64 k], .func (.func 26) #[] #[]] w fun e w' => e = .returned (.bool true) ∧ Grew w w' := by
  have H1 := hid fun w => ok_neg x k w h
  have H2 := hid fun w => ok_neg (negC x) k w (by rw [valid_neg]; exact h)
  rw [neg_neg'] at H2
  clear h
  go_enter Try.func42, Try.ntmps42
  go_wp2_with fail
  refine (H1.out _).mono ?_
  rintro e w' ⟨rfl, g0, n0, rfl⟩
  go_wp2_with fail
  refine (H2.out _).mono ?_
  rintro e w' ⟨rfl, g1, n1, rfl⟩
  go_wp2_with fail
  go_ret
  exact ⟨rfl, (by repeat (first | exact Grew.refl _ | refine Grew.drewN ?_ _ | refine Grew.grow ?_ _ | refine Grew.alloc ?_ _ | refine Grew.drew ?_))⟩

set_option maxHeartbeats 800000 in
theorem ok_conj (x : C4) (k : Int) (w : World) (h : validB x k = true) : Calls Try.prog 28 #[.agg #[.int .i64 x.a, .int .i64 x.b, .int .i64 x.c, .int .i64 x.d, .int .i64 k]] w fun e w' => e = .returned (.tuple #[.agg #[.int .i64 (conjC x).a, .int .i64 (conjC x).b, .int .i64 (conjC x).c, .int .i64 (conjC x).d, .int .i64 k], .int .i64 0]) ∧ Grew w w' := by
  have := aConj_any x k w
  rwa [changeR_e h] at this
set_option maxHeartbeats 800000 in
theorem twice_conj (x : C4) (k : Int) (w : World) (h : validB x k = true) :
    Calls Try.prog 42 #[.agg #[.int .i64 x.a, .int .i64 x.b, .int .i64 x.c, .int .i64 x.d, .int .i64 k], .func (.func 28) #[] #[]] w fun e w' => e = .returned (.bool true) ∧ Grew w w' := by
  have H1 := hid fun w => ok_conj x k w h
  have H2 := hid fun w => ok_conj (conjC x) k w (by rw [valid_conj]; exact h)
  rw [conj_conj] at H2
  clear h
  go_enter Try.func42, Try.ntmps42
  go_wp2_with fail
  refine (H1.out _).mono ?_
  rintro e w' ⟨rfl, g0, n0, rfl⟩
  go_wp2_with fail
  refine (H2.out _).mono ?_
  rintro e w' ⟨rfl, g1, n1, rfl⟩
  go_wp2_with fail
  go_ret
  exact ⟨rfl, (by repeat (first | exact Grew.refl _ | refine Grew.drewN ?_ _ | refine Grew.grow ?_ _ | refine Grew.alloc ?_ _ | refine Grew.drew ?_))⟩

set_option maxHeartbeats 800000 in
theorem ok_flip (x : C4) (k : Int) (w : World) (h : validB x k = true) : Calls Try.prog 30 #[.agg #[.int .i64 x.a, .int .i64 x.b, .int .i64 x.c, .int .i64 x.d, .int .i64 k]] w fun e w' => e = .returned (.tuple #[.agg #[.int .i64 (flipK x k).a, .int .i64 (flipK x k).b, .int .i64 (flipK x k).c, .int .i64 (flipK x k).d, .int .i64 k], .int .i64 0]) ∧ Grew w w' := by
  have := aFlip_any x k w
  rwa [changeR_e h] at this
set_option maxHeartbeats 800000 in
theorem twice_flip (x : C4) (k : Int) (w : World) (h : validB x k = true) :
    Calls Try.prog 42 #[.agg #[.int .i64 x.a, .int .i64 x.b, .int .i64 x.c, .int .i64 x.d, .int .i64 k], .func (.func 30) #[] #[]] w fun e w' => e = .returned (.bool true) ∧ Grew w w' := by
  have H1 := hid fun w => ok_flip x k w h
  have H2 := hid fun w => ok_flip (flipK x k) k w (by rw [valid_flipK]; exact h)
  rw [flipK_flipK] at H2
  clear h
  go_enter Try.func42, Try.ntmps42
  go_wp2_with fail
  refine (H1.out _).mono ?_
  rintro e w' ⟨rfl, g0, n0, rfl⟩
  go_wp2_with fail
  refine (H2.out _).mono ?_
  rintro e w' ⟨rfl, g1, n1, rfl⟩
  go_wp2_with fail
  go_ret
  exact ⟨rfl, (by repeat (first | exact Grew.refl _ | refine Grew.drewN ?_ _ | refine Grew.grow ?_ _ | refine Grew.alloc ?_ _ | refine Grew.drew ?_))⟩

set_option maxRecDepth 100000 in
set_option maxHeartbeats 4000000 in
theorem ampMirrors_walk (x : C4) (k : Int) (y : C4) (j : Int) (n : Int) (w : World) :
    Calls Try.prog 8 #[.agg #[.int .i64 x.a, .int .i64 x.b, .int .i64 x.c, .int .i64 x.d, .int .i64 k], .agg #[.int .i64 y.a, .int .i64 y.b, .int .i64 y.c, .int .i64 y.d, .int .i64 j], .int .i64 n] w fun e w' => e = .returned (.bool true) ∧ Grew w w' := by
  have hA := fun w => aValid_any x k w
  have hB := fun w => aValid_any y j w
  by_cases hx : validB x k = true
  case neg =>
    rw [show validB x k = false by simpa using hx] at hA
    have HA := hid hA
    clear hA hB hx
    go_enter Try.func8, Try.ntmps8
    go_wp2_with fail
    refine (HA.out _).mono ?_
    rintro e w' ⟨rfl, g0, n0, rfl⟩
    go_wp2_with fail
    refine (awake_any _).mono ?_
    rintro e w' ⟨rfl, g1, n1, rfl⟩
    go_wp2_with fail
    go_ret
    exact ⟨rfl, (by repeat (first | exact Grew.refl _ | refine Grew.drewN ?_ _ | refine Grew.grow ?_ _ | refine Grew.alloc ?_ _ | refine Grew.drew ?_))⟩

  rw [hx] at hA
  have HA := hid hA
  by_cases hy : validB y j = true
  case neg =>
    rw [show validB y j = false by simpa using hy] at hB
    have HB := hid hB
    clear hA hB hx hy
    go_enter Try.func8, Try.ntmps8
    go_wp2_with fail
    refine (HA.out _).mono ?_
    rintro e w' ⟨rfl, g0, n0, rfl⟩
    go_wp2_with fail
    refine (HB.out _).mono ?_
    rintro e w' ⟨rfl, g1, n1, rfl⟩
    go_wp2_with fail
    refine (awake_any _).mono ?_
    rintro e w' ⟨rfl, g2, n2, rfl⟩
    go_wp2_with fail
    go_ret
    exact ⟨rfl, (by repeat (first | exact Grew.refl _ | refine Grew.drewN ?_ _ | refine Grew.grow ?_ _ | refine Grew.alloc ?_ _ | refine Grew.drew ?_))⟩

  rw [hy] at hB
  have HB := hid hB
  have T1 := hid fun w => twice_neg x k w hx
  have T2 := hid fun w => twice_conj x k w hx
  have T3 := hid fun w => twice_flip x k w hx
  have U8 := hid fun w => aTurn_any x k 8 w
  rw [changeR_e hx, show turnC ((8 : Int) % 8).toNat x = x from rfl] at U8
  have U4 := hid fun w => aTurn_any x k 4 w
  rw [changeR_e hx, show turnC ((4 : Int) % 8).toNat x = negC x from rfl] at U4
  have UN := hid fun w => ok_neg x k w hx
  have US := hid fun w => aTurn_any x k (n.tmod 1000) w
  rw [changeR_e hx] at US
  have UB := hid fun w => aTurn_any (turnC (n.tmod 1000 % 8).toNat x) k (-n.tmod 1000) w
  rw [changeR_e (by rw [valid_turn]; exact hx), turn_back] at UB
  have hm1 : -1000 < n.tmod 1000 := Int.lt_tmod_of_pos n (by decide)
  have hm2 : n.tmod 1000 < 1000 := Int.tmod_lt_of_pos n (by decide)
  have UM := hid fun w => aMul_any x y k j w
  rcases mulN_cases x y k j with ⟨ea, he0, he⟩ | ⟨kn, jn, i, s, rfl, rfl, _, _, ha, hs, hsame⟩
  · rw [he] at UM
    have he0' : (ea != 0) = true := by simpa using he0
    simp only [fail, zero] at UM
    clear hA hB hx hy he he0
    go_enter Try.func8, Try.ntmps8
    go_wp2_with fail
    refine (HA.out _).mono ?_
    rintro e w' ⟨rfl, g0, n0, rfl⟩
    go_wp2_with fail
    refine (HB.out _).mono ?_
    rintro e w' ⟨rfl, g1, n1, rfl⟩
    go_wp2_with fail
    refine (T1.out _).mono ?_
    rintro e w' ⟨rfl, g2, n2, rfl⟩
    go_wp2_with fail
    refine (T2.out _).mono ?_
    rintro e w' ⟨rfl, g3, n3, rfl⟩
    go_wp2_with fail
    refine (T3.out _).mono ?_
    rintro e w' ⟨rfl, g4, n4, rfl⟩
    go_wp2_with fail
    refine (U8.out _).mono ?_
    rintro e w' ⟨rfl, g5, n5, rfl⟩
    go_wp2_with fail
    refine (U4.out _).mono ?_
    rintro e w' ⟨rfl, g6, n6, rfl⟩
    go_wp2_with fail
    refine (UN.out _).mono ?_
    rintro e w' ⟨rfl, g7, n7, rfl⟩
    go_wp2_with fail
    refine (US.out _).mono ?_
    rintro e w' ⟨rfl, g8, n8, rfl⟩
    go_wp2_with fail
    refine (UB.out _).mono ?_
    rintro e w' ⟨rfl, g9, n9, rfl⟩
    go_wp2_with fail
    refine (UM.out _).mono ?_
    rintro e w' ⟨rfl, g10, n10, rfl⟩
    go_wp2_with fail
    refine (awake_any _).mono ?_
    rintro e w' ⟨rfl, g11, n11, rfl⟩
    go_wp2_with fail
    go_ret
    exact ⟨rfl, (by repeat (first | exact Grew.refl _ | refine Grew.drewN ?_ _ | refine Grew.grow ?_ _ | refine Grew.alloc ?_ _ | refine Grew.drew ?_))⟩

  rw [ha] at UM
  have C1 := hid fun w => ok_conj x kn w hx
  have C2 := hid fun w => ok_conj y jn w hy
  have C3 := hid fun w => ok_conj s i w hs
  have C4' := hid fun w => aMul_any (conjC x) (conjC y) kn jn w
  rw [mul_conj hx hy hs hsame] at C4'
  have F1 := hid fun w => ok_flip x kn w hx
  have F2 := hid fun w => ok_flip y jn w hy
  have F3 := hid fun w => ok_flip s i w hs
  have F4 := hid fun w => aMul_any (flipK x kn) (flipK y jn) kn jn w
  rw [mul_flip hx hy hs hsame] at F4
  clear hA hB hx hy hs hsame ha
  go_enter Try.func8, Try.ntmps8
  go_wp2_with fail
  refine (HA.out _).mono ?_
  rintro e w' ⟨rfl, g0, n0, rfl⟩
  go_wp2_with fail
  refine (HB.out _).mono ?_
  rintro e w' ⟨rfl, g1, n1, rfl⟩
  go_wp2_with fail
  refine (T1.out _).mono ?_
  rintro e w' ⟨rfl, g2, n2, rfl⟩
  go_wp2_with fail
  refine (T2.out _).mono ?_
  rintro e w' ⟨rfl, g3, n3, rfl⟩
  go_wp2_with fail
  refine (T3.out _).mono ?_
  rintro e w' ⟨rfl, g4, n4, rfl⟩
  go_wp2_with fail
  refine (U8.out _).mono ?_
  rintro e w' ⟨rfl, g5, n5, rfl⟩
  go_wp2_with fail
  refine (U4.out _).mono ?_
  rintro e w' ⟨rfl, g6, n6, rfl⟩
  go_wp2_with fail
  refine (UN.out _).mono ?_
  rintro e w' ⟨rfl, g7, n7, rfl⟩
  go_wp2_with fail
  refine (US.out _).mono ?_
  rintro e w' ⟨rfl, g8, n8, rfl⟩
  go_wp2_with fail
  refine (UB.out _).mono ?_
  rintro e w' ⟨rfl, g9, n9, rfl⟩
  go_wp2_with fail
  refine (UM.out _).mono ?_
  rintro e w' ⟨rfl, g10, n10, rfl⟩
  go_wp2_with fail
  refine wp_loop_rounds 3 ?_
  simp only [rounds_succ]
  go_wp2_with fail
  refine (C1.out _).mono ?_
  rintro e w' ⟨rfl, g11, n11, rfl⟩
  go_wp2_with fail
  refine (C2.out _).mono ?_
  rintro e w' ⟨rfl, g12, n12, rfl⟩
  go_wp2_with fail
  refine (C3.out _).mono ?_
  rintro e w' ⟨rfl, g13, n13, rfl⟩
  go_wp2_with fail
  refine (C4'.out _).mono ?_
  rintro e w' ⟨rfl, g14, n14, rfl⟩
  go_wp2_with fail
  simp only [rounds_succ]
  go_wp2_with fail
  refine (F1.out _).mono ?_
  rintro e w' ⟨rfl, g15, n15, rfl⟩
  go_wp2_with fail
  refine (F2.out _).mono ?_
  rintro e w' ⟨rfl, g16, n16, rfl⟩
  go_wp2_with fail
  refine (F3.out _).mono ?_
  rintro e w' ⟨rfl, g17, n17, rfl⟩
  go_wp2_with fail
  refine (F4.out _).mono ?_
  rintro e w' ⟨rfl, g18, n18, rfl⟩
  go_wp2_with fail
  simp only [rounds_succ]
  go_wp2_with fail
  refine (awake_any _).mono ?_
  rintro e w' ⟨rfl, g19, n19, rfl⟩
  go_wp2_with fail
  go_ret
  exact ⟨rfl, (by repeat (first | exact Grew.refl _ | refine Grew.drewN ?_ _ | refine Grew.grow ?_ _ | refine Grew.alloc ?_ _ | refine Grew.drew ?_))⟩

end Go.Proofs.Ytmphmfhmcgpjcaa
