/- Sum of the program and of the reference, over a list that lies in memory. Condition: the list lies there. -/
import Derived.Test.YtmphmfhmcgpjcaaAmpP
import Derived.Test.YtmphmfhmcgpjcaaAmpPlainF
namespace Go.Proofs.Ytmphmfhmcgpjcaa
open Go Go.RowKit Amp

set_option maxHeartbeats 800000 in
theorem aSum_any (b off cap : Nat) (l : List Num) (w : World) (hb : b < w.heap.size) (hl : l.length ≤ 9223372036854775807) (hc : NumsAt w b off l) :
    Calls Try.prog 36 #[.slice (some ⟨b, off, none⟩) l.length cap] w fun e w' => e = .returned (.tuple #[.agg #[.int .i64 (sumN l).x.a, .int .i64 (sumN l).x.b, .int .i64 (sumN l).x.c, .int .i64 (sumN l).x.d, .int .i64 (sumN l).k], .int .i64 (sumN l).e]) ∧ Grew w w' := by
  have HC := hid hc
  have hb1 := fun m0 : Nat => Nat.lt_add_right m0 (hb)
  have hb2 := fun m0 m1 : Nat => Nat.lt_add_right m1 (hb1 m0)
  have hb3 := fun m0 m1 m2 : Nat => Nat.lt_add_right m2 (hb2 m0 m1)
  have hb4 := fun m0 m1 m2 m3 : Nat => Nat.lt_add_right m3 (hb3 m0 m1 m2)
  have hb5 := fun m0 m1 m2 m3 m4 : Nat => Nat.lt_add_right m4 (hb4 m0 m1 m2 m3)
  have hb6 := fun m0 m1 m2 m3 m4 m5 : Nat => Nat.lt_add_right m5 (hb5 m0 m1 m2 m3 m4)
  have hb7 := fun m0 m1 m2 m3 m4 m5 m6 : Nat => Nat.lt_add_right m6 (hb6 m0 m1 m2 m3 m4 m5)
  have hb8 := fun m0 m1 m2 m3 m4 m5 m6 m7 : Nat => Nat.lt_add_right m7 (hb7 m0 m1 m2 m3 m4 m5 m6)
  by_cases h1 : 1000 < l.length
  · have he : Hid (sumN l = fail 2) := if_pos h1
    clear hc
    go_enter Try.func36, Try.ntmps36
    go_wp2_with fail
    exact bodyPost_ret (v := .tuple #[.agg #[.int .i64 0, .int .i64 0, .int .i64 0, .int .i64 0, .int .i64 0], .int .i64 2]) (by simp [results, Try.results36, go_sem]) rfl ⟨by rw [he.out]; rfl, (by repeat (first | exact Grew.refl _ | refine Grew.drewN ?_ _ | refine Grew.grow ?_ _ | refine Grew.alloc ?_ _ | refine Grew.drew ?_))⟩
  by_cases h2 : allV l = true
  case neg =>
    have he : Hid (sumN l = fail 10) := (if_neg h1).trans (if_neg h2)
    have h3 : allV l = false := by simpa using h2
    clear hc h2
    go_enter Try.func36, Try.ntmps36
    go_wp2_with fail
    refine (valid_any b off cap l _ (by simp [go_sem]; omega) (by omega) ?_).mono ?_
    · intro i z hz
      obtain ⟨c0, c1, c2, c3, c4⟩ := HC.out i z hz
      have hgr := fun j => Grew.cell (w := w.alloc (.cells #[.int .i64 0, .int .i64 0, .int .i64 0, .int .i64 0, .int .i64 0] 24)) ((Grew.refl w).alloc _) hb j
      exact ⟨(hgr _).trans c0, (hgr _).trans c1, (hgr _).trans c2, (hgr _).trans c3, (hgr _).trans c4⟩
    rintro e w' ⟨rfl, g0, n0, rfl⟩
    rw [h3]
    clear h3
    go_wp2_with fail
    exact bodyPost_ret (v := .tuple #[.agg #[.int .i64 0, .int .i64 0, .int .i64 0, .int .i64 0, .int .i64 0], .int .i64 10]) (by simp [results, Try.results36, go_sem]) rfl ⟨by rw [he.out]; rfl, (by repeat (first | exact Grew.refl _ | refine Grew.drewN ?_ _ | refine Grew.grow ?_ _ | refine Grew.alloc ?_ _ | refine Grew.drew ?_))⟩
  have he : Hid (sumN l = sumL zero 0 l) := (if_neg h1).trans (if_pos h2)
  have HV := hid h2
  clear hc
  go_enter Try.func36, Try.ntmps36
  go_wp2_with fail
  refine (valid_any b off cap l _ (by simp [go_sem]; omega) (by omega) ?_).mono ?_
  · intro i z hz
    obtain ⟨c0, c1, c2, c3, c4⟩ := HC.out i z hz
    have hgr := fun j => Grew.cell (w := w.alloc (.cells #[.int .i64 0, .int .i64 0, .int .i64 0, .int .i64 0, .int .i64 0] 24)) ((Grew.refl w).alloc _) hb j
    exact ⟨(hgr _).trans c0, (hgr _).trans c1, (hgr _).trans c2, (hgr _).trans c3, (hgr _).trans c4⟩
  rintro e w' ⟨rfl, g0, n0, rfl⟩
  rw [h2]
  clear h2
  go_wp2_with fail
  go_loopw [21] (fun n wr => ∃ (i : Nat) (s : C4) (k : Int), i ≤ l.length ∧ n = .int .i64 i ∧ Hid (validB s k = true) ∧ Hid (sumL s k (l.drop i) = sumL zero 0 l) ∧ Grew (((w.alloc (.cells #[.int .i64 0, .int .i64 0, .int .i64 0, .int .i64 0, .int .i64 0] 24)).grow g0).alloc (.cells #[.int .i64 s.a, .int .i64 s.b, .int .i64 s.c, .int .i64 s.d, .int .i64 k] 24)) wr) (fun n _ => l.length - (intOf n).toNat)
  case atStart => exact ⟨0, zero, 0, Nat.zero_le _, rfl, valid_zero, rfl, (by repeat (first | exact Grew.refl _ | refine Grew.drewN ?_ _ | refine Grew.grow ?_ _ | refine Grew.alloc ?_ _ | refine Grew.drew ?_))⟩
  case round =>
    obtain ⟨i, s, k, hi, rfl, hv, hs, g, n, rfl⟩ := hrel
    by_cases hlt : i < l.length
    · obtain ⟨z, hz⟩ : ∃ z, l[i]? = some z := ⟨l[i], List.getElem?_eq_getElem hlt⟩
      obtain ⟨c0, c1, c2, c3, c4⟩ := HC.out i z hz
      have vz := valid_of HV.out hz
      have ss := validB_small hv.out
      have sz := validB_small vz
      have ks := validB_k hv.out
      have kz := validB_k vz
      have Hz := hid hz
      have HA := hid fun w => add_any s z.x k z.k w ss sz ks kz
      have HM := hid fun w => aresult_any (addK s k z.x z.k) (max k z.k) w (in4_addK ss sz ks kz) (by omega) (by omega)
      clear hz vz ss sz ks kz
      go_wp2_with fail
      refine (HA.out _).mono ?_
      rintro e w' ⟨rfl, g1, n1, rfl⟩
      go_wp2_with fail
      refine (HM.out _).mono ?_
      rintro e w' ⟨rfl, g2, n2, rfl⟩
      rcases made_cases (addK s k z.x z.k) (max k z.k) with ⟨y, j, hm, hy⟩ | hm
      · have Hs : Hid (sumL y j (l.drop (i + 1)) = sumL zero 0 l) := (sumL_step Hz.out hm).symm.trans hs.out
        have Hy := hid hy
        rw [hm]
        clear hm hy
        go_wp2_with fail
        go_roundw
        case rel => exact ⟨i + 1, y, j, by omega, by go_num, Hy.out, Hs, (by repeat (first | exact Grew.refl _ | refine Grew.drewN ?_ _ | refine Grew.grow ?_ _ | refine Grew.alloc ?_ _ | refine Grew.drew ?_))⟩
        case measure => simp [intOf]; omega
      · have Hs : Hid (sumL zero 0 l = fail 4) := hs.out.symm.trans (sumL_fail Hz.out hm)
        rw [hm]
        clear hm
        simp only [fail, zero]
        go_wp2_with fail
        exact bodyPost_ret (v := .tuple #[.agg #[.int .i64 0, .int .i64 0, .int .i64 0, .int .i64 0, .int .i64 0], .int .i64 4]) (by simp [results, Try.results36, go_sem]) rfl ⟨by rw [he.out, Hs.out]; rfl, (by repeat (first | exact Grew.refl _ | refine Grew.drewN ?_ _ | refine Grew.grow ?_ _ | refine Grew.alloc ?_ _ | refine Grew.drew ?_))⟩
    · obtain rfl : i = l.length := by omega
      have Hs : Hid (sumL zero 0 l = ⟨s, k, 0⟩) := hs.out.symm.trans sumL_end
      clear hs
      go_wp2_with fail
      exact bodyPost_ret (v := .tuple #[.agg #[.int .i64 s.a, .int .i64 s.b, .int .i64 s.c, .int .i64 s.d, .int .i64 k], .int .i64 0]) (by simp [results, Try.results36, go_sem]) rfl ⟨by rw [he.out, Hs.out], (by repeat (first | exact Grew.refl _ | refine Grew.drewN ?_ _ | refine Grew.grow ?_ _ | refine Grew.alloc ?_ _ | refine Grew.drew ?_))⟩

end Go.Proofs.Ytmphmfhmcgpjcaa
