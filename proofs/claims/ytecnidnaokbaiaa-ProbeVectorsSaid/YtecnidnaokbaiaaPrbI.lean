/- Layer 9: Mixed of the program and of the reference. Condition: the list lies in memory. -/
import Derived.Test.YtecnidnaokbaiaaPrbH
namespace Go.Proofs.Ytecnidnaokbaiaa
open Go Go.RowKit Prb

theorem mixN_bad {l : List Fr} (h : allF l = false) : mixN l = ⟨0, 0, 0, 90⟩ := if_neg (by rw [h]; exact Bool.false_ne_true)
theorem mixN_len {l : List Fr} (h : allF l = true) (k : ¬ (1 ≤ l.length ∧ l.length ≤ 100)) : mixN l = ⟨0, 0, 0, 2⟩ := (if_pos h).trans (if_neg k)
theorem mixN_big {l : List Fr} (h : allF l = true) (k : 1 ≤ l.length ∧ l.length ≤ 100) (t : ¬ okF (tot l) = true) : mixN l = ⟨0, 0, 0, 4⟩ := (if_pos h).trans ((if_pos k).trans (if_neg t))
theorem mixN_ok {l : List Fr} (h : allF l = true) (k : 1 ≤ l.length ∧ l.length ≤ 100) (t : okF (tot l) = true) : mixN l = ⟨(tot l).m, (tot l).x, (tot l).y, 0⟩ := (if_pos h).trans ((if_pos k).trans (if_pos t))

set_option maxHeartbeats 2000000 in
theorem aMixed_any (b off cap : Nat) (l : List Fr) (w : World) (hb : b < w.heap.size) (hl : l.length ≤ 9223372036854775807) (hc : FrsAt w b off l) :
    Calls Try.prog 17 #[.slice (some ⟨b, off, none⟩) l.length cap] w fun e w' => e = .returned (.tuple #[.agg #[.int .i64 (mixN l).m, .int .i64 (mixN l).x, .int .i64 (mixN l).y], .int .i64 (mixN l).e]) ∧ Grew w w' := by
  have HI := fun w' (hg : Grew w w') => hasF_any b off cap l w' (Nat.lt_of_lt_of_le hb hg.size) (by omega) (hc.grew hb hg)
  have HC := hid hc
  have hb1 := fun m0 : Nat => Nat.lt_add_right m0 (hb)
  have hb2 := fun m0 m1 : Nat => Nat.lt_add_right m1 (hb1 m0)
  have hb3 := fun m0 m1 m2 : Nat => Nat.lt_add_right m2 (hb2 m0 m1)
  have hb4 := fun m0 m1 m2 m3 : Nat => Nat.lt_add_right m3 (hb3 m0 m1 m2)
  have hb5 := fun m0 m1 m2 m3 m4 : Nat => Nat.lt_add_right m4 (hb4 m0 m1 m2 m3)
  clear hc
  by_cases ha : allF l = true
  case neg =>
    have hf : allF l = false := by simpa using ha
    have he := hid (mixN_bad hf)
    rw [hf] at HI
    replace HI := hid HI
    clear ha hf
    go_enter Try.func17, Try.ntmps17
    go_wp2_with fail
    refine (HI.out _ (by repeat (first | exact Grew.refl _ | refine Grew.drewN ?_ _ | refine Grew.grow ?_ _ | refine Grew.alloc ?_ _ | refine Grew.drew ?_))).mono ?_
    rintro e w' ⟨rfl, g, n, rfl⟩
    go_wp2_with fail
    exact bodyPost_ret (v := .tuple #[.agg #[.int .i64 0, .int .i64 0, .int .i64 0], .int .i64 90]) (by simp [results, Try.results17, go_sem]) rfl ⟨by rw [he.out], (by repeat (first | exact Grew.refl _ | refine Grew.drewN ?_ _ | refine Grew.grow ?_ _ | refine Grew.alloc ?_ _ | refine Grew.drew ?_))⟩
  rw [ha] at HI
  replace HI := hid HI
  by_cases hk1 : 1 ≤ l.length
  case neg =>
    have he := hid (mixN_len ha fun h => hk1 h.1)
    have hk2 : (l.length : Int) < 1 := by omega
    clear ha hk1
    go_enter Try.func17, Try.ntmps17
    go_wp2_with fail
    refine (HI.out _ (by repeat (first | exact Grew.refl _ | refine Grew.drewN ?_ _ | refine Grew.grow ?_ _ | refine Grew.alloc ?_ _ | refine Grew.drew ?_))).mono ?_
    rintro e w' ⟨rfl, g, n, rfl⟩
    go_wp2_with fail
    refine (between_low _ _ _ _ hk2).mono ?_
    rintro e w' ⟨rfl, g1, n1, rfl⟩
    go_wp2_with fail
    exact bodyPost_ret (v := .tuple #[.agg #[.int .i64 0, .int .i64 0, .int .i64 0], .int .i64 2]) (by simp [results, Try.results17, go_sem]) rfl ⟨by rw [he.out], (by repeat (first | exact Grew.refl _ | refine Grew.drewN ?_ _ | refine Grew.grow ?_ _ | refine Grew.alloc ?_ _ | refine Grew.drew ?_))⟩
  by_cases hk2 : l.length ≤ 100
  case neg =>
    have he := hid (mixN_len ha fun h => hk2 h.2)
    have hk3 : (100 : Int) < (l.length : Int) := by omega
    clear ha hk2
    go_enter Try.func17, Try.ntmps17
    go_wp2_with fail
    refine (HI.out _ (by repeat (first | exact Grew.refl _ | refine Grew.drewN ?_ _ | refine Grew.grow ?_ _ | refine Grew.alloc ?_ _ | refine Grew.drew ?_))).mono ?_
    rintro e w' ⟨rfl, g, n, rfl⟩
    go_wp2_with fail
    refine (between_high _ _ _ _ hk3).mono ?_
    rintro e w' ⟨rfl, g1, n1, rfl⟩
    go_wp2_with fail
    exact bodyPost_ret (v := .tuple #[.agg #[.int .i64 0, .int .i64 0, .int .i64 0], .int .i64 2]) (by simp [results, Try.results17, go_sem]) rfl ⟨by rw [he.out], (by repeat (first | exact Grew.refl _ | refine Grew.drewN ?_ _ | refine Grew.grow ?_ _ | refine Grew.alloc ?_ _ | refine Grew.drew ?_))⟩
  have HA := hid ha
  have HT := hid (tot_bd ha)
  have hbg := mixN_big ha ⟨hk1, hk2⟩
  have hok := mixN_ok ha ⟨hk1, hk2⟩
  have Hbg := hid hbg
  have Hok := hid hok
  clear ha hbg hok
  go_enter Try.func17, Try.ntmps17
  go_wp2_with fail
  refine (HI.out _ (by repeat (first | exact Grew.refl _ | refine Grew.drewN ?_ _ | refine Grew.grow ?_ _ | refine Grew.alloc ?_ _ | refine Grew.drew ?_))).mono ?_
  rintro e w' ⟨rfl, g, n, rfl⟩
  go_wp2_with fail
  refine (between_yes _ _ _ _ (by omega) (by omega)).mono ?_
  rintro e w' ⟨rfl, g1, n1, rfl⟩
  go_wp2_with fail
  go_loopw [17] (fun q wr => ∃ (i : Nat) (s : Fr), i ≤ l.length ∧ q = .int .i64 i ∧ Hid (s = tot (l.take i)) ∧ Grew ((((w.alloc (.cells #[.int .i64 0, .int .i64 0, .int .i64 0] 24)).grow (g ++ g1))).alloc (.cells #[.int .i64 s.m, .int .i64 s.x, .int .i64 s.y] 24)) wr) (fun q _ => l.length - (intOf q).toNat)
  case atStart => exact ⟨0, ⟨0, 0, 0⟩, Nat.zero_le _, rfl, rfl, (by repeat (first | exact Grew.refl _ | refine Grew.drewN ?_ _ | refine Grew.grow ?_ _ | refine Grew.alloc ?_ _ | refine Grew.drew ?_))⟩
  case round =>
    obtain ⟨i, s, hi, rfl, hs, gg, nn, rfl⟩ := hrel
    obtain ⟨⟨q1, q2⟩, ⟨q3, q4⟩, q5, q6⟩ := HT.out i hi
    rw [← hs.out] at q1 q2 q3 q4 q5 q6
    by_cases hlt : i < l.length
    · obtain ⟨z, hz⟩ : ∃ z, l[i]? = some z := ⟨l[i], List.getElem?_eq_getElem hlt⟩
      obtain ⟨c0, c1, c2⟩ := HC.out i z hz
      obtain ⟨⟨_, _⟩, ⟨_, _⟩, ⟨_, _⟩, _⟩ := vldB_iff.1 (allF_at hz HA.out)
      have hst : Hid (addF s z = tot (l.take (i + 1))) := by unfold Hid; rw [hs.out, tot_step hz]
      clear hz
      go_wp2_with fail
      go_roundw
      case rel => exact ⟨i + 1, addF s z, by omega, by go_num, hst, (by repeat (first | exact Grew.refl _ | refine Grew.drewN ?_ _ | refine Grew.grow ?_ _ | refine Grew.alloc ?_ _ | refine Grew.drew ?_))⟩
      case measure => simp [intOf]; omega
    · obtain rfl : i = l.length := by omega
      have hst : Hid (s = tot l) := by have := hs.out; rw [List.take_length] at this; exact this
      have HV := fun w => aVldF_any s.m s.x s.y w
      by_cases ht : okF s = true
      · have he := hid (Hok.out (by rw [← hst.out]; exact ht))
        rw [← hst.out] at he
        rw [show vldB s.m s.x s.y = true from ht] at HV
        replace HV := hid HV
        clear ht hs
        go_wp2_with fail
        refine (HV.out _).mono ?_
        rintro e w' ⟨rfl, g2, n2, rfl⟩
        go_wp2_with fail
        exact bodyPost_ret (v := .tuple #[.agg #[.int .i64 s.m, .int .i64 s.x, .int .i64 s.y], .int .i64 0]) (by simp [results, Try.results17, go_sem]) rfl ⟨by rw [he.out], (by repeat (first | exact Grew.refl _ | refine Grew.drewN ?_ _ | refine Grew.grow ?_ _ | refine Grew.alloc ?_ _ | refine Grew.drew ?_))⟩
      · have he := hid (Hbg.out (by rw [← hst.out]; exact ht))
        rw [show vldB s.m s.x s.y = false by simpa [okF] using ht] at HV
        replace HV := hid HV
        clear ht hs
        go_wp2_with fail
        refine (HV.out _).mono ?_
        rintro e w' ⟨rfl, g2, n2, rfl⟩
        go_wp2_with fail
        exact bodyPost_ret (v := .tuple #[.agg #[.int .i64 0, .int .i64 0, .int .i64 0], .int .i64 4]) (by simp [results, Try.results17, go_sem]) rfl ⟨by rw [he.out], (by repeat (first | exact Grew.refl _ | refine Grew.drewN ?_ _ | refine Grew.grow ?_ _ | refine Grew.alloc ?_ _ | refine Grew.drew ?_))⟩

end Go.Proofs.Ytecnidnaokbaiaa
