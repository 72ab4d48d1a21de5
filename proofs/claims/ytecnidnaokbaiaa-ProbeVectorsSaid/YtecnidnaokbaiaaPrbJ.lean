/- Layer 9: Mixed of the reference, and of both over an empty list; the walk of ProbeVectors. Condition: the list lies in memory. -/
import Derived.Test.YtecnidnaokbaiaaPrbI
import Derived.Test.YtecnidnaokbaiaaPrbG
namespace Go.Proofs.Ytecnidnaokbaiaa
open Go Go.RowKit Prb

set_option maxHeartbeats 2000000 in
theorem rMixed_any (b off cap : Nat) (l : List Fr) (w : World) (hb : b < w.heap.size) (hl : l.length ≤ 9223372036854775807) (hc : FrsAt w b off l) :
    Calls Try.prog 18 #[.slice (some ⟨b, off, none⟩) l.length cap] w fun e w' => e = .returned (.tuple #[.agg #[.int .i64 (mixN l).m, .int .i64 (mixN l).x, .int .i64 (mixN l).y], .int .i64 (mixN l).e]) ∧ Grew w w' := by
  have HC := hid hc
  have hb1 := fun m0 : Nat => Nat.lt_add_right m0 (hb)
  have hb2 := fun m0 m1 : Nat => Nat.lt_add_right m1 (hb1 m0)
  have hb3 := fun m0 m1 m2 : Nat => Nat.lt_add_right m2 (hb2 m0 m1)
  have hb4 := fun m0 m1 m2 m3 : Nat => Nat.lt_add_right m3 (hb3 m0 m1 m2)
  have hb5 := fun m0 m1 m2 m3 m4 : Nat => Nat.lt_add_right m4 (hb4 m0 m1 m2 m3)
  clear hc
  have Hbad := hid (mixN_bad (l := l))
  have Hlen := hid (mixN_len (l := l))
  have Hbg := hid (mixN_big (l := l))
  have Hok := hid (mixN_ok (l := l))
  go_enter Try.func18, Try.ntmps18
  go_wp2_with fail
  go_loopw [9] (fun q wr => ∃ (i : Nat) (p0 p1 p2 : Int), i ≤ l.length ∧ q = .int .i64 i ∧ Hid (allF (l.take i) = true) ∧ Hid (i ≤ 100 → (⟨p0, p1, p2⟩ : Fr) = tot (l.take i)) ∧ Grew ((w.alloc (.cells #[.int .i64 0, .int .i64 0, .int .i64 0] 24)).alloc (.cells #[.int .i64 p0, .int .i64 p1, .int .i64 p2] 24)) wr) (fun q _ => l.length - (intOf q).toNat)
  case atStart => exact ⟨0, 0, 0, 0, Nat.zero_le _, rfl, rfl, fun _ => rfl, (by repeat (first | exact Grew.refl _ | refine Grew.drewN ?_ _ | refine Grew.grow ?_ _ | refine Grew.alloc ?_ _ | refine Grew.drew ?_))⟩
  case round =>
    obtain ⟨i, p0, p1, p2, hi, rfl, hp, hs, gg, nn, rfl⟩ := hrel
    by_cases hlt : i < l.length
    · obtain ⟨z, hz⟩ : ∃ z, l[i]? = some z := ⟨l[i], List.getElem?_eq_getElem hlt⟩
      obtain ⟨c0, c1, c2⟩ := HC.out i z hz
      have Hz := hid hz
      have HV := fun w => rVldF_any z.m z.x z.y w
      by_cases hv : okF z = true
      · rw [show vldB z.m z.x z.y = true from hv] at HV
        replace HV := hid HV
        have hnx := hid (allF_step hz hv hp.out)
        obtain ⟨⟨_, _⟩, ⟨_, _⟩, ⟨_, _⟩, _⟩ := vldB_iff.1 hv
        by_cases h100 : i < 100
        · have hbd := tot_bd hp.out i (by simp; omega)
          have hsi := hs.out (by omega)
          rw [List.take_take, Nat.min_self, ← hsi] at hbd
          obtain ⟨⟨_, _⟩, ⟨_, _⟩, _, _⟩ := hbd
          have hst : Hid (i + 1 ≤ 100 → (⟨p0 + z.m, p1 + z.x, p2 + z.y⟩ : Fr) = tot (l.take (i + 1))) := fun _ => by rw [tot_step hz, ← hsi]; rfl
          replace hsi := hid hsi
          clear hz hv
          go_wp2_with fail
          refine (HV.out _).mono ?_
          rintro e w' ⟨rfl, g1, n1, rfl⟩
          go_wp2_with fail
          go_roundw
          case rel => exact ⟨i + 1, p0 + z.m, p1 + z.x, p2 + z.y, by omega, by go_num, hnx, hst, (by repeat (first | exact Grew.refl _ | refine Grew.drewN ?_ _ | refine Grew.grow ?_ _ | refine Grew.alloc ?_ _ | refine Grew.drew ?_))⟩
          case measure => simp [intOf]; omega
        · clear hz hv
          go_wp2_with fail
          refine (HV.out _).mono ?_
          rintro e w' ⟨rfl, g1, n1, rfl⟩
          go_wp2_with fail
          go_roundw
          case rel => exact ⟨i + 1, _, _, _, by omega, by go_num, hnx, fun h => by omega, (by repeat (first | exact Grew.refl _ | refine Grew.drewN ?_ _ | refine Grew.grow ?_ _ | refine Grew.alloc ?_ _ | refine Grew.drew ?_))⟩
          case measure => simp [intOf]; omega
      · have hf : okF z = false := by simpa using hv
        rw [show vldB z.m z.x z.y = false from hf] at HV
        replace HV := hid HV
        have he := hid (Hbad.out (allF_cut hz hf))
        clear hz hv hf
        go_wp2_with fail
        refine (HV.out _).mono ?_
        rintro e w' ⟨rfl, g1, n1, rfl⟩
        go_wp2_with fail
        exact bodyPost_ret (v := .tuple #[.agg #[.int .i64 0, .int .i64 0, .int .i64 0], .int .i64 90]) (by simp [results, Try.results18, go_sem]) rfl ⟨by rw [he.out], (by repeat (first | exact Grew.refl _ | refine Grew.drewN ?_ _ | refine Grew.grow ?_ _ | refine Grew.alloc ?_ _ | refine Grew.drew ?_))⟩
    · obtain rfl : i = l.length := by omega
      have ha : allF l = true := by have := hp.out; rw [List.take_length] at this; exact this
      by_cases hk : 1 ≤ l.length ∧ l.length ≤ 100
      case neg =>
        have he := hid (Hlen.out ha hk)
        replace ha := hid ha
        have hk' : l.length < 1 ∨ 100 < l.length := by omega
        clear hk
        rcases hk' with hk | hk
        · go_wp2_with fail
          exact bodyPost_ret (v := .tuple #[.agg #[.int .i64 0, .int .i64 0, .int .i64 0], .int .i64 2]) (by simp [results, Try.results18, go_sem]) rfl ⟨by rw [he.out], (by repeat (first | exact Grew.refl _ | refine Grew.drewN ?_ _ | refine Grew.grow ?_ _ | refine Grew.alloc ?_ _ | refine Grew.drew ?_))⟩
        · have hk1 : decide ((l.length : Int) < 1) = false := decide_eq_false (by omega)
          go_wp2_with fail
          exact bodyPost_ret (v := .tuple #[.agg #[.int .i64 0, .int .i64 0, .int .i64 0], .int .i64 2]) (by simp [results, Try.results18, go_sem]) rfl ⟨by rw [he.out], (by repeat (first | exact Grew.refl _ | refine Grew.drewN ?_ _ | refine Grew.grow ?_ _ | refine Grew.alloc ?_ _ | refine Grew.drew ?_))⟩
      have hst : (⟨p0, p1, p2⟩ : Fr) = tot l := by have := hs.out hk.2; rw [List.take_length] at this; exact this
      have HV := fun w => rVldF_any p0 p1 p2 w
      by_cases ht : okF ⟨p0, p1, p2⟩ = true
      · have he := Hok.out ha hk (by rw [← hst]; exact ht)
        rw [← hst] at he
        replace he := hid he
        rw [show vldB p0 p1 p2 = true from ht] at HV
        replace HV := hid HV
        obtain ⟨_, _⟩ := hk
        replace ha := hid ha
        clear ht hs hst
        go_wp2_with fail
        refine (HV.out _).mono ?_
        rintro e w' ⟨rfl, g2, n2, rfl⟩
        go_wp2_with fail
        exact bodyPost_ret (v := .tuple #[.agg #[.int .i64 p0, .int .i64 p1, .int .i64 p2], .int .i64 0]) (by simp [results, Try.results18, go_sem]) rfl ⟨by rw [he.out], (by repeat (first | exact Grew.refl _ | refine Grew.drewN ?_ _ | refine Grew.grow ?_ _ | refine Grew.alloc ?_ _ | refine Grew.drew ?_))⟩
      · have he := hid (Hbg.out ha hk (by rw [← hst]; exact ht))
        rw [show vldB p0 p1 p2 = false by simpa [okF] using ht] at HV
        replace HV := hid HV
        obtain ⟨_, _⟩ := hk
        replace ha := hid ha
        clear ht hs hst
        go_wp2_with fail
        refine (HV.out _).mono ?_
        rintro e w' ⟨rfl, g2, n2, rfl⟩
        go_wp2_with fail
        exact bodyPost_ret (v := .tuple #[.agg #[.int .i64 0, .int .i64 0, .int .i64 0], .int .i64 4]) (by simp [results, Try.results18, go_sem]) rfl ⟨by rw [he.out], (by repeat (first | exact Grew.refl _ | refine Grew.drewN ?_ _ | refine Grew.grow ?_ _ | refine Grew.alloc ?_ _ | refine Grew.drew ?_))⟩

end Go.Proofs.Ytecnidnaokbaiaa
