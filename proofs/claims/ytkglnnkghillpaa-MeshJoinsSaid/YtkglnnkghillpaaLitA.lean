/- Layer 3: which lists of numbers are vectors; copies of lists. Condition: the list lies in memory. -/
import Derived.Test.YtkglnnkghillpaaMshLit
import Derived.Test.YtkglnnkghillpaaMshU
namespace Go.Proofs.Ytkglnnkghillpaa
open Go Go.RowKit Amp Msh

set_option maxHeartbeats 800000 in
theorem litP_any (z : Num) (w : World) :
    Calls Try.prog 65 #[.agg #[.int .i64 z.x.a, .int .i64 z.x.b, .int .i64 z.x.c, .int .i64 z.x.d, .int .i64 z.k]] w fun e w' => e = .returned (.bool (!validB z.x z.k)) ∧ Grew w w' := by
  have HV := hid fun w => aValid_any z.x z.k w
  obtain ⟨b, hb⟩ : ∃ b, validB z.x z.k = b := ⟨_, rfl⟩
  rw [hb] at HV ⊢
  clear hb
  go_enter Try.func65, Try.ntmps65
  go_wp2_with fail
  refine (HV.out _).mono ?_
  rintro e w' ⟨rfl, g, n, rfl⟩
  go_wp2_with fail
  go_ret
  exact ⟨rfl, (by repeat (first | exact Grew.refl _ | refine Grew.drewN ?_ _ | refine Grew.grow ?_ _ | refine Grew.alloc ?_ _ | refine Grew.drew ?_))⟩

set_option maxHeartbeats 800000 in
theorem idxL_any (a0 : Option Addr) (k0 : Nat) (l : List Num) (w : World) (hl : l.length ≤ 9223372036854775807) (h0 : Nms w a0 l) :
    Calls Try.prog 97 #[.slice a0 l.length k0, .func (.func 65) #[] #[]] w (IdxI (allVld l) w) := by
  have H0 := hid h0
  clear h0
  go_enter Try.func97, Try.ntmps97
  go_wp2_with fail
  go_loopw [8] (fun n wr => ∃ i : Nat, i ≤ l.length ∧ n = .int .i64 i ∧ Hid (allVld (l.take i) = true) ∧ Grew w wr) (fun n _ => l.length - (intOf n).toNat)
  case atStart => exact ⟨0, Nat.zero_le _, rfl, rfl, Grew.refl _⟩
  case round =>
    obtain ⟨i, hi, rfl, hp, g, n, rfl⟩ := hrel
    by_cases hlt : i < l.length
    · obtain ⟨z, hz⟩ : ∃ z, l[i]? = some z := ⟨l[i], List.getElem?_eq_getElem hlt⟩
      obtain ⟨b, off, rfl, hb, c0, c1, c2, c3, c4⟩ := H0.out.cells hz
      have hb1 := fun m0 : Nat => Nat.lt_add_right m0 (hb)
      have hb2 := fun m0 m1 : Nat => Nat.lt_add_right m1 (hb1 m0)
      have hb3 := fun m0 m1 m2 : Nat => Nat.lt_add_right m2 (hb2 m0 m1)
      have Hz := hid hz
      clear hz
      go_wp2_with fail
      refine (litP_any z _).mono ?_
      rintro e w' ⟨rfl, g1, n1, rfl⟩
      by_cases hv : validB z.x z.k = true
      · rw [hv]
        have Hv := hid hv
        clear hv
        go_wp2_with fail
        go_roundw
        case rel => exact ⟨i + 1, by omega, by go_num, allVld_step Hz.out Hv.out hp.out, (by repeat (first | exact Grew.refl _ | refine Grew.drewN ?_ _ | refine Grew.grow ?_ _ | refine Grew.alloc ?_ _ | refine Grew.drew ?_))⟩
        case measure => simp [intOf]; omega
      · have Hv : Hid (allVld l = false) := allVld_cut Hz.out (by simpa using hv)
        rw [show validB z.x z.k = false by simpa using hv]
        clear hv
        go_wp2_with fail
        go_ret
        exact ⟨⟨i, rfl, by rw [Hv.out]; simp⟩, (by repeat (first | exact Grew.refl _ | refine Grew.drewN ?_ _ | refine Grew.grow ?_ _ | refine Grew.alloc ?_ _ | refine Grew.drew ?_))⟩
    · obtain rfl : i = l.length := by omega
      have hp' : Hid (allVld l = true) := by have := hp.out; rw [List.take_length] at this; exact this
      clear hp
      go_wp2_with fail
      go_ret
      exact ⟨⟨-1, rfl, by rw [hp'.out]; rfl⟩, (by repeat (first | exact Grew.refl _ | refine Grew.drewN ?_ _ | refine Grew.grow ?_ _ | refine Grew.alloc ?_ _ | refine Grew.drew ?_))⟩

set_option maxHeartbeats 800000 in
theorem hasL_any (a0 : Option Addr) (k0 : Nat) (l : List Num) (w : World) (hl : l.length ≤ 9223372036854775807) (h0 : Nms w a0 l) :
    Calls Try.prog 64 #[.slice a0 l.length k0, .func (.func 65) #[] #[]] w fun e w' => e = .returned (.bool (!allVld l)) ∧ Grew w w' := by
  have HI := hid fun w' (hg : Grew w w') => idxL_any a0 k0 l w' hl (h0.grew hg)
  clear h0
  go_enter Try.func64, Try.ntmps64
  go_wp2_with fail
  refine (HI.out _ (by repeat (first | exact Grew.refl _ | refine Grew.drewN ?_ _ | refine Grew.grow ?_ _ | refine Grew.alloc ?_ _ | refine Grew.drew ?_))).mono ?_
  rintro e w' ⟨⟨r, rfl, hr⟩, g', n, rfl⟩
  have HR := hid hr
  clear hr
  go_wp2_with fail
  go_ret
  exact ⟨by rw [← HR.out]; rfl, (by repeat (first | exact Grew.refl _ | refine Grew.drewN ?_ _ | refine Grew.grow ?_ _ | refine Grew.alloc ?_ _ | refine Grew.drew ?_))⟩

set_option maxHeartbeats 800000 in
theorem vector_ok (a0 : Option Addr) (k0 : Nat) (l : List Num) (w : World) (hl : l.length ≤ 9223372036854775807) (h0 : Nms w a0 l) (hv : VldL l) (n1 : 1 ≤ l.length) (n2 : l.length ≤ 6) :
    Calls Try.prog 100 #[.slice a0 l.length k0] w fun e w' => e = .returned (.bool true) ∧ Grew w w' := by
  have H := hid fun w' (hg : Grew w w') => numbers_ok a0 k0 l w' hl (h0.grew hg) hv
  have e1 : (1 : Int) ≤ l.length := by omega
  have e2 : (l.length : Int) ≤ 6 := by omega
  clear h0 hv
  go_enter Try.func100, Try.ntmps100
  go_wp2_with fail
  refine (H.out _ (by repeat (first | exact Grew.refl _ | refine Grew.drewN ?_ _ | refine Grew.grow ?_ _ | refine Grew.alloc ?_ _ | refine Grew.drew ?_))).mono ?_
  rintro e w' ⟨rfl, g, n', rfl⟩
  go_wp2_with fail
  go_ret
  exact ⟨rfl, (by repeat (first | exact Grew.refl _ | refine Grew.drewN ?_ _ | refine Grew.grow ?_ _ | refine Grew.alloc ?_ _ | refine Grew.drew ?_))⟩

set_option maxHeartbeats 800000 in
theorem isVec_any (a0 : Option Addr) (k0 : Nat) (l : List Num) (w : World) (hl : l.length ≤ 9223372036854775807) (h0 : Nms w a0 l) :
    Calls Try.prog 36 #[.slice a0 l.length k0] w fun e w' => e = .returned (.bool (isVec l)) ∧ Grew w w' := by
  have H0 := hid h0
  clear h0
  go_enter Try.func36, Try.ntmps36
  go_wp2_with fail
  go_loopw [7] (fun n wr => ∃ i : Nat, i ≤ l.length ∧ n = .int .i64 i ∧ Hid (allVld (l.take i) = true) ∧ Grew w wr) (fun n _ => l.length - (intOf n).toNat)
  case atStart => exact ⟨0, Nat.zero_le _, rfl, rfl, Grew.refl _⟩
  case round =>
    obtain ⟨i, hi, rfl, hp, g, n, rfl⟩ := hrel
    by_cases hlt : i < l.length
    · obtain ⟨z, hz⟩ : ∃ z, l[i]? = some z := ⟨l[i], List.getElem?_eq_getElem hlt⟩
      obtain ⟨b, off, rfl, hb, c0, c1, c2, c3, c4⟩ := H0.out.cells hz
      have hb1 := fun m0 : Nat => Nat.lt_add_right m0 (hb)
      have hb2 := fun m0 m1 : Nat => Nat.lt_add_right m1 (hb1 m0)
      have hb3 := fun m0 m1 m2 : Nat => Nat.lt_add_right m2 (hb2 m0 m1)
      have Hz := hid hz
      have HZ := hid fun w => rValid_any z.x z.k w
      clear hz
      by_cases hv : validB z.x z.k = true
      · rw [hv] at HZ
        have Hv := hid hv
        clear hv
        go_wp2_with fail
        refine (HZ.out _).mono ?_
        rintro e w' ⟨rfl, g1, n1, rfl⟩
        go_wp2_with fail
        go_roundw
        case rel => exact ⟨i + 1, by omega, by go_num, allVld_step Hz.out Hv.out hp.out, (by repeat (first | exact Grew.refl _ | refine Grew.drewN ?_ _ | refine Grew.grow ?_ _ | refine Grew.alloc ?_ _ | refine Grew.drew ?_))⟩
        case measure => simp [intOf]; omega
      · have Hv : Hid (isVec l = false) := hid (by unfold isVec; rw [allVld_cut Hz.out (by simpa using hv)]; rfl)
        rw [show validB z.x z.k = false by simpa using hv] at HZ
        clear hv
        go_wp2_with fail
        refine (HZ.out _).mono ?_
        rintro e w' ⟨rfl, g1, n1, rfl⟩
        go_wp2_with fail
        go_ret
        exact ⟨by rw [Hv.out]; rfl, (by repeat (first | exact Grew.refl _ | refine Grew.drewN ?_ _ | refine Grew.grow ?_ _ | refine Grew.alloc ?_ _ | refine Grew.drew ?_))⟩
    · obtain rfl : i = l.length := by omega
      have hp' : allVld l = true := by have := hp.out; rw [List.take_length] at this; exact this
      have HO : Hid (isVec l = (decide ((1 : Int) ≤ l.length) && decide ((l.length : Int) ≤ 6))) := hid (by
        unfold isVec
        rw [hp', Bool.true_and, ← Bool.decide_and]
        apply decide_eq_decide.2
        omega)
      clear hp hp'
      by_cases d1 : (1 : Int) ≤ l.length
      · have e1 : decide ((1 : Int) ≤ l.length) = true := decide_eq_true d1
        by_cases d2 : (l.length : Int) ≤ 6
        · have e2 : decide ((l.length : Int) ≤ 6) = true := decide_eq_true d2
          rw [e1, e2] at HO
          go_wp2_with fail
          go_ret
          exact ⟨by rw [HO.out]; rfl, (by repeat (first | exact Grew.refl _ | refine Grew.drewN ?_ _ | refine Grew.grow ?_ _ | refine Grew.alloc ?_ _ | refine Grew.drew ?_))⟩
        · have e2 : decide ((l.length : Int) ≤ 6) = false := decide_eq_false d2
          rw [e1, e2] at HO
          go_wp2_with fail
          go_ret
          exact ⟨by rw [HO.out]; rfl, (by repeat (first | exact Grew.refl _ | refine Grew.drewN ?_ _ | refine Grew.grow ?_ _ | refine Grew.alloc ?_ _ | refine Grew.drew ?_))⟩
      · have e1 : decide ((1 : Int) ≤ l.length) = false := decide_eq_false d1
        rw [e1] at HO
        go_wp2_with fail
        go_ret
        exact ⟨by rw [HO.out]; rfl, (by repeat (first | exact Grew.refl _ | refine Grew.drewN ?_ _ | refine Grew.grow ?_ _ | refine Grew.alloc ?_ _ | refine Grew.drew ?_))⟩

end Go.Proofs.Ytkglnnkghillpaa
