/- Layer 9: is a fringe of a list not valid? Condition: the list lies in memory. -/
import Derived.Test.YtecnidnaokbaiaaPrbA
import Derived.Test.YtecnidnaokbaiaaPrbPlain
import Derived.Test.YtecnidnaokbaiaaPrbEq
namespace Go.Proofs.Ytecnidnaokbaiaa
open Go Go.RowKit Prb

/-- The fringes of a list lie one behind the other. -/
def FrsAt (w : World) (b off : Nat) (l : List Fr) : Prop := ∀ i z, l[i]? = some z → (w.cell? ⟨b, off + i * 3, none⟩ = some (.int .i64 z.m) ∧ w.cell? ⟨b, off + i * 3 + 1, none⟩ = some (.int .i64 z.x) ∧ w.cell? ⟨b, off + i * 3 + 2, none⟩ = some (.int .i64 z.y))
theorem FrsAt.grew {w w' : World} {b off : Nat} {l : List Fr} (h : FrsAt w b off l) (hb : b < w.heap.size) (hg : Grew w w') : FrsAt w' b off l := fun i z hz => by
  obtain ⟨c0, c1, c2⟩ := h i z hz
  exact ⟨(hg.cell hb _).trans c0, (hg.cell hb _).trans c1, (hg.cell hb _).trans c2⟩
/-- What the search answers: an index, or -1. -/
def IdxPost (l : List Fr) (w : World) (e : Ending) (w' : World) : Prop := (∃ r : Int, e = .returned (.int .i64 r) ∧ decide (0 ≤ r) = !allF l) ∧ Grew w w'

set_option maxHeartbeats 800000 in
theorem mixPred_any (z : Fr) (w : World) :
    Calls Try.prog 27 #[.agg #[.int .i64 z.m, .int .i64 z.x, .int .i64 z.y]] w fun e w' => e = .returned (.bool (!okF z)) ∧ Grew w w' := by
  have HV := hid fun w => aVldF_any z.m z.x z.y w
  go_enter Try.func27, Try.ntmps27
  go_wp2_with fail
  refine (HV.out _).mono ?_
  rintro e w' ⟨rfl, g, n, rfl⟩
  go_wp2_with fail
  go_ret
  exact ⟨rfl, (by repeat (first | exact Grew.refl _ | refine Grew.drewN ?_ _ | refine Grew.grow ?_ _ | refine Grew.alloc ?_ _ | refine Grew.drew ?_))⟩

set_option maxHeartbeats 800000 in
theorem idxF_any (b off cap : Nat) (l : List Fr) (w : World) (hb : b < w.heap.size) (hl : l.length ≤ 9223372036854775807) (hc : FrsAt w b off l) :
    Calls Try.prog 36 #[.slice (some ⟨b, off, none⟩) l.length cap, .func (.func 27) #[] #[]] w (IdxPost l w) := by
  have HC := hid hc
  have hb1 := fun m0 : Nat => Nat.lt_add_right m0 (hb)
  have hb2 := fun m0 m1 : Nat => Nat.lt_add_right m1 (hb1 m0)
  have hb3 := fun m0 m1 m2 : Nat => Nat.lt_add_right m2 (hb2 m0 m1)
  have hb4 := fun m0 m1 m2 m3 : Nat => Nat.lt_add_right m3 (hb3 m0 m1 m2)
  have hb5 := fun m0 m1 m2 m3 m4 : Nat => Nat.lt_add_right m4 (hb4 m0 m1 m2 m3)
  clear hc
  go_enter Try.func36, Try.ntmps36
  go_wp2_with fail
  go_loopw [8] (fun n wr => ∃ i : Nat, i ≤ l.length ∧ n = .int .i64 i ∧ Hid (allF (l.take i) = true) ∧ Grew w wr) (fun n _ => l.length - (intOf n).toNat)
  case atStart => exact ⟨0, Nat.zero_le _, rfl, rfl, Grew.refl _⟩
  case round =>
    obtain ⟨i, hi, rfl, hp, g, n, rfl⟩ := hrel
    by_cases hlt : i < l.length
    · obtain ⟨z, hz⟩ : ∃ z, l[i]? = some z := ⟨l[i], List.getElem?_eq_getElem hlt⟩
      obtain ⟨c0, c1, c2⟩ := HC.out i z hz
      have Hz := hid hz
      clear hz
      go_wp2_with fail
      refine (mixPred_any z _).mono ?_
      rintro e w' ⟨rfl, g1, n1, rfl⟩
      by_cases hv : okF z = true
      · rw [hv]
        have Hv := hid hv
        clear hv
        go_wp2_with fail
        go_roundw
        case rel => exact ⟨i + 1, by omega, by go_num, allF_step Hz.out Hv.out hp.out, (by repeat (first | exact Grew.refl _ | refine Grew.drewN ?_ _ | refine Grew.grow ?_ _ | refine Grew.alloc ?_ _ | refine Grew.drew ?_))⟩
        case measure => simp [intOf]; omega
      · have Hv : Hid (allF l = false) := allF_cut Hz.out (by simpa using hv)
        rw [show okF z = false by simpa using hv]
        clear hv
        go_wp2_with fail
        go_ret
        exact ⟨⟨i, rfl, by rw [Hv.out]; simp⟩, (by repeat (first | exact Grew.refl _ | refine Grew.drewN ?_ _ | refine Grew.grow ?_ _ | refine Grew.alloc ?_ _ | refine Grew.drew ?_))⟩
    · obtain rfl : i = l.length := by omega
      have hp' : Hid (allF l = true) := by have := hp.out; rw [List.take_length] at this; exact this
      clear hp
      go_wp2_with fail
      go_ret
      exact ⟨⟨-1, rfl, by rw [hp'.out]; rfl⟩, (by repeat (first | exact Grew.refl _ | refine Grew.drewN ?_ _ | refine Grew.grow ?_ _ | refine Grew.alloc ?_ _ | refine Grew.drew ?_))⟩

set_option maxHeartbeats 800000 in
theorem hasF_any (b off cap : Nat) (l : List Fr) (w : World) (hb : b < w.heap.size) (hl : l.length ≤ 9223372036854775807) (hc : FrsAt w b off l) :
    Calls Try.prog 26 #[.slice (some ⟨b, off, none⟩) l.length cap, .func (.func 27) #[] #[]] w fun e w' => e = .returned (.bool (!allF l)) ∧ Grew w w' := by
  have HI := hid fun w' (hg : Grew w w') => idxF_any b off cap l w' (Nat.lt_of_lt_of_le hb hg.size) hl (hc.grew hb hg)
  clear hc
  go_enter Try.func26, Try.ntmps26
  go_wp2_with fail
  refine (HI.out _ (by repeat (first | exact Grew.refl _ | refine Grew.drewN ?_ _ | refine Grew.grow ?_ _ | refine Grew.alloc ?_ _ | refine Grew.drew ?_))).mono ?_
  rintro e w' ⟨⟨r, rfl, hr⟩, g, n, rfl⟩
  have HR := hid hr
  clear hr
  go_wp2_with fail
  go_ret
  exact ⟨by rw [← HR.out]; rfl, (by repeat (first | exact Grew.refl _ | refine Grew.drewN ?_ _ | refine Grew.grow ?_ _ | refine Grew.alloc ?_ _ | refine Grew.drew ?_))⟩

end Go.Proofs.Ytecnidnaokbaiaa
