/- The walk of AmpLists: it returns true. Condition: the list that came in lies in memory. -/
import Derived.Test.YtmphmfhmcgpjcaaAmpR
import Derived.Test.YtmphmfhmcgpjcaaAmpAwake
import Derived.Test.YtmphmfhmcgpjcaaOpenNums
namespace Go.Proofs.Ytmphmfhmcgpjcaa
open Go Go.RowKit Amp

set_option maxHeartbeats 800000 in
theorem ampLists_walk (a0 : Option Addr) (len cap : Nat) (w : World) (h : len = 0 ∨ ∃ (b off : Nat) (l : List Num), a0 = some ⟨b, off, none⟩ ∧ len = l.length ∧ l.length ≤ 9223372036854775807 ∧ b < w.heap.size ∧ NumsAt w b off l) :
    Calls Try.prog 6 #[.slice a0 len cap] w fun e w' => e = .returned (.bool true) ∧ Grew w w' := by
  rcases h with rfl | ⟨b, off, l, rfl, rfl, hl, hb, hc⟩
  · have HA := hid fun w => aSum_nil a0 cap w
    have HR := hid fun w => rSum_nil a0 cap w
    go_enter Try.func6, Try.ntmps6
    go_wp2_with fail
    refine (HA.out _).mono ?_
    rintro e w' ⟨rfl, g0, n0, rfl⟩
    go_wp2_with fail
    refine (HR.out _).mono ?_
    rintro e w' ⟨rfl, g1, n1, rfl⟩
    go_wp2_with fail
    refine (awake_any _).mono ?_
    rintro e w' ⟨rfl, g2, n2, rfl⟩
    go_wp2_with fail
    go_ret
    exact ⟨rfl, (by repeat (first | exact Grew.refl _ | refine Grew.drewN ?_ _ | refine Grew.grow ?_ _ | refine Grew.alloc ?_ _ | refine Grew.drew ?_))⟩
  · have HC := hid hc
    clear hc
    have hg : Hid (∀ w', Grew w w' → NumsAt w' b off l) := fun w' hg i z hz => by
      obtain ⟨c0, c1, c2, c3, c4⟩ := HC.out i z hz
      exact ⟨(hg.cell hb _).trans c0, (hg.cell hb _).trans c1, (hg.cell hb _).trans c2, (hg.cell hb _).trans c3, (hg.cell hb _).trans c4⟩
    have hb1 : Hid (∀ w', Grew w w' → b < w'.heap.size) := fun w' hg => Nat.lt_of_lt_of_le hb hg.size
    go_enter Try.func6, Try.ntmps6
    go_wp2_with fail
    refine (aSum_any b off cap l _ (hb1.out _ (by repeat (first | exact Grew.refl _ | refine Grew.drewN ?_ _ | refine Grew.grow ?_ _ | refine Grew.alloc ?_ _ | refine Grew.drew ?_))) hl (hg.out _ (by repeat (first | exact Grew.refl _ | refine Grew.drewN ?_ _ | refine Grew.grow ?_ _ | refine Grew.alloc ?_ _ | refine Grew.drew ?_)))).mono ?_
    rintro e w' ⟨rfl, g0, n0, rfl⟩
    go_wp2_with fail
    refine (rSum_any b off cap l _ (hb1.out _ (by repeat (first | exact Grew.refl _ | refine Grew.drewN ?_ _ | refine Grew.grow ?_ _ | refine Grew.alloc ?_ _ | refine Grew.drew ?_))) hl (hg.out _ (by repeat (first | exact Grew.refl _ | refine Grew.drewN ?_ _ | refine Grew.grow ?_ _ | refine Grew.alloc ?_ _ | refine Grew.drew ?_)))).mono ?_
    rintro e w' ⟨rfl, g1, n1, rfl⟩
    go_wp2_with fail
    refine (awake_any _).mono ?_
    rintro e w' ⟨rfl, g2, n2, rfl⟩
    go_wp2_with fail
    go_ret
    exact ⟨rfl, (by repeat (first | exact Grew.refl _ | refine Grew.drewN ?_ _ | refine Grew.grow ?_ _ | refine Grew.alloc ?_ _ | refine Grew.drew ?_))⟩

end Go.Proofs.Ytmphmfhmcgpjcaa
