/- The law MeshColumns returns true. Condition: the items lie in memory. -/
import Derived.Test.YtkglnnkghillpaaColD
import Derived.Test.YtkglnnkghillpaaMshX
import Derived.Test.YtkglnnkghillpaaMshR
namespace Go.Proofs.Ytkglnnkghillpaa
open Go Go.RowKit Amp Msh

set_option maxHeartbeats 800000 in
theorem columns_long (g : Int) (a0 : Option Addr) (cap : Nat) (its : List It) (w : World) (hl : its.length ≤ 9223372036854775807) (_hc : Its w a0 its) (h : 300 < its.length) :
    Calls Try.prog 6 #[.int .i64 g, .slice a0 its.length cap] w fun e w' => e = .returned (.bool true) ∧ Grew w w' := by
  have e1 : decide ((300 : Int) < its.length) = true := decide_eq_true (by omega)
  clear _hc hl h
  go_enter Try.func6, Try.ntmps6
  go_wp2_with fail
  refine (awake_any _).mono ?_
  rintro e w' ⟨rfl, ga, na, rfl⟩
  go_wp2_with fail
  go_ret
  exact ⟨rfl, (by repeat (first | exact Grew.refl _ | refine Grew.drewN ?_ _ | refine Grew.grow ?_ _ | refine Grew.alloc ?_ _ | refine Grew.drew ?_))⟩

set_option maxRecDepth 100000 in
set_option maxHeartbeats 1600000 in
theorem columns_main (g : Int) (a0 : Option Addr) (cap : Nat) (its : List It) (w : World) (hl : its.length ≤ 9223372036854775807) (hc : Its w a0 its) (hcap : its.length ≤ cap) (h : its.length ≤ 300) :
    Calls Try.prog 6 #[.int .i64 g, .slice a0 its.length cap] w fun e w' => e = .returned (.bool true) ∧ Grew w w' := by
  have e1 : decide ((300 : Int) < its.length) = false := decide_eq_false (by omega)
  have H1 := hid fun w' (hg : Grew w w') => cols_any g a0 cap its w' hl (hc.grew hg)
  have H2 := hid fun w' (hg : Grew w w') => rcols_any g a0 cap its w' hl (hc.grew hg) hcap
  have H3 := hid fun w' (hg : Grew w w') => count_any g a0 cap its w' hl (hc.grew hg)
  have H4 := hid fun w' (hg : Grew w w') => rcount_any g a0 cap its w' hl (hc.grew hg) hcap
  obtain ⟨⟨CL, E⟩, hR⟩ : ∃ R, colE g its = R := ⟨_, rfl⟩
  have hCL : CL.length ≤ 9223372036854775807 := by
    have e : CL = (colE g its).1 := by rw [hR]
    rw [e]
    unfold colE
    split
    · show (colL its).length ≤ _
      rw [colL_length]; exact hl
    · show ([] : List Int).length ≤ _
      decide
  rw [hR] at H1 H2
  obtain ⟨X0, hX0⟩ : ∃ x, cntA g its = x := ⟨_, rfl⟩
  obtain ⟨X1, hX1⟩ : ∃ x, cntB g its 1 = x := ⟨_, rfl⟩
  obtain ⟨X2, hX2⟩ : ∃ x, cntB g its 2 = x := ⟨_, rfl⟩
  obtain ⟨X3, hX3⟩ : ∃ x, cntB g its 3 = x := ⟨_, rfl⟩
  obtain ⟨G, hG⟩ : ∃ x, chkIts g its = x := ⟨_, rfl⟩
  rw [hX0, hX1, hX2, hX3, hG] at H3 H4
  have HS := hid fun a2 k2 a3 k3 w' (hA : Ins w' a2 CL) (hB : Ins w' a3 CL) => sameInts_same a2 a3 k2 k3 CL w' hCL hA hB
  clear hc hl h hcap hR hCL hX0 hX1 hX2 hX3 hG
  go_enter Try.func6, Try.ntmps6
  go_wp2_with fail
  refine (H1.out _ (by repeat (first | exact Grew.refl _ | refine Grew.drewN ?_ _ | refine Grew.grow ?_ _ | refine Grew.alloc ?_ _ | refine Grew.drew ?_))).mono ?_
  rintro e W1 ⟨⟨a2, k2, rfl, hA⟩, hg1⟩
  have HA := hid hA.zs
  have HG := hid hg1
  clear hA hg1
  go_wp2_with fail
  refine (H2.out _ (HG.out.trans (by repeat (first | exact Grew.refl _ | refine Grew.drewN ?_ _ | refine Grew.grow ?_ _ | refine Grew.alloc ?_ _ | refine Grew.drew ?_)))).mono ?_
  rintro e W2 ⟨⟨a3, k3, rfl, hB⟩, hg2⟩
  have HB := hid hB.zs
  have HA := hid (HA.out.grew hg2)
  have HG := hid (HG.out.trans hg2)
  clear hB hg2
  go_wp2_with fail
  refine (H3.out _ (HG.out.trans (by repeat (first | exact Grew.refl _ | refine Grew.drewN ?_ _ | refine Grew.grow ?_ _ | refine Grew.alloc ?_ _ | refine Grew.drew ?_)))).mono ?_
  rintro e w' ⟨rfl, g3, m3, rfl⟩
  go_wp2_with fail
  refine (H4.out _ (HG.out.trans (by repeat (first | exact Grew.refl _ | refine Grew.drewN ?_ _ | refine Grew.grow ?_ _ | refine Grew.alloc ?_ _ | refine Grew.drew ?_)))).mono ?_
  rintro e w' ⟨rfl, g4, m4, rfl⟩
  go_wp2_with fail
  refine (HS.out _ _ _ _ _ (HA.out.grew (by repeat (first | exact Grew.refl _ | refine Grew.drewN ?_ _ | refine Grew.grow ?_ _ | refine Grew.alloc ?_ _ | refine Grew.drew ?_))) (HB.out.grew (by repeat (first | exact Grew.refl _ | refine Grew.drewN ?_ _ | refine Grew.grow ?_ _ | refine Grew.alloc ?_ _ | refine Grew.drew ?_)))).mono ?_
  rintro e w' ⟨rfl, g5, m5, rfl⟩
  go_wp2_with fail
  refine (awake_any _).mono ?_
  rintro e w' ⟨rfl, ga, na, rfl⟩
  go_wp2_with fail
  go_ret
  exact ⟨rfl, HG.out.trans (by repeat (first | exact Grew.refl _ | refine Grew.drewN ?_ _ | refine Grew.grow ?_ _ | refine Grew.alloc ?_ _ | refine Grew.drew ?_))⟩
theorem columns_any (g : Int) (a0 : Option Addr) (cap : Nat) (its : List It) (w : World) (hl : its.length ≤ 9223372036854775807) (hc : Its w a0 its) (hcap : its.length ≤ cap) :
    Calls Try.prog 6 #[.int .i64 g, .slice a0 its.length cap] w fun e w' => e = .returned (.bool true) ∧ Grew w w' := by
  by_cases h : its.length ≤ 300
  · exact columns_main g a0 cap its w hl hc hcap h
  · exact columns_long g a0 cap its w hl hc (by omega)
theorem meshColumns_walk (g : Int) (a0 : Option Addr) (len cap : Nat) (w : World) (h : len = 0 ∨ ∃ (b off : Nat) (l : List It), a0 = some ⟨b, off, none⟩ ∧ len = l.length ∧ l.length ≤ 9223372036854775807 ∧ b < w.heap.size ∧ ItsAt w b off l)
    (hcap : len ≤ cap) :
    Calls Try.prog 6 #[.int .i64 g, .slice a0 len cap] w fun e w' => e = .returned (.bool true) ∧ Grew w w' := by
  obtain ⟨its, rfl, h1, h2⟩ := its_of h
  exact columns_any g a0 cap its w h1 h2 hcap

end Go.Proofs.Ytkglnnkghillpaa
