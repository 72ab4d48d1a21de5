/- The law MeshChanges returns true. Condition: the items lie in memory. -/
import Derived.Test.YtkglnnkghillpaaChgE
import Derived.Test.YtkglnnkghillpaaTidO
import Derived.Test.YtkglnnkghillpaaMshR
namespace Go.Proofs.Ytkglnnkghillpaa
open Go Go.RowKit Amp Msh

set_option maxRecDepth 100000 in
set_option maxHeartbeats 800000 in
theorem changes_long (g : Int) (a0 : Option Addr) (cap : Nat) (its : List It) (d m : Int) (w : World) (hl : its.length ≤ 9223372036854775807) (_hc : Its w a0 its) (h : 300 < its.length) :
    Calls Try.prog 12 #[.int .i64 g, .slice a0 its.length cap, .int .i64 d, .int .i64 m] w fun e w' => e = .returned (.bool true) ∧ Below w.heap.size w w' := by
  have e1 : decide ((300 : Int) < its.length) = true := decide_eq_true (by omega)
  clear _hc hl h
  go_enter Try.func12, Try.ntmps12
  go_wp2_with fail
  refine (awake_any _).mono ?_
  rintro e w' ⟨rfl, ga, na, rfl⟩
  go_wp2_with fail
  go_ret
  exact ⟨rfl, Grew.below (by repeat (first | exact Grew.refl _ | refine Grew.drewN ?_ _ | refine Grew.grow ?_ _ | refine Grew.alloc ?_ _ | refine Grew.drew ?_))⟩

theorem below_grew {w w2 w' : World} (h : Below w.heap.size w w2) (g : Grew w2 w') : Below w.heap.size w w' := h.trans (g.below.mono h.size)
theorem below_from {w wc w' : World} (h : Below wc.heap.size wc w') (g : Grew w wc) : Below w.heap.size w w' := g.below.trans (h.mono g.size)
theorem Its.below {w w' : World} {a0 : Option Addr} {l : List It} (h : Its w a0 l) (hb : Below w.heap.size w w') : Its w' a0 l := by
  rcases h with h | ⟨b, off, h, hl, hc⟩
  · exact .inl h
  · refine .inr ⟨b, off, h, Nat.lt_of_lt_of_le hl hb.size, fun i z hz => ?_⟩
    obtain ⟨c0, c1, c2, c3⟩ := hc i z hz
    exact ⟨(hb.cell (p := ⟨b, _, none⟩) hl).trans c0, (hb.cell (p := ⟨b, _, none⟩) hl).trans c1, (hb.cell (p := ⟨b, _, none⟩) hl).trans c2, (hb.cell (p := ⟨b, _, none⟩) hl).trans c3⟩
theorem rtidy_any (g : Int) (a0 : Option Addr) (cap : Nat) (its : List It) (w : World) (hl : its.length ≤ 300) (hc : Its w a0 its) :
    Calls Try.prog 45 #[.int .i64 g, .slice a0 its.length cap] w (ListI (tidE g its) w) := by
  unfold tidE
  by_cases hk : chkIts g its = 0
  · rw [if_pos hk]
    exact rtidy_main g a0 cap its w hl hc hk
  · rw [if_neg hk]
    exact rtidy_bad g a0 cap its w hl hc hk
theorem invE_length (g : Int) (l : List It) : (invE g l).1.length ≤ 5000 := by
  unfold invE
  split
  · split
    · assumption
    · simp
  · simp
theorem tidE_length (g : Int) (l : List It) : (tidE g l).1.length ≤ 5000 := by
  unfold tidE
  split
  · rename_i h
    obtain ⟨q1, q2, q3, q4⟩ := chkIts_zero h
    have := (tidR_ok q2 l q4).2
    dsimp only
    omega
  · simp
theorem mvE_length (g : Int) (l : List It) (d m : Int) : (mvE g l d m).1.length ≤ 5000 := by
  unfold mvE
  split
  · rename_i h
    obtain ⟨q1, q2, q3, q4⟩ := chkIts_zero h
    split
    · simpa using q3
    · simp
  · simp

set_option maxRecDepth 100000 in
set_option maxHeartbeats 4000000 in
theorem changes_main (g : Int) (a0 : Option Addr) (cap : Nat) (its : List It) (d m : Int) (w : World) (hl : its.length ≤ 9223372036854775807) (hc : Its w a0 its) (h : its.length ≤ 300) (no0 : a0 = none → its.length = 0 ∧ cap = 0) :
    Calls Try.prog 12 #[.int .i64 g, .slice a0 its.length cap, .int .i64 d, .int .i64 m] w fun e w' => e = .returned (.bool true) ∧ Below w.heap.size w w' := by
  have e1 : decide ((300 : Int) < its.length) = false := decide_eq_false (by omega)
  have H1 := hid fun w' (hg : Grew w w') => inv_any g a0 cap its w' hl (hc.grew hg)
  have H2 := hid fun w' (hc : Its w' a0 its) => rinv_any g a0 cap its w' hl hc
  have H3 := hid fun w' (hc : Its w' a0 its) => tidy_any g a0 cap its w' h hc
  have H4 := hid fun w' (hc : Its w' a0 its) => rtidy_any g a0 cap its w' h hc
  have H5 := hid fun w' (hc : Its w' a0 its) => moved_any g a0 cap its d m w' hl hc no0
  have H6 := hid fun w' (hc : Its w' a0 its) => rmoved_any g a0 cap its d m w' hl hc
  have b1 := invE_length g its
  have b2 := tidE_length g its
  have b3 := mvE_length g its d m
  obtain ⟨⟨R1, E1⟩, hR1⟩ : ∃ R, invE g its = R := ⟨_, rfl⟩
  obtain ⟨⟨R2, E2⟩, hR2⟩ : ∃ R, tidE g its = R := ⟨_, rfl⟩
  obtain ⟨⟨R3, E3⟩, hR3⟩ : ∃ R, mvE g its d m = R := ⟨_, rfl⟩
  rw [hR1] at H1 H2 b1
  rw [hR2] at H3 H4 b2
  rw [hR3] at H5 H6 b3
  dsimp only at b1 b2 b3
  have b1 : R1.length ≤ 20000 := by omega
  have b2 : R2.length ≤ 20000 := by omega
  have b3 : R3.length ≤ 20000 := by omega
  have HC := hid hc
  clear hc hl h no0 hR1 hR2 hR3
  go_enter Try.func12, Try.ntmps12
  go_wp2_with fail
  refine (H1.out _ (by repeat (first | exact Grew.refl _ | refine Grew.drewN ?_ _ | refine Grew.grow ?_ _ | refine Grew.alloc ?_ _ | refine Grew.drew ?_))).mono ?_
  rintro e W1 ⟨⟨a1, k1, rfl, hO1⟩, hb1⟩
  dsimp only at hO1 ⊢
  have HB := hid (below_from (w := w) hb1 (by repeat (first | exact Grew.refl _ | refine Grew.drewN ?_ _ | refine Grew.grow ?_ _ | refine Grew.alloc ?_ _ | refine Grew.drew ?_)))
  have HC1 := hid (Its.below (HC.out.grew (by repeat (first | exact Grew.refl _ | refine Grew.drewN ?_ _ | refine Grew.grow ?_ _ | refine Grew.alloc ?_ _ | refine Grew.drew ?_))) hb1)
  have HI1 := hid (OwnI.its hO1)
  clear hO1 hb1 HC H1
  go_wp2_with fail
  refine (H2.out _ (HC1.out.grew (by repeat (first | exact Grew.refl _ | refine Grew.drewN ?_ _ | refine Grew.grow ?_ _ | refine Grew.alloc ?_ _ | refine Grew.drew ?_)))).mono ?_
  rintro e W2 ⟨⟨a2, k2, rfl, hO2⟩, hg2⟩
  dsimp only at hO2 ⊢
  have hg2 : Grew W1 W2 := Grew.trans (by repeat (first | exact Grew.refl _ | refine Grew.drewN ?_ _ | refine Grew.grow ?_ _ | refine Grew.alloc ?_ _ | refine Grew.drew ?_)) hg2
  have HI1 := hid (HI1.out.grew hg2)
  have HI2 := hid (OwnI.its hO2)
  have HC2 := hid (HC1.out.grew hg2)
  have HB := hid (below_grew HB.out hg2)
  clear hO2 hg2 H2 HC1
  have HS := hid fun w' (hg : Grew W2 w') => sameItems_same a1 a2 k1 k2 R1 w' (by omega) (HI1.out.grew hg) (HI2.out.grew hg)
  go_wp2_with fail
  refine (HS.out _ (by repeat (first | exact Grew.refl _ | refine Grew.drewN ?_ _ | refine Grew.grow ?_ _ | refine Grew.alloc ?_ _ | refine Grew.drew ?_))).mono ?_
  rintro e W3 ⟨rfl, hg3⟩
  have hg3 : Grew W2 W3 := Grew.trans (by repeat (first | exact Grew.refl _ | refine Grew.drewN ?_ _ | refine Grew.grow ?_ _ | refine Grew.alloc ?_ _ | refine Grew.drew ?_)) hg3
  have HC3 := hid (HC2.out.grew hg3)
  have HB := hid (below_grew HB.out hg3)
  clear hg3 HS HC2 HI1 HI2
  go_wp2_with fail
  refine (H3.out _ (HC3.out.grew (by repeat (first | exact Grew.refl _ | refine Grew.drewN ?_ _ | refine Grew.grow ?_ _ | refine Grew.alloc ?_ _ | refine Grew.drew ?_)))).mono ?_
  rintro e W4 ⟨⟨a3, k3, rfl, hO3⟩, hg4⟩
  dsimp only at hO3 ⊢
  have hg4 : Grew W3 W4 := Grew.trans (by repeat (first | exact Grew.refl _ | refine Grew.drewN ?_ _ | refine Grew.grow ?_ _ | refine Grew.alloc ?_ _ | refine Grew.drew ?_)) hg4
  have HI3 := hid (OwnI.its hO3)
  have HC4 := hid (HC3.out.grew hg4)
  have HB := hid (below_grew HB.out hg4)
  clear hO3 hg4 H3 HC3
  go_wp2_with fail
  refine (H4.out _ (HC4.out.grew (by repeat (first | exact Grew.refl _ | refine Grew.drewN ?_ _ | refine Grew.grow ?_ _ | refine Grew.alloc ?_ _ | refine Grew.drew ?_)))).mono ?_
  rintro e W5 ⟨⟨a4, k4, rfl, hO4⟩, hg5⟩
  dsimp only at hO4 ⊢
  have hg5 : Grew W4 W5 := Grew.trans (by repeat (first | exact Grew.refl _ | refine Grew.drewN ?_ _ | refine Grew.grow ?_ _ | refine Grew.alloc ?_ _ | refine Grew.drew ?_)) hg5
  have HI3 := hid (HI3.out.grew hg5)
  have HI4 := hid (OwnI.its hO4)
  have HC5 := hid (HC4.out.grew hg5)
  have HB := hid (below_grew HB.out hg5)
  clear hO4 hg5 H4 HC4
  have HS := hid fun w' (hg : Grew W5 w') => sameItems_same a3 a4 k3 k4 R2 w' (by omega) (HI3.out.grew hg) (HI4.out.grew hg)
  go_wp2_with fail
  refine (HS.out _ (by repeat (first | exact Grew.refl _ | refine Grew.drewN ?_ _ | refine Grew.grow ?_ _ | refine Grew.alloc ?_ _ | refine Grew.drew ?_))).mono ?_
  rintro e W6 ⟨rfl, hg6⟩
  have hg6 : Grew W5 W6 := Grew.trans (by repeat (first | exact Grew.refl _ | refine Grew.drewN ?_ _ | refine Grew.grow ?_ _ | refine Grew.alloc ?_ _ | refine Grew.drew ?_)) hg6
  have HC6 := hid (HC5.out.grew hg6)
  have HB := hid (below_grew HB.out hg6)
  clear hg6 HS HC5 HI3 HI4
  go_wp2_with fail
  refine (H5.out _ (HC6.out.grew (by repeat (first | exact Grew.refl _ | refine Grew.drewN ?_ _ | refine Grew.grow ?_ _ | refine Grew.alloc ?_ _ | refine Grew.drew ?_)))).mono ?_
  rintro e W7 ⟨⟨a5, k5, rfl, hO5⟩, hg7⟩
  dsimp only at hO5 ⊢
  have hg7 : Grew W6 W7 := Grew.trans (by repeat (first | exact Grew.refl _ | refine Grew.drewN ?_ _ | refine Grew.grow ?_ _ | refine Grew.alloc ?_ _ | refine Grew.drew ?_)) hg7
  have HI5 := hid (OwnI.its hO5)
  have HC7 := hid (HC6.out.grew hg7)
  have HB := hid (below_grew HB.out hg7)
  clear hO5 hg7 H5 HC6
  go_wp2_with fail
  refine (H6.out _ (HC7.out.grew (by repeat (first | exact Grew.refl _ | refine Grew.drewN ?_ _ | refine Grew.grow ?_ _ | refine Grew.alloc ?_ _ | refine Grew.drew ?_)))).mono ?_
  rintro e W8 ⟨⟨a6, k6, rfl, hO6⟩, hg8⟩
  dsimp only at hO6 ⊢
  have hg8 : Grew W7 W8 := Grew.trans (by repeat (first | exact Grew.refl _ | refine Grew.drewN ?_ _ | refine Grew.grow ?_ _ | refine Grew.alloc ?_ _ | refine Grew.drew ?_)) hg8
  have HI5 := hid (HI5.out.grew hg8)
  have HI6 := hid (OwnI.its hO6)
  have HB := hid (below_grew HB.out hg8)
  clear hO6 hg8 H6 HC7
  have HS := hid fun w' (hg : Grew W8 w') => sameItems_same a5 a6 k5 k6 R3 w' (by omega) (HI5.out.grew hg) (HI6.out.grew hg)
  go_wp2_with fail
  refine (HS.out _ (by repeat (first | exact Grew.refl _ | refine Grew.drewN ?_ _ | refine Grew.grow ?_ _ | refine Grew.alloc ?_ _ | refine Grew.drew ?_))).mono ?_
  rintro e W9 ⟨rfl, hg9⟩
  have hg9 : Grew W8 W9 := Grew.trans (by repeat (first | exact Grew.refl _ | refine Grew.drewN ?_ _ | refine Grew.grow ?_ _ | refine Grew.alloc ?_ _ | refine Grew.drew ?_)) hg9
  have HB := hid (below_grew HB.out hg9)
  clear hg9 HS HI5 HI6
  go_wp2_with fail
  refine (awake_any _).mono ?_
  rintro e w' ⟨rfl, ga, na, rfl⟩
  go_wp2_with fail
  go_ret
  exact ⟨rfl, below_grew HB.out (by repeat (first | exact Grew.refl _ | refine Grew.drewN ?_ _ | refine Grew.grow ?_ _ | refine Grew.alloc ?_ _ | refine Grew.drew ?_))⟩
theorem changes_any (g : Int) (a0 : Option Addr) (cap : Nat) (its : List It) (d m : Int) (w : World) (hl : its.length ≤ 9223372036854775807) (hc : Its w a0 its) (no0 : a0 = none → its.length = 0 ∧ cap = 0) :
    Calls Try.prog 12 #[.int .i64 g, .slice a0 its.length cap, .int .i64 d, .int .i64 m] w fun e w' => e = .returned (.bool true) ∧ Below w.heap.size w w' := by
  by_cases h : its.length ≤ 300
  · exact changes_main g a0 cap its d m w hl hc h no0
  · exact changes_long g a0 cap its d m w hl hc (by omega)
theorem meshChanges_walk (g : Int) (a0 : Option Addr) (len cap : Nat) (d m : Int) (w : World) (h : len = 0 ∨ ∃ (b off : Nat) (l : List It), a0 = some ⟨b, off, none⟩ ∧ len = l.length ∧ l.length ≤ 9223372036854775807 ∧ b < w.heap.size ∧ ItsAt w b off l)
    (no0 : a0 = none → len = 0 ∧ cap = 0) :
    Calls Try.prog 12 #[.int .i64 g, .slice a0 len cap, .int .i64 d, .int .i64 m] w fun e w' => e = .returned (.bool true) ∧ Below w.heap.size w w' := by
  obtain ⟨its, rfl, h1, h2⟩ := its_of h
  exact changes_any g a0 cap its d m w h1 h2 no0

end Go.Proofs.Ytkglnnkghillpaa
