/- The law MeshFlats returns true. Condition: the netlist lies in memory. -/
import Derived.Test.YtkglnnkghillpaaNetL
import Derived.Test.YtkglnnkghillpaaNetP
import Derived.Test.YtkglnnkghillpaaNetP
import Derived.Test.YtkglnnkghillpaaMshR
import Derived.Test.YtkglnnkghillpaaMshE
namespace Go.Proofs.Ytkglnnkghillpaa
open Go Go.RowKit Amp Msh

theorem below_grewN {w w2 w' : World} (h : Below w.heap.size w w2) (g : Grew w2 w') : Below w.heap.size w w' := h.trans (g.below.mono h.size)
theorem below_fromN {w wc w' : World} (h : Below wc.heap.size wc w') (g : Grew w wc) : Below w.heap.size w w' := g.below.trans (h.mono g.size)
theorem Net.belowN {w w' : World} {a0 : Option Addr} {L : List Cl} (h : Net w a0 L) (hb : Below w.heap.size w w') : Net w' a0 L := by
  rcases h with h | ⟨b, off, h, hl, hc⟩
  · exact .inl h
  · refine .inr ⟨b, off, h, Nat.lt_of_lt_of_le hl hb.size, fun i z hz => ?_⟩
    obtain ⟨c0, c1, a, k, c2, hi⟩ := hc i z hz
    refine ⟨(hb.cell (p := ⟨b, _, none⟩) hl).trans c0, (hb.cell (p := ⟨b, _, none⟩) hl).trans c1, a, k, (hb.cell (p := ⟨b, _, none⟩) hl).trans c2, ?_⟩
    rcases hi with hi | ⟨b2, off2, e, hl2, hc2⟩
    · exact .inl hi
    · refine .inr ⟨b2, off2, e, Nat.lt_of_lt_of_le hl2 hb.size, fun i z hz => ?_⟩
      obtain ⟨c0, c1, c2, c3⟩ := hc2 i z hz
      exact ⟨(hb.cell (p := ⟨b2, _, none⟩) hl2).trans c0, (hb.cell (p := ⟨b2, _, none⟩) hl2).trans c1, (hb.cell (p := ⟨b2, _, none⟩) hl2).trans c2, (hb.cell (p := ⟨b2, _, none⟩) hl2).trans c3⟩
theorem flatN_len (L : List Cl) : (flatN L).1.length ≤ 5000 := by
  unfold flatN
  by_cases hv : vnet L = true
  · rw [if_pos hv]
    have h1 := (vnet_all hv).1.1
    have hlr : (szP L [] L).length = L.length := by rw [szP_length]; simp
    rw [getLast_getD hlr (by omega)]
    split
    · simp
    · rename_i h5
      obtain ⟨v, hv0⟩ : ∃ v, (szP L [] L)[L.length - 1]? = some v := ⟨(szP L [] L)[L.length - 1]'(by rw [hlr]; omega), List.getElem?_eq_getElem _⟩
      have hgd : (szP L [] L).getD (L.length - 1) 0 = v := by rw [List.getD_eq_getElem?_getD, hv0]; rfl
      rw [hgd] at h5
      have h := fl_len hv (fun j => decide (0 < (szP L [] L).getD j 0)) L.length (L.length - 1) 0 v hv0 (by omega)
      show (fl (fun j => decide (0 < (szP L [] L).getD j 0)) L L.length (L.length - 1) 0).length ≤ 5000
      omega
  · rw [if_neg hv]
    simp
theorem usesN_len (L : List Cl) : (usesN L).1.length ≤ 20 := by
  unfold usesN
  by_cases hv : vnet L = true
  · have h := (vnet_all hv).1.2
    rw [if_pos hv]
    split
    · simp
    · show (usP L L.length (us0 L.length)).length ≤ 20
      rw [usP_length]
      simp [us0]
      exact h
  · rw [if_neg hv]
    simp
set_option maxRecDepth 100000 in
set_option maxHeartbeats 4000000 in
theorem flats_any (a0 : Option Addr) (cap : Nat) (L : List Cl) (w : World) (hl : L.length ≤ 9223372036854775807) (hN : Net w a0 L) (hk : CsOk L) (hcap : L.length ≤ cap) :
    Calls Try.prog 11 #[.slice a0 L.length cap] w fun e w' => e = .returned (.bool true) ∧ Below w.heap.size w w' := by
  have H1 := hid fun w' (hg : Grew w w') => flat_any a0 cap L w' hl (hN.grew hg) hk
  have H2 := hid fun w' (hg : Grew w w') => rflatN_any a0 cap L w' hl (hN.grew hg) hk hcap
  have H3 := hid fun w' (hg : Grew w w') => uses_any a0 cap L w' hl (hN.grew hg) hk
  have H4 := hid fun w' (hn : Net w' a0 L) => ruses_any a0 cap L w' hl hn hk hcap
  have b1 := flatN_len L
  have b2 := usesN_len L
  obtain ⟨⟨R1, E1⟩, hR1⟩ : ∃ R, flatN L = R := ⟨_, rfl⟩
  obtain ⟨⟨R2, E2⟩, hR2⟩ : ∃ R, usesN L = R := ⟨_, rfl⟩
  rw [hR1] at H1 H2 b1
  rw [hR2] at H3 H4 b2
  dsimp only at b1 b2
  have HN := hid hN
  clear hN hk hl hcap hR1 hR2
  go_enter Try.func11, Try.ntmps11
  go_wp2_with fail
  refine (H1.out _ (by repeat (first | exact Grew.refl _ | refine Grew.drewN ?_ _ | refine Grew.grow ?_ _ | refine Grew.alloc ?_ _ | refine Grew.drew ?_))).mono ?_
  rintro e W1 ⟨⟨a1, k1, rfl, hO1⟩, hg1⟩
  dsimp only at hO1 ⊢
  have HG := hid (show Grew w W1 from Grew.trans (by repeat (first | exact Grew.refl _ | refine Grew.drewN ?_ _ | refine Grew.grow ?_ _ | refine Grew.alloc ?_ _ | refine Grew.drew ?_)) hg1)
  have HI1 := hid (OwnI.its hO1)
  clear hO1 hg1 H1
  go_wp2_with fail
  refine (H2.out _ (HG.out.trans (by repeat (first | exact Grew.refl _ | refine Grew.drewN ?_ _ | refine Grew.grow ?_ _ | refine Grew.alloc ?_ _ | refine Grew.drew ?_)))).mono ?_
  rintro e W2 ⟨⟨a2, k2, rfl, hO2⟩, hg2⟩
  dsimp only at hO2 ⊢
  have hg2 : Grew W1 W2 := Grew.trans (by repeat (first | exact Grew.refl _ | refine Grew.drewN ?_ _ | refine Grew.grow ?_ _ | refine Grew.alloc ?_ _ | refine Grew.drew ?_)) hg2
  have HI1 := hid (HI1.out.grew hg2)
  have HI2 := hid (OwnI.its hO2)
  have HG := hid (HG.out.trans hg2)
  clear hO2 hg2 H2
  have HS := hid fun w' (hg : Grew W2 w') => sameItems_same a1 a2 k1 k2 R1 w' (by omega) (HI1.out.grew hg) (HI2.out.grew hg)
  go_wp2_with fail
  refine (HS.out _ (by repeat (first | exact Grew.refl _ | refine Grew.drewN ?_ _ | refine Grew.grow ?_ _ | refine Grew.alloc ?_ _ | refine Grew.drew ?_))).mono ?_
  rintro e W3 ⟨rfl, hg3⟩
  have hg3 : Grew W2 W3 := Grew.trans (by repeat (first | exact Grew.refl _ | refine Grew.drewN ?_ _ | refine Grew.grow ?_ _ | refine Grew.alloc ?_ _ | refine Grew.drew ?_)) hg3
  have HG := hid (HG.out.trans hg3)
  clear hg3 HS HI1 HI2
  go_wp2_with fail
  refine (H3.out _ (HG.out.trans (by repeat (first | exact Grew.refl _ | refine Grew.drewN ?_ _ | refine Grew.grow ?_ _ | refine Grew.alloc ?_ _ | refine Grew.drew ?_)))).mono ?_
  rintro e W4 ⟨⟨a3, k3, rfl, hO3⟩, hb4⟩
  dsimp only at hO3 ⊢
  have HB := hid (below_fromN (w := w) hb4 (HG.out.trans (by repeat (first | exact Grew.refl _ | refine Grew.drewN ?_ _ | refine Grew.grow ?_ _ | refine Grew.alloc ?_ _ | refine Grew.drew ?_))))
  have HZ3 := hid (OwnZ.zs hO3)
  clear hO3 hb4 H3
  go_wp2_with fail
  refine (H4.out _ ((HN.out.belowN HB.out).grew (by repeat (first | exact Grew.refl _ | refine Grew.drewN ?_ _ | refine Grew.grow ?_ _ | refine Grew.alloc ?_ _ | refine Grew.drew ?_)))).mono ?_
  rintro e W5 ⟨⟨a4, k4, rfl, hO4⟩, hg5⟩
  dsimp only at hO4 ⊢
  have hg5 : Grew W4 W5 := Grew.trans (by repeat (first | exact Grew.refl _ | refine Grew.drewN ?_ _ | refine Grew.grow ?_ _ | refine Grew.alloc ?_ _ | refine Grew.drew ?_)) hg5
  have HZ3 := hid (HZ3.out.grew hg5)
  have HZ4 := hid (OwnZ.zs hO4)
  have HB := hid (below_grewN HB.out hg5)
  clear hO4 hg5 H4
  have HS := hid fun w' (hg : Grew W5 w') => sameInts_same a3 a4 k3 k4 R2 w' (by omega) (HZ3.out.grew hg) (HZ4.out.grew hg)
  go_wp2_with fail
  refine (HS.out _ (by repeat (first | exact Grew.refl _ | refine Grew.drewN ?_ _ | refine Grew.grow ?_ _ | refine Grew.alloc ?_ _ | refine Grew.drew ?_))).mono ?_
  rintro e W6 ⟨rfl, hg6⟩
  have hg6 : Grew W5 W6 := Grew.trans (by repeat (first | exact Grew.refl _ | refine Grew.drewN ?_ _ | refine Grew.grow ?_ _ | refine Grew.alloc ?_ _ | refine Grew.drew ?_)) hg6
  have HB := hid (below_grewN HB.out hg6)
  clear hg6 HS HZ3 HZ4
  go_wp2_with fail
  refine (awake_any _).mono ?_
  rintro e w' ⟨rfl, ga, na, rfl⟩
  go_wp2_with fail
  go_ret
  exact ⟨rfl, below_grewN HB.out (by repeat (first | exact Grew.refl _ | refine Grew.drewN ?_ _ | refine Grew.grow ?_ _ | refine Grew.alloc ?_ _ | refine Grew.drew ?_))⟩
theorem meshFlats_walk (a0 : Option Addr) (len cap : Nat) (w : World) (h : ∃ L : List Cl, len = L.length ∧ L.length ≤ 9223372036854775807 ∧ Net w a0 L ∧ CsOk L ∧ L.length ≤ cap) :
    Calls Try.prog 11 #[.slice a0 len cap] w fun e w' => e = .returned (.bool true) ∧ Below w.heap.size w w' := by
  obtain ⟨L, rfl, h1, h2, h3, h4⟩ := h
  exact flats_any a0 cap L w h1 h2 h3 h4

end Go.Proofs.Ytkglnnkghillpaa
