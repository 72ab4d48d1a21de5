/- Same of netlists that are equal: true. Conditions: the netlists lie in memory. -/
import Derived.Test.YtdomlnhgafielaaGreatDoorNetC
import Derived.Test.YtdomlnhgafielaaGreatDoorPrA
import Derived.Test.YtdomlnhgafielaaGreatDoorMshO

namespace Go.Proofs.YtdomlnhgafielaaGreatDoor
open Go Go.RowKit Amp Msh

set_option maxRecDepth 100000 in
set_option maxHeartbeats 8000000 in
theorem sameI_any (a1 a2 : Option Addr) (k1 k2 : Nat) (l : List It) (w : World) (hl : l.length ≤ 9223372036854775800) (h1 : Its w a1 l) (h2 : Its w a2 l) :
    Calls Tryz.prog 26 #[.slice a1 l.length k1, .slice a2 l.length k2] w fun e w' => e = .returned (.bool true) ∧ Grew w w' := by
  have H1 := hid h1
  have H2 := hid h2
  obtain ⟨n, hn⟩ : ∃ n, l.length = n := ⟨_, rfl⟩
  have HN := hid hn
  rw [hn] at hl ⊢
  clear h1 h2 hn
  go_enter Tryz.func26, Tryz.ntmps26
  go_wp2_with fail
  go_loopw [5, 13] (fun _ v wr => ∃ i : Nat, i ≤ n ∧ v = .int .i64 i ∧ Hid (Grew w wr)) (fun _ v _ => n - (intOf v).toNat)
  case atStart => exact ⟨0, Nat.zero_le _, rfl, (by repeat (first | exact Grew.refl _ | refine Grew.drewN ?_ _ | refine Grew.grow ?_ _ | refine Grew.alloc ?_ _ | refine Grew.drew ?_))⟩
  case round =>
    obtain ⟨i, hi, rfl, HG⟩ := hrel
    by_cases hlt : i < n
    case pos =>
      obtain ⟨x, hx⟩ : ∃ x, l[i]? = some x := ⟨_, List.getElem?_eq_getElem (by have := HN.out; omega)⟩
      obtain ⟨b, off, rfl, hb, c0, c1, c2, c3⟩ := (H1.out.grew HG.out).cells hx
      obtain ⟨b', off', rfl, hb', d0, d1, d2, d3⟩ := (H2.out.grew HG.out).cells hx
      have hb1 := fun m0 : Nat => Nat.lt_add_right m0 (hb)
      have hb2 := fun m0 m1 : Nat => Nat.lt_add_right m1 (hb1 m0)
      have hb3 := fun m0 m1 m2 : Nat => Nat.lt_add_right m2 (hb2 m0 m1)
      have hb'1 := fun m0 : Nat => Nat.lt_add_right m0 (hb')
      have hb'2 := fun m0 m1 : Nat => Nat.lt_add_right m1 (hb'1 m0)
      have hb'3 := fun m0 m1 m2 : Nat => Nat.lt_add_right m2 (hb'2 m0 m1)
      clear hx
      go_wp2_with fail
      refine wp_region_gentle_lit (by kernel_rfl) (by kernel_rfl) ?_
      repeat (first | go_big_quiet_skip | (go_big_quiet_want; go_big_quiet_op; first | go_big_quiet_on | fail))
      refine wpQuiet_nil ?_
      rintro _ ⟨gg, ng, rfl⟩
      go_wp2_with fail
      refine ⟨⟨i + 1, hlt, by go_num, HG.out.trans (by repeat (first | exact Grew.refl _ | refine Grew.drewN ?_ _ | refine Grew.grow ?_ _ | refine Grew.alloc ?_ _ | refine Grew.drew ?_))⟩, ?_⟩
      simp [intOf]
      omega
    case neg =>
      go_wp2_with fail
      go_ret
      exact ⟨rfl, HG.out.trans (by repeat (first | exact Grew.refl _ | refine Grew.drewN ?_ _ | refine Grew.grow ?_ _ | refine Grew.alloc ?_ _ | refine Grew.drew ?_))⟩
theorem Its.any {w : World} {a : Option Addr} {l : List It} (h : Its w a l) (w' : World) (hg : Grew w w') : Its w' a l := h.grew hg
set_option maxRecDepth 100000 in
set_option maxHeartbeats 8000000 in
theorem same_any (a1 a2 : Option Addr) (k1 k2 : Nat) (L : List Cl) (w : World) (hl : L.length ≤ 9223372036854775800) (h1 : Net w a1 L) (h2 : Net w a2 L) (hk : ∀ c ∈ L, c.items.length ≤ 9223372036854775800) :
    Calls Tryz.prog 11 #[.slice a1 L.length k1, .slice a2 L.length k2] w fun e w' => e = .returned (.bool true) ∧ Grew w w' := by
  have H1 := hid h1
  have H2 := hid h2
  have HK := hid hk
  obtain ⟨n, hn⟩ : ∃ n, L.length = n := ⟨_, rfl⟩
  have HN := hid hn
  rw [hn] at hl ⊢
  clear h1 h2 hn hk
  go_enter Tryz.func11, Tryz.ntmps11
  go_wp2_with fail
  go_loopw [5, 13] (fun _ v wr => ∃ i : Nat, i ≤ n ∧ v = .int .i64 i ∧ Hid (Grew w wr)) (fun _ v _ => n - (intOf v).toNat)
  case atStart => exact ⟨0, Nat.zero_le _, rfl, (by repeat (first | exact Grew.refl _ | refine Grew.drewN ?_ _ | refine Grew.grow ?_ _ | refine Grew.alloc ?_ _ | refine Grew.drew ?_))⟩
  case round =>
    obtain ⟨i, hi, rfl, HG⟩ := hrel
    by_cases hlt : i < n
    case pos =>
      obtain ⟨c, hc⟩ : ∃ x, L[i]? = some x := ⟨_, List.getElem?_eq_getElem (by have := HN.out; omega)⟩
      obtain ⟨b, off, rfl, hb, c0, c1, ai, ki, c2, hI⟩ := (H1.out.grew HG.out).cells hc
      obtain ⟨b', off', rfl, hb', d0, d1, aj, kj, d2, hJ⟩ := (H2.out.grew HG.out).cells hc
      have HS := hid fun w' (hg : Grew wr w') => sameI_any ai aj ki kj c.items w' (HK.out c (List.mem_of_getElem? hc)) (hI.grew hg) (hJ.grew hg)
      have hb1 := fun m0 : Nat => Nat.lt_add_right m0 (hb)
      have hb2 := fun m0 m1 : Nat => Nat.lt_add_right m1 (hb1 m0)
      have hb3 := fun m0 m1 m2 : Nat => Nat.lt_add_right m2 (hb2 m0 m1)
      have hb'1 := fun m0 : Nat => Nat.lt_add_right m0 (hb')
      have hb'2 := fun m0 m1 : Nat => Nat.lt_add_right m1 (hb'1 m0)
      have hb'3 := fun m0 m1 m2 : Nat => Nat.lt_add_right m2 (hb'2 m0 m1)
      clear hc hI hJ
      go_wp2_with fail
      refine wp_region_gentle_lit (by kernel_rfl) (by kernel_rfl) ?_
      repeat (first | go_big_quiet_skip | (go_big_quiet_want; go_big_quiet_op; first | go_big_quiet_on | (apply Exists.intro; refine ⟨fun qq => ?_, ?_⟩; (focus ((first | (go_at_call 26; with_reducible refine Calls.gentle_of (HS.out _ (by repeat (first | exact Grew.refl _ | refine Grew.drewN ?_ _ | refine Grew.grow ?_ _ | refine Grew.alloc ?_ _ | refine Grew.drew ?_))) ?_)); rintro _ ⟨g', n', rfl⟩; exact ⟨⟨qq.g ++ g', qq.n + n'⟩, by rw [World.grow_drewN, World.grow_grow, World.drewN_drewN]; repeat (first | rw [List.append_assoc] | rw [Nat.add_assoc])⟩)); go_big_quiet_on)))
      refine wpQuiet_nil ?_
      rintro _ ⟨gg, ng, rfl⟩
      go_wp2_with fail
      refine ⟨⟨i + 1, hlt, by go_num, HG.out.trans (by repeat (first | exact Grew.refl _ | refine Grew.drewN ?_ _ | refine Grew.grow ?_ _ | refine Grew.alloc ?_ _ | refine Grew.drew ?_))⟩, ?_⟩
      simp [intOf]
      omega
    case neg =>
      go_wp2_with fail
      go_ret
      exact ⟨rfl, HG.out.trans (by repeat (first | exact Grew.refl _ | refine Grew.drewN ?_ _ | refine Grew.grow ?_ _ | refine Grew.alloc ?_ _ | refine Grew.drew ?_))⟩
end Go.Proofs.YtdomlnhgafielaaGreatDoor

/- The law MeshTexts: it returns true. Conditions: the text's length is within the reach, the variables are laid. -/

namespace Go.Proofs.YtdomlnhgafielaaGreatDoor
open Go Go.RowKit Amp Msh

theorem parP_no {l : List UInt8} {L : List Cl} {E : Int} (h : parP l = (L, E)) (hE : E ≠ 0) : L = [] := by
  unfold parP at h
  split at h
  · injection h with h1 h2
    exact h1.symm
  · split at h
    · injection h with h1 h2
      exact absurd h2.symm hE
    · injection h with h1 h2
      exact h1.symm
theorem fmtN_ok {L : List Cl} (hv : vnet L = true) (hl : (netT L).length ≤ 4000) : fmtN L = (netT L, 0) := by
  unfold fmtN
  rw [if_pos hv, if_pos hl]
theorem nameB_size {q : ByteArray} (h : nameB q = true) : q.size ≤ maxLen := by
  have hm : 8 ≤ maxLen := by decide
  unfold nameB at h
  rw [Bool.and_eq_true, decide_eq_true_iff] at h
  omega
theorem vnet_ok {L : List Cl} (hv : vnet L = true) : CsOk L := fun c hc => by
  obtain ⟨h1, h2⟩ := vnet_wi hv c hc
  refine ⟨nameB_size h1.1, by omega, fun x hx => ?_⟩
  rcases (h1.2.2 x hx).2 with ⟨_, _, _, h⟩ | ⟨_, _, h⟩ | ⟨_, _, h⟩
  · rw [h]; exact Nat.zero_le _
  · rw [h]; exact Nat.zero_le _
  · exact nameB_size h
theorem vnet_len {L : List Cl} (hv : vnet L = true) : L.length ≤ 20 := (vnet_all hv).1.2
set_option maxRecDepth 100000 in
set_option maxHeartbeats 8000000 in
theorem meshTexts_walk (l : List UInt8) (w : World) (hl : l.length ≤ 140737488351232) (hL : LaidN w) :
    Calls Tryz.prog 4 #[.string (strB l)] w fun e w' => e = .returned (.bool true) ∧ Below w.heap.size w w' := by
  have HP := hid fun w h => ppar_any l w h hl
  have HQ := hid fun w => rparse_any l w hl
  rw [← par_same l] at HQ
  have HL := hid hL
  obtain ⟨⟨L, E⟩, hp⟩ : ∃ r, parP l = r := ⟨_, rfl⟩
  rw [hp] at HP HQ
  have HPP := hid hp
  clear hL hl hp
  by_cases hE : E = 0
  case pos =>
    subst hE
    obtain ⟨hv, ht, h4⟩ := parP_ok HPP.out
    have HF := hid (fmtN_ok hv (by rw [ht]; exact h4))
    rw [ht] at HF
    have HOK := hid (vnet_ok hv)
    have HLN := hid (vnet_len hv)
    have HKK := hid fun c hc => (vnet_wi hv c hc).2
    clear hv ht h4
    go_enter Tryz.func4, Tryz.ntmps4
    go_wp2_with fail
    refine (HP.out _ HL.out).mono ?_
    rintro e w1 ⟨⟨a1, k1, rfl, hN1, hk1⟩, g1⟩
    dsimp only
    have HN1 := hid hN1
    have HG1 := hid g1
    clear hN1 hk1 g1
    go_wp2_with fail
    refine (HQ.out _).mono ?_
    rintro e w2 ⟨⟨a2, k2, rfl, hN2, hk2⟩, g2⟩
    dsimp only
    have HN1 := hid (HN1.out.grew g2)
    have HN2 := hid hN2
    have HG2 := hid (HG1.out.trans (g2.below.mono HG1.out.size))
    have HS := hid (same_any a1 a2 k1 k2 L w2 (by have := HLN.out; omega) HN1.out hN2 (fun c hc => by have := HKK.out c hc; omega))
    clear hN2 hk2 g2
    go_wp2_with fail
    refine HS.out.mono ?_
    rintro e w3 ⟨rfl, g3⟩
    dsimp only
    have HG3 := hid (HG2.out.trans (g3.below.mono HG2.out.size))
    have HFO := hid (formatN_any a1 k1 L w3 (by have := HLN.out; omega) (HN1.out.grew g3) HOK.out (HL.out.below HG3.out).lay.tab)
    rw [HF.out] at HFO
    clear g3
    go_wp2_with fail
    refine HFO.out.mono ?_
    rintro e w4 ⟨rfl, g4⟩
    dsimp only
    have HG4 := hid (HG3.out.trans (g4.mono HG3.out.size))
    clear g4
    have e9 := eq_t (rfl : l = l)
    go_wp2_with fail
    refine (awake_any _).mono ?_
    rintro e w9 ⟨rfl, g9⟩
    go_wp2_with fail
    go_ret
    exact ⟨rfl, HG4.out.trans (g9.below.mono HG4.out.size)⟩
  case neg =>
    obtain rfl := parP_no HPP.out hE
    have e8 : (E != 0) = true := by simpa using hE
    clear hE
    go_enter Tryz.func4, Tryz.ntmps4
    go_wp2_with fail
    refine (HP.out _ HL.out).mono ?_
    rintro e w1 ⟨⟨a1, k1, rfl, hN1, hk1⟩, g1⟩
    dsimp only
    have HN1 := hid hN1
    have HG1 := hid g1
    clear hN1 hk1 g1
    go_wp2_with fail
    refine (HQ.out _).mono ?_
    rintro e w2 ⟨⟨a2, k2, rfl, hN2, hk2⟩, g2⟩
    dsimp only
    have HG2 := hid (HG1.out.trans (g2.below.mono HG1.out.size))
    have HS := hid (same_any a1 a2 k1 k2 [] w2 (Nat.zero_le _) (.inl rfl) (.inl rfl) (fun c hc => by cases hc))
    clear hN2 hk2 g2 HN1
    go_wp2_with fail
    refine HS.out.mono ?_
    rintro e w3 ⟨rfl, g3⟩
    dsimp only
    have HG3 := hid (HG2.out.trans (g3.below.mono HG2.out.size))
    clear g3
    go_wp2_with fail
    refine (awake_any _).mono ?_
    rintro e w9 ⟨rfl, g9⟩
    go_wp2_with fail
    go_ret
    exact ⟨rfl, HG3.out.trans (g9.below.mono HG3.out.size)⟩
end Go.Proofs.YtdomlnhgafielaaGreatDoor
