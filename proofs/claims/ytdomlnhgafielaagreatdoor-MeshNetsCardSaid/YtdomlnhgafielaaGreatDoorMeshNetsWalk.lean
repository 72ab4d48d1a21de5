/- The law MeshNets: it returns true. Conditions: the netlist lies in memory, the variables are laid. -/
import Derived.Test.YtdomlnhgafielaaGreatDoorSmA
namespace Go.Proofs.YtdomlnhgafielaaGreatDoor
open Go Go.RowKit Amp Msh

theorem fmtN_no {L : List Cl} (h : (fmtN L).2 = 0) : vnet L = true ∧ (netT L).length ≤ 4000 := by
  unfold fmtN at h
  split at h
  · split at h
    · exact ⟨‹_›, ‹_›⟩
    · cases h
  · cases h
set_option maxRecDepth 100000 in
set_option maxHeartbeats 8000000 in
theorem meshNets_walk (a0 : Option Addr) (cap : Nat) (L : List Cl) (w : World) (hl7 : L.length ≤ 9223372036854775807) (hN : Net w a0 L) (hk : CsOk L) (hcap : L.length ≤ cap) (hL : LaidN w) :
    Calls Tryz.prog 3 #[.slice a0 L.length cap] w fun e w' => e = .returned (.bool true) ∧ Below w.heap.size w w' := by
  have HF := hid (formatN_any a0 cap L w hl7 hN hk hL.lay.tab)
  have HG := hid fun w' (h : Below w.heap.size w w') => rformatN_any a0 cap L w' hl7 (hN.below h) hk hcap
  have HV := hid fun w' (h : Below w.heap.size w w') => vnetP_any a0 cap L w' hl7 (hN.below h) hk
  have HW := hid fun w' (h : Below w.heap.size w w') => rvnet_any a0 cap L w' hl7 (hN.below h) hk hcap
  have HL := hid hL
  have HN := hid hN
  have HKK := hid hk
  obtain ⟨v, hv⟩ : ∃ v, vnet L = v := ⟨_, rfl⟩
  obtain ⟨T, hT⟩ : ∃ T, (fmtN L).1 = T := ⟨_, rfl⟩
  obtain ⟨E, hE⟩ : ∃ E, (fmtN L).2 = E := ⟨_, rfl⟩
  rw [hT, hE] at HF HG
  rw [hv] at HV HW
  have HE := hid hE
  have HT := hid hT
  obtain ⟨n, hn⟩ : ∃ n, L.length = n := ⟨_, rfl⟩
  have HLEN := hid hn
  rw [hn] at HF HG HV HW ⊢
  have e0 := eq_t (rfl : T = T)
  clear hL hN hk hv hT hE hl7 hn
  go_enter Tryz.func3, Tryz.ntmps3
  go_wp2_with fail
  refine HF.out.mono ?_
  rintro e w1 ⟨rfl, g1⟩
  dsimp only
  have HG1 := hid g1
  clear g1
  go_wp2_with fail
  refine (HG.out _ HG1.out).mono ?_
  rintro e w2 ⟨rfl, g2⟩
  dsimp only
  have HG2 := hid (HG1.out.trans (g2.below.mono HG1.out.size))
  clear g2
  go_wp2_with fail
  refine (HV.out _ HG2.out).mono ?_
  rintro e w3 ⟨rfl, g3⟩
  dsimp only
  have HG3 := hid (HG2.out.trans (g3.below.mono HG2.out.size))
  clear g3
  go_wp2_with fail
  refine (HW.out _ HG3.out).mono ?_
  rintro e w4 ⟨rfl, g4⟩
  dsimp only
  have HG4 := hid (HG3.out.trans (g4.below.mono HG3.out.size))
  clear g4
  by_cases hE : E = 0
  case pos =>
    subst hE
    obtain ⟨hv, h4⟩ := fmtN_no HE.out
    have hq := parP_text hv h4
    have hTT : netT L = T := by rw [← HT.out, fmtN_ok hv h4]
    have hp := ppar_any T w4 (HL.out.below HG4.out) (by rw [← hTT]; omega)
    rw [hTT] at hq
    rw [hq] at hp
    have HP := hid hp
    have HLN := hid (vnet_len hv)
    have HK2 := hid fun c hc => (vnet_wi hv c hc).2
    clear hv h4 hq hTT hp
    go_wp2_with fail
    refine HP.out.mono ?_
    rintro e w5 ⟨⟨a1, k1, rfl, hN1, hk1⟩, g5⟩
    dsimp only
    have HG5 := hid (HG4.out.trans (g5.mono HG4.out.size))
    have HS := hid (same_any a1 a0 k1 cap L w5 (by have := HLN.out; omega) hN1 (HN.out.below HG5.out) (fun c hc => by have := HK2.out c hc; omega))
    rw [HLEN.out] at HS
    have HLEN2 := hid HLEN.out
    rw [HLEN.out]
    clear hN1 hk1 g5
    go_wp2_with fail
    refine HS.out.mono ?_
    rintro e w6 ⟨rfl, g6⟩
    dsimp only
    have HG6 := hid (HG5.out.trans (g6.below.mono HG5.out.size))
    clear g6
    go_wp2_with fail
    refine (awake_any _).mono ?_
    rintro e w9 ⟨rfl, g9⟩
    go_wp2_with fail
    go_ret
    exact ⟨rfl, HG6.out.trans (g9.below.mono HG6.out.size)⟩
  case neg =>
    have e8 : (E != 0) = true := by simpa using hE
    clear hE
    go_wp2_with fail
    refine (awake_any _).mono ?_
    rintro e w9 ⟨rfl, g9⟩
    go_wp2_with fail
    go_ret
    exact ⟨rfl, HG4.out.trans (g9.below.mono HG4.out.size)⟩
end Go.Proofs.YtdomlnhgafielaaGreatDoor
