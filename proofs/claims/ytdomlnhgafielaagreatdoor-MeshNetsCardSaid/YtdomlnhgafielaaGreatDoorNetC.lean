/- Layer 3: which netlists are valid: the program. Condition: the netlist lies in memory. -/
import Derived.Test.YtdomlnhgafielaaGreatDoorNetA
import Derived.Carry
namespace Go.Proofs.YtdomlnhgafielaaGreatDoor
open Go Go.RowKit Amp Msh

theorem gdV_snoc {L : List Cl} {i : Nat} {c : Cl} (h : L[i]? = some c) (hn : (L.take i).find? (hasN c.name) = none) (q : ByteArray) : (if q = c.name then some (Value.int .i64 c.gd) else gdV (L.take i) q) = gdV (L.take (i + 1)) q := by
  unfold gdV
  rw [List.take_add_one, h, Option.toList, find_snoc hn]
  by_cases hq : q = c.name
  · rw [if_pos hq, if_pos hq]; rfl
  · rw [if_neg hq, if_neg hq]
theorem gds_snoc {L : List Cl} {i : Nat} {c : Cl} (h : L[i]? = some c) (hC : Gds (L.take i)) (hg : 1 ≤ c.gd ∧ c.gd ≤ 6) : Gds (L.take (i + 1)) := by
  rw [List.take_add_one, h]
  intro d hd
  rcases List.mem_append.1 hd with hd | hd
  · exact hC d hd
  · simp at hd
    subst hd
    exact hg

set_option maxRecDepth 100000 in
set_option maxHeartbeats 2000000 in
theorem vnetP_main (a0 : Option Addr) (cap : Nat) (L : List Cl) (w : World) (hl : L.length ≤ 9223372036854775807) (hN : Net w a0 L) (hk : CsOk L) (hlen : 1 ≤ L.length ∧ L.length ≤ 20) :
    Calls Tryz.prog 7 #[.slice a0 L.length cap] w fun e w' => e = .returned (.bool (vfrom [] L)) ∧ Grew w w' := by
  have HM := hid fun w => mbtw_any 1 L.length 20 w
  rw [decide_eq_true (show ((1 : Int) ≤ L.length ∧ (L.length : Int) ≤ 20) by omega)] at HM
  have HN := hid hN
  have HK := hid hk
  obtain ⟨R, hR⟩ : ∃ R, vfrom [] L = R := ⟨_, rfl⟩
  have HR := hid hR
  rw [hR]
  have hl20 : L.length ≤ 20 := hlen.2
  have hmm := @run_makeMap Tryz.prog
  clear hN hk hR hlen hl
  go_enter Tryz.func7, Tryz.ntmps7
  go_wp2_with fail
  refine (HM.out _).mono ?_
  rintro e w' ⟨rfl, g0, n0, rfl⟩
  go_wp2_with fail
  obtain ⟨W2, hW2⟩ : ∃ W2, W2 = ((w.grow g0).alloc (.map #[] 0)).drewN n0 := ⟨_, rfl⟩
  obtain ⟨bm, hbm⟩ : ∃ b, b = w.heap.size + g0.length := ⟨_, rfl⟩
  have hg2 : Grew w W2 := by rw [hW2]; exact (by repeat (first | exact Grew.refl _ | refine Grew.drewN ?_ _ | refine Grew.grow ?_ _ | refine Grew.alloc ?_ _ | refine Grew.drew ?_))
  have hM0 : MapV W2 bm 0 (gdV (L.take 0)) := by
    rw [hW2, hbm, List.take_zero]
    exact (MapV.made (w := w.grow g0) (by simp [go_sem])).grew (by repeat (first | exact Grew.refl _ | refine Grew.drewN ?_ _ | refine Grew.grow ?_ _ | refine Grew.alloc ?_ _ | refine Grew.drew ?_))
  have hbB : w.heap.size ≤ bm := by omega
  rw [← hW2, ← hbm]
  have HM0 := hid hM0
  have HG2 := hid hg2
  have HBB := hid hbB
  clear hW2 hbm hg2 hM0 HM hbB
  go_loopw [15] (fun v wr => ∃ i : Nat, i ≤ L.length ∧ v = .int .i64 i ∧ Hid (R = vfrom (L.take i) (L.drop i)) ∧ Hid (Gds (L.take i)) ∧ Hid (MapV wr bm i (gdV (L.take i))) ∧ Grew w wr) (fun v _ => L.length - (intOf v).toNat)
  case atStart => exact ⟨0, Nat.zero_le _, rfl, HR.out.symm, fun c hc => absurd hc (by simp), HM0.out, HG2.out⟩
  case round =>
    obtain ⟨i, hi, rfl, HV, HGD, HMV, hg⟩ := hrel
    by_cases hlt : i < L.length
    case neg =>
      obtain rfl : i = L.length := by omega
      have hv := HV.out
      rw [List.drop_length] at hv
      have HF := hid hv
      have HG := hid hg
      clear hv hg
      go_wp2_with fail
      go_ret
      exact ⟨by rw [HF.out]; rfl, HG.out.trans (by repeat (first | exact Grew.refl _ | refine Grew.drewN ?_ _ | refine Grew.grow ?_ _ | refine Grew.alloc ?_ _ | refine Grew.drew ?_))⟩
    case pos =>
      obtain ⟨c, hc⟩ : ∃ c, L[i]? = some c := ⟨L[i], List.getElem?_eq_getElem hlt⟩
      obtain ⟨b, off, rfl, hb, c0, c1, a2, k2, c2, hits⟩ := (HN.out.grew hg).cells hc
      obtain ⟨k3, k4, k5⟩ := HK.out.at hc
      have hv := HV.out
      rw [vfrom_step hc] at hv
      have hvc : vcell (L.take i) c = (nameB c.name && (L.take i |>.find? (hasN c.name)).isNone && decide (1 ≤ c.gd ∧ c.gd ≤ 6) && decide (c.items.length ≤ 200) && okEs (gdF (L.take i)) c.gd c.items) := rfl
      have HL := look_gd_ok (HMV.out.grew ((Grew.refl wr).alloc (.cells #[.string c.name, .int .i64 c.gd, .slice a2 c.items.length k2] 35))) c.name k3
      have HNM := hid fun w' => name_any c.name w' k3
      have HBT := hid fun w' => mbtw_any 1 c.gd 6 w'
      have HFT := hid fun w' (hg2 : Grew wr w') (g1 : 1 ≤ c.gd) (g2 : c.gd ≤ 6) => fitsM_any c.gd a2 k2 c.items bm i (L.take i) w' k4 (hits.grew hg2) (HMV.out.grew hg2) HGD.out g1 g2 k5
      obtain ⟨n5, hn5⟩ : ∃ n, c.items.length = n := ⟨_, rfl⟩
      obtain ⟨q, hq⟩ : ∃ q, c.name = q := ⟨_, rfl⟩
      obtain ⟨gd, hgd⟩ : ∃ q, c.gd = q := ⟨_, rfl⟩
      have hC := hid (And.intro hc (And.intro hq hgd))
      rw [hn5] at HFT c2 HL hvc k4
      rw [hq] at HL HNM c0 hvc k3
      rw [hgd] at HBT HFT c1 HL hvc
      have HG := hid hg
      have HMW := hid HMV.out
      obtain ⟨vc, hvcq⟩ : ∃ v, vcell (L.take i) c = v := ⟨_, rfl⟩
      rw [hvcq] at hv hvc
      have hF : vc = false → R = false := fun h => by rw [hv, h, Bool.false_and]
      have HFF := hid hF
      have HVV := hid hv
      obtain ⟨gF, hgF⟩ : ∃ F, okEs (gdF (L.take i)) gd c.items = F := ⟨_, rfl⟩
      rw [hgF] at HFT hvc
      have hb1 := fun m0 : Nat => Nat.lt_add_right m0 (hb)
      have hb2 := fun m0 m1 : Nat => Nat.lt_add_right m1 (hb1 m0)
      have hb3 := fun m0 m1 m2 : Nat => Nat.lt_add_right m2 (hb2 m0 m1)
      clear hc hits hv hF hq hgd hgF HV HMV hvcq hg k5
      cases hfd : (L.take i).find? (hasN q) with
      | some d =>
        rw [hfd] at HL hvc
        have HF := hid (HFF.out (by rw [hvc]; simp))
        clear hvc hfd HFT HBT HNM
        dsimp only [Option.isSome] at HL
        go_wp2_with fail
        go_ret
        exact ⟨by rw [HF.out]; rfl, HG.out.trans (by repeat (first | exact Grew.refl _ | refine Grew.drewN ?_ _ | refine Grew.grow ?_ _ | refine Grew.alloc ?_ _ | refine Grew.drew ?_))⟩
      | none =>
        rw [hfd] at HL hvc
        have HFD := hid hfd
        dsimp only [Option.isSome] at HL
        clear hfd
        cases hnm : nameB q with
        | false =>
          rw [hnm] at HNM hvc
          have HF := hid (HFF.out (by rw [hvc]; rfl))
          clear hvc hnm HFT HBT
          go_wp2_with fail
          refine (HNM.out _).mono ?_
          rintro e w' ⟨rfl, g1, n1, rfl⟩
          go_wp2_with fail
          go_ret
          exact ⟨by rw [HF.out]; rfl, HG.out.trans (by repeat (first | exact Grew.refl _ | refine Grew.drewN ?_ _ | refine Grew.grow ?_ _ | refine Grew.alloc ?_ _ | refine Grew.drew ?_))⟩
        | true =>
          rw [hnm] at HNM hvc
          by_cases hgg : 1 ≤ gd ∧ gd ≤ 6
          case neg =>
            rw [decide_eq_false hgg] at HBT hvc
            have HF := hid (HFF.out (by rw [hvc]; rfl))
            clear hvc hnm HFT hgg
            go_wp2_with fail
            refine (HNM.out _).mono ?_
            rintro e w' ⟨rfl, g1, n1, rfl⟩
            go_wp2_with fail
            refine (HBT.out _).mono ?_
            rintro e w' ⟨rfl, g2, n2, rfl⟩
            go_wp2_with fail
            go_ret
            exact ⟨by rw [HF.out]; rfl, HG.out.trans (by repeat (first | exact Grew.refl _ | refine Grew.drewN ?_ _ | refine Grew.grow ?_ _ | refine Grew.alloc ?_ _ | refine Grew.drew ?_))⟩
          case pos =>
            rw [decide_eq_true hgg] at HBT hvc
            have HGG := hid hgg
            by_cases h200 : n5 ≤ 200
            case neg =>
              rw [decide_eq_false h200] at hvc
              have HF := hid (HFF.out (by rw [hvc]; rfl))
              have e5 : (200 : Int) < n5 := by omega
              clear hvc hnm HFT hgg h200
              go_wp2_with fail
              refine (HNM.out _).mono ?_
              rintro e w' ⟨rfl, g1, n1, rfl⟩
              go_wp2_with fail
              refine (HBT.out _).mono ?_
              rintro e w' ⟨rfl, g2, n2, rfl⟩
              go_wp2_with fail
              go_ret
              exact ⟨by rw [HF.out]; rfl, HG.out.trans (by repeat (first | exact Grew.refl _ | refine Grew.drewN ?_ _ | refine Grew.grow ?_ _ | refine Grew.alloc ?_ _ | refine Grew.drew ?_))⟩
            case pos =>
              rw [decide_eq_true h200] at hvc
              have e5 : (n5 : Int) ≤ 200 := by omega
              have HFT := hid fun w' (hg2 : Grew wr w') => HFT.out w' hg2 hgg.1 hgg.2
              cases gF with
              | false =>
                have HF := hid (HFF.out (by rw [hvc]; rfl))
                clear hvc hnm hgg h200
                go_wp2_with fail
                refine (HNM.out _).mono ?_
                rintro e w' ⟨rfl, g1, n1, rfl⟩
                go_wp2_with fail
                refine (HBT.out _).mono ?_
                rintro e w' ⟨rfl, g2, n2, rfl⟩
                go_wp2_with fail
                refine (HFT.out _ (by repeat (first | exact Grew.refl _ | refine Grew.drewN ?_ _ | refine Grew.grow ?_ _ | refine Grew.alloc ?_ _ | refine Grew.drew ?_))).mono ?_
                rintro e w' ⟨rfl, g3, n3, rfl⟩
                go_wp2_with fail
                go_ret
                exact ⟨by rw [HF.out]; rfl, HG.out.trans (by repeat (first | exact Grew.refl _ | refine Grew.drewN ?_ _ | refine Grew.grow ?_ _ | refine Grew.alloc ?_ _ | refine Grew.drew ?_))⟩
              | true =>
                have HN2 := hid (show R = vfrom (L.take (i + 1)) (L.drop (i + 1)) by rw [HVV.out, hvc]; rfl)
                clear hvc hnm hgg h200
                go_wp2_with fail
                refine (HNM.out _).mono ?_
                rintro e w' ⟨rfl, g1, n1, rfl⟩
                go_wp2_with fail
                refine (HBT.out _).mono ?_
                rintro e w' ⟨rfl, g2, n2, rfl⟩
                go_wp2_with fail
                refine (HFT.out _ (by repeat (first | exact Grew.refl _ | refine Grew.drewN ?_ _ | refine Grew.grow ?_ _ | refine Grew.alloc ?_ _ | refine Grew.drew ?_))).mono ?_
                rintro e w' ⟨rfl, g3, n3, rfl⟩
                go_wp2_with (at_mapUpdate; go_loud (refine wpList_mapUpdate_v rfl _ _ _ 41 rfl Tryz.underlying41 bm i (gdV (L.take i)) rfl (HMW.out.grew (by repeat (first | exact Grew.refl _ | refine Grew.drewN ?_ _ | refine Grew.grow ?_ _ | refine Grew.alloc ?_ _ | refine Grew.drew ?_))) ?hmx q k3 (.int .i64 gd) rfl rfl ?_))
                case hmx => unfold maxLen; omega
                · intro wB hMB hgB hdB
                  have HGB := hid (show Grew w wB from Grew.by (HG.out.trans (by repeat (first | exact Grew.refl _ | refine Grew.drewN ?_ _ | refine Grew.grow ?_ _ | refine Grew.alloc ?_ _ | refine Grew.drew ?_))) hgB hdB (fun jj hjj => by cases hjj; exact HBB.out))
                  have hd := HFD.out
                  rw [← hC.out.2.1] at hd
                  have HMB := hid (show MapV wB bm (i + 1) (gdV (L.take (i + 1))) from MapV.congr hMB fun p _ => by
                    have := gdV_snoc hC.out.1 hd p
                    rw [hC.out.2.1, hC.out.2.2] at this
                    exact this)
                  have HGN := hid (gds_snoc hC.out.1 HGD.out (by rw [hC.out.2.2]; exact HGG.out))
                  clear hMB hgB hdB hd
                  go_wp2_with fail
                  go_roundw
                  case rel => exact ⟨i + 1, by omega, by go_num, HN2.out, HGN.out, HMB.out.grew (by repeat (first | exact Grew.refl _ | refine Grew.drewN ?_ _ | refine Grew.grow ?_ _ | refine Grew.alloc ?_ _ | refine Grew.drew ?_)), HGB.out.trans (by repeat (first | exact Grew.refl _ | refine Grew.drewN ?_ _ | refine Grew.grow ?_ _ | refine Grew.alloc ?_ _ | refine Grew.drew ?_))⟩
                  case measure => simp [intOf]; omega
theorem vnetP_any (a0 : Option Addr) (cap : Nat) (L : List Cl) (w : World) (hl : L.length ≤ 9223372036854775807) (hN : Net w a0 L) (hk : CsOk L) :
    Calls Tryz.prog 7 #[.slice a0 L.length cap] w fun e w' => e = .returned (.bool (vnet L)) ∧ Grew w w' := by
  by_cases hlen : 1 ≤ L.length ∧ L.length ≤ 20
  · rw [show vnet L = vfrom [] L by unfold vnet; rw [decide_eq_true hlen, Bool.true_and]]
    exact vnetP_main a0 cap L w hl hN hk hlen
  · rw [show vnet L = false by unfold vnet; rw [decide_eq_false hlen, Bool.false_and]]
    have HM := hid fun w => mbtw_any 1 L.length 20 w
    rw [decide_eq_false (show ¬ ((1 : Int) ≤ L.length ∧ (L.length : Int) ≤ 20) by omega)] at HM
    clear hN hk hlen
    go_enter Tryz.func7, Tryz.ntmps7
    go_wp2_with fail
    refine (HM.out _).mono ?_
    rintro e w' ⟨rfl, g0, n0, rfl⟩
    go_wp2_with fail
    go_ret
    exact ⟨rfl, (by repeat (first | exact Grew.refl _ | refine Grew.drewN ?_ _ | refine Grew.grow ?_ _ | refine Grew.alloc ?_ _ | refine Grew.drew ?_))⟩

end Go.Proofs.YtdomlnhgafielaaGreatDoor
