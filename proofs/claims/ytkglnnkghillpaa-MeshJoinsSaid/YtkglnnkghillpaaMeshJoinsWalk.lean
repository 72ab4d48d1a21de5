/- The main case of the law MeshJoins. Condition: the items and the numbers lie in memory, not too many. -/
import Derived.Test.YtkglnnkghillpaaMeshJoinsA
namespace Go.Proofs.Ytkglnnkghillpaa
open Go Go.RowKit Amp Msh

set_option maxRecDepth 100000 in
set_option maxHeartbeats 4000000 in
theorem joins_main (n : Nat) (a0 : Option Addr) (cap : Nat) (its : List It) (a1 : Option Addr) (cap1 : Nat) (itm : List It) (a2 : Option Addr) (k2 : Nat) (v : List Num) (w : World) (S : Int) (hS : wrap64 ((its.length : Int) + itm.length) = S) (h : ¬ 60 < S) (hl : its.length ≤ 9223372036854775807) (hc : Its w a0 its) (hm : itm.length ≤ 9223372036854775807) (hcm : Its w a1 itm) (hlv : v.length ≤ 9223372036854775807) (h1 : Nms w a2 v) (hk : chkIts n its = 0) (hkm : chkIts n itm = 0) (hn : v.length = n) (hv : isVec v = true)
    (no0 : a0 = none → its.length = 0 ∧ cap = 0) (no1 : a1 = none → itm.length = 0 ∧ cap1 = 0) :
    Calls Try.prog 9 #[.int .i64 n, .slice a0 its.length cap, .slice a1 itm.length cap1, .slice a2 v.length k2] w fun e w' => e = .returned (.bool true) ∧ Grew w w' := by
  have e1 : decide ((60 : Int) < S) = false := decide_eq_false h
  have HK1 := hid fun w' (h : Grew w w') => asked_any n a0 cap its w' hl (hc.grew h)
  have HK2 := hid fun w' (h : Grew w w') => asked_any n a1 cap1 itm w' hm (hcm.grew h)
  have HV := hid fun w' (h : Grew w w') => isVec_any a2 k2 v w' hlv (h1.grew h)
  rw [hk] at HK1
  rw [hkm] at HK2
  rw [hv] at HV
  have e2 : ((v.length : Int) != n) = false := by simp [hn]
  have HMA := hid fun w' (hg : Grew w w') => matOf_any n a0 cap its w' hl (hc.grew hg)
  have HMB := hid fun w' (hg : Grew w w') => matOf_any n a1 cap1 itm w' hm (hcm.grew hg)
  have HI0 := hid fun w' (hg : Grew w w') => its_news (hc.grew hg)
  have HI1 := hid fun w' (hg : Grew w w') => its_news (hcm.grew hg)
  have HX0 := hid no0
  have HX1 := hid no1
  obtain ⟨q1, q2, q3, q4⟩ := chkIts_zero hk
  obtain ⟨r1, r2, r3, r4⟩ := chkIts_zero hkm
  have HLEN := hid (show its.length ≤ 5000 ∧ itm.length ≤ 5000 from ⟨q3, r3⟩)
  obtain ⟨⟨A, E1⟩, hA1⟩ : ∃ R, matOf n its = R := ⟨_, rfl⟩
  obtain ⟨⟨B, E2⟩, hB1⟩ : ∃ R, matOf n itm = R := ⟨_, rfl⟩
  rw [hA1] at HMA
  rw [hB1] at HMB
  rw [Int.toNat_natCast] at HMA HMB
  have HA1 := hid hA1
  have HB1 := hid hB1
  have n1 : 1 ≤ n := by omega
  have n2 : n ≤ 6 := by omega
  have HVN := hid (show v.length = n ∧ VldL v from ⟨hn, allVld_iff (by unfold isVec at hv; rw [Bool.and_eq_true] at hv; exact hv.1)⟩)
  have HW1 := hid h1
  have HLIT := hid fun w' (hg : Grew w w') => light_any n a0 cap its a2 k2 v w' hl (hc.grew hg) (by omega) (h1.grew hg)
  rw [litOf_litN hk hv hn] at HLIT
  obtain ⟨⟨X, EX⟩, hX⟩ : ∃ R, litN n its v = R := ⟨_, rfl⟩
  rw [hX] at HLIT
  have HX := hid hX
  clear hX
  clear h hl hc hk hkm hm hcm hn hlv h1 hv no0 no1 q1 q2 q3 q4 r1 r2 r3 r4 hA1 hB1
  go_enter Try.func9, Try.ntmps9
  go_wp2_with fail
  refine (HK1.out _ (by repeat (first | exact Grew.refl _ | refine Grew.drewN ?_ _ | refine Grew.grow ?_ _ | refine Grew.alloc ?_ _ | refine Grew.drew ?_))).mono ?_
  rintro e w' ⟨rfl, g1, m1, rfl⟩
  go_wp2_with fail
  refine (HK2.out _ (by repeat (first | exact Grew.refl _ | refine Grew.drewN ?_ _ | refine Grew.grow ?_ _ | refine Grew.alloc ?_ _ | refine Grew.drew ?_))).mono ?_
  rintro e w' ⟨rfl, g2, m2, rfl⟩
  go_wp2_with fail
  refine (HV.out _ (by repeat (first | exact Grew.refl _ | refine Grew.drewN ?_ _ | refine Grew.grow ?_ _ | refine Grew.alloc ?_ _ | refine Grew.drew ?_))).mono ?_
  rintro e w' ⟨rfl, g3, m3, rfl⟩
  go_wp2_with fail
  refine (HMA.out _ (by repeat (first | exact Grew.refl _ | refine Grew.drewN ?_ _ | refine Grew.grow ?_ _ | refine Grew.alloc ?_ _ | refine Grew.drew ?_))).mono ?_
  rintro e w' ⟨⟨am, km, rfl, HA⟩, g4, m4, rfl⟩
  dsimp only at HA ⊢
  obtain ⟨N1, hN1⟩ : ∃ N, rowsOf n E1 = N := ⟨_, rfl⟩
  rw [hN1]
  have HN1 := hid hN1
  clear hN1
  simp only [World.grow_drewN, World.drewN_drewN, World.grow_grow, List.append_assoc] at HA
  have HA := hid HA.undrew
  go_wp2_with fail
  refine (HMB.out _ (by repeat (first | exact Grew.refl _ | refine Grew.drewN ?_ _ | refine Grew.grow ?_ _ | refine Grew.alloc ?_ _ | refine Grew.drew ?_))).mono ?_
  rintro e w' ⟨⟨bm, kb, rfl, HB⟩, g5, m5, rfl⟩
  dsimp only at HB ⊢
  obtain ⟨N2, hN2⟩ : ∃ N, rowsOf n E2 = N := ⟨_, rfl⟩
  rw [hN2]
  have HN2 := hid hN2
  clear hN2
  simp only [World.grow_drewN, World.drewN_drewN] at HB
  have HB := hid HB.undrew
  go_wp2_with (at_builtin; refine wpList_append_its rfl _ _ rfl (w.heap.size + g1.length + g2.length + g3.length + g4.length + 1 + g5.length + 1) _ _ [] rfl ?own a0 cap its rfl HX0.out (HI0.out _ ?gr) ?mx ?bs ?_)
  case gr => exact (by repeat (first | exact Grew.refl _ | refine Grew.drewN ?_ _ | refine Grew.grow ?_ _ | refine Grew.alloc ?_ _ | refine Grew.drew ?_))
  case mx => have := HLEN.out; simp; omega
  case bs => simp [go_sem] <;> omega
  case own => exact (ownI_empty (by simp [go_sem] <;> omega) (by omega)).grew ((Grew.refl _).drewN _)
  · intro a3 k3 wA hownA hgrowA hdrA
    obtain ⟨b9, hb9⟩ : ∃ b9, b9 = w.heap.size + g1.length + g2.length + g3.length + g4.length := ⟨_, rfl⟩
    obtain ⟨b11, hb11⟩ : ∃ b11, b11 = w.heap.size + g1.length + g2.length + g3.length + g4.length + 1 + g5.length := ⟨_, rfl⟩
    obtain ⟨W0, hW0⟩ : ∃ W0, W0 = (((w.grow (g1 ++ (g2 ++ (g3 ++ g4)))).alloc (.cells #[.int .i64 N1, .slice am A.length km] 28)).grow g5).alloc (.cells #[.int .i64 N2, .slice bm B.length kb] 28) := ⟨_, rfl⟩
    have hz : W0.heap.size = w.heap.size + g1.length + g2.length + g3.length + g4.length + 1 + g5.length + 1 := by rw [hW0]; simp [go_sem] <;> omega
    have hgA : Grew W0 wA := by rw [hW0]; exact Grew.by (w' := _) (by repeat (first | exact Grew.refl _ | refine Grew.drewN ?_ _ | refine Grew.grow ?_ _ | refine Grew.alloc ?_ _ | refine Grew.drew ?_)) hgrowA hdrA (fun jj hjj => by simp [Value.ownBlock] at hjj; simp [go_sem]; omega)
    have hg0 : Grew w W0 := by rw [hW0]; exact (by repeat (first | exact Grew.refl _ | refine Grew.drewN ?_ _ | refine Grew.grow ?_ _ | refine Grew.alloc ?_ _ | refine Grew.drew ?_))
    have hAN : Nms W0 am A := by rw [hW0]; exact HA.out.grew (by repeat (first | exact Grew.refl _ | refine Grew.drewN ?_ _ | refine Grew.grow ?_ _ | refine Grew.alloc ?_ _ | refine Grew.drew ?_))
    have hBN : Nms W0 bm B := by rw [hW0]; exact HB.out.grew (by repeat (first | exact Grew.refl _ | refine Grew.drewN ?_ _ | refine Grew.grow ?_ _ | refine Grew.alloc ?_ _ | refine Grew.drew ?_))
    have hyy : W0.cell? ⟨b9, 0, none⟩ = some (.int .i64 N1) ∧ W0.cell? ⟨b9, 1, none⟩ = some (.slice am A.length km) ∧ W0.cell? ⟨b11, 0, none⟩ = some (.int .i64 N2) ∧ W0.cell? ⟨b11, 1, none⟩ = some (.slice bm B.length kb) ∧ b9 < W0.heap.size ∧ b11 < W0.heap.size := by
      rw [hW0, hb9, hb11]
      refine ⟨?_, ?_, ?_, ?_, ?_, ?_⟩ <;> simp [go_sem] <;> omega
    rw [← hz] at hownA
    rw [← hb11, ← hb9]
    have HG0 := hid hg0
    have HGA := hid hgA
    have HAN := hid hAN
    have HBN := hid hBN
    have HYY := hid hyy
    have HOA := hid hownA
    have HDR := hid (And.intro hdrA hgrowA)
    clear hgrowA hdrA hW0 hz hgA hg0 hAN hBN hyy hownA HDR hb9 hb11
    go_wp2_with (at_builtin; refine wpList_append_its rfl _ _ rfl W0.heap.size a3 k3 its rfl HOA.out a1 cap1 itm rfl HX1.out (HI1.out _ ?gr) ?mx ?bs ?_)
    case gr => exact HG0.out.trans HGA.out
    case mx => have := HLEN.out; omega
    case bs => exact HGA.out.size
    · intro a4 k4 wB hownB hgrowB hdrB
      have hgB : Grew W0 wB := Grew.by HGA.out hgrowB hdrB (fun jj hjj => ownsRow_above HOA.out jj hjj)
      obtain ⟨LL, hLL⟩ : ∃ l, its ++ itm = l := ⟨_, rfl⟩
      have hLLn : LL.length = its.length + itm.length := by rw [← hLL, List.length_append]
      rw [hLL] at hownB
      rw [← hLLn]
      have HMC := hid (fun w' (hg : Grew wB w') => matOf_any n a4 k4 LL w' (by have := HLEN.out; omega) ((OwnI.its hownB).grew hg))
      have HLL := hid hLL
      clear hLL hLLn
      rw [Int.toNat_natCast] at HMC
      obtain ⟨⟨C, E3⟩, hC1⟩ : ∃ R, matOf n LL = R := ⟨_, rfl⟩
      rw [hC1] at HMC
      have HC1 := hid hC1
      have HGB := hid (HG0.out.trans hgB)
      have HAB := hid (HAN.out.grew hgB)
      have HBB := hid (HBN.out.grew hgB)
      obtain ⟨y0, y1, y2, y3, z9, z11⟩ := HYY.out
      have y0 := (hgB.cell (i := 0) z9).trans y0
      have y1 := (hgB.cell (i := 1) z9).trans y1
      have y2 := (hgB.cell (i := 0) z11).trans y2
      have y3 := (hgB.cell (i := 1) z11).trans y3
      have z9 := Nat.lt_of_lt_of_le z9 hgB.size
      have z11 := Nat.lt_of_lt_of_le z11 hgB.size
      clear hgrowB hdrB hgB hownB HOA HAN HBN HYY HGA hC1 HB HA
      have z91 := fun m0 : Nat => Nat.lt_add_right m0 (z9)
      have z92 := fun m0 m1 : Nat => Nat.lt_add_right m1 (z91 m0)
      have z93 := fun m0 m1 m2 : Nat => Nat.lt_add_right m2 (z92 m0 m1)
      have z111 := fun m0 : Nat => Nat.lt_add_right m0 (z11)
      have z112 := fun m0 m1 : Nat => Nat.lt_add_right m1 (z111 m0)
      have z113 := fun m0 m1 m2 : Nat => Nat.lt_add_right m2 (z112 m0 m1)
      go_wp2_with fail
      refine (HMC.out _ (by exact (by repeat (first | exact Grew.refl _ | refine Grew.drewN ?_ _ | refine Grew.grow ?_ _ | refine Grew.alloc ?_ _ | refine Grew.drew ?_)))).mono ?_
      rintro e w' ⟨⟨cm, kc, rfl, hC⟩, g6, m6, rfl⟩
      dsimp only at hC ⊢
      obtain ⟨N3, hN3⟩ : ∃ N, rowsOf n E3 = N := ⟨_, rfl⟩
      rw [hN3]
      have HN3 := hid hN3
      have HC := hid hC.undrew
      clear hN3 hC HMC
      by_cases hE1 : E1 = 0
      case neg =>
        have e3 : (E1 != 0) = true := by simpa using hE1
        clear hE1
        go_wp2_with fail
        refine (awake_any _).mono ?_
        rintro e w' ⟨rfl, ga, na, rfl⟩
        go_wp2_with fail
        go_ret
        exact ⟨rfl, (HGB.out.trans (by repeat (first | exact Grew.refl _ | refine Grew.drewN ?_ _ | refine Grew.grow ?_ _ | refine Grew.alloc ?_ _ | refine Grew.drew ?_)))⟩

      by_cases hE2 : E2 = 0
      case neg =>
        have e3 : (E1 != 0) = false := by simpa using hE1
        have e4 : (E2 != 0) = true := by simpa using hE2
        clear hE1 hE2
        go_wp2_with fail
        refine (awake_any _).mono ?_
        rintro e w' ⟨rfl, ga, na, rfl⟩
        go_wp2_with fail
        go_ret
        exact ⟨rfl, (HGB.out.trans (by repeat (first | exact Grew.refl _ | refine Grew.drewN ?_ _ | refine Grew.grow ?_ _ | refine Grew.alloc ?_ _ | refine Grew.drew ?_)))⟩

      by_cases hE3 : E3 = 0
      case neg =>
        have e3 : (E1 != 0) = false := by simpa using hE1
        have e4 : (E2 != 0) = false := by simpa using hE2
        have e5 : (E3 != 0) = true := by simpa using hE3
        clear hE1 hE2 hE3
        go_wp2_with fail
        refine (awake_any _).mono ?_
        rintro e w' ⟨rfl, ga, na, rfl⟩
        go_wp2_with fail
        go_ret
        exact ⟨rfl, (HGB.out.trans (by repeat (first | exact Grew.refl _ | refine Grew.drewN ?_ _ | refine Grew.grow ?_ _ | refine Grew.alloc ?_ _ | refine Grew.drew ?_)))⟩

      subst hE1
      subst hE2
      subst hE3
      obtain rfl : N1 = (n : Int) := by rw [← HN1.out, rowsOf, if_pos rfl]
      obtain rfl : N2 = (n : Int) := by rw [← HN2.out, rowsOf, if_pos rfl]
      obtain rfl : N3 = (n : Int) := by rw [← HN3.out, rowsOf, if_pos rfl]
      obtain ⟨hfA, hfB, hfC⟩ := joins_facts HA1.out HB1.out (by rw [HLL.out]; exact HC1.out)
      have HLA := hid hfA
      have HLB := hid hfB
      have HXL := hid (light_facts HA1.out HVN.out.1 HVN.out.2 HX.out)
      have HSA := hid fun w' (hg : Grew wB w') => shaped_ok n am km A w' n2 HLA.out.1 (HAB.out.grew hg) HLA.out.2
      have HSB := hid fun w' (hg : Grew wB w') => shaped_ok n bm kb B w' n2 HLB.out.1 (HBB.out.grew hg) HLB.out.2
      have HT := hid fun w' (hg : Grew wB w') => times_any n bm am kb km B A w' n2 HLB.out.1 HLA.out.1 (HBB.out.grew hg) (HAB.out.grew hg)
      obtain ⟨⟨P, EP⟩, hP1⟩ : ∃ R, mulM n B A = R := ⟨_, rfl⟩
      rw [hP1] at HT hfC
      have HPC := hid hfC
      have HC := hid (HC.out.grew (w' := wB.grow g6) (Grew.refl _))
      clear hfA hfB hfC hP1 HLL HA1 HB1 HC1 HMA HMB HI0 HI1 HX0 HX1 HLEN HN1 HN2 HN3 HK1 HK2 HV HX
      go_wp2_with fail
      refine (HSA.out _ (by repeat (first | exact Grew.refl _ | refine Grew.drewN ?_ _ | refine Grew.grow ?_ _ | refine Grew.alloc ?_ _ | refine Grew.drew ?_))).mono ?_
      rintro e w' ⟨rfl, g7, m7, rfl⟩
      go_wp2_with fail
      refine (HSB.out _ (by repeat (first | exact Grew.refl _ | refine Grew.drewN ?_ _ | refine Grew.grow ?_ _ | refine Grew.alloc ?_ _ | refine Grew.drew ?_))).mono ?_
      rintro e w' ⟨rfl, g8, m8, rfl⟩
      go_wp2_with fail
      refine (HT.out _ (by repeat (first | exact Grew.refl _ | refine Grew.drewN ?_ _ | refine Grew.grow ?_ _ | refine Grew.alloc ?_ _ | refine Grew.drew ?_))).mono ?_
      rintro e w' ⟨⟨pm, kp, rfl, hP⟩, g9, m9, rfl⟩
      dsimp only at hP ⊢
      obtain ⟨NP, hNP⟩ : ∃ N, rowsOf n EP = N := ⟨_, rfl⟩
      rw [hNP]
      have HNP := hid hNP
      have HP := hP.nms
      simp only [World.grow_drewN, World.drewN_drewN, World.grow_grow, List.append_assoc] at HP
      have HP := hid HP.undrew
      clear hNP hP
      by_cases hEP : EP = 0
      case neg =>
        have e6 : (EP == 0) = false := by simpa using hEP
        clear hEP
        go_wp2_with fail
        refine (HLIT.out _ (HGB.out.trans (by repeat (first | exact Grew.refl _ | refine Grew.drewN ?_ _ | refine Grew.grow ?_ _ | refine Grew.alloc ?_ _ | refine Grew.drew ?_)))).mono ?_
        rintro e w' ⟨⟨xm, kx, rfl, hXm⟩, ga, ma, rfl⟩
        dsimp only at hXm ⊢
        simp only [World.grow_drewN, World.drewN_drewN] at hXm
        have HXm := hid hXm.undrew
        clear hXm
        by_cases hEX : EX = 0
        case neg =>
          have e7 : (EX != 0) = true := by simpa using hEX
          obtain rfl := HXL.out.1 hEX
          clear hEX HXm
          go_wp2_with fail
          refine (awake_any _).mono ?_
          rintro e w' ⟨rfl, gb, mb, rfl⟩
          go_wp2_with fail
          go_ret
          exact ⟨rfl, (HGB.out.trans (by repeat (first | exact Grew.refl _ | refine Grew.drewN ?_ _ | refine Grew.grow ?_ _ | refine Grew.alloc ?_ _ | refine Grew.drew ?_)))⟩
        case pos =>
          have e7 : (EX != 0) = false := by simpa using hEX
          have hXl := HXL.out.2.1 hEX
          have e8 : ((X.length : Int) != n) = false := by simp [hXl]
          have HXN := hid hXl
          have HXX := hid (HXL.out.2.2 hEX)
          clear hEX hXl
          go_wp2_with fail
          go_loopw [128] (fun u wr => ∃ i : Nat, i ≤ n ∧ u = .int .i64 i ∧ Grew wB wr ∧ Nms wr xm X) (fun u _ => n - (intOf u).toNat)
          case atStart => exact ⟨0, Nat.zero_le _, rfl, (by repeat (first | exact Grew.refl _ | refine Grew.drewN ?_ _ | refine Grew.grow ?_ _ | refine Grew.alloc ?_ _ | refine Grew.drew ?_)), HXm.out.grew (by repeat (first | exact Grew.refl _ | refine Grew.drewN ?_ _ | refine Grew.grow ?_ _ | refine Grew.alloc ?_ _ | refine Grew.drew ?_))⟩
          case round =>
            obtain ⟨i, hi, rfl, hg, hX⟩ := hrel
            by_cases hlt : i < n
            · have y0 := (hg.cell (i := 0) z9).trans y0
              have y1 := (hg.cell (i := 1) z9).trans y1
              have z9 := Nat.lt_of_lt_of_le z9 hg.size
              have z91 := fun m0 : Nat => Nat.lt_add_right m0 (z9)
              have z92 := fun m0 m1 : Nat => Nat.lt_add_right m1 (z91 m0)
              have z93 := fun m0 m1 m2 : Nat => Nat.lt_add_right m2 (z92 m0 m1)
              have HROW := hid (fun w' (h2 : Grew wr w') => row_any n i am a2 km k2 A v w' n2 HLA.out.1 HVN.out.1 hlt ((HAB.out.grew hg).grew h2) ((HW1.out.grew (HGB.out.trans hg)).grew h2))
              have hlX : i < X.length := by rw [HXN.out]; exact hlt
              obtain ⟨x, hx⟩ : ∃ x, X[i]? = some x := ⟨X[i], List.getElem?_eq_getElem hlX⟩
              have HXX := hid (HXX.out i hlt x hx)
              obtain ⟨R, hR⟩ : ∃ R, rowN (prowV A v n i) = R := ⟨_, rfl⟩
              rw [hR] at HROW HXX
              obtain ⟨bx, ox, hxm, hq, d0, d1, d2, d3, d4⟩ := hX.cells hx
              have HXg := hid hX
              have HG := hid hg
              subst hxm
              have hq1 := fun m0 : Nat => Nat.lt_add_right m0 (hq)
              have hq2 := fun m0 m1 : Nat => Nat.lt_add_right m1 (hq1 m0)
              have hq3 := fun m0 m1 m2 : Nat => Nat.lt_add_right m2 (hq2 m0 m1)
              clear hR hx hX hg
              go_wp2_with fail
              refine (HROW.out _ (by repeat (first | exact Grew.refl _ | refine Grew.drewN ?_ _ | refine Grew.grow ?_ _ | refine Grew.alloc ?_ _ | refine Grew.drew ?_))).mono ?_
              rintro e w' ⟨rfl, gc, mc, rfl⟩
              by_cases hRe : R.e = 0
              case neg =>
                have e9 : (R.e == 0) = false := by simpa using hRe
                clear hRe
                go_wp2_with fail
                refine wp_region_gentle_lit (by kernel_rfl) (by kernel_rfl) ?_
                repeat (first | go_big_quiet_skip | (go_big_quiet_want; go_big_quiet_op; first | go_big_quiet_on | fail))
                refine wpQuiet_nil ?_
                rintro _ ⟨gg, ng, rfl⟩
                go_wp2_with fail
                go_roundw
                case rel => exact ⟨i + 1, by omega, by go_num, HG.out.trans (by repeat (first | exact Grew.refl _ | refine Grew.drewN ?_ _ | refine Grew.grow ?_ _ | refine Grew.alloc ?_ _ | refine Grew.drew ?_)), HXg.out.grew (by repeat (first | exact Grew.refl _ | refine Grew.drewN ?_ _ | refine Grew.grow ?_ _ | refine Grew.alloc ?_ _ | refine Grew.drew ?_))⟩
                case measure => simp [intOf]; omega
              case pos =>
                have e9 : (R.e == 0) = true := by simpa using hRe
                obtain rfl := HXX.out hRe
                dsimp only at d0 d1 d2 d3 d4
                clear hRe
                go_wp2_with fail
                refine wp_region_gentle_lit (by kernel_rfl) (by kernel_rfl) ?_
                repeat (first | go_big_quiet_skip | (go_big_quiet_want; go_big_quiet_op; first | go_big_quiet_on | fail))
                refine wpQuiet_nil ?_
                rintro _ ⟨gg, ng, rfl⟩
                go_wp2_with fail
                go_roundw
                case rel => exact ⟨i + 1, by omega, by go_num, HG.out.trans (by repeat (first | exact Grew.refl _ | refine Grew.drewN ?_ _ | refine Grew.grow ?_ _ | refine Grew.alloc ?_ _ | refine Grew.drew ?_)), HXg.out.grew (by repeat (first | exact Grew.refl _ | refine Grew.drewN ?_ _ | refine Grew.grow ?_ _ | refine Grew.alloc ?_ _ | refine Grew.drew ?_))⟩
                case measure => simp [intOf]; omega
            · obtain rfl : i = n := by omega
              go_wp2_with fail
              refine (awake_any _).mono ?_
              rintro e w' ⟨rfl, gb, mb, rfl⟩
              go_wp2_with fail
              go_ret
              exact ⟨rfl, HGB.out.trans (hg.trans (by repeat (first | exact Grew.refl _ | refine Grew.drewN ?_ _ | refine Grew.grow ?_ _ | refine Grew.alloc ?_ _ | refine Grew.drew ?_)))⟩
      case pos =>
        subst hEP
        obtain rfl : NP = (n : Int) := by rw [← HNP.out, rowsOf, if_pos rfl]
        obtain rfl := HPC.out.2 rfl
        have HSM := hid fun a2 k2 a3 k3 w' (hA : Nms w' a2 P) (hB : Nms w' a3 P) => sameMatrix_same n a2 a3 k2 k3 P w' (by have := HPC.out.1; have := Nat.mul_le_mul n2 n2; omega) hA hB
        go_wp2_with fail
        refine (HSM.out _ _ _ _ _ (HP.out.grew (by repeat (first | exact Grew.refl _ | refine Grew.drewN ?_ _ | refine Grew.grow ?_ _ | refine Grew.alloc ?_ _ | refine Grew.drew ?_))) (HC.out.grew (by repeat (first | exact Grew.refl _ | refine Grew.drewN ?_ _ | refine Grew.grow ?_ _ | refine Grew.alloc ?_ _ | refine Grew.drew ?_)))).mono ?_
        rintro e w' ⟨rfl, gs, ms, rfl⟩
        go_wp2_with fail
        refine (HLIT.out _ (HGB.out.trans (by repeat (first | exact Grew.refl _ | refine Grew.drewN ?_ _ | refine Grew.grow ?_ _ | refine Grew.alloc ?_ _ | refine Grew.drew ?_)))).mono ?_
        rintro e w' ⟨⟨xm, kx, rfl, hXm⟩, ga, ma, rfl⟩
        dsimp only at hXm ⊢
        simp only [World.grow_drewN, World.drewN_drewN, World.grow_grow] at hXm
        have HXm := hid hXm.undrew
        clear hXm
        by_cases hEX : EX = 0
        case neg =>
          have e7 : (EX != 0) = true := by simpa using hEX
          obtain rfl := HXL.out.1 hEX
          clear hEX HXm
          go_wp2_with fail
          refine (awake_any _).mono ?_
          rintro e w' ⟨rfl, gb, mb, rfl⟩
          go_wp2_with fail
          go_ret
          exact ⟨rfl, (HGB.out.trans (by repeat (first | exact Grew.refl _ | refine Grew.drewN ?_ _ | refine Grew.grow ?_ _ | refine Grew.alloc ?_ _ | refine Grew.drew ?_)))⟩
        case pos =>
          have e7 : (EX != 0) = false := by simpa using hEX
          have hXl := HXL.out.2.1 hEX
          have e8 : ((X.length : Int) != n) = false := by simp [hXl]
          have HXN := hid hXl
          have HXX := hid (HXL.out.2.2 hEX)
          clear hEX hXl
          go_wp2_with fail
          go_loopw [128] (fun u wr => ∃ i : Nat, i ≤ n ∧ u = .int .i64 i ∧ Grew wB wr ∧ Nms wr xm X) (fun u _ => n - (intOf u).toNat)
          case atStart => exact ⟨0, Nat.zero_le _, rfl, (by repeat (first | exact Grew.refl _ | refine Grew.drewN ?_ _ | refine Grew.grow ?_ _ | refine Grew.alloc ?_ _ | refine Grew.drew ?_)), HXm.out.grew (by repeat (first | exact Grew.refl _ | refine Grew.drewN ?_ _ | refine Grew.grow ?_ _ | refine Grew.alloc ?_ _ | refine Grew.drew ?_))⟩
          case round =>
            obtain ⟨i, hi, rfl, hg, hX⟩ := hrel
            by_cases hlt : i < n
            · have y0 := (hg.cell (i := 0) z9).trans y0
              have y1 := (hg.cell (i := 1) z9).trans y1
              have z9 := Nat.lt_of_lt_of_le z9 hg.size
              have z91 := fun m0 : Nat => Nat.lt_add_right m0 (z9)
              have z92 := fun m0 m1 : Nat => Nat.lt_add_right m1 (z91 m0)
              have z93 := fun m0 m1 m2 : Nat => Nat.lt_add_right m2 (z92 m0 m1)
              have HROW := hid (fun w' (h2 : Grew wr w') => row_any n i am a2 km k2 A v w' n2 HLA.out.1 HVN.out.1 hlt ((HAB.out.grew hg).grew h2) ((HW1.out.grew (HGB.out.trans hg)).grew h2))
              have hlX : i < X.length := by rw [HXN.out]; exact hlt
              obtain ⟨x, hx⟩ : ∃ x, X[i]? = some x := ⟨X[i], List.getElem?_eq_getElem hlX⟩
              have HXX := hid (HXX.out i hlt x hx)
              obtain ⟨R, hR⟩ : ∃ R, rowN (prowV A v n i) = R := ⟨_, rfl⟩
              rw [hR] at HROW HXX
              obtain ⟨bx, ox, hxm, hq, d0, d1, d2, d3, d4⟩ := hX.cells hx
              have HXg := hid hX
              have HG := hid hg
              subst hxm
              have hq1 := fun m0 : Nat => Nat.lt_add_right m0 (hq)
              have hq2 := fun m0 m1 : Nat => Nat.lt_add_right m1 (hq1 m0)
              have hq3 := fun m0 m1 m2 : Nat => Nat.lt_add_right m2 (hq2 m0 m1)
              clear hR hx hX hg
              go_wp2_with fail
              refine (HROW.out _ (by repeat (first | exact Grew.refl _ | refine Grew.drewN ?_ _ | refine Grew.grow ?_ _ | refine Grew.alloc ?_ _ | refine Grew.drew ?_))).mono ?_
              rintro e w' ⟨rfl, gc, mc, rfl⟩
              by_cases hRe : R.e = 0
              case neg =>
                have e9 : (R.e == 0) = false := by simpa using hRe
                clear hRe
                go_wp2_with fail
                refine wp_region_gentle_lit (by kernel_rfl) (by kernel_rfl) ?_
                repeat (first | go_big_quiet_skip | (go_big_quiet_want; go_big_quiet_op; first | go_big_quiet_on | fail))
                refine wpQuiet_nil ?_
                rintro _ ⟨gg, ng, rfl⟩
                go_wp2_with fail
                go_roundw
                case rel => exact ⟨i + 1, by omega, by go_num, HG.out.trans (by repeat (first | exact Grew.refl _ | refine Grew.drewN ?_ _ | refine Grew.grow ?_ _ | refine Grew.alloc ?_ _ | refine Grew.drew ?_)), HXg.out.grew (by repeat (first | exact Grew.refl _ | refine Grew.drewN ?_ _ | refine Grew.grow ?_ _ | refine Grew.alloc ?_ _ | refine Grew.drew ?_))⟩
                case measure => simp [intOf]; omega
              case pos =>
                have e9 : (R.e == 0) = true := by simpa using hRe
                obtain rfl := HXX.out hRe
                dsimp only at d0 d1 d2 d3 d4
                clear hRe
                go_wp2_with fail
                refine wp_region_gentle_lit (by kernel_rfl) (by kernel_rfl) ?_
                repeat (first | go_big_quiet_skip | (go_big_quiet_want; go_big_quiet_op; first | go_big_quiet_on | fail))
                refine wpQuiet_nil ?_
                rintro _ ⟨gg, ng, rfl⟩
                go_wp2_with fail
                go_roundw
                case rel => exact ⟨i + 1, by omega, by go_num, HG.out.trans (by repeat (first | exact Grew.refl _ | refine Grew.drewN ?_ _ | refine Grew.grow ?_ _ | refine Grew.alloc ?_ _ | refine Grew.drew ?_)), HXg.out.grew (by repeat (first | exact Grew.refl _ | refine Grew.drewN ?_ _ | refine Grew.grow ?_ _ | refine Grew.alloc ?_ _ | refine Grew.drew ?_))⟩
                case measure => simp [intOf]; omega
            · obtain rfl : i = n := by omega
              go_wp2_with fail
              refine (awake_any _).mono ?_
              rintro e w' ⟨rfl, gb, mb, rfl⟩
              go_wp2_with fail
              go_ret
              exact ⟨rfl, HGB.out.trans (hg.trans (by repeat (first | exact Grew.refl _ | refine Grew.drewN ?_ _ | refine Grew.grow ?_ _ | refine Grew.alloc ?_ _ | refine Grew.drew ?_)))⟩

theorem joins_any (g : Int) (a0 : Option Addr) (cap : Nat) (its : List It) (a1 : Option Addr) (cap1 : Nat) (itm : List It) (a2 : Option Addr) (k2 : Nat) (v : List Num) (w : World) (S : Int) (hS : wrap64 ((its.length : Int) + itm.length) = S) (hl : its.length ≤ 9223372036854775807) (hc : Its w a0 its) (hm : itm.length ≤ 9223372036854775807) (hcm : Its w a1 itm) (hlv : v.length ≤ 9223372036854775807) (h1 : Nms w a2 v) (no0 : a0 = none → its.length = 0 ∧ cap = 0) (no1 : a1 = none → itm.length = 0 ∧ cap1 = 0) :
    Calls Try.prog 9 #[.int .i64 g, .slice a0 its.length cap, .slice a1 itm.length cap1, .slice a2 v.length k2] w fun e w' => e = .returned (.bool true) ∧ Grew w w' := by
  by_cases h : 60 < S
  · exact joins_long g a0 cap its a1 cap1 itm a2 k2 v w S hS h
  by_cases hk : chkIts g its = 0
  case neg => exact joins_bad1 g a0 cap its a1 cap1 itm a2 k2 v w S hS h hl hc hk
  by_cases hkm : chkIts g itm = 0
  case neg => exact joins_bad2 g a0 cap its a1 cap1 itm a2 k2 v w S hS h hl hc hm hcm hk hkm
  by_cases hn : (v.length : Int) = g
  case neg => exact joins_size g a0 cap its a1 cap1 itm a2 k2 v w S hS h hl hc hm hcm hk hkm hn
  by_cases hv : isVec v = true
  case neg => exact joins_vec g a0 cap its a1 cap1 itm a2 k2 v w S hS h hl hc hm hcm hlv h1 hk hkm hn (by simpa using hv)
  subst hn
  exact joins_main v.length a0 cap its a1 cap1 itm a2 k2 v w S hS h hl hc hm hcm hlv h1 hk hkm rfl hv no0 no1
theorem numsJ_of {w : World} {a1 : Option Addr} {len : Nat} (h : len = 0 ∨ ∃ (b off : Nat) (l : List Num), a1 = some ⟨b, off, none⟩ ∧ len = l.length ∧ l.length ≤ 9223372036854775807 ∧ b < w.heap.size ∧ NumsAt w b off l) :
    ∃ l : List Num, len = l.length ∧ l.length ≤ 9223372036854775807 ∧ Nms w a1 l := by
  rcases h with rfl | ⟨b, off, l, rfl, rfl, hl, hb, hc⟩
  · exact ⟨[], rfl, by decide, .inl rfl⟩
  · exact ⟨l, rfl, hl, .inr ⟨b, off, rfl, hb, hc⟩⟩
theorem meshJoins_walk (g : Int) (a0 : Option Addr) (len cap : Nat) (a1 : Option Addr) (len1 cap1 : Nat) (a2 : Option Addr) (len2 cap2 : Nat) (w : World) (h : len = 0 ∨ ∃ (b off : Nat) (l : List It), a0 = some ⟨b, off, none⟩ ∧ len = l.length ∧ l.length ≤ 9223372036854775807 ∧ b < w.heap.size ∧ ItsAt w b off l)
    (no0 : a0 = none → len = 0 ∧ cap = 0) (h' : len1 = 0 ∨ ∃ (b off : Nat) (l : List It), a1 = some ⟨b, off, none⟩ ∧ len1 = l.length ∧ l.length ≤ 9223372036854775807 ∧ b < w.heap.size ∧ ItsAt w b off l) (no1 : a1 = none → len1 = 0 ∧ cap1 = 0)
    (h'' : len2 = 0 ∨ ∃ (b off : Nat) (l : List Num), a2 = some ⟨b, off, none⟩ ∧ len2 = l.length ∧ l.length ≤ 9223372036854775807 ∧ b < w.heap.size ∧ NumsAt w b off l) :
    Calls Try.prog 9 #[.int .i64 g, .slice a0 len cap, .slice a1 len1 cap1, .slice a2 len2 cap2] w fun e w' => e = .returned (.bool true) ∧ Grew w w' := by
  obtain ⟨its, rfl, h1, h2⟩ := its_of h
  obtain ⟨itm, rfl, h3, h4⟩ := its_of h'
  obtain ⟨v, rfl, h5, h6⟩ := numsJ_of h''
  exact joins_any g a0 cap its a1 cap1 itm a2 cap2 v w _ rfl h1 h2 h3 h4 h5 h6 no0 no1

end Go.Proofs.Ytkglnnkghillpaa
