/- The main case of the law MeshSorts. Condition: the items lie in memory, not too many. -/
import Derived.Test.YtkglnnkghillpaaMeshSortsA
namespace Go.Proofs.Ytkglnnkghillpaa
open Go Go.RowKit Amp Msh

set_option maxRecDepth 100000 in
set_option maxHeartbeats 4000000 in
theorem sorts_main (n : Nat) (a0 : Option Addr) (cap : Nat) (its : List It) (w : World) (hl : its.length ≤ 9223372036854775807) (hc : Its w a0 its) (h : its.length ≤ 60) (hk : chkIts n its = 0) :
    Calls Try.prog 7 #[.int .i64 n, .slice a0 its.length cap] w fun e w' => e = .returned (.bool true) ∧ Grew w w' := by
  have e1 : decide ((60 : Int) < its.length) = false := decide_eq_false (by omega)
  have HK1 := hid fun w' (h : Grew w w') => asked_any n a0 cap its w' hl (hc.grew h)
  rw [hk] at HK1
  have H1 := hid fun w' (hg : Grew w w') => cols_any n a0 cap its w' hl (hc.grew hg)
  rw [show colE n its = (colL its, 0) by unfold colE; rw [if_pos hk]] at H1
  have H2 := hid fun w' (hg : Grew w w') => count_any n a0 cap its w' hl (hc.grew hg)
  rw [show cntA n its = cntM (colL its) by unfold cntA; rw [if_pos hk], show cntB n its 1 = cntK its 1 by unfold cntB; rw [if_pos hk], show cntB n its 2 = cntK its 2 by unfold cntB; rw [if_pos hk], show cntB n its 3 = cntK its 3 by unfold cntB; rw [if_pos hk], hk] at H2
  have HMA := hid fun w' (hg : Grew w w') => matOf_any n a0 cap its w' hl (hc.grew hg)
  obtain ⟨⟨A, E1⟩, hA1⟩ : ∃ R, matOf n its = R := ⟨_, rfl⟩
  rw [hA1, Int.toNat_natCast] at HMA
  have HA1 := hid hA1
  obtain ⟨q1, q2, q3, q4⟩ := chkIts_zero hk
  have n1 : 1 ≤ n := by omega
  have n2 : n ≤ 6 := by omega
  have hsum := cntK_sum q4
  obtain ⟨⟨hm0, hm1⟩, hcol⟩ := cntM_col its
  have hb1 := (cntK_bound its 1).1
  have hb2 := (cntK_bound its 2).1
  have hb3 := (cntK_bound its 3).1
  obtain ⟨mx, hmx⟩ : ∃ m : Nat, cntM (colL its) = m := ⟨(cntM (colL its)).toNat, by omega⟩
  rw [hmx] at H2 hm0 hm1
  obtain ⟨X1, hX1⟩ : ∃ x, cntK its 1 = x := ⟨_, rfl⟩
  obtain ⟨X2, hX2⟩ : ∃ x, cntK its 2 = x := ⟨_, rfl⟩
  obtain ⟨X3, hX3⟩ : ∃ x, cntK its 3 = x := ⟨_, rfl⟩
  obtain ⟨CL, hCL⟩ : ∃ l, colL its = l := ⟨_, rfl⟩
  have hCLl : CL.length = its.length := by rw [← hCL, colL_length]
  rw [hX1, hX2, hX3] at H2 hsum
  rw [hX1] at hb1
  rw [hX2] at hb2
  rw [hX3] at hb3
  rw [hCL] at H1
  have e2 : X1 + X2 + X3 = (its.length : Int) := hsum
  have e0 : (CL.length : Int) = its.length := by omega
  have e4 : (mx : Int) ≤ its.length := hm1
  have e3n : decide (its.length < mx) = false := decide_eq_false (by omega)
  have e3 : decide ((its.length : Int) < mx) = false := decide_eq_false (by omega)
  have HC := hid hc
  have HOK := hid q4
  have HMX := hid (And.intro hmx (And.intro hm1 hcol))
  have HX2 := hid hX2
  have HCL := hid hCL
  have HCLl := hid hCLl
  have b1 : X1 ≤ 60 := by omega
  have b2 : X2 ≤ 60 := by omega
  have b3 : X3 ≤ 60 := by omega
  have bm : (mx : Int) ≤ 60 := by omega
  have bl : its.length ≤ 60 := h
  clear hc hl h hk hA1 q1 q2 q3 q4 hsum hm0 hm1 hcol hmx hX1 hX2 hX3 hCL hCLl
  go_enter Try.func7, Try.ntmps7
  go_wp2_with fail
  refine (HK1.out _ (by repeat (first | exact Grew.refl _ | refine Grew.drewN ?_ _ | refine Grew.grow ?_ _ | refine Grew.alloc ?_ _ | refine Grew.drew ?_))).mono ?_
  rintro e w' ⟨rfl, g1, m1, rfl⟩
  go_wp2_with fail
  refine (H1.out _ (by repeat (first | exact Grew.refl _ | refine Grew.drewN ?_ _ | refine Grew.grow ?_ _ | refine Grew.alloc ?_ _ | refine Grew.drew ?_))).mono ?_
  rintro e W1 ⟨⟨a2, k2, rfl, hZ⟩, hg1⟩
  dsimp only at hZ ⊢
  have HZ := hid hZ.zs
  have HG := hid (Grew.trans (a := w) (by repeat (first | exact Grew.refl _ | refine Grew.drewN ?_ _ | refine Grew.grow ?_ _ | refine Grew.alloc ?_ _ | refine Grew.drew ?_)) hg1)
  clear hZ hg1
  go_wp2_with fail
  refine (H2.out _ (HG.out.trans (by repeat (first | exact Grew.refl _ | refine Grew.drewN ?_ _ | refine Grew.grow ?_ _ | refine Grew.alloc ?_ _ | refine Grew.drew ?_)))).mono ?_
  rintro e W2 ⟨rfl, hg2⟩
  have HZ := hid (HZ.out.grew hg2)
  have HG := hid (HG.out.trans hg2)
  clear hg2
  go_wp2_with fail
  clear e0 e2 e3 e3n
  obtain ⟨W3, hW3⟩ : ∃ W3, W3 = W2.alloc (.cells #[.int .i64 mx, .int .i64 X1, .int .i64 X2, .int .i64 X3] 45) := ⟨_, rfl⟩
  obtain ⟨b7, hb7⟩ : ∃ b7, b7 = W2.heap.size := ⟨_, rfl⟩
  have hg3 : Grew W2 W3 := by rw [hW3]; exact (by repeat (first | exact Grew.refl _ | refine Grew.drewN ?_ _ | refine Grew.grow ?_ _ | refine Grew.alloc ?_ _ | refine Grew.drew ?_))
  have h7 : W3.heap[b7]? = some (.cells #[.int .i64 mx, .int .i64 X1, .int .i64 X2, .int .i64 X3] 45) := by rw [hW3, hb7]; exact heap_new _ _
  rw [← hW3, ← hb7]
  have HZ := hid (HZ.out.grew hg3)
  have HG := hid (HG.out.trans hg3)
  have H7 := hid h7
  clear hW3 hb7 hg3 h7 HK1 H1 H2
  go_loopw [9, 10] (fun s c wr => ∃ (q : Nat) (a : Option Addr) (k : Nat) (S : List It), q ≤ mx ∧ c = .int .i64 ((q : Int) + 1) ∧ s = .slice a S.length k ∧ Hid (S = sortC (colP its) q) ∧ Hid (OwnI wr W3.heap.size a k S) ∧ Grew W3 wr) (fun _ c _ => (mx + 1 - intOf c).toNat)
  case atStart => exact ⟨0, none, 0, [], Nat.zero_le _, rfl, rfl, rfl, OwnI.nil _ _, Grew.refl _⟩
  case round =>
    obtain ⟨q, a, k, S, hq, rfl, rfl, HS, HO, hg⟩ := hrel
    have h7 := (hg.block b7 (Array.getElem?_eq_some_iff.1 H7.out).1).trans H7.out
    have z7 := (Array.getElem?_eq_some_iff.1 h7).1
    have p0 : wr.cell? ⟨b7, 0, none⟩ = some (.int .i64 mx) := by simp [World.cell?, h7]
    have p2 : wr.cell? ⟨b7, 2, none⟩ = some (.int .i64 X2) := by simp [World.cell?, h7]
    have HGR := hid hg
    have z71 := fun m0 : Nat => Nat.lt_add_right m0 (z7)
    have z72 := fun m0 m1 : Nat => Nat.lt_add_right m1 (z71 m0)
    have z73 := fun m0 m1 m2 : Nat => Nat.lt_add_right m2 (z72 m0 m1)
    clear h7 hg
    by_cases hqm : q < mx
    case pos =>
      have e6 : decide ((q : Int) + 1 ≤ mx) = true := decide_eq_true (by omega)
      go_wp2_with fail
      obtain ⟨W4, hW4⟩ : ∃ W4, W4 = wr.alloc (.cells #[.bool false, .bool false, .bool false, .bool false, .bool false, .bool false, .bool false, .bool false] 49) := ⟨_, rfl⟩
      obtain ⟨b11, hb11⟩ : ∃ b11, b11 = wr.heap.size := ⟨_, rfl⟩
      have hg4 : Grew wr W4 := by rw [hW4]; exact (by repeat (first | exact Grew.refl _ | refine Grew.drewN ?_ _ | refine Grew.grow ?_ _ | refine Grew.alloc ?_ _ | refine Grew.drew ?_))
      have h11 : W4.heap[b11]? = some (.cells (usedL [] ((q : Int) + 1)).toArray 49) := by rw [hW4, hb11, usedL_nil]; exact heap_new _ _
      rw [← hW4, ← hb11]
      have hb11w : W3.heap.size ≤ b11 := by rw [hb11]; exact HGR.out.size
      have HIN : Hid (∃ S', S' = sortC (colP its) q ++ colIts ((colP its).take 0) ((q : Int) + 1) ∧ S' = S ∧ OwnI W4 W3.heap.size a k S ∧ Grew W3 W4 ∧ W4.heap[b11]? = some (.cells (usedL ((colP its).take 0) ((q : Int) + 1)).toArray 49)) :=
        ⟨S, by rw [HS.out, List.take_zero]; exact (List.append_nil _).symm, rfl, HO.out.grew hg4, HGR.out.trans hg4, h11⟩
      clear hW4 hb11 hg4 h11 p0 p2 z7 z71 z72 z73
      have HB11 := hid hb11w
      clear hb11w
      go_loopw [9, 84] (fun s v w5 => ∃ (i : Nat) (a : Option Addr) (k : Nat) (S : List It), i ≤ its.length ∧ v = .int .i64 i ∧ s = .slice a S.length k ∧ Hid (S = sortC (colP its) q ++ colIts ((colP its).take i) ((q : Int) + 1)) ∧ Hid (OwnI w5 W3.heap.size a k S ∧ Grew W3 w5 ∧ w5.heap[b11]? = some (.cells (usedL ((colP its).take i) ((q : Int) + 1)).toArray 49))) (fun _ v _ => its.length - (intOf v).toNat)
      case atStart =>
        obtain ⟨S', h1, h2, h3⟩ := HIN.out
        exact ⟨0, a, k, S, Nat.zero_le _, rfl, rfl, h2 ▸ h1, h3⟩
      case round =>
        obtain ⟨i, aj, kj, T, hi, rfl, rfl, HT, HI⟩ := hrel
        by_cases hlt : i < its.length
        case neg =>
          obtain rfl : i = its.length := by omega
          have HN := hid (show T = sortC (colP its) (q + 1) by rw [HT.out]; exact sort_all q)
          go_wp2_with fail
          go_roundw
          case rel => exact ⟨q + 1, aj, kj, T, by omega, by first | go_num | (congr 1; omega), rfl, HN.out, HI.out.1, HI.out.2.1⟩
          case measure => simp [intOf]; omega
        case pos =>
          obtain ⟨⟨kd, ps, nn, nm⟩, hx⟩ : ∃ x, its[i]? = some x := ⟨its[i], List.getElem?_eq_getElem hlt⟩
          have hiC : i < CL.length := by rw [HCLl.out]; exact hlt
          obtain ⟨c, hcc⟩ : ∃ c, CL[i]? = some c := ⟨CL[i], List.getElem?_eq_getElem hiC⟩
          have hcc2 : (colL its)[i]? = some c := by rw [HCL.out]; exact hcc
          obtain ⟨hOwn, hg5, h11⟩ := HI.out
          have hgw := HG.out.trans hg5
          obtain ⟨b, off, rfl, hb, c0, c1, c2, c3⟩ := (HC.out.grew hgw).cells hx
          obtain ⟨bo, oo, rfl, hbo, d0⟩ := (HZ.out.grew hg5).cells hcc
          have z11 := (Array.getElem?_eq_some_iff.1 h11).1
          have hok := okIts_at hx HOK.out
          obtain ⟨hp1, hp6⟩ := ok_pos hok (by omega)
          dsimp only at c0 c1 c2 c3 hp1 hp6
          obtain ⟨p, rfl⟩ : ∃ p : Nat, ps = p := ⟨ps.toNat, by omega⟩
          have hst := sort_step (q := (q : Int) + 1) hx hcc2
          have hcat := (col_at hx hcc2).2
          have HX := hid hx
          have HXO := hid hok
          have HCC := hid hcc2
          have HST := hid hst
          have HCA := hid hcat
          have HOW := hid hOwn
          have HG5 := hid hg5
          have H11 := hid h11
          have hb1 := fun m0 : Nat => Nat.lt_add_right m0 (hb)
          have hb2 := fun m0 m1 : Nat => Nat.lt_add_right m1 (hb1 m0)
          have hb3 := fun m0 m1 m2 : Nat => Nat.lt_add_right m2 (hb2 m0 m1)
          have hbo1 := fun m0 : Nat => Nat.lt_add_right m0 (hbo)
          have hbo2 := fun m0 m1 : Nat => Nat.lt_add_right m1 (hbo1 m0)
          have hbo3 := fun m0 m1 m2 : Nat => Nat.lt_add_right m2 (hbo2 m0 m1)
          have z111 := fun m0 : Nat => Nat.lt_add_right m0 (z11)
          have z112 := fun m0 m1 : Nat => Nat.lt_add_right m1 (z111 m0)
          have z113 := fun m0 m1 m2 : Nat => Nat.lt_add_right m2 (z112 m0 m1)
          clear hx hcc hcc2 hst hcat hOwn hg5 h11 hok hgw HI
          by_cases hcq : c = (q : Int) + 1
          case neg =>
            have e5 : (c != (q : Int) + 1) = true := by simpa using hcq
            have HN := hid (show T = sortC (colP its) q ++ colIts ((colP its).take (i + 1)) ((q : Int) + 1) by rw [HST.out, if_neg hcq, List.append_nil]; exact HT.out)
            have HU := hid (usedL_other ((colP its).take i) ⟨kd, p, nn, nm⟩ hcq)
            clear hcq
            go_wp2_with fail
            go_roundw
            case rel => exact ⟨i + 1, aj, kj, T, by omega, by go_num, rfl, HN.out, HOW.out.grew (by repeat (first | exact Grew.refl _ | refine Grew.drewN ?_ _ | refine Grew.grow ?_ _ | refine Grew.alloc ?_ _ | refine Grew.drew ?_)), HG5.out.trans (by repeat (first | exact Grew.refl _ | refine Grew.drewN ?_ _ | refine Grew.grow ?_ _ | refine Grew.alloc ?_ _ | refine Grew.drew ?_)), (Grew.block (by repeat (first | exact Grew.refl _ | refine Grew.drewN ?_ _ | refine Grew.grow ?_ _ | refine Grew.alloc ?_ _ | refine Grew.drew ?_)) b11 z11).trans (by rw [HCA.out, HU.out]; exact H11.out)⟩
            case measure => simp [intOf]; omega
          case pos =>
            subst hcq
            have HN := hid (show T ++ [⟨kd, p, nn, nm⟩] = sortC (colP its) q ++ colIts ((colP its).take (i + 1)) ((q : Int) + 1) by rw [HST.out, if_pos rfl, ← List.append_assoc, ← HT.out])
            have hu0 := used_free HOK.out (by omega) HX.out HCC.out (s := (p : Int)) ((on_iff HXO.out _).2 (.inl rfl))
            have u0 : wr.cell? ⟨b11, p, none⟩ = some (.bool false) := by
              have e := usedL_at ((colP its).take i) ((q : Int) + 1) (g := p) (by omega)
              rw [hu0] at e
              simp [World.cell?, H11.out, e]
            have uf : ∀ j, wr.frozen? ⟨b11, j, none⟩ = false := fun j => by simp [World.frozen?, H11.out]
            have hTl := sortC_len its q i (by rw [HMX.out.1]; omega)
            rw [← HT.out] at hTl
            have HTL := hid (show T.length ≤ 120 by omega)
            have hsz := HG5.out.size
            clear hu0 hTl
            by_cases hk1 : kd = 1
            case pos =>
              subst hk1
              cases hV : usedB ((colP its).take i) ((q : Int) + 1) ((p : Int) + 1) with
              | false =>
                have HU := hid (show usedL ((colP its).take (i + 1)) ((q : Int) + 1) = ((usedL ((colP its).take i) ((q : Int) + 1)).set p (.bool true)).set (p + 1) (.bool false) by
                  rw [HCA.out, usedL_step ((colP its).take i) ((q : Int) + 1) HXO.out (by omega) rfl, hV]
                  rfl)
                have u1 : wr.cell? ⟨b11, p + 1, none⟩ = some (.bool false) := by
                  have e := usedL_at ((colP its).take i) ((q : Int) + 1) (g := p + 1) (by omega)
                  rw [show (((p + 1 : Nat) : Int)) = (p : Int) + 1 by omega, hV] at e
                  simp [World.cell?, H11.out, e]
                have hh := arr_set2 H11.out p (p + 1) (.bool true) (.bool false)
                simp only [List.setIfInBounds_toArray] at hh
                have how2 : OwnI ((wr.setCell ⟨b11, p, none⟩ (.bool true)).setCell ⟨b11, p + 1, none⟩ (.bool false)) W3.heap.size aj kj T := OwnI.set_ne (OwnI.set_ne HOW.out H11.out) (heap_setCell_same _ _ _ _ _ _ H11.out)
                have HNE := hid (ownI_ne how2 hh)
                have HHH := hid hh
                have HOW2 := hid how2
                clear hh how2 hV
                go_wp2_with fail
                refine wp_region_gentle_tail 13 (by kernel_rfl) (by kernel_rfl) (by kernel_rfl) ?_
                simp only [List.take_succ_cons, List.take_zero, List.drop_succ_cons, List.drop_zero]
                repeat (first | go_big_quiet_skip | (go_big_quiet_want; go_big_quiet_op; first | go_big_quiet_on | fail))
                refine wpQuiet_nil ?_
                rintro _ ⟨gg, ng, rfl⟩
                go_wp2_with (at_builtin; go_loud (refine wpList_append_its rfl _ _ rfl W3.heap.size aj kj T rfl (HOW2.out.grew (by repeat (first | exact Grew.refl _ | refine Grew.drewN ?_ _ | refine Grew.grow ?_ _ | refine Grew.alloc ?_ _ | refine Grew.drew ?_))) _ 1 [⟨1, p, nn, nm⟩] rfl (fun e => by cases e) (fun ad e => by cases e; exact cells_newS _ _ (by simp [go_sem]) #[.int .i64 1, .int .i64 p, .int .i64 nn, .string nm] _) ?hmx ?hbs ?_))
                case hmx => have := HTL.out; simp; omega
                case hbs => simp [go_sem]; omega
                · intro a4 k4 wB hownB hgrowB hdrB
                  have HGB := hid (show Grew W3 wB from Grew.by (w' := _) (Grew.trans ((HG5.out.set HB11.out p (.bool true)).set HB11.out (p + 1) (.bool false)) (by repeat (first | exact Grew.refl _ | refine Grew.drewN ?_ _ | refine Grew.grow ?_ _ | refine Grew.alloc ?_ _ | refine Grew.drew ?_))) hgrowB hdrB (fun jj hjj => ownsRow_above HOW2.out jj hjj))
                  have HBL := hid ((hgrowB.block b11 (by simp [go_sem]; omega) HNE.out).trans ((Grew.block (by repeat (first | exact Grew.refl _ | refine Grew.drewN ?_ _ | refine Grew.grow ?_ _ | refine Grew.alloc ?_ _ | refine Grew.drew ?_)) b11 (Array.getElem?_eq_some_iff.1 HHH.out).1).trans HHH.out))
                  have HOB := hid hownB
                  clear hgrowB hdrB hownB
                  go_wp2_with fail
                  go_roundw
                  case rel => exact ⟨i + 1, a4, k4, T ++ [(⟨1, p, nn, nm⟩ : It)], by omega, by go_num, by simp, HN.out, HOB.out, HGB.out, by rw [HU.out]; exact HBL.out⟩
                  case measure => simp [intOf]; omega
              | true =>
                have HU := hid (show usedL ((colP its).take (i + 1)) ((q : Int) + 1) = ((usedL ((colP its).take i) ((q : Int) + 1)).set p (.bool true)).set (p + 1) (.bool true) by
                  rw [HCA.out, usedL_step ((colP its).take i) ((q : Int) + 1) HXO.out (by omega) rfl, hV]
                  rfl)
                have u1 : wr.cell? ⟨b11, p + 1, none⟩ = some (.bool true) := by
                  have e := usedL_at ((colP its).take i) ((q : Int) + 1) (g := p + 1) (by omega)
                  rw [show (((p + 1 : Nat) : Int)) = (p : Int) + 1 by omega, hV] at e
                  simp [World.cell?, H11.out, e]
                have hh := arr_set2 H11.out p (p + 1) (.bool true) (.bool true)
                simp only [List.setIfInBounds_toArray] at hh
                have how2 : OwnI ((wr.setCell ⟨b11, p, none⟩ (.bool true)).setCell ⟨b11, p + 1, none⟩ (.bool true)) W3.heap.size aj kj T := OwnI.set_ne (OwnI.set_ne HOW.out H11.out) (heap_setCell_same _ _ _ _ _ _ H11.out)
                have HNE := hid (ownI_ne how2 hh)
                have HHH := hid hh
                have HOW2 := hid how2
                clear hh how2 hV
                go_wp2_with fail
                refine wp_region_gentle_tail 13 (by kernel_rfl) (by kernel_rfl) (by kernel_rfl) ?_
                simp only [List.take_succ_cons, List.take_zero, List.drop_succ_cons, List.drop_zero]
                repeat (first | go_big_quiet_skip | (go_big_quiet_want; go_big_quiet_op; first | go_big_quiet_on | fail))
                refine wpQuiet_nil ?_
                rintro _ ⟨gg, ng, rfl⟩
                go_wp2_with (at_builtin; go_loud (refine wpList_append_its rfl _ _ rfl W3.heap.size aj kj T rfl (HOW2.out.grew (by repeat (first | exact Grew.refl _ | refine Grew.drewN ?_ _ | refine Grew.grow ?_ _ | refine Grew.alloc ?_ _ | refine Grew.drew ?_))) _ 1 [⟨1, p, nn, nm⟩] rfl (fun e => by cases e) (fun ad e => by cases e; exact cells_newS _ _ (by simp [go_sem]) #[.int .i64 1, .int .i64 p, .int .i64 nn, .string nm] _) ?hmx ?hbs ?_))
                case hmx => have := HTL.out; simp; omega
                case hbs => simp [go_sem]; omega
                · intro a4 k4 wB hownB hgrowB hdrB
                  have HGB := hid (show Grew W3 wB from Grew.by (w' := _) (Grew.trans ((HG5.out.set HB11.out p (.bool true)).set HB11.out (p + 1) (.bool true)) (by repeat (first | exact Grew.refl _ | refine Grew.drewN ?_ _ | refine Grew.grow ?_ _ | refine Grew.alloc ?_ _ | refine Grew.drew ?_))) hgrowB hdrB (fun jj hjj => ownsRow_above HOW2.out jj hjj))
                  have HBL := hid ((hgrowB.block b11 (by simp [go_sem]; omega) HNE.out).trans ((Grew.block (by repeat (first | exact Grew.refl _ | refine Grew.drewN ?_ _ | refine Grew.grow ?_ _ | refine Grew.alloc ?_ _ | refine Grew.drew ?_)) b11 (Array.getElem?_eq_some_iff.1 HHH.out).1).trans HHH.out))
                  have HOB := hid hownB
                  clear hgrowB hdrB hownB
                  go_wp2_with fail
                  go_roundw
                  case rel => exact ⟨i + 1, a4, k4, T ++ [(⟨1, p, nn, nm⟩ : It)], by omega, by go_num, by simp, HN.out, HOB.out, HGB.out, by rw [HU.out]; exact HBL.out⟩
                  case measure => simp [intOf]; omega
            case neg =>
              have hV := used_free HOK.out (by omega) HX.out HCC.out (s := (p : Int) + 1) ((on_iff HXO.out _).2 (.inr ⟨hk1, rfl⟩))
              have ek : (kd != 1) = true := by simpa using hk1
              have ek2 : decide (kd ≠ 1) = true := decide_eq_true hk1
              have HU := hid (show usedL ((colP its).take (i + 1)) ((q : Int) + 1) = ((usedL ((colP its).take i) ((q : Int) + 1)).set p (.bool true)).set (p + 1) (.bool true) by
                rw [HCA.out, usedL_step ((colP its).take i) ((q : Int) + 1) HXO.out (by omega) rfl, hV, ek2]
                rfl)
              have u1 : wr.cell? ⟨b11, p + 1, none⟩ = some (.bool false) := by
                have e := usedL_at ((colP its).take i) ((q : Int) + 1) (g := p + 1) (by omega)
                rw [show (((p + 1 : Nat) : Int)) = (p : Int) + 1 by omega, hV] at e
                simp [World.cell?, H11.out, e]
              have hh := arr_set2 H11.out p (p + 1) (.bool true) (.bool true)
              simp only [List.setIfInBounds_toArray] at hh
              have how2 : OwnI ((wr.setCell ⟨b11, p, none⟩ (.bool true)).setCell ⟨b11, p + 1, none⟩ (.bool true)) W3.heap.size aj kj T := OwnI.set_ne (OwnI.set_ne HOW.out H11.out) (heap_setCell_same _ _ _ _ _ _ H11.out)
              have HNE := hid (ownI_ne how2 hh)
              have HHH := hid hh
              have HOW2 := hid how2
              clear hh how2 hV
              go_wp2_with fail
              refine wp_region_gentle_tail 13 (by kernel_rfl) (by kernel_rfl) (by kernel_rfl) ?_
              simp only [List.take_succ_cons, List.take_zero, List.drop_succ_cons, List.drop_zero]
              repeat (first | go_big_quiet_skip | (go_big_quiet_want; go_big_quiet_op; first | go_big_quiet_on | fail))
              refine wpQuiet_nil ?_
              rintro _ ⟨gg, ng, rfl⟩
              go_wp2_with (at_builtin; go_loud (refine wpList_append_its rfl _ _ rfl W3.heap.size aj kj T rfl (HOW2.out.grew (by repeat (first | exact Grew.refl _ | refine Grew.drewN ?_ _ | refine Grew.grow ?_ _ | refine Grew.alloc ?_ _ | refine Grew.drew ?_))) _ 1 [⟨kd, p, nn, nm⟩] rfl (fun e => by cases e) (fun ad e => by cases e; exact cells_newS _ _ (by simp [go_sem]) #[.int .i64 kd, .int .i64 p, .int .i64 nn, .string nm] _) ?hmx ?hbs ?_))
              case hmx => have := HTL.out; simp; omega
              case hbs => simp [go_sem]; omega
              · intro a4 k4 wB hownB hgrowB hdrB
                have HGB := hid (show Grew W3 wB from Grew.by (w' := _) (Grew.trans ((HG5.out.set HB11.out p (.bool true)).set HB11.out (p + 1) (.bool true)) (by repeat (first | exact Grew.refl _ | refine Grew.drewN ?_ _ | refine Grew.grow ?_ _ | refine Grew.alloc ?_ _ | refine Grew.drew ?_))) hgrowB hdrB (fun jj hjj => ownsRow_above HOW2.out jj hjj))
                have HBL := hid ((hgrowB.block b11 (by simp [go_sem]; omega) HNE.out).trans ((Grew.block (by repeat (first | exact Grew.refl _ | refine Grew.drewN ?_ _ | refine Grew.grow ?_ _ | refine Grew.alloc ?_ _ | refine Grew.drew ?_)) b11 (Array.getElem?_eq_some_iff.1 HHH.out).1).trans HHH.out))
                have HOB := hid hownB
                clear hgrowB hdrB hownB
                go_wp2_with fail
                go_roundw
                case rel => exact ⟨i + 1, a4, k4, T ++ [(⟨kd, p, nn, nm⟩ : It)], by omega, by go_num, by simp, HN.out, HOB.out, HGB.out, by rw [HU.out]; exact HBL.out⟩
                case measure => simp [intOf]; omega
    case neg =>
      obtain rfl : q = mx := by omega
      have hms := (HMX.out.2.2)
      rw [HMX.out.1, Int.toNat_natCast] at hms
      have hSl : S.length = its.length := by rw [HS.out, sortC_length _ _ hms, colP_length]
      have e7 : (S.length : Int) = its.length := by omega
      have HMS := hid hms
      have HSL := hid hSl
      have HMB := hid fun w' (hg : Grew wr w') => matOf_any n a k S w' (by omega) ((OwnI.its HO.out).grew hg)
      obtain ⟨⟨B, E2⟩, hB1⟩ : ∃ R, matOf n S = R := ⟨_, rfl⟩
      rw [hB1, Int.toNat_natCast] at HMB
      have HB1 := hid hB1
      have HGW := hid (HG.out.trans HGR.out)
      clear hms hSl hB1
      go_wp2_with fail
      refine (HMA.out _ HGW.out).mono ?_
      rintro e W6 ⟨⟨am, km, rfl, hA⟩, hg6⟩
      dsimp only at hA ⊢
      obtain ⟨N1, hN1⟩ : ∃ N, rowsOf n E1 = N := ⟨_, rfl⟩
      rw [hN1]
      have HN1 := hid hN1
      have HA := hid hA
      have HG6 := hid hg6
      clear hN1 hA hg6
      go_wp2_with fail
      refine (HMB.out _ (HG6.out.trans (by repeat (first | exact Grew.refl _ | refine Grew.drewN ?_ _ | refine Grew.grow ?_ _ | refine Grew.alloc ?_ _ | refine Grew.drew ?_)))).mono ?_
      rintro e W7 ⟨⟨bm, kb, rfl, hB⟩, hg7⟩
      dsimp only at hB ⊢
      obtain ⟨N2, hN2⟩ : ∃ N, rowsOf n E2 = N := ⟨_, rfl⟩
      rw [hN2]
      have HN2 := hid hN2
      obtain ⟨b14, hb14⟩ : ∃ b14, b14 = W6.heap.size := ⟨_, rfl⟩
      rw [← hb14]
      have h14 : W7.heap[b14]? = some (.cells #[.int .i64 N1, .slice am A.length km] 28) := by rw [hb14]; exact (Grew.block hg7 _ (by simp)).trans (heap_new _ _)
      have hg67 : Grew W6 W7 := Grew.trans ((Grew.refl W6).alloc _) hg7
      have hgr7 : Grew wr W7 := HG6.out.trans hg67
      have y0 : W7.cell? ⟨b14, 0, none⟩ = some (.int .i64 N1) := by simp [World.cell?, h14]
      have y1 : W7.cell? ⟨b14, 1, none⟩ = some (.slice am A.length km) := by simp [World.cell?, h14]
      have z14 := (Array.getElem?_eq_some_iff.1 h14).1
      have p2 := (hgr7.cell (i := 2) z7).trans p2
      have z7 := Nat.lt_of_lt_of_le z7 hgr7.size
      have HA := hid (HA.out.grew hg67)
      have HB := hid hB
      have HGW := hid (HGW.out.trans hgr7)
      clear hN2 hb14 h14 hg67 hgr7 hB hg7 HG6 HMA HMB HO p0 z71 z72 z73
      have z71 := fun m0 : Nat => Nat.lt_add_right m0 (z7)
      have z72 := fun m0 m1 : Nat => Nat.lt_add_right m1 (z71 m0)
      have z73 := fun m0 m1 m2 : Nat => Nat.lt_add_right m2 (z72 m0 m1)
      have z141 := fun m0 : Nat => Nat.lt_add_right m0 (z14)
      have z142 := fun m0 m1 : Nat => Nat.lt_add_right m1 (z141 m0)
      have z143 := fun m0 m1 m2 : Nat => Nat.lt_add_right m2 (z142 m0 m1)
      by_cases hE1 : E1 = 0
      case neg =>
        have e8 : (E1 == 0) = false := by simpa using hE1
        clear hE1
        go_wp2_with fail
        refine (awake_any _).mono ?_
        rintro e w' ⟨rfl, ga, na, rfl⟩
        go_wp2_with fail
        go_ret
        exact ⟨rfl, HGW.out.trans (by repeat (first | exact Grew.refl _ | refine Grew.drewN ?_ _ | refine Grew.grow ?_ _ | refine Grew.alloc ?_ _ | refine Grew.drew ?_))⟩
      case pos =>
        subst hE1
        obtain rfl : N1 = (n : Int) := by rw [← HN1.out, rowsOf, if_pos rfl]
        have hIA := (matOf_zero HA1.out).2
        rw [Int.toNat_natCast] at hIA
        have sA := itsM_shape its (idN n) (idN_valid n) (idN_length n) (by rw [hIA])
        rw [hIA] at sA
        have h36 : n * n ≤ 36 := Nat.mul_le_mul n2 n2
        have hAl : A.length ≤ 36 := by rw [sA.2]; exact h36
        have HEX := hid fun (j : Nat) (z : Num) (hz : A[j]? = some z) => exp_law n2 HOK.out hIA hz
        have HIA := hid hIA
        clear hIA sA h36
        by_cases hE2 : E2 = 0
        case neg =>
          have e9 : (E2 == 0) = false := by simpa using hE2
          clear hE2
          go_wp2_with fail
          go_loopw [167] (fun v w9 => ∃ j : Nat, j ≤ A.length ∧ v = .int .i64 j ∧ Grew W7 w9) (fun v _ => A.length - (intOf v).toNat)
          case atStart => exact ⟨0, Nat.zero_le _, rfl, (by repeat (first | exact Grew.refl _ | refine Grew.drewN ?_ _ | refine Grew.grow ?_ _ | refine Grew.alloc ?_ _ | refine Grew.drew ?_))⟩
          case round =>
            obtain ⟨j, hj, rfl, hg9⟩ := hrel
            have HG9 := hid hg9
            by_cases hlt : j < A.length
            case pos =>
              obtain ⟨z, hz⟩ : ∃ z, A[j]? = some z := ⟨A[j], List.getElem?_eq_getElem hlt⟩
              obtain ⟨bz, oz, rfl, hbz, d0, d1, d2, d3, d4⟩ := (HA.out.grew hg9).cells hz
              have hzk := HEX.out j z hz
              rw [HX2.out] at hzk
              have e10 : decide (X2 < z.k) = false := decide_eq_false (by omega)
              have p2 := (hg9.cell (i := 2) z7).trans p2
              have z7 := Nat.lt_of_lt_of_le z7 hg9.size
              have z71 := fun m0 : Nat => Nat.lt_add_right m0 (z7)
              have z72 := fun m0 m1 : Nat => Nat.lt_add_right m1 (z71 m0)
              have z73 := fun m0 m1 m2 : Nat => Nat.lt_add_right m2 (z72 m0 m1)
              have hbz1 := fun m0 : Nat => Nat.lt_add_right m0 (hbz)
              have hbz2 := fun m0 m1 : Nat => Nat.lt_add_right m1 (hbz1 m0)
              have hbz3 := fun m0 m1 m2 : Nat => Nat.lt_add_right m2 (hbz2 m0 m1)
              clear hz hg9
              go_wp2_with fail
              go_roundw
              case rel => exact ⟨j + 1, by omega, by go_num, HG9.out.trans (by repeat (first | exact Grew.refl _ | refine Grew.drewN ?_ _ | refine Grew.grow ?_ _ | refine Grew.alloc ?_ _ | refine Grew.drew ?_))⟩
              case measure => simp [intOf]; omega
            case neg =>
              obtain rfl : j = A.length := by omega
              clear hg9
              go_wp2_with fail
              refine (awake_any _).mono ?_
              rintro e w' ⟨rfl, ga, na, rfl⟩
              go_wp2_with fail
              go_ret
              exact ⟨rfl, HGW.out.trans (HG9.out.trans (by repeat (first | exact Grew.refl _ | refine Grew.drewN ?_ _ | refine Grew.grow ?_ _ | refine Grew.alloc ?_ _ | refine Grew.drew ?_)))⟩
        case pos =>
          subst hE2
          obtain rfl : N2 = (n : Int) := by rw [← HN2.out, rowsOf, if_pos rfl]
          have hIB := (matOf_zero HB1.out).2
          rw [Int.toNat_natCast, HS.out] at hIB
          obtain rfl : B = A := sorts_law n2 HOK.out HMS.out HIA.out hIB
          have HSM := hid fun a2 k2 a3 k3 w' (hA : Nms w' a2 B) (hB : Nms w' a3 B) => sameMatrix_same n a2 a3 k2 k3 B w' (by omega) hA hB
          clear hIB
          go_wp2_with fail
          refine (HSM.out _ _ _ _ _ (HA.out.grew (by repeat (first | exact Grew.refl _ | refine Grew.drewN ?_ _ | refine Grew.grow ?_ _ | refine Grew.alloc ?_ _ | refine Grew.drew ?_))) (HB.out.grew (by repeat (first | exact Grew.refl _ | refine Grew.drewN ?_ _ | refine Grew.grow ?_ _ | refine Grew.alloc ?_ _ | refine Grew.drew ?_)))).mono ?_
          rintro e w' ⟨rfl, gs, ms, rfl⟩
          go_wp2_with fail
          go_loopw [167] (fun v w9 => ∃ j : Nat, j ≤ B.length ∧ v = .int .i64 j ∧ Grew W7 w9) (fun v _ => B.length - (intOf v).toNat)
          case atStart => exact ⟨0, Nat.zero_le _, rfl, (by repeat (first | exact Grew.refl _ | refine Grew.drewN ?_ _ | refine Grew.grow ?_ _ | refine Grew.alloc ?_ _ | refine Grew.drew ?_))⟩
          case round =>
            obtain ⟨j, hj, rfl, hg9⟩ := hrel
            have HG9 := hid hg9
            by_cases hlt : j < B.length
            case pos =>
              obtain ⟨z, hz⟩ : ∃ z, B[j]? = some z := ⟨B[j], List.getElem?_eq_getElem hlt⟩
              obtain ⟨bz, oz, rfl, hbz, d0, d1, d2, d3, d4⟩ := (HA.out.grew hg9).cells hz
              have hzk := HEX.out j z hz
              rw [HX2.out] at hzk
              have e10 : decide (X2 < z.k) = false := decide_eq_false (by omega)
              have p2 := (hg9.cell (i := 2) z7).trans p2
              have z7 := Nat.lt_of_lt_of_le z7 hg9.size
              have z71 := fun m0 : Nat => Nat.lt_add_right m0 (z7)
              have z72 := fun m0 m1 : Nat => Nat.lt_add_right m1 (z71 m0)
              have z73 := fun m0 m1 m2 : Nat => Nat.lt_add_right m2 (z72 m0 m1)
              have hbz1 := fun m0 : Nat => Nat.lt_add_right m0 (hbz)
              have hbz2 := fun m0 m1 : Nat => Nat.lt_add_right m1 (hbz1 m0)
              have hbz3 := fun m0 m1 m2 : Nat => Nat.lt_add_right m2 (hbz2 m0 m1)
              clear hz hg9
              go_wp2_with fail
              go_roundw
              case rel => exact ⟨j + 1, by omega, by go_num, HG9.out.trans (by repeat (first | exact Grew.refl _ | refine Grew.drewN ?_ _ | refine Grew.grow ?_ _ | refine Grew.alloc ?_ _ | refine Grew.drew ?_))⟩
              case measure => simp [intOf]; omega
            case neg =>
              obtain rfl : j = B.length := by omega
              clear hg9
              go_wp2_with fail
              refine (awake_any _).mono ?_
              rintro e w' ⟨rfl, ga, na, rfl⟩
              go_wp2_with fail
              go_ret
              exact ⟨rfl, HGW.out.trans (HG9.out.trans (by repeat (first | exact Grew.refl _ | refine Grew.drewN ?_ _ | refine Grew.grow ?_ _ | refine Grew.alloc ?_ _ | refine Grew.drew ?_)))⟩
theorem sorts_any (g : Int) (a0 : Option Addr) (cap : Nat) (its : List It) (w : World) (hl : its.length ≤ 9223372036854775807) (hc : Its w a0 its) :
    Calls Try.prog 7 #[.int .i64 g, .slice a0 its.length cap] w fun e w' => e = .returned (.bool true) ∧ Grew w w' := by
  by_cases h : its.length ≤ 60
  case neg => exact sorts_long g a0 cap its w hl hc (by omega)
  by_cases hk : chkIts g its = 0
  case neg => exact sorts_chk g a0 cap its w hl hc h hk
  obtain ⟨q1, _, _, _⟩ := chkIts_zero hk
  obtain ⟨n, rfl⟩ : ∃ n : Nat, g = n := ⟨g.toNat, by omega⟩
  exact sorts_main n a0 cap its w hl hc h hk
theorem meshSorts_walk (g : Int) (a0 : Option Addr) (len cap : Nat) (w : World) (h : len = 0 ∨ ∃ (b off : Nat) (l : List It), a0 = some ⟨b, off, none⟩ ∧ len = l.length ∧ l.length ≤ 9223372036854775807 ∧ b < w.heap.size ∧ ItsAt w b off l) :
    Calls Try.prog 7 #[.int .i64 g, .slice a0 len cap] w fun e w' => e = .returned (.bool true) ∧ Grew w w' := by
  obtain ⟨its, rfl, h1, h2⟩ := its_of h
  exact sorts_any g a0 cap its w h1 h2

end Go.Proofs.Ytkglnnkghillpaa
