/- Layer 3: the columns of flat items, of the program. Condition: the items lie in memory. -/
import Derived.Test.YtkglnnkghillpaaColB
import Derived.Test.YtkglnnkghillpaaMshMk
namespace Go.Proofs.Ytkglnnkghillpaa
open Go Go.RowKit Amp Msh

set_option maxHeartbeats 800000 in
theorem cols_bad (g : Int) (a0 : Option Addr) (cap : Nat) (its : List It) (w : World) (hl : its.length ≤ 9223372036854775807) (hc : Its w a0 its) (hk : ¬ chkIts g its = 0) :
    Calls Try.prog 25 #[.int .i64 g, .slice a0 its.length cap] w (ListZ (colE g its) w) := by
  have HK := hid fun w' (h : Grew w w') => check_any g a0 cap its w' hl (hc.grew h)
  have HR : Hid (colE g its = ([], chkIts g its)) := hid (by unfold colE; rw [if_neg hk])
  obtain ⟨E, hE⟩ : ∃ E, chkIts g its = E := ⟨_, rfl⟩
  rw [hE] at HK HR hk
  have e1 : (E != 0) = true := by simpa using hk
  clear hc hk hE
  go_enter Try.func25, Try.ntmps25
  go_wp2_with fail
  refine (HK.out _ (by repeat (first | exact Grew.refl _ | refine Grew.drewN ?_ _ | refine Grew.grow ?_ _ | refine Grew.alloc ?_ _ | refine Grew.drew ?_))).mono ?_
  rintro e w' ⟨rfl, g1, m1, rfl⟩
  go_wp2_with fail
  exact bodyPost_ret (v := .tuple #[.slice none 0 0, .int .i64 E]) (by simp [results, Try.results25, go_sem]) rfl ⟨⟨none, 0, by rw [HR.out]; rfl, by rw [HR.out]; exact OwnZ.nil _ _⟩, (by repeat (first | exact Grew.refl _ | refine Grew.drewN ?_ _ | refine Grew.grow ?_ _ | refine Grew.alloc ?_ _ | refine Grew.drew ?_))⟩

/-- Where the walk of Columns stands behind the first items. -/
structure ColAt (w wr : World) (bl n : Nat) (its : List It) (i : Nat) (ac : Option Addr) (kc : Nat) (L : List Int) : Prop where
  out : L = colL (its.take i)
  own : OwnZ wr (bl + 1) ac kc L
  last : OwnZ wr bl (some ⟨bl, 0, none⟩) (n + 1) (lastL n (colP (its.take i)))
  grew : Grew w wr
theorem if_max (a b : Int) : (if a < b then b else a) = max a b := by split <;> omega

set_option maxRecDepth 100000 in
set_option maxHeartbeats 4000000 in
theorem cols_main (n : Nat) (a0 : Option Addr) (cap : Nat) (its : List It) (w : World) (hl : its.length ≤ 9223372036854775807) (hc : Its w a0 its) (hk : chkIts n its = 0) :
    Calls Try.prog 25 #[.int .i64 n, .slice a0 its.length cap] w (ListZ (colE n its) w) := by
  have HK := hid fun w' (h : Grew w w') => check_any n a0 cap its w' hl (hc.grew h)
  rw [hk] at HK
  obtain ⟨q1, q2, q3, q4⟩ := chkIts_zero hk
  have HR : Hid (colE n its = (colL its, 0)) := hid (by unfold colE; rw [if_pos hk])
  have HC := hid hc
  have HOK := hid q4
  have hl5 : its.length ≤ 5000 := q3
  have hn6 : n ≤ 6 := by omega
  clear hc hl hk q1 q2 q3 q4
  go_enter Try.func25, Try.ntmps25
  go_wp2_with fail
  refine (HK.out _ (by repeat (first | exact Grew.refl _ | refine Grew.drewN ?_ _ | refine Grew.grow ?_ _ | refine Grew.alloc ?_ _ | refine Grew.drew ?_))).mono ?_
  rintro e w' ⟨rfl, g1, m1, rfl⟩
  go_wp2_with (at_make; go_loud (refine wpList_make_z rfl _ _ rfl (n + 1) _ _ rfl rfl ?eL ?eC (by omega) ?_))
  case eL => omega
  case eC => omega
  intro w2 hlast hgrew hlt2
  obtain ⟨bl, hbl⟩ : ∃ bl, bl = w.heap.size + g1.length := ⟨_, rfl⟩
  have hgw : Grew w w2 := Grew.trans (by repeat (first | exact Grew.refl _ | refine Grew.drewN ?_ _ | refine Grew.grow ?_ _ | refine Grew.alloc ?_ _ | refine Grew.drew ?_)) hgrew
  rw [← hbl] at hlast hlt2 ⊢
  have hbw : w.heap.size ≤ bl := by omega
  have HS : Hid (ColAt w w2 bl n its 0 none 0 []) := ⟨rfl, OwnZ.nil _ _, by rw [show colP (its.take 0) = [] from rfl, lastL_nil]; exact hlast, hgw⟩
  clear hlast hgrew hgw hbl HK hlt2
  go_wp2_with fail
  go_loopw [8, 27] (fun c v wr => ∃ (i : Nat) (ac : Option Addr) (kc : Nat) (L : List Int), i ≤ its.length ∧ v = .int .i64 i ∧ c = .slice ac L.length kc ∧ Hid (ColAt w wr bl n its i ac kc L)) (fun _ v _ => its.length - (intOf v).toNat)
  case atStart => exact ⟨0, none, 0, [], Nat.zero_le _, rfl, rfl, HS⟩
  case round =>
    obtain ⟨i, ac, kc, L, hi, rfl, rfl, HS⟩ := hrel
    by_cases hlt : i < its.length
    case neg =>
      obtain rfl : i = its.length := by omega
      have hL := HS.out.out
      rw [List.take_length] at hL
      subst hL
      go_wp2_with fail
      exact bodyPost_ret (v := .tuple #[.slice ac (colL its).length kc, .int .i64 0]) (by simp [results, Try.results25, go_sem]) rfl ⟨⟨ac, kc, by rw [HR.out], by rw [HR.out]; exact World.ownsRow.mono HS.out.own (by omega)⟩, HS.out.grew⟩
    case pos =>
      obtain ⟨⟨kd, ps, nn, nm⟩, hx⟩ : ∃ x, its[i]? = some x := ⟨its[i], List.getElem?_eq_getElem hlt⟩
      obtain ⟨b, off, rfl, hb, c0, c1, c2, c3⟩ := HC.out.cells hx
      have hok := okIts_at hx HOK.out
      obtain ⟨hp1, hp6⟩ := ok_pos hok (by omega)
      dsimp only at c0 c1 c2 c3 hp1 hp6
      obtain ⟨p, rfl⟩ : ∃ p : Nat, ps = p := ⟨ps.toNat, by omega⟩
      have hg := HS.out.grew
      have c0 := (hg.cell hb _).trans c0
      have c1 := (hg.cell hb _).trans c1
      have c2 := (hg.cell hb _).trans c2
      have c3 := (hg.cell hb _).trans c3
      have hb := Nat.lt_of_lt_of_le hb hg.size
      have HX := hid hx
      have HXO := hid hok
      have HLT := hid hlt
      have hb1 := fun m0 : Nat => Nat.lt_add_right m0 (hb)
      have hb2 := fun m0 m1 : Nat => Nat.lt_add_right m1 (hb1 m0)
      have hb3 := fun m0 m1 m2 : Nat => Nat.lt_add_right m2 (hb2 m0 m1)
      clear hx hok hg
      have hlen : (its.take i).length ≤ 5000 := by rw [List.length_take]; omega
      have hBND := fun q : Int => lastOf_bound (colP (its.take i)) q (B := 5000) (by omega) (fun r hr => by have := (colP_bound _ r hr).2; omega)
      have HBND := hid hBND
      have zl := HS.out.last.lt
      clear hlen hBND
      by_cases hk1 : kd = 1
      case pos =>
        have hpn := (okIt_iff HXO.out).2.2.2.1
        dsimp only at hpn
        rw [show ownW kd = 1 by unfold ownW; rw [if_pos hk1]] at hpn
        obtain ⟨V0, hV0⟩ : ∃ v, lastOf (colP (its.take i)) p = v := ⟨_, rfl⟩
        have hLb0 := HBND.out p
        rw [hV0] at hLb0
        obtain ⟨hLa0, hLc0⟩ := hLb0
        have HV0 := hid hV0
        clear hV0
        have hm0 : (if 0 < V0 then V0 else 0) = V0 := by split <;> omega
        go_wp2_with fail
        refine (guides_one 1 p nn nm _ rfl).mono ?_
        rintro e w' ⟨⟨bg, rfl, hg1, hg2, k0⟩, g3, m3, rfl⟩
        obtain ⟨W1, hW1⟩ : ∃ W1, W1 = ((wr.alloc (.cells #[.int .i64 1, .int .i64 p, .int .i64 nn, .string nm] 51)).grow g3).drewN m3 := ⟨_, rfl⟩
        obtain ⟨b10, hb10⟩ : ∃ b10, b10 = wr.heap.size := ⟨_, rfl⟩
        have hgw : Grew wr W1 := by rw [hW1]; exact (by repeat (first | exact Grew.refl _ | refine Grew.drewN ?_ _ | refine Grew.grow ?_ _ | refine Grew.alloc ?_ _ | refine Grew.drew ?_))
        have hki : W1.cell? ⟨b10, 0, none⟩ = some (.int .i64 1) ∧ W1.cell? ⟨b10, 1, none⟩ = some (.int .i64 p) ∧ W1.cell? ⟨b10, 2, none⟩ = some (.int .i64 nn) ∧ W1.cell? ⟨b10, 3, none⟩ = some (.string nm) ∧ b10 < W1.heap.size := by rw [hW1, hb10]; simp [go_sem] <;> omega
        rw [← hW1] at hg2 k0 ⊢
        rw [← hb10]
        obtain ⟨i0, i1, i2, i3, z10⟩ := hki
        have zl := Nat.lt_of_lt_of_le zl hgw.size
        have HO1 := hid (HS.out.own.grew hgw)
        have HL1 := hid (HS.out.last.grew hgw)
        have HG1 := hid (HS.out.grew.trans hgw)
        have HG10 := hid (And.intro hg1 hb10)
        obtain ⟨f0, ff0⟩ := HL1.out.at (lastL_at (colP (its.take i)) (q := p) (by omega))
        rw [HV0.out] at f0
        clear hW1 hgw hg1 hb10 c0 c1 c2 c3 hb hb1 hb2 hb3
        go_wp2_with fail
        refine wp_loop_rounds 2 ?_
        iterate 2 (simp only [rounds_succ]; go_wp2_with fail)
        refine (guides_one 1 p nn nm _ rfl).mono ?_
        rintro e w' ⟨⟨bh, rfl, _, hh2, l0⟩, g4, m4, rfl⟩
        obtain ⟨W2, hW2⟩ : ∃ W2, W2 = (W1.grow g4).drewN m4 := ⟨_, rfl⟩
        have hgw : Grew W1 W2 := by rw [hW2]; exact (by repeat (first | exact Grew.refl _ | refine Grew.drewN ?_ _ | refine Grew.grow ?_ _ | refine Grew.alloc ?_ _ | refine Grew.drew ?_))
        rw [← hW2] at hh2 l0 ⊢
        have zl := Nat.lt_of_lt_of_le zl hgw.size
        have HO2 := hid (HO1.out.grew hgw)
        have HL2 := hid (HL1.out.grew hgw)
        have HG2 := hid (HG1.out.trans hgw)
        have f0 := (hgw.cell (i := p) (by omega)).trans f0
        have ff0 := (HL2.out.at (lastL_at (colP (its.take i)) (q := p) (by omega))).2
        have HCM := hid (show cmax (colP (its.take i)) ⟨kd, p, nn, nm⟩ = V0 by unfold cmax; dsimp only; rw [if_pos hk1, HV0.out]; omega)
        have hcl := col_last HXO.out (by omega) (colP (its.take i)) (fun q hq => by have := colP_bound _ q hq; omega)
        rw [HCM.out] at hcl
        have HOUT := hid (show L ++ [V0 + 1] = colL (its.take (i + 1)) by rw [HS.out.out, take_snoc HX.out, colL_snoc, hcl])
        have HLS := hid (show lastL n (colP (its.take (i + 1))) = (lastL n (colP (its.take i))).set p (V0 + 1) by
          have h1 := lastL_step HXO.out (colP (its.take i))
          rw [HCM.out, if_pos hk1] at h1
          rw [take_snoc HX.out, colP_snoc, hcl, h1]
          rfl)
        clear hW2 hgw hcl k0 hg2
        go_wp2_with fail
        refine wp_loop_rounds 2 ?_
        iterate 1 (simp only [rounds_succ]; go_wp2_with fail)
        simp only [rounds_succ]
        go_wp2_with (at_builtin; go_loud (refine wpList_append_z rfl _ _ rfl (bl + 1) ac kc L rfl (OwnZ.grew (HO2.out.set_low (Nat.lt_succ_self bl)) (by repeat (first | exact Grew.refl _ | refine Grew.drewN ?_ _ | refine Grew.grow ?_ _ | refine Grew.alloc ?_ _ | refine Grew.drew ?_))) _ 1 (V0 + 1) rfl ?cz ?mx ?bs ?_))
        case cz => simp [go_sem]
        case mx => rw [HS.out.out, colL_length, List.length_take]; omega
        case bs => simp [go_sem]; omega
        · intro a4 k4 wB hownB hgrowB hdrB
          have HGB := hid (show Grew w wB from Grew.by (w' := _) ((HG2.out.set hbw _ _).alloc _) hgrowB hdrB (fun jj hjj => by have := ownsRow_above HO2.out jj hjj; omega))
          have HLB := hid (OwnZ.by ((HL2.out.put p (V0 + 1)).grew ((Grew.refl _).alloc _)) hgrowB (fun e => by have := ownsRow_above HO2.out bl e.symm; omega))
          have HOB := hid hownB
          clear hgrowB hdrB hownB
          go_wp2_with fail
          go_roundw
          case rel => exact ⟨i + 1, a4, k4, L ++ [V0 + 1], by have := HLT.out; omega, by go_num, by simp, HOUT.out, HOB.out, by rw [HLS.out]; exact HLB.out, HGB.out⟩
          case measure => have := HLT.out; simp [intOf]; omega
      case neg =>
        have hk1b : (kd == 1) = false := by simpa using hk1
        have hpn := (okIt_iff HXO.out).2.2.2.1
        dsimp only at hpn
        rw [show ownW kd = 2 by unfold ownW; rw [if_neg hk1]] at hpn
        obtain ⟨V0, hV0⟩ : ∃ v, lastOf (colP (its.take i)) p = v := ⟨_, rfl⟩
        have hLb0 := HBND.out p
        rw [hV0] at hLb0
        obtain ⟨hLa0, hLc0⟩ := hLb0
        have HV0 := hid hV0
        clear hV0
        obtain ⟨V1, hV1⟩ : ∃ v, lastOf (colP (its.take i)) ((p : Int) + 1) = v := ⟨_, rfl⟩
        have hLb1 := HBND.out ((p : Int) + 1)
        rw [hV1] at hLb1
        obtain ⟨hLa1, hLc1⟩ := hLb1
        have HV1 := hid hV1
        clear hV1
        have hm0 : (if 0 < V0 then V0 else 0) = V0 := by split <;> omega
        obtain ⟨M, hm1⟩ : ∃ M, (if V0 < V1 then V1 else V0) = M := ⟨_, rfl⟩
        have hMb : 0 ≤ M ∧ M ≤ 5000 := by rw [← hm1]; split <;> omega
        obtain ⟨hMa, hMc⟩ := hMb
        go_wp2_with fail
        refine (guides_two kd p nn nm _ hk1 hp1 hp6).mono ?_
        rintro e w' ⟨⟨bg, rfl, hg1, hg2, k0, k1⟩, g3, m3, rfl⟩
        obtain ⟨W1, hW1⟩ : ∃ W1, W1 = ((wr.alloc (.cells #[.int .i64 kd, .int .i64 p, .int .i64 nn, .string nm] 51)).grow g3).drewN m3 := ⟨_, rfl⟩
        obtain ⟨b10, hb10⟩ : ∃ b10, b10 = wr.heap.size := ⟨_, rfl⟩
        have hgw : Grew wr W1 := by rw [hW1]; exact (by repeat (first | exact Grew.refl _ | refine Grew.drewN ?_ _ | refine Grew.grow ?_ _ | refine Grew.alloc ?_ _ | refine Grew.drew ?_))
        have hki : W1.cell? ⟨b10, 0, none⟩ = some (.int .i64 kd) ∧ W1.cell? ⟨b10, 1, none⟩ = some (.int .i64 p) ∧ W1.cell? ⟨b10, 2, none⟩ = some (.int .i64 nn) ∧ W1.cell? ⟨b10, 3, none⟩ = some (.string nm) ∧ b10 < W1.heap.size := by rw [hW1, hb10]; simp [go_sem] <;> omega
        rw [← hW1] at hg2 k0 k1 ⊢
        rw [← hb10]
        obtain ⟨i0, i1, i2, i3, z10⟩ := hki
        have zl := Nat.lt_of_lt_of_le zl hgw.size
        have HO1 := hid (HS.out.own.grew hgw)
        have HL1 := hid (HS.out.last.grew hgw)
        have HG1 := hid (HS.out.grew.trans hgw)
        have HG10 := hid (And.intro hg1 hb10)
        obtain ⟨f0, ff0⟩ := HL1.out.at (lastL_at (colP (its.take i)) (q := p) (by omega))
        rw [HV0.out] at f0
        obtain ⟨f1, ff1⟩ := HL1.out.at (lastL_at (colP (its.take i)) (q := (p + 1)) (by omega))
        rw [show (((p + 1 : Nat) : Int)) = (p : Int) + 1 by omega] at f1
        rw [HV1.out] at f1
        clear hW1 hgw hg1 hb10 c0 c1 c2 c3 hb hb1 hb2 hb3
        go_wp2_with fail
        refine wp_loop_rounds 3 ?_
        iterate 3 (simp only [rounds_succ]; go_wp2_with fail)
        refine (guides_two kd p nn nm _ hk1 hp1 hp6).mono ?_
        rintro e w' ⟨⟨bh, rfl, _, hh2, l0, l1⟩, g4, m4, rfl⟩
        obtain ⟨W2, hW2⟩ : ∃ W2, W2 = (W1.grow g4).drewN m4 := ⟨_, rfl⟩
        have hgw : Grew W1 W2 := by rw [hW2]; exact (by repeat (first | exact Grew.refl _ | refine Grew.drewN ?_ _ | refine Grew.grow ?_ _ | refine Grew.alloc ?_ _ | refine Grew.drew ?_))
        rw [← hW2] at hh2 l0 l1 ⊢
        have zl := Nat.lt_of_lt_of_le zl hgw.size
        have HO2 := hid (HO1.out.grew hgw)
        have HL2 := hid (HL1.out.grew hgw)
        have HG2 := hid (HG1.out.trans hgw)
        have f0 := (hgw.cell (i := p) (by omega)).trans f0
        have ff0 := (HL2.out.at (lastL_at (colP (its.take i)) (q := p) (by omega))).2
        have f1 := (hgw.cell (i := (p + 1)) (by omega)).trans f1
        have ff1 := (HL2.out.at (lastL_at (colP (its.take i)) (q := (p + 1)) (by omega))).2
        have HCM := hid (show cmax (colP (its.take i)) ⟨kd, p, nn, nm⟩ = M by unfold cmax; dsimp only; rw [if_neg hk1, HV0.out, HV1.out, ← hm1]; split <;> omega)
        have hcl := col_last HXO.out (by omega) (colP (its.take i)) (fun q hq => by have := colP_bound _ q hq; omega)
        rw [HCM.out] at hcl
        have HOUT := hid (show L ++ [M + 1] = colL (its.take (i + 1)) by rw [HS.out.out, take_snoc HX.out, colL_snoc, hcl])
        have HLS := hid (show lastL n (colP (its.take (i + 1))) = ((lastL n (colP (its.take i))).set p (M + 1)).set (p + 1) (M + 1) by
          have h1 := lastL_step HXO.out (colP (its.take i))
          rw [HCM.out, if_neg hk1] at h1
          rw [take_snoc HX.out, colP_snoc, hcl, h1]
          dsimp only; rw [show ((p : Int) + 1).toNat = p + 1 by omega]; rfl)
        clear hW2 hgw hcl k0 k1 hg2
        go_wp2_with fail
        refine wp_loop_rounds 3 ?_
        iterate 2 (simp only [rounds_succ]; go_wp2_with fail)
        simp only [rounds_succ]
        go_wp2_with (at_builtin; go_loud (refine wpList_append_z rfl _ _ rfl (bl + 1) ac kc L rfl (OwnZ.grew ((HO2.out.set_low (Nat.lt_succ_self bl)).set_low (Nat.lt_succ_self bl)) (by repeat (first | exact Grew.refl _ | refine Grew.drewN ?_ _ | refine Grew.grow ?_ _ | refine Grew.alloc ?_ _ | refine Grew.drew ?_))) _ 1 (M + 1) rfl ?cz ?mx ?bs ?_))
        case cz => simp [go_sem]
        case mx => rw [HS.out.out, colL_length, List.length_take]; omega
        case bs => simp [go_sem]; omega
        · intro a4 k4 wB hownB hgrowB hdrB
          have HGB := hid (show Grew w wB from Grew.by (w' := _) (((HG2.out.set hbw _ _).set hbw _ _).alloc _) hgrowB hdrB (fun jj hjj => by have := ownsRow_above HO2.out jj hjj; omega))
          have HLB := hid (OwnZ.by (((HL2.out.put p (M + 1)).put (p + 1) (M + 1)).grew ((Grew.refl _).alloc _)) hgrowB (fun e => by have := ownsRow_above HO2.out bl e.symm; omega))
          have HOB := hid hownB
          clear hgrowB hdrB hownB
          go_wp2_with fail
          go_roundw
          case rel => exact ⟨i + 1, a4, k4, L ++ [M + 1], by have := HLT.out; omega, by go_num, by simp, HOUT.out, HOB.out, by rw [HLS.out]; exact HLB.out, HGB.out⟩
          case measure => have := HLT.out; simp [intOf]; omega
theorem cols_any (g : Int) (a0 : Option Addr) (cap : Nat) (its : List It) (w : World) (hl : its.length ≤ 9223372036854775807) (hc : Its w a0 its) :
    Calls Try.prog 25 #[.int .i64 g, .slice a0 its.length cap] w (ListZ (colE g its) w) := by
  by_cases hk : chkIts g its = 0
  · obtain ⟨q1, _, _, _⟩ := chkIts_zero hk
    obtain ⟨n, rfl⟩ : ∃ n : Nat, g = n := ⟨g.toNat, by omega⟩
    exact cols_main n a0 cap its w hl hc hk
  · exact cols_bad g a0 cap its w hl hc hk

end Go.Proofs.Ytkglnnkghillpaa
