/- The main case of the law MeshInverts. Condition: the items lie in memory, not too many. -/
import Derived.Test.YtkglnnkghillpaaMeshInvertsA
namespace Go.Proofs.Ytkglnnkghillpaa
open Go Go.RowKit Amp Msh

set_option maxRecDepth 100000 in
set_option maxHeartbeats 8000000 in
theorem inverts_main (n : Nat) (a0 : Option Addr) (cap : Nat) (its : List It) (w : World) (hl : its.length ≤ 9223372036854775807) (hc : Its w a0 its) (h : its.length ≤ 40) (hk : chkIts n its = 0) (A : List Num) (hA1 : matOf n its = (A, 0)) (no0 : a0 = none → its.length = 0 ∧ cap = 0) :
    Calls Try.prog 4 #[.int .i64 n, .slice a0 its.length cap] w fun e w' => e = .returned (.bool true) ∧ Below w.heap.size w w' := by
  have e1 : decide ((40 : Int) < its.length) = false := decide_eq_false (by omega)
  have HK1 := hid fun w' (h : Grew w w') => asked_any n a0 cap its w' hl (hc.grew h)
  rw [hk] at HK1
  have HMA := hid fun w' (hg : Grew w w') => matOf_any n a0 cap its w' hl (hc.grew hg)
  rw [hA1, Int.toNat_natCast] at HMA
  obtain ⟨q1, q2, q3, q4⟩ := chkIts_zero hk
  obtain ⟨⟨hlA, hvA⟩, hk2, l1, l2, hE4, hF⟩ := inverts_facts hk h hA1
  have HINV := hid fun w' (hg : Grew w w') => inv_any n a0 cap its w' hl (hc.grew hg)
  rw [show invE n its = (invL its, 0) by unfold invE; rw [if_pos hk, if_pos (by omega)]] at HINV
  obtain ⟨LB, hLB⟩ : ∃ l, invL its = l := ⟨_, rfl⟩
  rw [hLB] at HINV hk2 l1 l2 hE4 hF
  obtain ⟨LA, hLA⟩ : ∃ l, invL LB = l := ⟨_, rfl⟩
  rw [hLA] at l2 hF
  have HIN2 := hid (show invE n LB = (LA, 0) by unfold invE; rw [if_pos hk2, if_pos (by rw [hLA]; omega), hLA])
  have HLA := hid hlA
  have HVA := hid hvA
  have HLEN := hid (show its.length ≤ 40 ∧ LB.length ≤ 120 ∧ LA.length ≤ 360 from ⟨h, l1, l2⟩)
  have HC0 := hid hc
  have HX0 := hid no0
  have n1 : 1 ≤ n := by omega
  have n2 : n ≤ 6 := by omega
  obtain ⟨⟨B, E2⟩, hB1⟩ : ∃ R, matOf n LB = R := ⟨_, rfl⟩
  rw [hB1] at hE4 hF
  have HB1 := hid hB1
  have HE4 := hid hE4
  have HF := hid hF
  clear hc hl h hk hA1 no0 q1 q2 q3 q4 hlA hvA hk2 l1 l2 hLB hLA hB1 hE4 hF
  go_enter Try.func4, Try.ntmps4
  go_wp2_with fail
  refine (HK1.out _ (by repeat (first | exact Grew.refl _ | refine Grew.drewN ?_ _ | refine Grew.grow ?_ _ | refine Grew.alloc ?_ _ | refine Grew.drew ?_))).mono ?_
  rintro e w' ⟨rfl, g1, m1, rfl⟩
  go_wp2_with fail
  refine (HMA.out _ (by repeat (first | exact Grew.refl _ | refine Grew.drewN ?_ _ | refine Grew.grow ?_ _ | refine Grew.alloc ?_ _ | refine Grew.drew ?_))).mono ?_
  rintro e w' ⟨⟨am, km, rfl, HA⟩, g2, m2, rfl⟩
  dsimp only at HA ⊢
  obtain ⟨N1, hN1⟩ : ∃ N, rowsOf n 0 = N := ⟨_, rfl⟩
  rw [hN1]
  have HN1 := hid hN1
  clear hN1
  simp only [World.grow_drewN, World.drewN_drewN, World.grow_grow] at HA
  have HA := hid HA.undrew
  obtain rfl : N1 = (n : Int) := by rw [← HN1.out, rowsOf, if_pos rfl]
  go_wp2_with fail
  have HSH := hid fun w' (hN : Nms w' am A) => shaped_ok n am km A w' n2 HLA.out hN HVA.out
  refine (HSH.out _ (HA.out.grew (by repeat (first | exact Grew.refl _ | refine Grew.drewN ?_ _ | refine Grew.grow ?_ _ | refine Grew.alloc ?_ _ | refine Grew.drew ?_)))).mono ?_
  rintro e w' ⟨rfl, g3, m3, rfl⟩
  go_wp2_with fail
  obtain ⟨W1, hW1⟩ : ∃ W1, W1 = (((w.grow (g1 ++ g2)).alloc (.cells #[.int .i64 n, .slice am A.length km] 28)).grow g3).drewN (m1 + m2 + m3) := ⟨_, rfl⟩
  obtain ⟨b5, hb5⟩ : ∃ b5, b5 = w.heap.size + g1.length + g2.length := ⟨_, rfl⟩
  have hgw : Grew w W1 := by rw [hW1]; exact (by repeat (first | exact Grew.refl _ | refine Grew.drewN ?_ _ | refine Grew.grow ?_ _ | refine Grew.alloc ?_ _ | refine Grew.drew ?_))
  have hNb : Nms W1 am A := by rw [hW1]; exact HA.out.grew (by repeat (first | exact Grew.refl _ | refine Grew.drewN ?_ _ | refine Grew.grow ?_ _ | refine Grew.alloc ?_ _ | refine Grew.drew ?_))
  have h5 : W1.cell? ⟨b5, 0, none⟩ = some (.int .i64 n) ∧ W1.cell? ⟨b5, 1, none⟩ = some (.slice am A.length km) ∧ b5 < W1.heap.size := by rw [hW1, hb5]; simp [go_sem] <;> omega
  rw [← hW1, ← hb5]
  obtain ⟨y0, y1, z5⟩ := h5
  have hI1 := HC0.out.grew hgw
  clear hW1 hb5 HA HK1 HMA HN1 HSH
  refine (HINV.out W1 hgw).mono ?_
  rintro e w2 ⟨⟨a2, k2, rfl, hown⟩, hbel⟩
  dsimp only at hown ⊢
  have HB2 := hid (show Below w.heap.size w w2 from hgw.below.trans (hbel.mono hgw.size))
  have HNA := hid (hNb.below hbel)
  have HI2 := hid (hI1.below hbel)
  have HOB := hid (OwnI.its hown)
  have HXB := hid hown.none
  have y0 := (hbel.cell (p := ⟨b5, 0, none⟩) z5).trans y0
  have y1 := (hbel.cell (p := ⟨b5, 1, none⟩) z5).trans y1
  have z5 := Nat.lt_of_lt_of_le z5 hbel.size
  have HMB := hid fun w' (hg : Grew w2 w') => matOf_any n a2 k2 LB w' (by have := HLEN.out; omega) (HOB.out.grew hg)
  rw [HB1.out, Int.toNat_natCast] at HMB
  clear hgw hNb hI1 hown hbel HINV HC0
  have z51 := fun m0 : Nat => Nat.lt_add_right m0 (z5)
  have z52 := fun m0 m1 : Nat => Nat.lt_add_right m1 (z51 m0)
  have z53 := fun m0 m1 m2 : Nat => Nat.lt_add_right m2 (z52 m0 m1)
  go_wp2_with fail
  refine (HMB.out _ (by repeat (first | exact Grew.refl _ | refine Grew.drewN ?_ _ | refine Grew.grow ?_ _ | refine Grew.alloc ?_ _ | refine Grew.drew ?_))).mono ?_
  rintro e w' ⟨⟨bm, kb, rfl, HB⟩, g4, m4, rfl⟩
  dsimp only at HB ⊢
  obtain ⟨N2, hN2⟩ : ∃ N, rowsOf n E2 = N := ⟨_, rfl⟩
  rw [hN2]
  have HN2 := hid hN2
  clear hN2
  have HB := hid HB.undrew
  by_cases hE2 : E2 = 0
  case neg =>
    have e2 : (E2 == 4) = true := by have := HE4.out; rcases this with h | h; exact absurd h hE2; simp [h]
    clear hE2
    go_wp2_with fail
    refine (awake_any _).mono ?_
    rintro e w' ⟨rfl, ga, na, rfl⟩
    go_wp2_with fail
    go_ret
    exact ⟨rfl, below_grew HB2.out (by repeat (first | exact Grew.refl _ | refine Grew.drewN ?_ _ | refine Grew.grow ?_ _ | refine Grew.alloc ?_ _ | refine Grew.drew ?_))⟩

  case pos =>
    subst hE2
    obtain rfl : N2 = (n : Int) := by rw [← HN2.out, rowsOf, if_pos rfl]
    obtain ⟨hBA, hboth, hsame⟩ := HF.out rfl
    obtain rfl : B = dagL n A := hBA
    have HBOTH := hid hboth
    have HSAME := hid hsame
    clear hboth hsame HF HE4 HB1
    go_wp2_with fail
    obtain ⟨W3, hW3⟩ : ∃ W3, W3 = ((w2.grow g4).alloc (.cells #[.int .i64 n, .slice bm (dagL n A).length kb] 28)).drewN m4 := ⟨_, rfl⟩
    obtain ⟨b8, hb8⟩ : ∃ b8, b8 = w2.heap.size + g4.length := ⟨_, rfl⟩
    have hg3 : Grew w2 W3 := by rw [hW3]; exact (by repeat (first | exact Grew.refl _ | refine Grew.drewN ?_ _ | refine Grew.grow ?_ _ | refine Grew.alloc ?_ _ | refine Grew.drew ?_))
    have hN3 : Nms W3 bm (dagL n A) := by rw [hW3]; exact HB.out.grew (by repeat (first | exact Grew.refl _ | refine Grew.drewN ?_ _ | refine Grew.grow ?_ _ | refine Grew.alloc ?_ _ | refine Grew.drew ?_))
    have h8 : W3.cell? ⟨b8, 0, none⟩ = some (.int .i64 n) ∧ W3.cell? ⟨b8, 1, none⟩ = some (.slice bm (dagL n A).length kb) ∧ b8 < W3.heap.size := by rw [hW3, hb8]; simp [go_sem]
    rw [← hW3, ← hb8]
    obtain ⟨y2, y3, z8⟩ := h8
    have y0 := (hg3.cell (i := 0) z5).trans y0
    have y1 := (hg3.cell (i := 1) z5).trans y1
    have z5 := Nat.lt_of_lt_of_le z5 hg3.size
    have HNA := hid (HNA.out.grew hg3)
    have HNB := hid hN3
    have HI2 := hid (HI2.out.grew hg3)
    have HOB := hid (HOB.out.grew hg3)
    have HB2 := hid (below_grew HB2.out hg3)
    have h36 : n * n ≤ 36 := Nat.mul_le_mul n2 n2
    have HDAG := hid fun W (hg : Grew W3 W) => dagger_any n am km A W n2 HLA.out (HNA.out.grew hg) HVA.out
    have HSM1 := hid fun a4 k4 W (hg : Grew W3 W) (h2 : Nms W a4 (dagL n A)) => sameMatrix_same n bm a4 kb k4 (dagL n A) W (by rw [dagL_length]; omega) (HNB.out.grew hg) h2
    clear hW3 hb8 hg3 hN3 HB h36 HMB HN2
    have z51 := fun m0 : Nat => Nat.lt_add_right m0 (z5)
    have z52 := fun m0 m1 : Nat => Nat.lt_add_right m1 (z51 m0)
    have z53 := fun m0 m1 m2 : Nat => Nat.lt_add_right m2 (z52 m0 m1)
    have z81 := fun m0 : Nat => Nat.lt_add_right m0 (z8)
    have z82 := fun m0 m1 : Nat => Nat.lt_add_right m1 (z81 m0)
    have z83 := fun m0 m1 m2 : Nat => Nat.lt_add_right m2 (z82 m0 m1)
    · refine R4.wp_region_slotsG 9 (fun ix vs W => match ix with | 0 => vs 0 = .int .i64 0 | 1 => vs 1 = .bool false | 2 => vs 2 = .bool false | 3 => vs 3 = .agg #[.int .i64 n, .slice bm (dagL n A).length kb] | 4 => vs 4 = .agg #[.int .i64 n, .slice am A.length km] | 5 => MatV (vs 5) W n (dagL n A) | 6 => vs 6 = .bool true | 7 => vs 7 = .bool false | 8 => vs 8 = .bool false | _ => True) (fun _ W => Grew W3 W) (by kernel_rfl) (by kernel_rfl) ?slst ?sldep (Grew.refl _).drew ?slop ?slq
      case slst =>
        intro ix vs W W' h hg
        match ix, h with
        | 0, h => exact h
        | 1, h => exact h
        | 2, h => exact h
        | 3, h => exact h
        | 4, h => exact h
        | 5, h => exact MatV.grew h hg
        | 6, h => exact h
        | 7, h => exact h
        | 8, h => exact h
        | _ + 9, _ => trivial
      case sldep =>
        intro ix o vs vs' W hix ho h hv hn
        match ix, hix, ho, h, hv with
        | 0, _, _, h, hv => exact Eq.trans hv h
        | 1, _, _, h, hv => exact Eq.trans hv h
        | 2, _, _, h, hv => exact Eq.trans hv h
        | 3, _, _, h, hv => exact Eq.trans hv h
        | 4, _, _, h, hv => exact Eq.trans hv h
        | 5, _, _, h, hv => show MatV (vs' 5) W n (dagL n A); rw [hv]; exact h
        | 6, _, _, h, hv => exact Eq.trans hv h
        | 7, _, _, h, hv => exact Eq.trans hv h
        | 8, _, _, h, hv => exact Eq.trans hv h
        | kx + 9, hix, _, _, _ => exact absurd hix (by omega)
      case slop =>
        intro ix o hix ho vs W L hg hL hn _ _
        match ix, hix, ho, hL with
        | 0, _, ho, _ =>
          obtain rfl := Option.some.inj ho
          change if Region.wanted _ (yielded _ (Act.tmps { tmps := _, defers := _ })) = true then R4.Oper.slotAt _ _ { tmps := _, defers := _ } _ _ else _
          rw [if_pos (by rfl)]
          have HGG := hid hg
          obtain ⟨gq, nq, rfl⟩ := hg
          go_simp
          exact ⟨HGG.out, R4.upd_same _ _ _, .inl (Grew.refl _)⟩
        | 1, _, ho, _ =>
          obtain rfl := Option.some.inj ho
          have hn0 := (hn 0 (by decide)).2
          try dsimp only at hn0
          change if Region.wanted _ (yielded _ (Act.tmps (Act.put _ (some 54) (vs 0)))) = true then R4.Oper.slotAt _ _ (Act.put _ (some 54) (vs 0)) _ _ else _
          rw [hn0]
          clear hn0
          rw [if_pos (by rfl)]
          have HGG := hid hg
          obtain ⟨gq, nq, rfl⟩ := hg
          go_simp
          exact ⟨HGG.out, R4.upd_same _ _ _, .inl (Grew.refl _)⟩
        | 2, _, ho, _ =>
          obtain rfl := Option.some.inj ho
          have hn1 := (hn 1 (by decide)).2
          try dsimp only at hn1
          change if Region.wanted _ (yielded _ (Act.tmps (Act.put _ (some 55) (vs 1)))) = true then R4.Oper.slotAt _ _ (Act.put _ (some 55) (vs 1)) _ _ else _
          rw [hn1]
          clear hn1
          rw [if_pos (by rfl)]
          have HGG := hid hg
          obtain ⟨gq, nq, rfl⟩ := hg
          go_simp
          exact ⟨HGG.out, R4.upd_same _ _ _, .inl (Grew.refl _)⟩
        | 3, _, ho, _ =>
          obtain rfl := Option.some.inj ho
          have hn2 := (hn 2 (by decide)).2
          try dsimp only at hn2
          change if Region.wanted _ (yielded _ (Act.tmps (Act.put _ (some 56) (vs 2)))) = true then R4.Oper.slotAt _ _ (Act.put _ (some 56) (vs 2)) _ _ else _
          rw [hn2]
          clear hn2
          rw [if_pos (by rfl)]
          have HGG := hid hg
          obtain ⟨gq, nq, rfl⟩ := hg
          go_simp
          exact ⟨HGG.out, R4.upd_same _ _ _, .inl (Grew.refl _)⟩
        | 4, _, ho, _ =>
          obtain rfl := Option.some.inj ho
          have hn2 := (hn 2 (by decide)).2
          try dsimp only at hn2
          change if Region.wanted _ (yielded _ (Act.tmps (Act.put _ (some 56) (vs 2)))) = true then R4.Oper.slotAt _ _ (Act.put _ (some 56) (vs 2)) _ _ else _
          rw [hn2]
          clear hn2
          rw [if_pos (by rfl)]
          have HGG := hid hg
          obtain ⟨gq, nq, rfl⟩ := hg
          go_simp
          exact ⟨HGG.out, R4.upd_same _ _ _, .inl (Grew.refl _)⟩
        | 5, _, ho, _ =>
          obtain rfl := Option.some.inj ho
          have hn4 := (hn 4 (by decide)).2
          have hn2 := (hn 2 (by decide)).2
          try dsimp only at hn4 hn2
          change if Region.wanted _ (yielded _ (Act.tmps (Act.put (Act.put _ (some 58) (vs 4)) (some 56) (vs 2)))) = true then R4.Oper.slotAt _ _ (Act.put (Act.put _ (some 58) (vs 4)) (some 56) (vs 2)) _ _ else _
          rw [hn4, hn2]
          clear hn4 hn2
          rw [if_pos (by rfl)]
          have HGG := hid hg
          obtain ⟨gq, nq, rfl⟩ := hg
          go_simp
          refine (HDAG.out _ (by repeat (first | exact Grew.refl _ | refine Grew.drewN ?_ _ | refine Grew.grow ?_ _ | refine Grew.alloc ?_ _ | refine Grew.drew ?_))).mono ?_
          rintro e w' ⟨⟨a3, k3, rfl, ho⟩, gr⟩
          exact ⟨_, rfl, HGG.out.trans gr, by rw [R4.upd_same]; exact ⟨a3, k3, rfl, ho.nms⟩, .inl gr⟩
        | 6, _, ho, _ =>
          obtain rfl := Option.some.inj ho
          have hn3 := (hn 3 (by decide)).2
          have hn5 := (hn 5 (by decide)).2
          have hn2 := (hn 2 (by decide)).2
          try dsimp only at hn3 hn5 hn2
          change if Region.wanted _ (yielded _ (Act.tmps (Act.put (Act.put (Act.put _ (some 57) (vs 3)) (some 59) (vs 5)) (some 56) (vs 2)))) = true then R4.Oper.slotAt _ _ (Act.put (Act.put (Act.put _ (some 57) (vs 3)) (some 59) (vs 5)) (some 56) (vs 2)) _ _ else _
          rw [hn3, hn2]
          clear hn3 hn2
          rw [if_pos (by rfl)]
          have HGG := hid hg
          obtain ⟨gq, nq, rfl⟩ := hg
          obtain ⟨a4, k4, e4, h2⟩ := hn5
          conv => arg 3; rw [e4]
          clear e4
          go_simp
          refine (HSM1.out a4 k4 _ (by repeat (first | exact Grew.refl _ | refine Grew.drewN ?_ _ | refine Grew.grow ?_ _ | refine Grew.alloc ?_ _ | refine Grew.drew ?_)) h2).mono ?_
          rintro e w' ⟨rfl, gr⟩
          exact ⟨_, rfl, HGG.out.trans gr, R4.upd_same _ _ _, .inl gr⟩
        | 7, _, ho, _ =>
          obtain rfl := Option.some.inj ho
          have hn6 := (hn 6 (by decide)).2
          have hn2 := (hn 2 (by decide)).2
          try dsimp only at hn6 hn2
          change if Region.wanted _ (yielded _ (Act.tmps (Act.put (Act.put _ (some 60) (vs 6)) (some 56) (vs 2)))) = true then R4.Oper.slotAt _ _ (Act.put (Act.put _ (some 60) (vs 6)) (some 56) (vs 2)) _ _ else _
          rw [hn6, hn2]
          clear hn6 hn2
          rw [if_pos (by rfl)]
          have HGG := hid hg
          obtain ⟨gq, nq, rfl⟩ := hg
          go_simp
          exact ⟨HGG.out, R4.upd_same _ _ _, .inl (Grew.refl _)⟩
        | 8, _, ho, _ =>
          obtain rfl := Option.some.inj ho
          have hn2 := (hn 2 (by decide)).2
          have hn7 := (hn 7 (by decide)).2
          try dsimp only at hn2 hn7
          change if Region.wanted _ (yielded _ (Act.tmps (Act.put (Act.put _ (some 56) (vs 2)) (some 61) (vs 7)))) = true then R4.Oper.slotAt _ _ (Act.put (Act.put _ (some 56) (vs 2)) (some 61) (vs 7)) _ _ else _
          rw [hn2, hn7]
          clear hn2 hn7
          rw [if_pos (by rfl)]
          have HGG := hid hg
          obtain ⟨gq, nq, rfl⟩ := hg
          go_simp
          exact ⟨HGG.out, R4.upd_same _ _ _, .inl (Grew.refl _)⟩
        | kx + 9, hix, _, _ => exact absurd hix (by omega)
      case slq =>
        intro vs W4 hg hn
        have hn8 : vs 8 = .bool false := hn 8 (by decide) (by decide)
        change wpList _ _ _ _ (Act.put (Act.put (Act.put (Act.put (Act.put (Act.put (Act.put (Act.put (Act.put _ (some 54) (vs 0)) (some 55) (vs 1)) (some 56) (vs 2)) (some 57) (vs 3)) (some 58) (vs 4)) (some 59) (vs 5)) (some 60) (vs 6)) (some 61) (vs 7)) (some 62) (vs 8)) _
        simp only [Act.put, List.setIfInBounds_toArray, List.set_cons_zero, List.set_cons_succ, List.drop_succ_cons, List.drop_zero, hn8]
        have y0 := (hg.cell (i := 0) z5).trans y0
        have y1 := (hg.cell (i := 1) z5).trans y1
        have z5 := Nat.lt_of_lt_of_le z5 hg.size
        have HNA := hid (HNA.out.grew hg)
        have HI2 := hid (HI2.out.grew hg)
        have HOB := hid (HOB.out.grew hg)
        have HB2 := hid (below_grew HB2.out hg)
        clear hn hn8 hg y2 y3 z8 HDAG HSM1 HNB
        clear z81 z82 z83
        have z51 := fun m0 : Nat => Nat.lt_add_right m0 (z5)
        have z52 := fun m0 m1 : Nat => Nat.lt_add_right m1 (z51 m0)
        have z53 := fun m0 m1 m2 : Nat => Nat.lt_add_right m2 (z52 m0 m1)
        go_wp2_with (at_builtin; go_loud (refine wpList_append_its rfl _ _ rfl W4.heap.size _ _ [] rfl ?own a0 cap its rfl HX0.out (its_news (HI2.out.grew (by repeat (first | exact Grew.refl _ | refine Grew.drewN ?_ _ | refine Grew.grow ?_ _ | refine Grew.alloc ?_ _ | refine Grew.drew ?_)))) ?mx ?bs ?_))
        case own => exact ownI_empty rfl (Nat.le_refl _)
        case mx => have := HLEN.out; simp; omega
        case bs => simp
        · intro a3 k3 wA hownA hgrowA hdrA
          have hgA : Grew W4 wA := Grew.by (w' := _) (by repeat (first | exact Grew.refl _ | refine Grew.drewN ?_ _ | refine Grew.grow ?_ _ | refine Grew.alloc ?_ _ | refine Grew.drew ?_)) hgrowA hdrA (fun jj hjj => by simp [Value.ownBlock] at hjj; omega)
          have HGA := hid hgA
          have HOA := hid hownA
          clear hgrowA hdrA hgA hownA
          go_wp2_with (at_builtin; go_loud (refine wpList_append_its rfl _ _ rfl W4.heap.size a3 k3 its rfl HOA.out a2 k2 LB rfl HXB.out (its_news (HOB.out.grew HGA.out)) ?mx ?bs ?_))
          case mx => have := HLEN.out; omega
          case bs => exact HGA.out.size
          · intro a4 k4 wB hownB hgrowB hdrB
            have hgB : Grew W4 wB := Grew.by HGA.out hgrowB hdrB (fun jj hjj => ownsRow_above HOA.out jj hjj)
            obtain ⟨LL, hLL⟩ : ∃ l, its ++ LB = l := ⟨_, rfl⟩
            have hLLn : LL.length = its.length + LB.length := by rw [← hLL, List.length_append]
            rw [hLL] at hownB
            rw [← hLLn]
            have HMC := hid (fun w' (hg : Grew wB w') => matOf_any n a4 k4 LL w' (by have := HLEN.out; omega) ((OwnI.its hownB).grew hg))
            obtain ⟨⟨C, E3⟩, hC1⟩ : ∃ R, matOf n LL = R := ⟨_, rfl⟩
            rw [hC1, Int.toNat_natCast] at HMC
            have HBOTH : Hid (E3 = 0 → C = idN n) := hid fun h => by
              have := HBOTH.out
              rw [hLL, hC1] at this
              exact this h
            have y0 := (hgB.cell (i := 0) z5).trans y0
            have y1 := (hgB.cell (i := 1) z5).trans y1
            have z5 := Nat.lt_of_lt_of_le z5 hgB.size
            have HNA := hid (HNA.out.grew hgB)
            have HOB := hid (HOB.out.grew hgB)
            have HB2 := hid (below_grew HB2.out hgB)
            clear hgrowB hdrB hgB hownB HOA HGA hC1 hLL hLLn HI2 HX0
            have z51 := fun m0 : Nat => Nat.lt_add_right m0 (z5)
            have z52 := fun m0 m1 : Nat => Nat.lt_add_right m1 (z51 m0)
            have z53 := fun m0 m1 m2 : Nat => Nat.lt_add_right m2 (z52 m0 m1)
            go_wp2_with fail
            refine (HMC.out _ (by repeat (first | exact Grew.refl _ | refine Grew.drewN ?_ _ | refine Grew.grow ?_ _ | refine Grew.alloc ?_ _ | refine Grew.drew ?_))).mono ?_
            rintro e w' ⟨⟨cm, kc, rfl, HC⟩, g5, m5, rfl⟩
            dsimp only at HC ⊢
            obtain ⟨N3, hN3⟩ : ∃ N, rowsOf n E3 = N := ⟨_, rfl⟩
            rw [hN3]
            have HN3 := hid hN3
            clear hN3
            have HC := hid HC.undrew
            go_wp2_with fail
            obtain ⟨W5, hW5⟩ : ∃ W5, W5 = ((wB.grow g5).alloc (.cells #[.int .i64 N3, .slice cm C.length kc] 28)).drewN m5 := ⟨_, rfl⟩
            obtain ⟨b10, hb10⟩ : ∃ b10, b10 = wB.heap.size + g5.length := ⟨_, rfl⟩
            have hg5 : Grew wB W5 := by rw [hW5]; exact (by repeat (first | exact Grew.refl _ | refine Grew.drewN ?_ _ | refine Grew.grow ?_ _ | refine Grew.alloc ?_ _ | refine Grew.drew ?_))
            have hN5 : Nms W5 cm C := by rw [hW5]; exact HC.out.grew (by repeat (first | exact Grew.refl _ | refine Grew.drewN ?_ _ | refine Grew.grow ?_ _ | refine Grew.alloc ?_ _ | refine Grew.drew ?_))
            have h10 : W5.cell? ⟨b10, 0, none⟩ = some (.int .i64 N3) ∧ W5.cell? ⟨b10, 1, none⟩ = some (.slice cm C.length kc) ∧ b10 < W5.heap.size := by rw [hW5, hb10]; simp [go_sem]
            rw [← hW5, ← hb10]
            obtain ⟨y4, y5, z10⟩ := h10
            have y0 := (hg5.cell (i := 0) z5).trans y0
            have y1 := (hg5.cell (i := 1) z5).trans y1
            have z5 := Nat.lt_of_lt_of_le z5 hg5.size
            have hNA5 := HNA.out.grew hg5
            have hOB5 := HOB.out.grew hg5
            have hB5 := below_grew HB2.out hg5
            clear hW5 hb10 hg5 HC HMC HNA HOB HB2 z51 z52 z53
            have HINV2 := hid (inv_any n a2 k2 LB W5 (by have := HLEN.out; omega) hOB5)
            rw [HIN2.out] at HINV2
            refine HINV2.out.mono ?_
            rintro e w6 ⟨⟨a5, k5, rfl, hown⟩, hbel⟩
            dsimp only at hown ⊢
            have HB2 := hid (show Below w.heap.size w w6 from hB5.trans (hbel.mono hB5.size))
            have HNA := hid (hNA5.below hbel)
            have HNC := hid (hN5.below hbel)
            have HOD := hid (OwnI.its hown)
            have y0 := (hbel.cell (p := ⟨b5, 0, none⟩) z5).trans y0
            have y1 := (hbel.cell (p := ⟨b5, 1, none⟩) z5).trans y1
            have z5 := Nat.lt_of_lt_of_le z5 hbel.size
            have y4 := (hbel.cell (p := ⟨b10, 0, none⟩) z10).trans y4
            have y5 := (hbel.cell (p := ⟨b10, 1, none⟩) z10).trans y5
            have z10 := Nat.lt_of_lt_of_le z10 hbel.size
            have HMD := hid fun w' (hg : Grew w6 w') => matOf_any n a5 k5 LA w' (by have := HLEN.out; omega) (HOD.out.grew hg)
            obtain ⟨⟨D, E4⟩, hD1⟩ : ∃ R, matOf n LA = R := ⟨_, rfl⟩
            rw [hD1, Int.toNat_natCast] at HMD
            have HSAME : Hid (E4 = 0 → D = A) := hid fun h => by
              have := HSAME.out
              rw [hD1] at this
              exact this h
            clear hNA5 hN5 hOB5 hB5 hown hbel hD1 HINV2
            have z51 := fun m0 : Nat => Nat.lt_add_right m0 (z5)
            have z52 := fun m0 m1 : Nat => Nat.lt_add_right m1 (z51 m0)
            have z53 := fun m0 m1 m2 : Nat => Nat.lt_add_right m2 (z52 m0 m1)
            have z101 := fun m0 : Nat => Nat.lt_add_right m0 (z10)
            have z102 := fun m0 m1 : Nat => Nat.lt_add_right m1 (z101 m0)
            have z103 := fun m0 m1 m2 : Nat => Nat.lt_add_right m2 (z102 m0 m1)
            go_wp2_with fail
            refine (HMD.out _ (by repeat (first | exact Grew.refl _ | refine Grew.drewN ?_ _ | refine Grew.grow ?_ _ | refine Grew.alloc ?_ _ | refine Grew.drew ?_))).mono ?_
            rintro e w' ⟨⟨dm, kd, rfl, HD⟩, g6, m6, rfl⟩
            dsimp only at HD ⊢
            obtain ⟨N4, hN4⟩ : ∃ N, rowsOf n E4 = N := ⟨_, rfl⟩
            rw [hN4]
            have HN4 := hid hN4
            clear hN4
            have HD := hid HD.undrew
            go_wp2_with fail
            obtain ⟨W7, hW7⟩ : ∃ W7, W7 = ((w6.grow g6).alloc (.cells #[.int .i64 N4, .slice dm D.length kd] 28)).drewN m6 := ⟨_, rfl⟩
            obtain ⟨b12, hb12⟩ : ∃ b12, b12 = w6.heap.size + g6.length := ⟨_, rfl⟩
            have hg7 : Grew w6 W7 := by rw [hW7]; exact (by repeat (first | exact Grew.refl _ | refine Grew.drewN ?_ _ | refine Grew.grow ?_ _ | refine Grew.alloc ?_ _ | refine Grew.drew ?_))
            have hN7 : Nms W7 dm D := by rw [hW7]; exact HD.out.grew (by repeat (first | exact Grew.refl _ | refine Grew.drewN ?_ _ | refine Grew.grow ?_ _ | refine Grew.alloc ?_ _ | refine Grew.drew ?_))
            have h12 : W7.cell? ⟨b12, 0, none⟩ = some (.int .i64 N4) ∧ W7.cell? ⟨b12, 1, none⟩ = some (.slice dm D.length kd) ∧ b12 < W7.heap.size := by rw [hW7, hb12]; simp [go_sem]
            rw [← hW7, ← hb12]
            obtain ⟨y6, y7, z12⟩ := h12
            have y0 := (hg7.cell (i := 0) z5).trans y0
            have y1 := (hg7.cell (i := 1) z5).trans y1
            have z5 := Nat.lt_of_lt_of_le z5 hg7.size
            have y4 := (hg7.cell (i := 0) z10).trans y4
            have y5 := (hg7.cell (i := 1) z10).trans y5
            have z10 := Nat.lt_of_lt_of_le z10 hg7.size
            have HNA := hid (HNA.out.grew hg7)
            have HNC := hid (HNC.out.grew hg7)
            have HND := hid hN7
            have HB2 := hid (below_grew HB2.out hg7)
            have HID := hid fun W => rIdentity_any n W n1 n2
            have H36 := hid (Nat.mul_le_mul n2 n2)
            clear hW7 hb12 hg7 hN7 HD HMD HOD z51 z52 z53 z101 z102 z103
            have z51 := fun m0 : Nat => Nat.lt_add_right m0 (z5)
            have z52 := fun m0 m1 : Nat => Nat.lt_add_right m1 (z51 m0)
            have z53 := fun m0 m1 m2 : Nat => Nat.lt_add_right m2 (z52 m0 m1)
            have z101 := fun m0 : Nat => Nat.lt_add_right m0 (z10)
            have z102 := fun m0 m1 : Nat => Nat.lt_add_right m1 (z101 m0)
            have z103 := fun m0 m1 m2 : Nat => Nat.lt_add_right m2 (z102 m0 m1)
            have z121 := fun m0 : Nat => Nat.lt_add_right m0 (z12)
            have z122 := fun m0 m1 : Nat => Nat.lt_add_right m1 (z121 m0)
            have z123 := fun m0 m1 m2 : Nat => Nat.lt_add_right m2 (z122 m0 m1)
            by_cases h3 : E3 = 0
            case pos =>
              have e3 : (E3 == 0) = true := by simp [h3]
              subst h3
              obtain rfl : N3 = (n : Int) := by rw [← HN3.out, rowsOf, if_pos rfl]
              obtain rfl : C = idN n := HBOTH.out rfl
              have HSMC := hid fun a4 k4 W (hg : Grew W7 W) (h2 : Nms W a4 (idN n)) => sameMatrix_same n cm a4 kc k4 (idN n) W (by have := H36.out; rw [idN_length]; omega) (HNC.out.grew hg) h2
              by_cases h4 : E4 = 0
              case pos =>
                have e4 : (E4 == 0) = true := by simp [h4]
                subst h4
                obtain rfl : N4 = (n : Int) := by rw [← HN4.out, rowsOf, if_pos rfl]
                obtain rfl : D = A := HSAME.out rfl
                have HSMD := hid fun W (hg : Grew W7 W) => sameMatrix_same n dm am kd km D W (by have := H36.out; have := HLA.out; omega) (HND.out.grew hg) (HNA.out.grew hg)
                refine R4.wp_region_slotsG 23 (fun ix vs W => match ix with | 0 => vs 0 = .int .i64 0 | 1 => vs 1 = .bool true | 2 => vs 2 = .bool true | 3 => vs 3 = .agg #[.int .i64 n, .slice cm (idN n).length kc] | 4 => vs 4 = .int .i64 n | 5 => MatV (vs 5) W n (idN n) | 6 => vs 6 = .bool true | 7 => vs 7 = .bool false | 8 => vs 8 = .bool false | 9 => vs 9 = .bool false | 10 => vs 10 = .int .i64 0 | 11 => vs 11 = .bool false | 12 => vs 12 = .bool false | 13 => vs 13 = .bool false | 14 => vs 14 = .int .i64 0 | 15 => vs 15 = .bool true | 16 => vs 16 = .bool true | 17 => vs 17 = .agg #[.int .i64 n, .slice dm D.length kd] | 18 => vs 18 = .agg #[.int .i64 n, .slice am D.length km] | 19 => vs 19 = .bool true | 20 => vs 20 = .bool false | 21 => vs 21 = .bool false | 22 => vs 22 = .bool false | _ => True) (fun _ W => Grew W7 W) (by kernel_rfl) (by kernel_rfl) ?slst ?sldep (Grew.refl _).drew ?slop ?slq
                case slst =>
                  intro ix vs W W' h hg
                  match ix, h with
                  | 0, h => exact h
                  | 1, h => exact h
                  | 2, h => exact h
                  | 3, h => exact h
                  | 4, h => exact h
                  | 5, h => exact MatV.grew h hg
                  | 6, h => exact h
                  | 7, h => exact h
                  | 8, h => exact h
                  | 9, h => exact h
                  | 10, h => exact h
                  | 11, h => exact h
                  | 12, h => exact h
                  | 13, h => exact h
                  | 14, h => exact h
                  | 15, h => exact h
                  | 16, h => exact h
                  | 17, h => exact h
                  | 18, h => exact h
                  | 19, h => exact h
                  | 20, h => exact h
                  | 21, h => exact h
                  | 22, h => exact h
                  | _ + 23, _ => trivial
                case sldep =>
                  intro ix o vs vs' W hix ho h hv hn
                  match ix, hix, ho, h, hv with
                  | 0, _, _, h, hv => exact Eq.trans hv h
                  | 1, _, _, h, hv => exact Eq.trans hv h
                  | 2, _, _, h, hv => exact Eq.trans hv h
                  | 3, _, _, h, hv => exact Eq.trans hv h
                  | 4, _, _, h, hv => exact Eq.trans hv h
                  | 5, _, _, h, hv => show MatV (vs' 5) W n (idN n); rw [hv]; exact h
                  | 6, _, _, h, hv => exact Eq.trans hv h
                  | 7, _, _, h, hv => exact Eq.trans hv h
                  | 8, _, _, h, hv => exact Eq.trans hv h
                  | 9, _, _, h, hv => exact Eq.trans hv h
                  | 10, _, _, h, hv => exact Eq.trans hv h
                  | 11, _, _, h, hv => exact Eq.trans hv h
                  | 12, _, _, h, hv => exact Eq.trans hv h
                  | 13, _, _, h, hv => exact Eq.trans hv h
                  | 14, _, _, h, hv => exact Eq.trans hv h
                  | 15, _, _, h, hv => exact Eq.trans hv h
                  | 16, _, _, h, hv => exact Eq.trans hv h
                  | 17, _, _, h, hv => exact Eq.trans hv h
                  | 18, _, _, h, hv => exact Eq.trans hv h
                  | 19, _, _, h, hv => exact Eq.trans hv h
                  | 20, _, _, h, hv => exact Eq.trans hv h
                  | 21, _, _, h, hv => exact Eq.trans hv h
                  | 22, _, _, h, hv => exact Eq.trans hv h
                  | kx + 23, hix, _, _, _ => exact absurd hix (by omega)
                case slop =>
                  intro ix o hix ho vs W L hg hL hn _ _
                  match ix, hix, ho, hL with
                  | 0, _, ho, _ =>
                    obtain rfl := Option.some.inj ho
                    change if Region.wanted _ (yielded _ (Act.tmps { tmps := _, defers := _ })) = true then R4.Oper.slotAt _ _ { tmps := _, defers := _ } _ _ else _
                    rw [if_pos (by rfl)]
                    have HGG := hid hg
                    obtain ⟨gq, nq, rfl⟩ := hg
                    go_simp
                    exact ⟨HGG.out, R4.upd_same _ _ _, .inl (Grew.refl _)⟩
                  | 1, _, ho, _ =>
                    obtain rfl := Option.some.inj ho
                    have hn0 := (hn 0 (by decide)).2
                    try dsimp only at hn0
                    change if Region.wanted _ (yielded _ (Act.tmps (Act.put _ (some 85) (vs 0)))) = true then R4.Oper.slotAt _ _ (Act.put _ (some 85) (vs 0)) _ _ else _
                    rw [hn0]
                    clear hn0
                    rw [if_pos (by rfl)]
                    have HGG := hid hg
                    obtain ⟨gq, nq, rfl⟩ := hg
                    go_simp
                    exact ⟨HGG.out, R4.upd_same _ _ _, .inl (Grew.refl _)⟩
                  | 2, _, ho, _ =>
                    obtain rfl := Option.some.inj ho
                    have hn1 := (hn 1 (by decide)).2
                    try dsimp only at hn1
                    change if Region.wanted _ (yielded _ (Act.tmps (Act.put _ (some 86) (vs 1)))) = true then R4.Oper.slotAt _ _ (Act.put _ (some 86) (vs 1)) _ _ else _
                    rw [hn1]
                    clear hn1
                    rw [if_pos (by rfl)]
                    have HGG := hid hg
                    obtain ⟨gq, nq, rfl⟩ := hg
                    go_simp
                    exact ⟨HGG.out, R4.upd_same _ _ _, .inl (Grew.refl _)⟩
                  | 3, _, ho, _ =>
                    obtain rfl := Option.some.inj ho
                    have hn2 := (hn 2 (by decide)).2
                    try dsimp only at hn2
                    change if Region.wanted _ (yielded _ (Act.tmps (Act.put _ (some 87) (vs 2)))) = true then R4.Oper.slotAt _ _ (Act.put _ (some 87) (vs 2)) _ _ else _
                    rw [hn2]
                    clear hn2
                    rw [if_pos (by rfl)]
                    have HGG := hid hg
                    obtain ⟨gq, nq, rfl⟩ := hg
                    go_simp
                    exact ⟨HGG.out, R4.upd_same _ _ _, .inl (Grew.refl _)⟩
                  | 4, _, ho, _ =>
                    obtain rfl := Option.some.inj ho
                    have hn2 := (hn 2 (by decide)).2
                    try dsimp only at hn2
                    change if Region.wanted _ (yielded _ (Act.tmps (Act.put _ (some 87) (vs 2)))) = true then R4.Oper.slotAt _ _ (Act.put _ (some 87) (vs 2)) _ _ else _
                    rw [hn2]
                    clear hn2
                    rw [if_pos (by rfl)]
                    have HGG := hid hg
                    obtain ⟨gq, nq, rfl⟩ := hg
                    go_simp
                    exact ⟨HGG.out, R4.upd_same _ _ _, .inl (Grew.refl _)⟩
                  | 5, _, ho, _ =>
                    obtain rfl := Option.some.inj ho
                    have hn4 := (hn 4 (by decide)).2
                    have hn2 := (hn 2 (by decide)).2
                    try dsimp only at hn4 hn2
                    change if Region.wanted _ (yielded _ (Act.tmps (Act.put (Act.put _ (some 89) (vs 4)) (some 87) (vs 2)))) = true then R4.Oper.slotAt _ _ (Act.put (Act.put _ (some 89) (vs 4)) (some 87) (vs 2)) _ _ else _
                    rw [hn4, hn2]
                    clear hn4 hn2
                    rw [if_pos (by rfl)]
                    have HGG := hid hg
                    obtain ⟨gq, nq, rfl⟩ := hg
                    go_simp
                    refine (HID.out _).mono ?_
                    rintro e w' ⟨⟨a3, k3, rfl, ho⟩, gr⟩
                    exact ⟨_, rfl, HGG.out.trans gr, by rw [R4.upd_same]; exact ⟨a3, k3, rfl, ho.nms⟩, .inl gr⟩
                  | 6, _, ho, _ =>
                    obtain rfl := Option.some.inj ho
                    have hn3 := (hn 3 (by decide)).2
                    have hn5 := (hn 5 (by decide)).2
                    have hn2 := (hn 2 (by decide)).2
                    try dsimp only at hn3 hn5 hn2
                    change if Region.wanted _ (yielded _ (Act.tmps (Act.put (Act.put (Act.put _ (some 88) (vs 3)) (some 90) (vs 5)) (some 87) (vs 2)))) = true then R4.Oper.slotAt _ _ (Act.put (Act.put (Act.put _ (some 88) (vs 3)) (some 90) (vs 5)) (some 87) (vs 2)) _ _ else _
                    rw [hn3, hn2]
                    clear hn3 hn2
                    rw [if_pos (by rfl)]
                    have HGG := hid hg
                    obtain ⟨gq, nq, rfl⟩ := hg
                    obtain ⟨a4, k4, e4, h2⟩ := hn5
                    conv => arg 3; rw [e4]
                    clear e4
                    go_simp
                    refine (HSMC.out a4 k4 _ (by repeat (first | exact Grew.refl _ | refine Grew.drewN ?_ _ | refine Grew.grow ?_ _ | refine Grew.alloc ?_ _ | refine Grew.drew ?_)) h2).mono ?_
                    rintro e w' ⟨rfl, gr⟩
                    exact ⟨_, rfl, HGG.out.trans gr, R4.upd_same _ _ _, .inl gr⟩
                  | 7, _, ho, _ =>
                    obtain rfl := Option.some.inj ho
                    have hn6 := (hn 6 (by decide)).2
                    have hn2 := (hn 2 (by decide)).2
                    try dsimp only at hn6 hn2
                    change if Region.wanted _ (yielded _ (Act.tmps (Act.put (Act.put _ (some 91) (vs 6)) (some 87) (vs 2)))) = true then R4.Oper.slotAt _ _ (Act.put (Act.put _ (some 91) (vs 6)) (some 87) (vs 2)) _ _ else _
                    rw [hn6, hn2]
                    clear hn6 hn2
                    rw [if_pos (by rfl)]
                    have HGG := hid hg
                    obtain ⟨gq, nq, rfl⟩ := hg
                    go_simp
                    exact ⟨HGG.out, R4.upd_same _ _ _, .inl (Grew.refl _)⟩
                  | 8, _, ho, _ =>
                    obtain rfl := Option.some.inj ho
                    have hn2 := (hn 2 (by decide)).2
                    have hn7 := (hn 7 (by decide)).2
                    try dsimp only at hn2 hn7
                    change if Region.wanted _ (yielded _ (Act.tmps (Act.put (Act.put _ (some 87) (vs 2)) (some 92) (vs 7)))) = true then R4.Oper.slotAt _ _ (Act.put (Act.put _ (some 87) (vs 2)) (some 92) (vs 7)) _ _ else _
                    rw [hn2, hn7]
                    clear hn2 hn7
                    rw [if_pos (by rfl)]
                    have HGG := hid hg
                    obtain ⟨gq, nq, rfl⟩ := hg
                    go_simp
                    exact ⟨HGG.out, R4.upd_same _ _ _, .inl (Grew.refl _)⟩
                  | 9, _, ho, _ =>
                    obtain rfl := Option.some.inj ho
                    have hn8 := (hn 8 (by decide)).2
                    try dsimp only at hn8
                    change if Region.wanted _ (yielded _ (Act.tmps (Act.put _ (some 93) (vs 8)))) = true then R4.Oper.slotAt _ _ (Act.put _ (some 93) (vs 8)) _ _ else _
                    rw [hn8]
                    clear hn8
                    rw [if_pos (by rfl)]
                    have HGG := hid hg
                    obtain ⟨gq, nq, rfl⟩ := hg
                    go_simp
                    exact ⟨HGG.out, R4.upd_same _ _ _, .inl (Grew.refl _)⟩
                  | 10, _, ho, _ =>
                    obtain rfl := Option.some.inj ho
                    have hn9 := (hn 9 (by decide)).2
                    try dsimp only at hn9
                    change if Region.wanted _ (yielded _ (Act.tmps (Act.put _ (some 94) (vs 9)))) = true then R4.Oper.slotAt _ _ (Act.put _ (some 94) (vs 9)) _ _ else _
                    rw [hn9]
                    clear hn9
                    rw [if_pos (by rfl)]
                    have HGG := hid hg
                    obtain ⟨gq, nq, rfl⟩ := hg
                    go_simp
                    exact ⟨HGG.out, R4.upd_same _ _ _, .inl (Grew.refl _)⟩
                  | 11, _, ho, _ =>
                    obtain rfl := Option.some.inj ho
                    have hn10 := (hn 10 (by decide)).2
                    have hn9 := (hn 9 (by decide)).2
                    try dsimp only at hn10 hn9
                    change if Region.wanted _ (yielded _ (Act.tmps (Act.put (Act.put _ (some 95) (vs 10)) (some 94) (vs 9)))) = true then R4.Oper.slotAt _ _ (Act.put (Act.put _ (some 95) (vs 10)) (some 94) (vs 9)) _ _ else _
                    rw [hn10, hn9]
                    clear hn10 hn9
                    rw [if_pos (by rfl)]
                    have HGG := hid hg
                    obtain ⟨gq, nq, rfl⟩ := hg
                    go_simp
                    exact ⟨HGG.out, R4.upd_same _ _ _, .inl (Grew.refl _)⟩
                  | 12, _, ho, _ =>
                    obtain rfl := Option.some.inj ho
                    have hn9 := (hn 9 (by decide)).2
                    have hn11 := (hn 11 (by decide)).2
                    try dsimp only at hn9 hn11
                    change if Region.wanted _ (yielded _ (Act.tmps (Act.put (Act.put _ (some 94) (vs 9)) (some 96) (vs 11)))) = true then R4.Oper.slotAt _ _ (Act.put (Act.put _ (some 94) (vs 9)) (some 96) (vs 11)) _ _ else _
                    rw [hn9, hn11]
                    clear hn9 hn11
                    rw [if_pos (by rfl)]
                    have HGG := hid hg
                    obtain ⟨gq, nq, rfl⟩ := hg
                    go_simp
                    exact ⟨HGG.out, R4.upd_same _ _ _, .inl (Grew.refl _)⟩
                  | 13, _, ho, _ =>
                    obtain rfl := Option.some.inj ho
                    have hn12 := (hn 12 (by decide)).2
                    try dsimp only at hn12
                    change if Region.wanted _ (yielded _ (Act.tmps (Act.put _ (some 97) (vs 12)))) = true then R4.Oper.slotAt _ _ (Act.put _ (some 97) (vs 12)) _ _ else _
                    rw [hn12]
                    clear hn12
                    rw [if_pos (by rfl)]
                    have HGG := hid hg
                    obtain ⟨gq, nq, rfl⟩ := hg
                    go_simp
                    exact ⟨HGG.out, R4.upd_same _ _ _, .inl (Grew.refl _)⟩
                  | 14, _, ho, _ =>
                    obtain rfl := Option.some.inj ho
                    have hn13 := (hn 13 (by decide)).2
                    try dsimp only at hn13
                    change if Region.wanted _ (yielded _ (Act.tmps (Act.put _ (some 98) (vs 13)))) = true then R4.Oper.slotAt _ _ (Act.put _ (some 98) (vs 13)) _ _ else _
                    rw [hn13]
                    clear hn13
                    rw [if_pos (by rfl)]
                    have HGG := hid hg
                    obtain ⟨gq, nq, rfl⟩ := hg
                    go_simp
                    exact ⟨HGG.out, R4.upd_same _ _ _, .inl (Grew.refl _)⟩
                  | 15, _, ho, _ =>
                    obtain rfl := Option.some.inj ho
                    have hn14 := (hn 14 (by decide)).2
                    have hn13 := (hn 13 (by decide)).2
                    try dsimp only at hn14 hn13
                    change if Region.wanted _ (yielded _ (Act.tmps (Act.put (Act.put _ (some 99) (vs 14)) (some 98) (vs 13)))) = true then R4.Oper.slotAt _ _ (Act.put (Act.put _ (some 99) (vs 14)) (some 98) (vs 13)) _ _ else _
                    rw [hn14, hn13]
                    clear hn14 hn13
                    rw [if_pos (by rfl)]
                    have HGG := hid hg
                    obtain ⟨gq, nq, rfl⟩ := hg
                    go_simp
                    exact ⟨HGG.out, R4.upd_same _ _ _, .inl (Grew.refl _)⟩
                  | 16, _, ho, _ =>
                    obtain rfl := Option.some.inj ho
                    have hn15 := (hn 15 (by decide)).2
                    have hn13 := (hn 13 (by decide)).2
                    try dsimp only at hn15 hn13
                    change if Region.wanted _ (yielded _ (Act.tmps (Act.put (Act.put _ (some 100) (vs 15)) (some 98) (vs 13)))) = true then R4.Oper.slotAt _ _ (Act.put (Act.put _ (some 100) (vs 15)) (some 98) (vs 13)) _ _ else _
                    rw [hn15, hn13]
                    clear hn15 hn13
                    rw [if_pos (by rfl)]
                    have HGG := hid hg
                    obtain ⟨gq, nq, rfl⟩ := hg
                    go_simp
                    exact ⟨HGG.out, R4.upd_same _ _ _, .inl (Grew.refl _)⟩
                  | 17, _, ho, _ =>
                    obtain rfl := Option.some.inj ho
                    have hn16 := (hn 16 (by decide)).2
                    try dsimp only at hn16
                    change if Region.wanted _ (yielded _ (Act.tmps (Act.put _ (some 101) (vs 16)))) = true then R4.Oper.slotAt _ _ (Act.put _ (some 101) (vs 16)) _ _ else _
                    rw [hn16]
                    clear hn16
                    rw [if_pos (by rfl)]
                    have HGG := hid hg
                    obtain ⟨gq, nq, rfl⟩ := hg
                    go_simp
                    exact ⟨HGG.out, R4.upd_same _ _ _, .inl (Grew.refl _)⟩
                  | 18, _, ho, _ =>
                    obtain rfl := Option.some.inj ho
                    have hn16 := (hn 16 (by decide)).2
                    try dsimp only at hn16
                    change if Region.wanted _ (yielded _ (Act.tmps (Act.put _ (some 101) (vs 16)))) = true then R4.Oper.slotAt _ _ (Act.put _ (some 101) (vs 16)) _ _ else _
                    rw [hn16]
                    clear hn16
                    rw [if_pos (by rfl)]
                    have HGG := hid hg
                    obtain ⟨gq, nq, rfl⟩ := hg
                    go_simp
                    exact ⟨HGG.out, R4.upd_same _ _ _, .inl (Grew.refl _)⟩
                  | 19, _, ho, _ =>
                    obtain rfl := Option.some.inj ho
                    have hn17 := (hn 17 (by decide)).2
                    have hn18 := (hn 18 (by decide)).2
                    have hn16 := (hn 16 (by decide)).2
                    try dsimp only at hn17 hn18 hn16
                    change if Region.wanted _ (yielded _ (Act.tmps (Act.put (Act.put (Act.put _ (some 102) (vs 17)) (some 103) (vs 18)) (some 101) (vs 16)))) = true then R4.Oper.slotAt _ _ (Act.put (Act.put (Act.put _ (some 102) (vs 17)) (some 103) (vs 18)) (some 101) (vs 16)) _ _ else _
                    rw [hn17, hn18, hn16]
                    clear hn17 hn18 hn16
                    rw [if_pos (by rfl)]
                    have HGG := hid hg
                    obtain ⟨gq, nq, rfl⟩ := hg
                    go_simp
                    refine (HSMD.out _ (by repeat (first | exact Grew.refl _ | refine Grew.drewN ?_ _ | refine Grew.grow ?_ _ | refine Grew.alloc ?_ _ | refine Grew.drew ?_))).mono ?_
                    rintro e w' ⟨rfl, gr⟩
                    exact ⟨_, rfl, HGG.out.trans gr, R4.upd_same _ _ _, .inl gr⟩
                  | 20, _, ho, _ =>
                    obtain rfl := Option.some.inj ho
                    have hn19 := (hn 19 (by decide)).2
                    have hn16 := (hn 16 (by decide)).2
                    try dsimp only at hn19 hn16
                    change if Region.wanted _ (yielded _ (Act.tmps (Act.put (Act.put _ (some 104) (vs 19)) (some 101) (vs 16)))) = true then R4.Oper.slotAt _ _ (Act.put (Act.put _ (some 104) (vs 19)) (some 101) (vs 16)) _ _ else _
                    rw [hn19, hn16]
                    clear hn19 hn16
                    rw [if_pos (by rfl)]
                    have HGG := hid hg
                    obtain ⟨gq, nq, rfl⟩ := hg
                    go_simp
                    exact ⟨HGG.out, R4.upd_same _ _ _, .inl (Grew.refl _)⟩
                  | 21, _, ho, _ =>
                    obtain rfl := Option.some.inj ho
                    have hn16 := (hn 16 (by decide)).2
                    have hn20 := (hn 20 (by decide)).2
                    have hn13 := (hn 13 (by decide)).2
                    try dsimp only at hn16 hn20 hn13
                    change if Region.wanted _ (yielded _ (Act.tmps (Act.put (Act.put (Act.put _ (some 101) (vs 16)) (some 105) (vs 20)) (some 98) (vs 13)))) = true then R4.Oper.slotAt _ _ (Act.put (Act.put (Act.put _ (some 101) (vs 16)) (some 105) (vs 20)) (some 98) (vs 13)) _ _ else _
                    rw [hn16, hn20, hn13]
                    clear hn16 hn20 hn13
                    rw [if_pos (by rfl)]
                    have HGG := hid hg
                    obtain ⟨gq, nq, rfl⟩ := hg
                    go_simp
                    exact ⟨HGG.out, R4.upd_same _ _ _, .inl (Grew.refl _)⟩
                  | 22, _, ho, _ =>
                    obtain rfl := Option.some.inj ho
                    have hn13 := (hn 13 (by decide)).2
                    have hn21 := (hn 21 (by decide)).2
                    try dsimp only at hn13 hn21
                    change if Region.wanted _ (yielded _ (Act.tmps (Act.put (Act.put _ (some 98) (vs 13)) (some 106) (vs 21)))) = true then R4.Oper.slotAt _ _ (Act.put (Act.put _ (some 98) (vs 13)) (some 106) (vs 21)) _ _ else _
                    rw [hn13, hn21]
                    clear hn13 hn21
                    rw [if_pos (by rfl)]
                    have HGG := hid hg
                    obtain ⟨gq, nq, rfl⟩ := hg
                    go_simp
                    exact ⟨HGG.out, R4.upd_same _ _ _, .inl (Grew.refl _)⟩
                  | kx + 23, hix, _, _ => exact absurd hix (by omega)
                case slq =>
                  intro vs W8 hg hn
                  have hn22 : vs 22 = .bool false := hn 22 (by decide) (by decide)
                  change wpList _ _ _ _ (Act.put (Act.put (Act.put (Act.put (Act.put (Act.put (Act.put (Act.put (Act.put (Act.put (Act.put (Act.put (Act.put (Act.put (Act.put (Act.put (Act.put (Act.put (Act.put (Act.put (Act.put (Act.put (Act.put _ (some 85) (vs 0)) (some 86) (vs 1)) (some 87) (vs 2)) (some 88) (vs 3)) (some 89) (vs 4)) (some 90) (vs 5)) (some 91) (vs 6)) (some 92) (vs 7)) (some 93) (vs 8)) (some 94) (vs 9)) (some 95) (vs 10)) (some 96) (vs 11)) (some 97) (vs 12)) (some 98) (vs 13)) (some 99) (vs 14)) (some 100) (vs 15)) (some 101) (vs 16)) (some 102) (vs 17)) (some 103) (vs 18)) (some 104) (vs 19)) (some 105) (vs 20)) (some 106) (vs 21)) (some 107) (vs 22)) _
                  simp only [Act.put, List.setIfInBounds_toArray, List.set_cons_zero, List.set_cons_succ, List.drop_succ_cons, List.drop_zero, hn22]
                  have HB2 := hid (below_grew HB2.out hg)
                  clear hn hn22 hg
                  go_wp2_with fail
                  refine (awake_any _).mono ?_
                  rintro e w' ⟨rfl, gz, mz, rfl⟩
                  go_wp2_with fail
                  go_ret
                  exact ⟨rfl, below_grew HB2.out (by repeat (first | exact Grew.refl _ | refine Grew.drewN ?_ _ | refine Grew.grow ?_ _ | refine Grew.alloc ?_ _ | refine Grew.drew ?_))⟩
              case neg =>
                have e4 : (E4 == 0) = false := by simpa using h4
                clear h4
                refine R4.wp_region_slotsG 23 (fun ix vs W => match ix with | 0 => vs 0 = .int .i64 0 | 1 => vs 1 = .bool true | 2 => vs 2 = .bool true | 3 => vs 3 = .agg #[.int .i64 n, .slice cm (idN n).length kc] | 4 => vs 4 = .int .i64 n | 5 => MatV (vs 5) W n (idN n) | 6 => vs 6 = .bool true | 7 => vs 7 = .bool false | 8 => vs 8 = .bool false | 9 => vs 9 = .bool false | 10 => vs 10 = .int .i64 0 | 11 => vs 11 = .bool false | 12 => vs 12 = .bool false | 13 => vs 13 = .bool false | 14 => vs 14 = .int .i64 E4 | 15 => vs 15 = .bool false | 16 => vs 16 = .bool false | 17 => vs 17 = undef | 18 => vs 18 = undef | 19 => vs 19 = undef | 20 => vs 20 = undef | 21 => vs 21 = .bool false | 22 => vs 22 = .bool false | _ => True) (fun _ W => Grew W7 W) (by kernel_rfl) (by kernel_rfl) ?slst ?sldep (Grew.refl _).drew ?slop ?slq
                case slst =>
                  intro ix vs W W' h hg
                  match ix, h with
                  | 0, h => exact h
                  | 1, h => exact h
                  | 2, h => exact h
                  | 3, h => exact h
                  | 4, h => exact h
                  | 5, h => exact MatV.grew h hg
                  | 6, h => exact h
                  | 7, h => exact h
                  | 8, h => exact h
                  | 9, h => exact h
                  | 10, h => exact h
                  | 11, h => exact h
                  | 12, h => exact h
                  | 13, h => exact h
                  | 14, h => exact h
                  | 15, h => exact h
                  | 16, h => exact h
                  | 17, h => exact h
                  | 18, h => exact h
                  | 19, h => exact h
                  | 20, h => exact h
                  | 21, h => exact h
                  | 22, h => exact h
                  | _ + 23, _ => trivial
                case sldep =>
                  intro ix o vs vs' W hix ho h hv hn
                  match ix, hix, ho, h, hv with
                  | 0, _, _, h, hv => exact Eq.trans hv h
                  | 1, _, _, h, hv => exact Eq.trans hv h
                  | 2, _, _, h, hv => exact Eq.trans hv h
                  | 3, _, _, h, hv => exact Eq.trans hv h
                  | 4, _, _, h, hv => exact Eq.trans hv h
                  | 5, _, _, h, hv => show MatV (vs' 5) W n (idN n); rw [hv]; exact h
                  | 6, _, _, h, hv => exact Eq.trans hv h
                  | 7, _, _, h, hv => exact Eq.trans hv h
                  | 8, _, _, h, hv => exact Eq.trans hv h
                  | 9, _, _, h, hv => exact Eq.trans hv h
                  | 10, _, _, h, hv => exact Eq.trans hv h
                  | 11, _, _, h, hv => exact Eq.trans hv h
                  | 12, _, _, h, hv => exact Eq.trans hv h
                  | 13, _, _, h, hv => exact Eq.trans hv h
                  | 14, _, _, h, hv => exact Eq.trans hv h
                  | 15, _, _, h, hv => exact Eq.trans hv h
                  | 16, _, _, h, hv => exact Eq.trans hv h
                  | 17, _, _, h, hv => exact Eq.trans hv h
                  | 18, _, _, h, hv => exact Eq.trans hv h
                  | 19, _, _, h, hv => exact Eq.trans hv h
                  | 20, _, _, h, hv => exact Eq.trans hv h
                  | 21, _, _, h, hv => exact Eq.trans hv h
                  | 22, _, _, h, hv => exact Eq.trans hv h
                  | kx + 23, hix, _, _, _ => exact absurd hix (by omega)
                case slop =>
                  intro ix o hix ho vs W L hg hL hn _ _
                  match ix, hix, ho, hL with
                  | 0, _, ho, _ =>
                    obtain rfl := Option.some.inj ho
                    change if Region.wanted _ (yielded _ (Act.tmps { tmps := _, defers := _ })) = true then R4.Oper.slotAt _ _ { tmps := _, defers := _ } _ _ else _
                    rw [if_pos (by rfl)]
                    have HGG := hid hg
                    obtain ⟨gq, nq, rfl⟩ := hg
                    go_simp
                    exact ⟨HGG.out, R4.upd_same _ _ _, .inl (Grew.refl _)⟩
                  | 1, _, ho, _ =>
                    obtain rfl := Option.some.inj ho
                    have hn0 := (hn 0 (by decide)).2
                    try dsimp only at hn0
                    change if Region.wanted _ (yielded _ (Act.tmps (Act.put _ (some 85) (vs 0)))) = true then R4.Oper.slotAt _ _ (Act.put _ (some 85) (vs 0)) _ _ else _
                    rw [hn0]
                    clear hn0
                    rw [if_pos (by rfl)]
                    have HGG := hid hg
                    obtain ⟨gq, nq, rfl⟩ := hg
                    go_simp
                    exact ⟨HGG.out, R4.upd_same _ _ _, .inl (Grew.refl _)⟩
                  | 2, _, ho, _ =>
                    obtain rfl := Option.some.inj ho
                    have hn1 := (hn 1 (by decide)).2
                    try dsimp only at hn1
                    change if Region.wanted _ (yielded _ (Act.tmps (Act.put _ (some 86) (vs 1)))) = true then R4.Oper.slotAt _ _ (Act.put _ (some 86) (vs 1)) _ _ else _
                    rw [hn1]
                    clear hn1
                    rw [if_pos (by rfl)]
                    have HGG := hid hg
                    obtain ⟨gq, nq, rfl⟩ := hg
                    go_simp
                    exact ⟨HGG.out, R4.upd_same _ _ _, .inl (Grew.refl _)⟩
                  | 3, _, ho, _ =>
                    obtain rfl := Option.some.inj ho
                    have hn2 := (hn 2 (by decide)).2
                    try dsimp only at hn2
                    change if Region.wanted _ (yielded _ (Act.tmps (Act.put _ (some 87) (vs 2)))) = true then R4.Oper.slotAt _ _ (Act.put _ (some 87) (vs 2)) _ _ else _
                    rw [hn2]
                    clear hn2
                    rw [if_pos (by rfl)]
                    have HGG := hid hg
                    obtain ⟨gq, nq, rfl⟩ := hg
                    go_simp
                    exact ⟨HGG.out, R4.upd_same _ _ _, .inl (Grew.refl _)⟩
                  | 4, _, ho, _ =>
                    obtain rfl := Option.some.inj ho
                    have hn2 := (hn 2 (by decide)).2
                    try dsimp only at hn2
                    change if Region.wanted _ (yielded _ (Act.tmps (Act.put _ (some 87) (vs 2)))) = true then R4.Oper.slotAt _ _ (Act.put _ (some 87) (vs 2)) _ _ else _
                    rw [hn2]
                    clear hn2
                    rw [if_pos (by rfl)]
                    have HGG := hid hg
                    obtain ⟨gq, nq, rfl⟩ := hg
                    go_simp
                    exact ⟨HGG.out, R4.upd_same _ _ _, .inl (Grew.refl _)⟩
                  | 5, _, ho, _ =>
                    obtain rfl := Option.some.inj ho
                    have hn4 := (hn 4 (by decide)).2
                    have hn2 := (hn 2 (by decide)).2
                    try dsimp only at hn4 hn2
                    change if Region.wanted _ (yielded _ (Act.tmps (Act.put (Act.put _ (some 89) (vs 4)) (some 87) (vs 2)))) = true then R4.Oper.slotAt _ _ (Act.put (Act.put _ (some 89) (vs 4)) (some 87) (vs 2)) _ _ else _
                    rw [hn4, hn2]
                    clear hn4 hn2
                    rw [if_pos (by rfl)]
                    have HGG := hid hg
                    obtain ⟨gq, nq, rfl⟩ := hg
                    go_simp
                    refine (HID.out _).mono ?_
                    rintro e w' ⟨⟨a3, k3, rfl, ho⟩, gr⟩
                    exact ⟨_, rfl, HGG.out.trans gr, by rw [R4.upd_same]; exact ⟨a3, k3, rfl, ho.nms⟩, .inl gr⟩
                  | 6, _, ho, _ =>
                    obtain rfl := Option.some.inj ho
                    have hn3 := (hn 3 (by decide)).2
                    have hn5 := (hn 5 (by decide)).2
                    have hn2 := (hn 2 (by decide)).2
                    try dsimp only at hn3 hn5 hn2
                    change if Region.wanted _ (yielded _ (Act.tmps (Act.put (Act.put (Act.put _ (some 88) (vs 3)) (some 90) (vs 5)) (some 87) (vs 2)))) = true then R4.Oper.slotAt _ _ (Act.put (Act.put (Act.put _ (some 88) (vs 3)) (some 90) (vs 5)) (some 87) (vs 2)) _ _ else _
                    rw [hn3, hn2]
                    clear hn3 hn2
                    rw [if_pos (by rfl)]
                    have HGG := hid hg
                    obtain ⟨gq, nq, rfl⟩ := hg
                    obtain ⟨a4, k4, e4, h2⟩ := hn5
                    conv => arg 3; rw [e4]
                    clear e4
                    go_simp
                    refine (HSMC.out a4 k4 _ (by repeat (first | exact Grew.refl _ | refine Grew.drewN ?_ _ | refine Grew.grow ?_ _ | refine Grew.alloc ?_ _ | refine Grew.drew ?_)) h2).mono ?_
                    rintro e w' ⟨rfl, gr⟩
                    exact ⟨_, rfl, HGG.out.trans gr, R4.upd_same _ _ _, .inl gr⟩
                  | 7, _, ho, _ =>
                    obtain rfl := Option.some.inj ho
                    have hn6 := (hn 6 (by decide)).2
                    have hn2 := (hn 2 (by decide)).2
                    try dsimp only at hn6 hn2
                    change if Region.wanted _ (yielded _ (Act.tmps (Act.put (Act.put _ (some 91) (vs 6)) (some 87) (vs 2)))) = true then R4.Oper.slotAt _ _ (Act.put (Act.put _ (some 91) (vs 6)) (some 87) (vs 2)) _ _ else _
                    rw [hn6, hn2]
                    clear hn6 hn2
                    rw [if_pos (by rfl)]
                    have HGG := hid hg
                    obtain ⟨gq, nq, rfl⟩ := hg
                    go_simp
                    exact ⟨HGG.out, R4.upd_same _ _ _, .inl (Grew.refl _)⟩
                  | 8, _, ho, _ =>
                    obtain rfl := Option.some.inj ho
                    have hn2 := (hn 2 (by decide)).2
                    have hn7 := (hn 7 (by decide)).2
                    try dsimp only at hn2 hn7
                    change if Region.wanted _ (yielded _ (Act.tmps (Act.put (Act.put _ (some 87) (vs 2)) (some 92) (vs 7)))) = true then R4.Oper.slotAt _ _ (Act.put (Act.put _ (some 87) (vs 2)) (some 92) (vs 7)) _ _ else _
                    rw [hn2, hn7]
                    clear hn2 hn7
                    rw [if_pos (by rfl)]
                    have HGG := hid hg
                    obtain ⟨gq, nq, rfl⟩ := hg
                    go_simp
                    exact ⟨HGG.out, R4.upd_same _ _ _, .inl (Grew.refl _)⟩
                  | 9, _, ho, _ =>
                    obtain rfl := Option.some.inj ho
                    have hn8 := (hn 8 (by decide)).2
                    try dsimp only at hn8
                    change if Region.wanted _ (yielded _ (Act.tmps (Act.put _ (some 93) (vs 8)))) = true then R4.Oper.slotAt _ _ (Act.put _ (some 93) (vs 8)) _ _ else _
                    rw [hn8]
                    clear hn8
                    rw [if_pos (by rfl)]
                    have HGG := hid hg
                    obtain ⟨gq, nq, rfl⟩ := hg
                    go_simp
                    exact ⟨HGG.out, R4.upd_same _ _ _, .inl (Grew.refl _)⟩
                  | 10, _, ho, _ =>
                    obtain rfl := Option.some.inj ho
                    have hn9 := (hn 9 (by decide)).2
                    try dsimp only at hn9
                    change if Region.wanted _ (yielded _ (Act.tmps (Act.put _ (some 94) (vs 9)))) = true then R4.Oper.slotAt _ _ (Act.put _ (some 94) (vs 9)) _ _ else _
                    rw [hn9]
                    clear hn9
                    rw [if_pos (by rfl)]
                    have HGG := hid hg
                    obtain ⟨gq, nq, rfl⟩ := hg
                    go_simp
                    exact ⟨HGG.out, R4.upd_same _ _ _, .inl (Grew.refl _)⟩
                  | 11, _, ho, _ =>
                    obtain rfl := Option.some.inj ho
                    have hn10 := (hn 10 (by decide)).2
                    have hn9 := (hn 9 (by decide)).2
                    try dsimp only at hn10 hn9
                    change if Region.wanted _ (yielded _ (Act.tmps (Act.put (Act.put _ (some 95) (vs 10)) (some 94) (vs 9)))) = true then R4.Oper.slotAt _ _ (Act.put (Act.put _ (some 95) (vs 10)) (some 94) (vs 9)) _ _ else _
                    rw [hn10, hn9]
                    clear hn10 hn9
                    rw [if_pos (by rfl)]
                    have HGG := hid hg
                    obtain ⟨gq, nq, rfl⟩ := hg
                    go_simp
                    exact ⟨HGG.out, R4.upd_same _ _ _, .inl (Grew.refl _)⟩
                  | 12, _, ho, _ =>
                    obtain rfl := Option.some.inj ho
                    have hn9 := (hn 9 (by decide)).2
                    have hn11 := (hn 11 (by decide)).2
                    try dsimp only at hn9 hn11
                    change if Region.wanted _ (yielded _ (Act.tmps (Act.put (Act.put _ (some 94) (vs 9)) (some 96) (vs 11)))) = true then R4.Oper.slotAt _ _ (Act.put (Act.put _ (some 94) (vs 9)) (some 96) (vs 11)) _ _ else _
                    rw [hn9, hn11]
                    clear hn9 hn11
                    rw [if_pos (by rfl)]
                    have HGG := hid hg
                    obtain ⟨gq, nq, rfl⟩ := hg
                    go_simp
                    exact ⟨HGG.out, R4.upd_same _ _ _, .inl (Grew.refl _)⟩
                  | 13, _, ho, _ =>
                    obtain rfl := Option.some.inj ho
                    have hn12 := (hn 12 (by decide)).2
                    try dsimp only at hn12
                    change if Region.wanted _ (yielded _ (Act.tmps (Act.put _ (some 97) (vs 12)))) = true then R4.Oper.slotAt _ _ (Act.put _ (some 97) (vs 12)) _ _ else _
                    rw [hn12]
                    clear hn12
                    rw [if_pos (by rfl)]
                    have HGG := hid hg
                    obtain ⟨gq, nq, rfl⟩ := hg
                    go_simp
                    exact ⟨HGG.out, R4.upd_same _ _ _, .inl (Grew.refl _)⟩
                  | 14, _, ho, _ =>
                    obtain rfl := Option.some.inj ho
                    have hn13 := (hn 13 (by decide)).2
                    try dsimp only at hn13
                    change if Region.wanted _ (yielded _ (Act.tmps (Act.put _ (some 98) (vs 13)))) = true then R4.Oper.slotAt _ _ (Act.put _ (some 98) (vs 13)) _ _ else _
                    rw [hn13]
                    clear hn13
                    rw [if_pos (by rfl)]
                    have HGG := hid hg
                    obtain ⟨gq, nq, rfl⟩ := hg
                    go_simp
                    exact ⟨HGG.out, R4.upd_same _ _ _, .inl (Grew.refl _)⟩
                  | 15, _, ho, _ =>
                    obtain rfl := Option.some.inj ho
                    have hn14 := (hn 14 (by decide)).2
                    have hn13 := (hn 13 (by decide)).2
                    try dsimp only at hn14 hn13
                    change if Region.wanted _ (yielded _ (Act.tmps (Act.put (Act.put _ (some 99) (vs 14)) (some 98) (vs 13)))) = true then R4.Oper.slotAt _ _ (Act.put (Act.put _ (some 99) (vs 14)) (some 98) (vs 13)) _ _ else _
                    rw [hn14, hn13]
                    clear hn14 hn13
                    rw [if_pos (by rfl)]
                    have HGG := hid hg
                    obtain ⟨gq, nq, rfl⟩ := hg
                    go_simp
                    exact ⟨HGG.out, R4.upd_same _ _ _, .inl (Grew.refl _)⟩
                  | 16, _, ho, _ =>
                    obtain rfl := Option.some.inj ho
                    have hn15 := (hn 15 (by decide)).2
                    have hn13 := (hn 13 (by decide)).2
                    try dsimp only at hn15 hn13
                    change if Region.wanted _ (yielded _ (Act.tmps (Act.put (Act.put _ (some 100) (vs 15)) (some 98) (vs 13)))) = true then R4.Oper.slotAt _ _ (Act.put (Act.put _ (some 100) (vs 15)) (some 98) (vs 13)) _ _ else _
                    rw [hn15, hn13]
                    clear hn15 hn13
                    rw [if_pos (by rfl)]
                    have HGG := hid hg
                    obtain ⟨gq, nq, rfl⟩ := hg
                    go_simp
                    exact ⟨HGG.out, R4.upd_same _ _ _, .inl (Grew.refl _)⟩
                  | 17, _, ho, _ =>
                    obtain rfl := Option.some.inj ho
                    have hn16 := (hn 16 (by decide)).2
                    try dsimp only at hn16
                    change if Region.wanted _ (yielded _ (Act.tmps (Act.put _ (some 101) (vs 16)))) = true then R4.Oper.slotAt _ _ (Act.put _ (some 101) (vs 16)) _ _ else _
                    rw [hn16]
                    rw [if_neg (by show ¬ (false = true); exact Bool.false_ne_true)]
                    exact ⟨hg, R4.upd_same _ _ _⟩
                  | 18, _, ho, _ =>
                    obtain rfl := Option.some.inj ho
                    have hn16 := (hn 16 (by decide)).2
                    try dsimp only at hn16
                    change if Region.wanted _ (yielded _ (Act.tmps (Act.put _ (some 101) (vs 16)))) = true then R4.Oper.slotAt _ _ (Act.put _ (some 101) (vs 16)) _ _ else _
                    rw [hn16]
                    rw [if_neg (by show ¬ (false = true); exact Bool.false_ne_true)]
                    exact ⟨hg, R4.upd_same _ _ _⟩
                  | 19, _, ho, _ =>
                    obtain rfl := Option.some.inj ho
                    have hn17 := (hn 17 (by decide)).2
                    have hn18 := (hn 18 (by decide)).2
                    have hn16 := (hn 16 (by decide)).2
                    try dsimp only at hn17 hn18 hn16
                    change if Region.wanted _ (yielded _ (Act.tmps (Act.put (Act.put (Act.put _ (some 102) (vs 17)) (some 103) (vs 18)) (some 101) (vs 16)))) = true then R4.Oper.slotAt _ _ (Act.put (Act.put (Act.put _ (some 102) (vs 17)) (some 103) (vs 18)) (some 101) (vs 16)) _ _ else _
                    rw [hn17, hn18, hn16]
                    rw [if_neg (by show ¬ (false = true); exact Bool.false_ne_true)]
                    exact ⟨hg, R4.upd_same _ _ _⟩
                  | 20, _, ho, _ =>
                    obtain rfl := Option.some.inj ho
                    have hn19 := (hn 19 (by decide)).2
                    have hn16 := (hn 16 (by decide)).2
                    try dsimp only at hn19 hn16
                    change if Region.wanted _ (yielded _ (Act.tmps (Act.put (Act.put _ (some 104) (vs 19)) (some 101) (vs 16)))) = true then R4.Oper.slotAt _ _ (Act.put (Act.put _ (some 104) (vs 19)) (some 101) (vs 16)) _ _ else _
                    rw [hn19, hn16]
                    rw [if_neg (by show ¬ (false = true); exact Bool.false_ne_true)]
                    exact ⟨hg, R4.upd_same _ _ _⟩
                  | 21, _, ho, _ =>
                    obtain rfl := Option.some.inj ho
                    have hn16 := (hn 16 (by decide)).2
                    have hn20 := (hn 20 (by decide)).2
                    have hn13 := (hn 13 (by decide)).2
                    try dsimp only at hn16 hn20 hn13
                    change if Region.wanted _ (yielded _ (Act.tmps (Act.put (Act.put (Act.put _ (some 101) (vs 16)) (some 105) (vs 20)) (some 98) (vs 13)))) = true then R4.Oper.slotAt _ _ (Act.put (Act.put (Act.put _ (some 101) (vs 16)) (some 105) (vs 20)) (some 98) (vs 13)) _ _ else _
                    rw [hn16, hn20, hn13]
                    clear hn16 hn20 hn13
                    rw [if_pos (by rfl)]
                    have HGG := hid hg
                    obtain ⟨gq, nq, rfl⟩ := hg
                    go_simp
                    exact ⟨HGG.out, R4.upd_same _ _ _, .inl (Grew.refl _)⟩
                  | 22, _, ho, _ =>
                    obtain rfl := Option.some.inj ho
                    have hn13 := (hn 13 (by decide)).2
                    have hn21 := (hn 21 (by decide)).2
                    try dsimp only at hn13 hn21
                    change if Region.wanted _ (yielded _ (Act.tmps (Act.put (Act.put _ (some 98) (vs 13)) (some 106) (vs 21)))) = true then R4.Oper.slotAt _ _ (Act.put (Act.put _ (some 98) (vs 13)) (some 106) (vs 21)) _ _ else _
                    rw [hn13, hn21]
                    clear hn13 hn21
                    rw [if_pos (by rfl)]
                    have HGG := hid hg
                    obtain ⟨gq, nq, rfl⟩ := hg
                    go_simp
                    exact ⟨HGG.out, R4.upd_same _ _ _, .inl (Grew.refl _)⟩
                  | kx + 23, hix, _, _ => exact absurd hix (by omega)
                case slq =>
                  intro vs W8 hg hn
                  have hn22 : vs 22 = .bool false := hn 22 (by decide) (by decide)
                  change wpList _ _ _ _ (Act.put (Act.put (Act.put (Act.put (Act.put (Act.put (Act.put (Act.put (Act.put (Act.put (Act.put (Act.put (Act.put (Act.put (Act.put (Act.put (Act.put (Act.put (Act.put (Act.put (Act.put (Act.put (Act.put _ (some 85) (vs 0)) (some 86) (vs 1)) (some 87) (vs 2)) (some 88) (vs 3)) (some 89) (vs 4)) (some 90) (vs 5)) (some 91) (vs 6)) (some 92) (vs 7)) (some 93) (vs 8)) (some 94) (vs 9)) (some 95) (vs 10)) (some 96) (vs 11)) (some 97) (vs 12)) (some 98) (vs 13)) (some 99) (vs 14)) (some 100) (vs 15)) (some 101) (vs 16)) (some 102) (vs 17)) (some 103) (vs 18)) (some 104) (vs 19)) (some 105) (vs 20)) (some 106) (vs 21)) (some 107) (vs 22)) _
                  simp only [Act.put, List.setIfInBounds_toArray, List.set_cons_zero, List.set_cons_succ, List.drop_succ_cons, List.drop_zero, hn22]
                  have HB2 := hid (below_grew HB2.out hg)
                  clear hn hn22 hg
                  go_wp2_with fail
                  refine (awake_any _).mono ?_
                  rintro e w' ⟨rfl, gz, mz, rfl⟩
                  go_wp2_with fail
                  go_ret
                  exact ⟨rfl, below_grew HB2.out (by repeat (first | exact Grew.refl _ | refine Grew.drewN ?_ _ | refine Grew.grow ?_ _ | refine Grew.alloc ?_ _ | refine Grew.drew ?_))⟩
            case neg =>
              have e3 : (E3 == 0) = false := by simpa using h3
              clear h3
              by_cases h4 : E4 = 0
              case pos =>
                have e4 : (E4 == 0) = true := by simp [h4]
                subst h4
                obtain rfl : N4 = (n : Int) := by rw [← HN4.out, rowsOf, if_pos rfl]
                obtain rfl : D = A := HSAME.out rfl
                have HSMD := hid fun W (hg : Grew W7 W) => sameMatrix_same n dm am kd km D W (by have := H36.out; have := HLA.out; omega) (HND.out.grew hg) (HNA.out.grew hg)
                refine R4.wp_region_slotsG 23 (fun ix vs W => match ix with | 0 => vs 0 = .int .i64 E3 | 1 => vs 1 = .bool false | 2 => vs 2 = .bool false | 3 => vs 3 = undef | 4 => vs 4 = undef | 5 => vs 5 = undef | 6 => vs 6 = undef | 7 => vs 7 = undef | 8 => vs 8 = .bool false | 9 => vs 9 = .bool false | 10 => vs 10 = .int .i64 0 | 11 => vs 11 = .bool false | 12 => vs 12 = .bool false | 13 => vs 13 = .bool false | 14 => vs 14 = .int .i64 0 | 15 => vs 15 = .bool true | 16 => vs 16 = .bool true | 17 => vs 17 = .agg #[.int .i64 n, .slice dm D.length kd] | 18 => vs 18 = .agg #[.int .i64 n, .slice am D.length km] | 19 => vs 19 = .bool true | 20 => vs 20 = .bool false | 21 => vs 21 = .bool false | 22 => vs 22 = .bool false | _ => True) (fun _ W => Grew W7 W) (by kernel_rfl) (by kernel_rfl) ?slst ?sldep (Grew.refl _).drew ?slop ?slq
                case slst =>
                  intro ix vs W W' h hg
                  match ix, h with
                  | 0, h => exact h
                  | 1, h => exact h
                  | 2, h => exact h
                  | 3, h => exact h
                  | 4, h => exact h
                  | 5, h => exact h
                  | 6, h => exact h
                  | 7, h => exact h
                  | 8, h => exact h
                  | 9, h => exact h
                  | 10, h => exact h
                  | 11, h => exact h
                  | 12, h => exact h
                  | 13, h => exact h
                  | 14, h => exact h
                  | 15, h => exact h
                  | 16, h => exact h
                  | 17, h => exact h
                  | 18, h => exact h
                  | 19, h => exact h
                  | 20, h => exact h
                  | 21, h => exact h
                  | 22, h => exact h
                  | _ + 23, _ => trivial
                case sldep =>
                  intro ix o vs vs' W hix ho h hv hn
                  match ix, hix, ho, h, hv with
                  | 0, _, _, h, hv => exact Eq.trans hv h
                  | 1, _, _, h, hv => exact Eq.trans hv h
                  | 2, _, _, h, hv => exact Eq.trans hv h
                  | 3, _, _, h, hv => exact Eq.trans hv h
                  | 4, _, _, h, hv => exact Eq.trans hv h
                  | 5, _, _, h, hv => exact Eq.trans hv h
                  | 6, _, _, h, hv => exact Eq.trans hv h
                  | 7, _, _, h, hv => exact Eq.trans hv h
                  | 8, _, _, h, hv => exact Eq.trans hv h
                  | 9, _, _, h, hv => exact Eq.trans hv h
                  | 10, _, _, h, hv => exact Eq.trans hv h
                  | 11, _, _, h, hv => exact Eq.trans hv h
                  | 12, _, _, h, hv => exact Eq.trans hv h
                  | 13, _, _, h, hv => exact Eq.trans hv h
                  | 14, _, _, h, hv => exact Eq.trans hv h
                  | 15, _, _, h, hv => exact Eq.trans hv h
                  | 16, _, _, h, hv => exact Eq.trans hv h
                  | 17, _, _, h, hv => exact Eq.trans hv h
                  | 18, _, _, h, hv => exact Eq.trans hv h
                  | 19, _, _, h, hv => exact Eq.trans hv h
                  | 20, _, _, h, hv => exact Eq.trans hv h
                  | 21, _, _, h, hv => exact Eq.trans hv h
                  | 22, _, _, h, hv => exact Eq.trans hv h
                  | kx + 23, hix, _, _, _ => exact absurd hix (by omega)
                case slop =>
                  intro ix o hix ho vs W L hg hL hn _ _
                  match ix, hix, ho, hL with
                  | 0, _, ho, _ =>
                    obtain rfl := Option.some.inj ho
                    change if Region.wanted _ (yielded _ (Act.tmps { tmps := _, defers := _ })) = true then R4.Oper.slotAt _ _ { tmps := _, defers := _ } _ _ else _
                    rw [if_pos (by rfl)]
                    have HGG := hid hg
                    obtain ⟨gq, nq, rfl⟩ := hg
                    go_simp
                    exact ⟨HGG.out, R4.upd_same _ _ _, .inl (Grew.refl _)⟩
                  | 1, _, ho, _ =>
                    obtain rfl := Option.some.inj ho
                    have hn0 := (hn 0 (by decide)).2
                    try dsimp only at hn0
                    change if Region.wanted _ (yielded _ (Act.tmps (Act.put _ (some 85) (vs 0)))) = true then R4.Oper.slotAt _ _ (Act.put _ (some 85) (vs 0)) _ _ else _
                    rw [hn0]
                    clear hn0
                    rw [if_pos (by rfl)]
                    have HGG := hid hg
                    obtain ⟨gq, nq, rfl⟩ := hg
                    go_simp
                    exact ⟨HGG.out, R4.upd_same _ _ _, .inl (Grew.refl _)⟩
                  | 2, _, ho, _ =>
                    obtain rfl := Option.some.inj ho
                    have hn1 := (hn 1 (by decide)).2
                    try dsimp only at hn1
                    change if Region.wanted _ (yielded _ (Act.tmps (Act.put _ (some 86) (vs 1)))) = true then R4.Oper.slotAt _ _ (Act.put _ (some 86) (vs 1)) _ _ else _
                    rw [hn1]
                    clear hn1
                    rw [if_pos (by rfl)]
                    have HGG := hid hg
                    obtain ⟨gq, nq, rfl⟩ := hg
                    go_simp
                    exact ⟨HGG.out, R4.upd_same _ _ _, .inl (Grew.refl _)⟩
                  | 3, _, ho, _ =>
                    obtain rfl := Option.some.inj ho
                    have hn2 := (hn 2 (by decide)).2
                    try dsimp only at hn2
                    change if Region.wanted _ (yielded _ (Act.tmps (Act.put _ (some 87) (vs 2)))) = true then R4.Oper.slotAt _ _ (Act.put _ (some 87) (vs 2)) _ _ else _
                    rw [hn2]
                    rw [if_neg (by show ¬ (false = true); exact Bool.false_ne_true)]
                    exact ⟨hg, R4.upd_same _ _ _⟩
                  | 4, _, ho, _ =>
                    obtain rfl := Option.some.inj ho
                    have hn2 := (hn 2 (by decide)).2
                    try dsimp only at hn2
                    change if Region.wanted _ (yielded _ (Act.tmps (Act.put _ (some 87) (vs 2)))) = true then R4.Oper.slotAt _ _ (Act.put _ (some 87) (vs 2)) _ _ else _
                    rw [hn2]
                    rw [if_neg (by show ¬ (false = true); exact Bool.false_ne_true)]
                    exact ⟨hg, R4.upd_same _ _ _⟩
                  | 5, _, ho, _ =>
                    obtain rfl := Option.some.inj ho
                    have hn4 := (hn 4 (by decide)).2
                    have hn2 := (hn 2 (by decide)).2
                    try dsimp only at hn4 hn2
                    change if Region.wanted _ (yielded _ (Act.tmps (Act.put (Act.put _ (some 89) (vs 4)) (some 87) (vs 2)))) = true then R4.Oper.slotAt _ _ (Act.put (Act.put _ (some 89) (vs 4)) (some 87) (vs 2)) _ _ else _
                    rw [hn4, hn2]
                    rw [if_neg (by show ¬ (false = true); exact Bool.false_ne_true)]
                    exact ⟨hg, R4.upd_same _ _ _⟩
                  | 6, _, ho, _ =>
                    obtain rfl := Option.some.inj ho
                    have hn3 := (hn 3 (by decide)).2
                    have hn5 := (hn 5 (by decide)).2
                    have hn2 := (hn 2 (by decide)).2
                    try dsimp only at hn3 hn5 hn2
                    change if Region.wanted _ (yielded _ (Act.tmps (Act.put (Act.put (Act.put _ (some 88) (vs 3)) (some 90) (vs 5)) (some 87) (vs 2)))) = true then R4.Oper.slotAt _ _ (Act.put (Act.put (Act.put _ (some 88) (vs 3)) (some 90) (vs 5)) (some 87) (vs 2)) _ _ else _
                    rw [hn3, hn5, hn2]
                    rw [if_neg (by show ¬ (false = true); exact Bool.false_ne_true)]
                    exact ⟨hg, R4.upd_same _ _ _⟩
                  | 7, _, ho, _ =>
                    obtain rfl := Option.some.inj ho
                    have hn6 := (hn 6 (by decide)).2
                    have hn2 := (hn 2 (by decide)).2
                    try dsimp only at hn6 hn2
                    change if Region.wanted _ (yielded _ (Act.tmps (Act.put (Act.put _ (some 91) (vs 6)) (some 87) (vs 2)))) = true then R4.Oper.slotAt _ _ (Act.put (Act.put _ (some 91) (vs 6)) (some 87) (vs 2)) _ _ else _
                    rw [hn6, hn2]
                    rw [if_neg (by show ¬ (false = true); exact Bool.false_ne_true)]
                    exact ⟨hg, R4.upd_same _ _ _⟩
                  | 8, _, ho, _ =>
                    obtain rfl := Option.some.inj ho
                    have hn2 := (hn 2 (by decide)).2
                    have hn7 := (hn 7 (by decide)).2
                    try dsimp only at hn2 hn7
                    change if Region.wanted _ (yielded _ (Act.tmps (Act.put (Act.put _ (some 87) (vs 2)) (some 92) (vs 7)))) = true then R4.Oper.slotAt _ _ (Act.put (Act.put _ (some 87) (vs 2)) (some 92) (vs 7)) _ _ else _
                    rw [hn2, hn7]
                    clear hn2 hn7
                    rw [if_pos (by rfl)]
                    have HGG := hid hg
                    obtain ⟨gq, nq, rfl⟩ := hg
                    go_simp
                    exact ⟨HGG.out, R4.upd_same _ _ _, .inl (Grew.refl _)⟩
                  | 9, _, ho, _ =>
                    obtain rfl := Option.some.inj ho
                    have hn8 := (hn 8 (by decide)).2
                    try dsimp only at hn8
                    change if Region.wanted _ (yielded _ (Act.tmps (Act.put _ (some 93) (vs 8)))) = true then R4.Oper.slotAt _ _ (Act.put _ (some 93) (vs 8)) _ _ else _
                    rw [hn8]
                    clear hn8
                    rw [if_pos (by rfl)]
                    have HGG := hid hg
                    obtain ⟨gq, nq, rfl⟩ := hg
                    go_simp
                    exact ⟨HGG.out, R4.upd_same _ _ _, .inl (Grew.refl _)⟩
                  | 10, _, ho, _ =>
                    obtain rfl := Option.some.inj ho
                    have hn9 := (hn 9 (by decide)).2
                    try dsimp only at hn9
                    change if Region.wanted _ (yielded _ (Act.tmps (Act.put _ (some 94) (vs 9)))) = true then R4.Oper.slotAt _ _ (Act.put _ (some 94) (vs 9)) _ _ else _
                    rw [hn9]
                    clear hn9
                    rw [if_pos (by rfl)]
                    have HGG := hid hg
                    obtain ⟨gq, nq, rfl⟩ := hg
                    go_simp
                    exact ⟨HGG.out, R4.upd_same _ _ _, .inl (Grew.refl _)⟩
                  | 11, _, ho, _ =>
                    obtain rfl := Option.some.inj ho
                    have hn10 := (hn 10 (by decide)).2
                    have hn9 := (hn 9 (by decide)).2
                    try dsimp only at hn10 hn9
                    change if Region.wanted _ (yielded _ (Act.tmps (Act.put (Act.put _ (some 95) (vs 10)) (some 94) (vs 9)))) = true then R4.Oper.slotAt _ _ (Act.put (Act.put _ (some 95) (vs 10)) (some 94) (vs 9)) _ _ else _
                    rw [hn10, hn9]
                    clear hn10 hn9
                    rw [if_pos (by rfl)]
                    have HGG := hid hg
                    obtain ⟨gq, nq, rfl⟩ := hg
                    go_simp
                    exact ⟨HGG.out, R4.upd_same _ _ _, .inl (Grew.refl _)⟩
                  | 12, _, ho, _ =>
                    obtain rfl := Option.some.inj ho
                    have hn9 := (hn 9 (by decide)).2
                    have hn11 := (hn 11 (by decide)).2
                    try dsimp only at hn9 hn11
                    change if Region.wanted _ (yielded _ (Act.tmps (Act.put (Act.put _ (some 94) (vs 9)) (some 96) (vs 11)))) = true then R4.Oper.slotAt _ _ (Act.put (Act.put _ (some 94) (vs 9)) (some 96) (vs 11)) _ _ else _
                    rw [hn9, hn11]
                    clear hn9 hn11
                    rw [if_pos (by rfl)]
                    have HGG := hid hg
                    obtain ⟨gq, nq, rfl⟩ := hg
                    go_simp
                    exact ⟨HGG.out, R4.upd_same _ _ _, .inl (Grew.refl _)⟩
                  | 13, _, ho, _ =>
                    obtain rfl := Option.some.inj ho
                    have hn12 := (hn 12 (by decide)).2
                    try dsimp only at hn12
                    change if Region.wanted _ (yielded _ (Act.tmps (Act.put _ (some 97) (vs 12)))) = true then R4.Oper.slotAt _ _ (Act.put _ (some 97) (vs 12)) _ _ else _
                    rw [hn12]
                    clear hn12
                    rw [if_pos (by rfl)]
                    have HGG := hid hg
                    obtain ⟨gq, nq, rfl⟩ := hg
                    go_simp
                    exact ⟨HGG.out, R4.upd_same _ _ _, .inl (Grew.refl _)⟩
                  | 14, _, ho, _ =>
                    obtain rfl := Option.some.inj ho
                    have hn13 := (hn 13 (by decide)).2
                    try dsimp only at hn13
                    change if Region.wanted _ (yielded _ (Act.tmps (Act.put _ (some 98) (vs 13)))) = true then R4.Oper.slotAt _ _ (Act.put _ (some 98) (vs 13)) _ _ else _
                    rw [hn13]
                    clear hn13
                    rw [if_pos (by rfl)]
                    have HGG := hid hg
                    obtain ⟨gq, nq, rfl⟩ := hg
                    go_simp
                    exact ⟨HGG.out, R4.upd_same _ _ _, .inl (Grew.refl _)⟩
                  | 15, _, ho, _ =>
                    obtain rfl := Option.some.inj ho
                    have hn14 := (hn 14 (by decide)).2
                    have hn13 := (hn 13 (by decide)).2
                    try dsimp only at hn14 hn13
                    change if Region.wanted _ (yielded _ (Act.tmps (Act.put (Act.put _ (some 99) (vs 14)) (some 98) (vs 13)))) = true then R4.Oper.slotAt _ _ (Act.put (Act.put _ (some 99) (vs 14)) (some 98) (vs 13)) _ _ else _
                    rw [hn14, hn13]
                    clear hn14 hn13
                    rw [if_pos (by rfl)]
                    have HGG := hid hg
                    obtain ⟨gq, nq, rfl⟩ := hg
                    go_simp
                    exact ⟨HGG.out, R4.upd_same _ _ _, .inl (Grew.refl _)⟩
                  | 16, _, ho, _ =>
                    obtain rfl := Option.some.inj ho
                    have hn15 := (hn 15 (by decide)).2
                    have hn13 := (hn 13 (by decide)).2
                    try dsimp only at hn15 hn13
                    change if Region.wanted _ (yielded _ (Act.tmps (Act.put (Act.put _ (some 100) (vs 15)) (some 98) (vs 13)))) = true then R4.Oper.slotAt _ _ (Act.put (Act.put _ (some 100) (vs 15)) (some 98) (vs 13)) _ _ else _
                    rw [hn15, hn13]
                    clear hn15 hn13
                    rw [if_pos (by rfl)]
                    have HGG := hid hg
                    obtain ⟨gq, nq, rfl⟩ := hg
                    go_simp
                    exact ⟨HGG.out, R4.upd_same _ _ _, .inl (Grew.refl _)⟩
                  | 17, _, ho, _ =>
                    obtain rfl := Option.some.inj ho
                    have hn16 := (hn 16 (by decide)).2
                    try dsimp only at hn16
                    change if Region.wanted _ (yielded _ (Act.tmps (Act.put _ (some 101) (vs 16)))) = true then R4.Oper.slotAt _ _ (Act.put _ (some 101) (vs 16)) _ _ else _
                    rw [hn16]
                    clear hn16
                    rw [if_pos (by rfl)]
                    have HGG := hid hg
                    obtain ⟨gq, nq, rfl⟩ := hg
                    go_simp
                    exact ⟨HGG.out, R4.upd_same _ _ _, .inl (Grew.refl _)⟩
                  | 18, _, ho, _ =>
                    obtain rfl := Option.some.inj ho
                    have hn16 := (hn 16 (by decide)).2
                    try dsimp only at hn16
                    change if Region.wanted _ (yielded _ (Act.tmps (Act.put _ (some 101) (vs 16)))) = true then R4.Oper.slotAt _ _ (Act.put _ (some 101) (vs 16)) _ _ else _
                    rw [hn16]
                    clear hn16
                    rw [if_pos (by rfl)]
                    have HGG := hid hg
                    obtain ⟨gq, nq, rfl⟩ := hg
                    go_simp
                    exact ⟨HGG.out, R4.upd_same _ _ _, .inl (Grew.refl _)⟩
                  | 19, _, ho, _ =>
                    obtain rfl := Option.some.inj ho
                    have hn17 := (hn 17 (by decide)).2
                    have hn18 := (hn 18 (by decide)).2
                    have hn16 := (hn 16 (by decide)).2
                    try dsimp only at hn17 hn18 hn16
                    change if Region.wanted _ (yielded _ (Act.tmps (Act.put (Act.put (Act.put _ (some 102) (vs 17)) (some 103) (vs 18)) (some 101) (vs 16)))) = true then R4.Oper.slotAt _ _ (Act.put (Act.put (Act.put _ (some 102) (vs 17)) (some 103) (vs 18)) (some 101) (vs 16)) _ _ else _
                    rw [hn17, hn18, hn16]
                    clear hn17 hn18 hn16
                    rw [if_pos (by rfl)]
                    have HGG := hid hg
                    obtain ⟨gq, nq, rfl⟩ := hg
                    go_simp
                    refine (HSMD.out _ (by repeat (first | exact Grew.refl _ | refine Grew.drewN ?_ _ | refine Grew.grow ?_ _ | refine Grew.alloc ?_ _ | refine Grew.drew ?_))).mono ?_
                    rintro e w' ⟨rfl, gr⟩
                    exact ⟨_, rfl, HGG.out.trans gr, R4.upd_same _ _ _, .inl gr⟩
                  | 20, _, ho, _ =>
                    obtain rfl := Option.some.inj ho
                    have hn19 := (hn 19 (by decide)).2
                    have hn16 := (hn 16 (by decide)).2
                    try dsimp only at hn19 hn16
                    change if Region.wanted _ (yielded _ (Act.tmps (Act.put (Act.put _ (some 104) (vs 19)) (some 101) (vs 16)))) = true then R4.Oper.slotAt _ _ (Act.put (Act.put _ (some 104) (vs 19)) (some 101) (vs 16)) _ _ else _
                    rw [hn19, hn16]
                    clear hn19 hn16
                    rw [if_pos (by rfl)]
                    have HGG := hid hg
                    obtain ⟨gq, nq, rfl⟩ := hg
                    go_simp
                    exact ⟨HGG.out, R4.upd_same _ _ _, .inl (Grew.refl _)⟩
                  | 21, _, ho, _ =>
                    obtain rfl := Option.some.inj ho
                    have hn16 := (hn 16 (by decide)).2
                    have hn20 := (hn 20 (by decide)).2
                    have hn13 := (hn 13 (by decide)).2
                    try dsimp only at hn16 hn20 hn13
                    change if Region.wanted _ (yielded _ (Act.tmps (Act.put (Act.put (Act.put _ (some 101) (vs 16)) (some 105) (vs 20)) (some 98) (vs 13)))) = true then R4.Oper.slotAt _ _ (Act.put (Act.put (Act.put _ (some 101) (vs 16)) (some 105) (vs 20)) (some 98) (vs 13)) _ _ else _
                    rw [hn16, hn20, hn13]
                    clear hn16 hn20 hn13
                    rw [if_pos (by rfl)]
                    have HGG := hid hg
                    obtain ⟨gq, nq, rfl⟩ := hg
                    go_simp
                    exact ⟨HGG.out, R4.upd_same _ _ _, .inl (Grew.refl _)⟩
                  | 22, _, ho, _ =>
                    obtain rfl := Option.some.inj ho
                    have hn13 := (hn 13 (by decide)).2
                    have hn21 := (hn 21 (by decide)).2
                    try dsimp only at hn13 hn21
                    change if Region.wanted _ (yielded _ (Act.tmps (Act.put (Act.put _ (some 98) (vs 13)) (some 106) (vs 21)))) = true then R4.Oper.slotAt _ _ (Act.put (Act.put _ (some 98) (vs 13)) (some 106) (vs 21)) _ _ else _
                    rw [hn13, hn21]
                    clear hn13 hn21
                    rw [if_pos (by rfl)]
                    have HGG := hid hg
                    obtain ⟨gq, nq, rfl⟩ := hg
                    go_simp
                    exact ⟨HGG.out, R4.upd_same _ _ _, .inl (Grew.refl _)⟩
                  | kx + 23, hix, _, _ => exact absurd hix (by omega)
                case slq =>
                  intro vs W8 hg hn
                  have hn22 : vs 22 = .bool false := hn 22 (by decide) (by decide)
                  change wpList _ _ _ _ (Act.put (Act.put (Act.put (Act.put (Act.put (Act.put (Act.put (Act.put (Act.put (Act.put (Act.put (Act.put (Act.put (Act.put (Act.put (Act.put (Act.put (Act.put (Act.put (Act.put (Act.put (Act.put (Act.put _ (some 85) (vs 0)) (some 86) (vs 1)) (some 87) (vs 2)) (some 88) (vs 3)) (some 89) (vs 4)) (some 90) (vs 5)) (some 91) (vs 6)) (some 92) (vs 7)) (some 93) (vs 8)) (some 94) (vs 9)) (some 95) (vs 10)) (some 96) (vs 11)) (some 97) (vs 12)) (some 98) (vs 13)) (some 99) (vs 14)) (some 100) (vs 15)) (some 101) (vs 16)) (some 102) (vs 17)) (some 103) (vs 18)) (some 104) (vs 19)) (some 105) (vs 20)) (some 106) (vs 21)) (some 107) (vs 22)) _
                  simp only [Act.put, List.setIfInBounds_toArray, List.set_cons_zero, List.set_cons_succ, List.drop_succ_cons, List.drop_zero, hn22]
                  have HB2 := hid (below_grew HB2.out hg)
                  clear hn hn22 hg
                  go_wp2_with fail
                  refine (awake_any _).mono ?_
                  rintro e w' ⟨rfl, gz, mz, rfl⟩
                  go_wp2_with fail
                  go_ret
                  exact ⟨rfl, below_grew HB2.out (by repeat (first | exact Grew.refl _ | refine Grew.drewN ?_ _ | refine Grew.grow ?_ _ | refine Grew.alloc ?_ _ | refine Grew.drew ?_))⟩
              case neg =>
                have e4 : (E4 == 0) = false := by simpa using h4
                clear h4
                refine R4.wp_region_slotsG 23 (fun ix vs W => match ix with | 0 => vs 0 = .int .i64 E3 | 1 => vs 1 = .bool false | 2 => vs 2 = .bool false | 3 => vs 3 = undef | 4 => vs 4 = undef | 5 => vs 5 = undef | 6 => vs 6 = undef | 7 => vs 7 = undef | 8 => vs 8 = .bool false | 9 => vs 9 = .bool false | 10 => vs 10 = .int .i64 0 | 11 => vs 11 = .bool false | 12 => vs 12 = .bool false | 13 => vs 13 = .bool false | 14 => vs 14 = .int .i64 E4 | 15 => vs 15 = .bool false | 16 => vs 16 = .bool false | 17 => vs 17 = undef | 18 => vs 18 = undef | 19 => vs 19 = undef | 20 => vs 20 = undef | 21 => vs 21 = .bool false | 22 => vs 22 = .bool false | _ => True) (fun _ W => Grew W7 W) (by kernel_rfl) (by kernel_rfl) ?slst ?sldep (Grew.refl _).drew ?slop ?slq
                case slst =>
                  intro ix vs W W' h hg
                  match ix, h with
                  | 0, h => exact h
                  | 1, h => exact h
                  | 2, h => exact h
                  | 3, h => exact h
                  | 4, h => exact h
                  | 5, h => exact h
                  | 6, h => exact h
                  | 7, h => exact h
                  | 8, h => exact h
                  | 9, h => exact h
                  | 10, h => exact h
                  | 11, h => exact h
                  | 12, h => exact h
                  | 13, h => exact h
                  | 14, h => exact h
                  | 15, h => exact h
                  | 16, h => exact h
                  | 17, h => exact h
                  | 18, h => exact h
                  | 19, h => exact h
                  | 20, h => exact h
                  | 21, h => exact h
                  | 22, h => exact h
                  | _ + 23, _ => trivial
                case sldep =>
                  intro ix o vs vs' W hix ho h hv hn
                  match ix, hix, ho, h, hv with
                  | 0, _, _, h, hv => exact Eq.trans hv h
                  | 1, _, _, h, hv => exact Eq.trans hv h
                  | 2, _, _, h, hv => exact Eq.trans hv h
                  | 3, _, _, h, hv => exact Eq.trans hv h
                  | 4, _, _, h, hv => exact Eq.trans hv h
                  | 5, _, _, h, hv => exact Eq.trans hv h
                  | 6, _, _, h, hv => exact Eq.trans hv h
                  | 7, _, _, h, hv => exact Eq.trans hv h
                  | 8, _, _, h, hv => exact Eq.trans hv h
                  | 9, _, _, h, hv => exact Eq.trans hv h
                  | 10, _, _, h, hv => exact Eq.trans hv h
                  | 11, _, _, h, hv => exact Eq.trans hv h
                  | 12, _, _, h, hv => exact Eq.trans hv h
                  | 13, _, _, h, hv => exact Eq.trans hv h
                  | 14, _, _, h, hv => exact Eq.trans hv h
                  | 15, _, _, h, hv => exact Eq.trans hv h
                  | 16, _, _, h, hv => exact Eq.trans hv h
                  | 17, _, _, h, hv => exact Eq.trans hv h
                  | 18, _, _, h, hv => exact Eq.trans hv h
                  | 19, _, _, h, hv => exact Eq.trans hv h
                  | 20, _, _, h, hv => exact Eq.trans hv h
                  | 21, _, _, h, hv => exact Eq.trans hv h
                  | 22, _, _, h, hv => exact Eq.trans hv h
                  | kx + 23, hix, _, _, _ => exact absurd hix (by omega)
                case slop =>
                  intro ix o hix ho vs W L hg hL hn _ _
                  match ix, hix, ho, hL with
                  | 0, _, ho, _ =>
                    obtain rfl := Option.some.inj ho
                    change if Region.wanted _ (yielded _ (Act.tmps { tmps := _, defers := _ })) = true then R4.Oper.slotAt _ _ { tmps := _, defers := _ } _ _ else _
                    rw [if_pos (by rfl)]
                    have HGG := hid hg
                    obtain ⟨gq, nq, rfl⟩ := hg
                    go_simp
                    exact ⟨HGG.out, R4.upd_same _ _ _, .inl (Grew.refl _)⟩
                  | 1, _, ho, _ =>
                    obtain rfl := Option.some.inj ho
                    have hn0 := (hn 0 (by decide)).2
                    try dsimp only at hn0
                    change if Region.wanted _ (yielded _ (Act.tmps (Act.put _ (some 85) (vs 0)))) = true then R4.Oper.slotAt _ _ (Act.put _ (some 85) (vs 0)) _ _ else _
                    rw [hn0]
                    clear hn0
                    rw [if_pos (by rfl)]
                    have HGG := hid hg
                    obtain ⟨gq, nq, rfl⟩ := hg
                    go_simp
                    exact ⟨HGG.out, R4.upd_same _ _ _, .inl (Grew.refl _)⟩
                  | 2, _, ho, _ =>
                    obtain rfl := Option.some.inj ho
                    have hn1 := (hn 1 (by decide)).2
                    try dsimp only at hn1
                    change if Region.wanted _ (yielded _ (Act.tmps (Act.put _ (some 86) (vs 1)))) = true then R4.Oper.slotAt _ _ (Act.put _ (some 86) (vs 1)) _ _ else _
                    rw [hn1]
                    clear hn1
                    rw [if_pos (by rfl)]
                    have HGG := hid hg
                    obtain ⟨gq, nq, rfl⟩ := hg
                    go_simp
                    exact ⟨HGG.out, R4.upd_same _ _ _, .inl (Grew.refl _)⟩
                  | 3, _, ho, _ =>
                    obtain rfl := Option.some.inj ho
                    have hn2 := (hn 2 (by decide)).2
                    try dsimp only at hn2
                    change if Region.wanted _ (yielded _ (Act.tmps (Act.put _ (some 87) (vs 2)))) = true then R4.Oper.slotAt _ _ (Act.put _ (some 87) (vs 2)) _ _ else _
                    rw [hn2]
                    rw [if_neg (by show ¬ (false = true); exact Bool.false_ne_true)]
                    exact ⟨hg, R4.upd_same _ _ _⟩
                  | 4, _, ho, _ =>
                    obtain rfl := Option.some.inj ho
                    have hn2 := (hn 2 (by decide)).2
                    try dsimp only at hn2
                    change if Region.wanted _ (yielded _ (Act.tmps (Act.put _ (some 87) (vs 2)))) = true then R4.Oper.slotAt _ _ (Act.put _ (some 87) (vs 2)) _ _ else _
                    rw [hn2]
                    rw [if_neg (by show ¬ (false = true); exact Bool.false_ne_true)]
                    exact ⟨hg, R4.upd_same _ _ _⟩
                  | 5, _, ho, _ =>
                    obtain rfl := Option.some.inj ho
                    have hn4 := (hn 4 (by decide)).2
                    have hn2 := (hn 2 (by decide)).2
                    try dsimp only at hn4 hn2
                    change if Region.wanted _ (yielded _ (Act.tmps (Act.put (Act.put _ (some 89) (vs 4)) (some 87) (vs 2)))) = true then R4.Oper.slotAt _ _ (Act.put (Act.put _ (some 89) (vs 4)) (some 87) (vs 2)) _ _ else _
                    rw [hn4, hn2]
                    rw [if_neg (by show ¬ (false = true); exact Bool.false_ne_true)]
                    exact ⟨hg, R4.upd_same _ _ _⟩
                  | 6, _, ho, _ =>
                    obtain rfl := Option.some.inj ho
                    have hn3 := (hn 3 (by decide)).2
                    have hn5 := (hn 5 (by decide)).2
                    have hn2 := (hn 2 (by decide)).2
                    try dsimp only at hn3 hn5 hn2
                    change if Region.wanted _ (yielded _ (Act.tmps (Act.put (Act.put (Act.put _ (some 88) (vs 3)) (some 90) (vs 5)) (some 87) (vs 2)))) = true then R4.Oper.slotAt _ _ (Act.put (Act.put (Act.put _ (some 88) (vs 3)) (some 90) (vs 5)) (some 87) (vs 2)) _ _ else _
                    rw [hn3, hn5, hn2]
                    rw [if_neg (by show ¬ (false = true); exact Bool.false_ne_true)]
                    exact ⟨hg, R4.upd_same _ _ _⟩
                  | 7, _, ho, _ =>
                    obtain rfl := Option.some.inj ho
                    have hn6 := (hn 6 (by decide)).2
                    have hn2 := (hn 2 (by decide)).2
                    try dsimp only at hn6 hn2
                    change if Region.wanted _ (yielded _ (Act.tmps (Act.put (Act.put _ (some 91) (vs 6)) (some 87) (vs 2)))) = true then R4.Oper.slotAt _ _ (Act.put (Act.put _ (some 91) (vs 6)) (some 87) (vs 2)) _ _ else _
                    rw [hn6, hn2]
                    rw [if_neg (by show ¬ (false = true); exact Bool.false_ne_true)]
                    exact ⟨hg, R4.upd_same _ _ _⟩
                  | 8, _, ho, _ =>
                    obtain rfl := Option.some.inj ho
                    have hn2 := (hn 2 (by decide)).2
                    have hn7 := (hn 7 (by decide)).2
                    try dsimp only at hn2 hn7
                    change if Region.wanted _ (yielded _ (Act.tmps (Act.put (Act.put _ (some 87) (vs 2)) (some 92) (vs 7)))) = true then R4.Oper.slotAt _ _ (Act.put (Act.put _ (some 87) (vs 2)) (some 92) (vs 7)) _ _ else _
                    rw [hn2, hn7]
                    clear hn2 hn7
                    rw [if_pos (by rfl)]
                    have HGG := hid hg
                    obtain ⟨gq, nq, rfl⟩ := hg
                    go_simp
                    exact ⟨HGG.out, R4.upd_same _ _ _, .inl (Grew.refl _)⟩
                  | 9, _, ho, _ =>
                    obtain rfl := Option.some.inj ho
                    have hn8 := (hn 8 (by decide)).2
                    try dsimp only at hn8
                    change if Region.wanted _ (yielded _ (Act.tmps (Act.put _ (some 93) (vs 8)))) = true then R4.Oper.slotAt _ _ (Act.put _ (some 93) (vs 8)) _ _ else _
                    rw [hn8]
                    clear hn8
                    rw [if_pos (by rfl)]
                    have HGG := hid hg
                    obtain ⟨gq, nq, rfl⟩ := hg
                    go_simp
                    exact ⟨HGG.out, R4.upd_same _ _ _, .inl (Grew.refl _)⟩
                  | 10, _, ho, _ =>
                    obtain rfl := Option.some.inj ho
                    have hn9 := (hn 9 (by decide)).2
                    try dsimp only at hn9
                    change if Region.wanted _ (yielded _ (Act.tmps (Act.put _ (some 94) (vs 9)))) = true then R4.Oper.slotAt _ _ (Act.put _ (some 94) (vs 9)) _ _ else _
                    rw [hn9]
                    clear hn9
                    rw [if_pos (by rfl)]
                    have HGG := hid hg
                    obtain ⟨gq, nq, rfl⟩ := hg
                    go_simp
                    exact ⟨HGG.out, R4.upd_same _ _ _, .inl (Grew.refl _)⟩
                  | 11, _, ho, _ =>
                    obtain rfl := Option.some.inj ho
                    have hn10 := (hn 10 (by decide)).2
                    have hn9 := (hn 9 (by decide)).2
                    try dsimp only at hn10 hn9
                    change if Region.wanted _ (yielded _ (Act.tmps (Act.put (Act.put _ (some 95) (vs 10)) (some 94) (vs 9)))) = true then R4.Oper.slotAt _ _ (Act.put (Act.put _ (some 95) (vs 10)) (some 94) (vs 9)) _ _ else _
                    rw [hn10, hn9]
                    clear hn10 hn9
                    rw [if_pos (by rfl)]
                    have HGG := hid hg
                    obtain ⟨gq, nq, rfl⟩ := hg
                    go_simp
                    exact ⟨HGG.out, R4.upd_same _ _ _, .inl (Grew.refl _)⟩
                  | 12, _, ho, _ =>
                    obtain rfl := Option.some.inj ho
                    have hn9 := (hn 9 (by decide)).2
                    have hn11 := (hn 11 (by decide)).2
                    try dsimp only at hn9 hn11
                    change if Region.wanted _ (yielded _ (Act.tmps (Act.put (Act.put _ (some 94) (vs 9)) (some 96) (vs 11)))) = true then R4.Oper.slotAt _ _ (Act.put (Act.put _ (some 94) (vs 9)) (some 96) (vs 11)) _ _ else _
                    rw [hn9, hn11]
                    clear hn9 hn11
                    rw [if_pos (by rfl)]
                    have HGG := hid hg
                    obtain ⟨gq, nq, rfl⟩ := hg
                    go_simp
                    exact ⟨HGG.out, R4.upd_same _ _ _, .inl (Grew.refl _)⟩
                  | 13, _, ho, _ =>
                    obtain rfl := Option.some.inj ho
                    have hn12 := (hn 12 (by decide)).2
                    try dsimp only at hn12
                    change if Region.wanted _ (yielded _ (Act.tmps (Act.put _ (some 97) (vs 12)))) = true then R4.Oper.slotAt _ _ (Act.put _ (some 97) (vs 12)) _ _ else _
                    rw [hn12]
                    clear hn12
                    rw [if_pos (by rfl)]
                    have HGG := hid hg
                    obtain ⟨gq, nq, rfl⟩ := hg
                    go_simp
                    exact ⟨HGG.out, R4.upd_same _ _ _, .inl (Grew.refl _)⟩
                  | 14, _, ho, _ =>
                    obtain rfl := Option.some.inj ho
                    have hn13 := (hn 13 (by decide)).2
                    try dsimp only at hn13
                    change if Region.wanted _ (yielded _ (Act.tmps (Act.put _ (some 98) (vs 13)))) = true then R4.Oper.slotAt _ _ (Act.put _ (some 98) (vs 13)) _ _ else _
                    rw [hn13]
                    clear hn13
                    rw [if_pos (by rfl)]
                    have HGG := hid hg
                    obtain ⟨gq, nq, rfl⟩ := hg
                    go_simp
                    exact ⟨HGG.out, R4.upd_same _ _ _, .inl (Grew.refl _)⟩
                  | 15, _, ho, _ =>
                    obtain rfl := Option.some.inj ho
                    have hn14 := (hn 14 (by decide)).2
                    have hn13 := (hn 13 (by decide)).2
                    try dsimp only at hn14 hn13
                    change if Region.wanted _ (yielded _ (Act.tmps (Act.put (Act.put _ (some 99) (vs 14)) (some 98) (vs 13)))) = true then R4.Oper.slotAt _ _ (Act.put (Act.put _ (some 99) (vs 14)) (some 98) (vs 13)) _ _ else _
                    rw [hn14, hn13]
                    clear hn14 hn13
                    rw [if_pos (by rfl)]
                    have HGG := hid hg
                    obtain ⟨gq, nq, rfl⟩ := hg
                    go_simp
                    exact ⟨HGG.out, R4.upd_same _ _ _, .inl (Grew.refl _)⟩
                  | 16, _, ho, _ =>
                    obtain rfl := Option.some.inj ho
                    have hn15 := (hn 15 (by decide)).2
                    have hn13 := (hn 13 (by decide)).2
                    try dsimp only at hn15 hn13
                    change if Region.wanted _ (yielded _ (Act.tmps (Act.put (Act.put _ (some 100) (vs 15)) (some 98) (vs 13)))) = true then R4.Oper.slotAt _ _ (Act.put (Act.put _ (some 100) (vs 15)) (some 98) (vs 13)) _ _ else _
                    rw [hn15, hn13]
                    clear hn15 hn13
                    rw [if_pos (by rfl)]
                    have HGG := hid hg
                    obtain ⟨gq, nq, rfl⟩ := hg
                    go_simp
                    exact ⟨HGG.out, R4.upd_same _ _ _, .inl (Grew.refl _)⟩
                  | 17, _, ho, _ =>
                    obtain rfl := Option.some.inj ho
                    have hn16 := (hn 16 (by decide)).2
                    try dsimp only at hn16
                    change if Region.wanted _ (yielded _ (Act.tmps (Act.put _ (some 101) (vs 16)))) = true then R4.Oper.slotAt _ _ (Act.put _ (some 101) (vs 16)) _ _ else _
                    rw [hn16]
                    rw [if_neg (by show ¬ (false = true); exact Bool.false_ne_true)]
                    exact ⟨hg, R4.upd_same _ _ _⟩
                  | 18, _, ho, _ =>
                    obtain rfl := Option.some.inj ho
                    have hn16 := (hn 16 (by decide)).2
                    try dsimp only at hn16
                    change if Region.wanted _ (yielded _ (Act.tmps (Act.put _ (some 101) (vs 16)))) = true then R4.Oper.slotAt _ _ (Act.put _ (some 101) (vs 16)) _ _ else _
                    rw [hn16]
                    rw [if_neg (by show ¬ (false = true); exact Bool.false_ne_true)]
                    exact ⟨hg, R4.upd_same _ _ _⟩
                  | 19, _, ho, _ =>
                    obtain rfl := Option.some.inj ho
                    have hn17 := (hn 17 (by decide)).2
                    have hn18 := (hn 18 (by decide)).2
                    have hn16 := (hn 16 (by decide)).2
                    try dsimp only at hn17 hn18 hn16
                    change if Region.wanted _ (yielded _ (Act.tmps (Act.put (Act.put (Act.put _ (some 102) (vs 17)) (some 103) (vs 18)) (some 101) (vs 16)))) = true then R4.Oper.slotAt _ _ (Act.put (Act.put (Act.put _ (some 102) (vs 17)) (some 103) (vs 18)) (some 101) (vs 16)) _ _ else _
                    rw [hn17, hn18, hn16]
                    rw [if_neg (by show ¬ (false = true); exact Bool.false_ne_true)]
                    exact ⟨hg, R4.upd_same _ _ _⟩
                  | 20, _, ho, _ =>
                    obtain rfl := Option.some.inj ho
                    have hn19 := (hn 19 (by decide)).2
                    have hn16 := (hn 16 (by decide)).2
                    try dsimp only at hn19 hn16
                    change if Region.wanted _ (yielded _ (Act.tmps (Act.put (Act.put _ (some 104) (vs 19)) (some 101) (vs 16)))) = true then R4.Oper.slotAt _ _ (Act.put (Act.put _ (some 104) (vs 19)) (some 101) (vs 16)) _ _ else _
                    rw [hn19, hn16]
                    rw [if_neg (by show ¬ (false = true); exact Bool.false_ne_true)]
                    exact ⟨hg, R4.upd_same _ _ _⟩
                  | 21, _, ho, _ =>
                    obtain rfl := Option.some.inj ho
                    have hn16 := (hn 16 (by decide)).2
                    have hn20 := (hn 20 (by decide)).2
                    have hn13 := (hn 13 (by decide)).2
                    try dsimp only at hn16 hn20 hn13
                    change if Region.wanted _ (yielded _ (Act.tmps (Act.put (Act.put (Act.put _ (some 101) (vs 16)) (some 105) (vs 20)) (some 98) (vs 13)))) = true then R4.Oper.slotAt _ _ (Act.put (Act.put (Act.put _ (some 101) (vs 16)) (some 105) (vs 20)) (some 98) (vs 13)) _ _ else _
                    rw [hn16, hn20, hn13]
                    clear hn16 hn20 hn13
                    rw [if_pos (by rfl)]
                    have HGG := hid hg
                    obtain ⟨gq, nq, rfl⟩ := hg
                    go_simp
                    exact ⟨HGG.out, R4.upd_same _ _ _, .inl (Grew.refl _)⟩
                  | 22, _, ho, _ =>
                    obtain rfl := Option.some.inj ho
                    have hn13 := (hn 13 (by decide)).2
                    have hn21 := (hn 21 (by decide)).2
                    try dsimp only at hn13 hn21
                    change if Region.wanted _ (yielded _ (Act.tmps (Act.put (Act.put _ (some 98) (vs 13)) (some 106) (vs 21)))) = true then R4.Oper.slotAt _ _ (Act.put (Act.put _ (some 98) (vs 13)) (some 106) (vs 21)) _ _ else _
                    rw [hn13, hn21]
                    clear hn13 hn21
                    rw [if_pos (by rfl)]
                    have HGG := hid hg
                    obtain ⟨gq, nq, rfl⟩ := hg
                    go_simp
                    exact ⟨HGG.out, R4.upd_same _ _ _, .inl (Grew.refl _)⟩
                  | kx + 23, hix, _, _ => exact absurd hix (by omega)
                case slq =>
                  intro vs W8 hg hn
                  have hn22 : vs 22 = .bool false := hn 22 (by decide) (by decide)
                  change wpList _ _ _ _ (Act.put (Act.put (Act.put (Act.put (Act.put (Act.put (Act.put (Act.put (Act.put (Act.put (Act.put (Act.put (Act.put (Act.put (Act.put (Act.put (Act.put (Act.put (Act.put (Act.put (Act.put (Act.put (Act.put _ (some 85) (vs 0)) (some 86) (vs 1)) (some 87) (vs 2)) (some 88) (vs 3)) (some 89) (vs 4)) (some 90) (vs 5)) (some 91) (vs 6)) (some 92) (vs 7)) (some 93) (vs 8)) (some 94) (vs 9)) (some 95) (vs 10)) (some 96) (vs 11)) (some 97) (vs 12)) (some 98) (vs 13)) (some 99) (vs 14)) (some 100) (vs 15)) (some 101) (vs 16)) (some 102) (vs 17)) (some 103) (vs 18)) (some 104) (vs 19)) (some 105) (vs 20)) (some 106) (vs 21)) (some 107) (vs 22)) _
                  simp only [Act.put, List.setIfInBounds_toArray, List.set_cons_zero, List.set_cons_succ, List.drop_succ_cons, List.drop_zero, hn22]
                  have HB2 := hid (below_grew HB2.out hg)
                  clear hn hn22 hg
                  go_wp2_with fail
                  refine (awake_any _).mono ?_
                  rintro e w' ⟨rfl, gz, mz, rfl⟩
                  go_wp2_with fail
                  go_ret
                  exact ⟨rfl, below_grew HB2.out (by repeat (first | exact Grew.refl _ | refine Grew.drewN ?_ _ | refine Grew.grow ?_ _ | refine Grew.alloc ?_ _ | refine Grew.drew ?_))⟩

theorem inverts_any (g : Int) (a0 : Option Addr) (cap : Nat) (its : List It) (w : World) (hl : its.length ≤ 9223372036854775807) (hc : Its w a0 its) (no0 : a0 = none → its.length = 0 ∧ cap = 0) :
    Calls Try.prog 4 #[.int .i64 g, .slice a0 its.length cap] w fun e w' => e = .returned (.bool true) ∧ Below w.heap.size w w' := by
  by_cases h : its.length ≤ 40
  case neg => exact inverts_long g a0 cap its w hl hc (by omega)
  by_cases hk : chkIts g its = 0
  case neg => exact inverts_chk g a0 cap its w hl hc h hk
  by_cases he : (matOf g its).2 = 0
  case neg => exact inverts_err g a0 cap its w hl hc h hk he
  obtain ⟨q1, _, _, _⟩ := chkIts_zero hk
  obtain ⟨n, rfl⟩ : ∃ n : Nat, g = n := ⟨g.toNat, by omega⟩
  exact inverts_main n a0 cap its w hl hc h hk (matOf n its).1 (by rw [← he]) no0
theorem meshInverts_walk (g : Int) (a0 : Option Addr) (len cap : Nat) (w : World) (h : len = 0 ∨ ∃ (b off : Nat) (l : List It), a0 = some ⟨b, off, none⟩ ∧ len = l.length ∧ l.length ≤ 9223372036854775807 ∧ b < w.heap.size ∧ ItsAt w b off l)
    (no0 : a0 = none → len = 0 ∧ cap = 0) :
    Calls Try.prog 4 #[.int .i64 g, .slice a0 len cap] w fun e w' => e = .returned (.bool true) ∧ Below w.heap.size w w' := by
  obtain ⟨its, rfl, h1, h2⟩ := its_of h
  exact inverts_any g a0 cap its w h1 h2 no0

end Go.Proofs.Ytkglnnkghillpaa
