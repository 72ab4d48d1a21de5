/- The law MeshUnitary returns true. Condition: the items lie in memory. -/
import Derived.Test.YtkglnnkghillpaaMshW
import Derived.Test.YtkglnnkghillpaaMshX
import Derived.Test.YtkglnnkghillpaaMshVal
namespace Go.Proofs.Ytkglnnkghillpaa
open Go Go.RowKit Amp Msh

set_option maxRecDepth 100000 in
set_option maxHeartbeats 8000000 in
theorem unitary_main (n : Nat) (a0 : Option Addr) (cap : Nat) (its : List It) (w : World) (hlen : its.length ≤ 40) (n4 : n ≤ 4) (hc : Its w a0 its) (hk : chkIts n its = 0) (he : (itsM n its (idN n)).2 = 0) :
    Calls Try.prog 3 #[.int .i64 n, .slice a0 its.length cap] w fun e w' => e = .returned (.bool true) ∧ Grew w w' := by
  obtain ⟨g1, g2, h5, hok⟩ := chkIts_zero hk
  have n1 : 1 ≤ n := by omega
  have n2 : n ≤ 6 := by omega
  have hl : its.length ≤ 9223372036854775807 := by omega
  obtain ⟨hv, hL⟩ := itsM_shape its (idN n) (idN_valid n) (idN_length n) he
  have hu := itsM_uni n2 its (idN n) hok (Uni.id n) he
  have HK := hid fun w' (h : Grew w w') => asked_any n a0 cap its w' hl (hc.grew h)
  rw [hk] at HK
  have HM := hid fun w' (h : Grew w w') => matOf_any n a0 cap its w' hl (hc.grew h)
  obtain ⟨l, hll⟩ : ∃ l, (itsM n its (idN n)).1 = l := ⟨_, rfl⟩
  rw [show matOf n its = (l, 0) by unfold matOf; rw [if_pos hk, Int.toNat_natCast, ← hll, ← he]] at HM
  rw [hll] at hv hL hu
  have h40 : decide ((40 : Int) < its.length) = false := decide_eq_false (by omega)
  have n4' : decide ((4 : Int) < n) = false := decide_eq_false (by omega)
  have HV := hid hv
  have HL := hid hL
  have HU := hid hu
  clear hc hk he hok hll g1 g2 hv hL hu h5
  go_enter Try.func3, Try.ntmps3
  go_wp2_with fail
  refine (HK.out _ (by repeat (first | exact Grew.refl _ | refine Grew.drewN ?_ _ | refine Grew.grow ?_ _ | refine Grew.alloc ?_ _ | refine Grew.drew ?_))).mono ?_
  rintro e w' ⟨rfl, g, n', rfl⟩
  go_wp2_with fail
  refine (HM.out _ (by repeat (first | exact Grew.refl _ | refine Grew.drewN ?_ _ | refine Grew.grow ?_ _ | refine Grew.alloc ?_ _ | refine Grew.drew ?_))).mono ?_
  rintro e w' ⟨⟨am, km, rfl, hN⟩, g', n'', rfl⟩
  dsimp only [rowsOf]
  simp only [World.grow_drewN, World.grow_grow, World.drewN_drewN] at hN
  have HN := hid hN.undrew
  clear hN
  simp only [Int.toNat_natCast, if_true]
  go_wp2_with fail
  have HSH := hid fun w' (hN : Nms w' am l) => shaped_ok n am km l w' n2 HL.out hN HV.out
  refine (HSH.out _ (HN.out.grew (by repeat (first | exact Grew.refl _ | refine Grew.drewN ?_ _ | refine Grew.grow ?_ _ | refine Grew.alloc ?_ _ | refine Grew.drew ?_)))).mono ?_
  rintro e w' ⟨rfl, g3, n3, rfl⟩
  go_wp2_with fail
  obtain ⟨wb0, hwb⟩ : ∃ wb0, wb0 = (((w.grow (g ++ g')).alloc (.cells #[.int .i64 n, .slice am l.length km] 28)).grow g3).drewN (n' + n'' + n3) := ⟨_, rfl⟩
  obtain ⟨b5, hb5⟩ : ∃ b5, b5 = w.heap.size + g.length + g'.length := ⟨_, rfl⟩
  have hgw : Grew w wb0 := by rw [hwb]; exact (by repeat (first | exact Grew.refl _ | refine Grew.drewN ?_ _ | refine Grew.grow ?_ _ | refine Grew.alloc ?_ _ | refine Grew.drew ?_))
  have hNb : Nms wb0 am l := by rw [hwb]; exact HN.out.grew (by repeat (first | exact Grew.refl _ | refine Grew.drewN ?_ _ | refine Grew.grow ?_ _ | refine Grew.alloc ?_ _ | refine Grew.drew ?_))
  have h5 : wb0.cell? ⟨b5, 0, none⟩ = some (.int .i64 n) ∧ wb0.cell? ⟨b5, 1, none⟩ = some (.slice am l.length km) ∧ b5 < wb0.heap.size := by rw [hwb, hb5]; simp [go_sem] <;> omega
  rw [← hwb, ← hb5]
  obtain ⟨y0, y1, z5⟩ := h5
  have HGW := hid hgw
  have HNB := hid hNb
  have HB5 := hid hb5
  clear hwb hb5 hgw hNb HN
  obtain ⟨⟨r1, f1⟩, hr1⟩ : ∃ r, mulM n l (dagL n l) = r := ⟨_, rfl⟩
  obtain ⟨⟨r2, f2⟩, hr2⟩ : ∃ r, mulM n (dagL n l) l = r := ⟨_, rfl⟩
  have HDAG := hid fun W (hg : Grew wb0 W) => dagger_any n am km l W n2 HL.out (HNB.out.grew hg) HV.out
  have HT1 := hid fun a2 k2 W (hg : Grew wb0 W) (hd : Nms W a2 (dagL n l)) => times_any n am a2 km k2 l (dagL n l) W n2 HL.out (dagL_length n l) (HNB.out.grew hg) hd
  have HT2 := hid fun a2 k2 W (hg : Grew wb0 W) (hd : Nms W a2 (dagL n l)) => times_any n a2 am k2 km (dagL n l) l W n2 (dagL_length n l) HL.out hd (HNB.out.grew hg)
  rw [hr1] at HT1
  rw [hr2] at HT2
  have HE1 : Hid (f1 = 0 → r1 = idN n) := hid fun h => by
    have h2 := times_dag HU.out (by rw [hr1]; exact h)
    rw [hr1] at h2; exact h2
  have HE2 : Hid (f2 = 0 → r2 = idN n) := hid fun h => by
    have h2 := dag_times HU.out (by rw [hr2]; exact h)
    rw [hr2] at h2; exact h2
  obtain ⟨N1, hN1⟩ : ∃ N, rowsOf n f1 = N := ⟨_, rfl⟩
  obtain ⟨N2, hN2⟩ : ∃ N, rowsOf n f2 = N := ⟨_, rfl⟩
  have HN1 := hid hN1
  have HN2 := hid hN2
  clear hr1 hr2 hN1 hN2
  have HGB := hid (Grew.refl wb0)
  have z51 := fun m0 : Nat => Nat.lt_add_right m0 (z5)
  have z52 := fun m0 m1 : Nat => Nat.lt_add_right m1 (z51 m0)
  have z53 := fun m0 m1 m2 : Nat => Nat.lt_add_right m2 (z52 m0 m1)
  refine R4.wp_region_slots 9 (fun ix vs W => match ix with | 0 => vs 0 = .agg #[.int .i64 n, .slice am l.length km] | 1 => vs 1 = .agg #[.int .i64 n, .slice am l.length km] | 2 => MatV (vs 2) W n (dagL n l) | 3 => MatE (vs 3) W N1 (r1, f1) | 4 => MatE (vs 4) W N1 (r1, f1) | 5 => MatV (vs 5) W N1 r1 | 6 => vs 6 = .int .i64 f1 | 7 => NewMat wb0.heap.size (vs 7) W | 8 => HasMat (vs 7) N1 r1 W | _ => True) (by kernel_rfl) (by kernel_rfl) ?slst ?sldep ?slop ?slq
  case slst =>
    intro ix vs W W' h hg
    match ix, h with
    | 0, h => exact h
    | 1, h => exact h
    | 2, h => exact MatV.grew h hg
    | 3, h => exact MatE.grew h hg
    | 4, h => exact MatE.grew h hg
    | 5, h => exact MatV.grew h hg
    | 6, h => exact h
    | 7, h => exact NewMat.grew h hg
    | 8, h => exact HasMat.grew h hg
    | _ + 9, _ => trivial
  case sldep =>
    intro ix o vs vs' W hix ho h hv hn
    match ix, hix, ho, h, hv with
    | 0, _, _, h, hv => exact Eq.trans hv h
    | 1, _, _, h, hv => exact Eq.trans hv h
    | 2, _, _, h, hv => show MatV (vs' 2) W n (dagL n l); rw [hv]; exact h
    | 3, _, _, h, hv => show MatE (vs' 3) W N1 (r1, f1); rw [hv]; exact h
    | 4, _, _, h, hv => show MatE (vs' 4) W N1 (r1, f1); rw [hv]; exact h
    | 5, _, _, h, hv => show MatV (vs' 5) W N1 r1; rw [hv]; exact h
    | 6, _, _, h, hv => exact Eq.trans hv h
    | 7, _, _, h, hv => show NewMat wb0.heap.size (vs' 7) W; rw [hv]; exact h
    | 8, _, ho, h, hv => obtain rfl := Option.some.inj ho; show HasMat (vs' 7) _ _ _; rw [hn 7 (by decide)]; exact h
    | kx + 9, hix, _, _, _ => exact absurd hix (by omega)
  case slop =>
    intro ix o hix ho vs W L hg hL hn hall
    match ix, hix, ho, hL with
    | 0, _, ho, _ =>
      obtain rfl := Option.some.inj ho
      change R4.Oper.slotAt _ _ { tmps := _, defers := _ } _ _
      obtain ⟨gq, nq, rfl⟩ := hg
      go_simp
      exact ⟨R4.upd_same _ _ _, .inl (Grew.refl _)⟩
    | 1, _, ho, _ =>
      obtain rfl := Option.some.inj ho
      change R4.Oper.slotAt _ _ { tmps := _, defers := _ } _ _
      obtain ⟨gq, nq, rfl⟩ := hg
      go_simp
      exact ⟨R4.upd_same _ _ _, .inl (Grew.refl _)⟩
    | 2, _, ho, _ =>
      obtain rfl := Option.some.inj ho
      have hn1 := (hn 1 (by decide)).2
      try dsimp only at hn1
      change R4.Oper.slotAt _ _ (Act.put _ (some 40) (vs 1)) _ _
      conv => arg 3; rw [hn1]
      clear hn1
      obtain ⟨gq, nq, rfl⟩ := hg
      go_simp
      refine (HDAG.out _ (HGB.out.trans (by repeat (first | exact Grew.refl _ | refine Grew.drewN ?_ _ | refine Grew.grow ?_ _ | refine Grew.alloc ?_ _ | refine Grew.drew ?_)))).mono ?_
      rintro e w' ⟨⟨a2, k2, rfl, ho⟩, gr⟩
      exact ⟨_, rfl, by rw [R4.upd_same]; exact ⟨a2, k2, rfl, ho.nms⟩, .inl gr⟩
    | 3, _, ho, _ =>
      obtain rfl := Option.some.inj ho
      have hn0 := (hn 0 (by decide)).2
      have hn2 := (hn 2 (by decide)).2
      try dsimp only at hn0 hn2
      change R4.Oper.slotAt _ _ (Act.put (Act.put _ (some 39) (vs 0)) (some 41) (vs 2)) _ _
      conv => arg 3; rw [hn0]
      clear hn0
      obtain ⟨gq, nq, rfl⟩ := hg
      obtain ⟨a2, k2, e2, h2⟩ := hn2
      conv => arg 3; rw [e2]
      clear e2
      go_simp
      refine (HT1.out a2 k2 _ (HGB.out.trans (by repeat (first | exact Grew.refl _ | refine Grew.drewN ?_ _ | refine Grew.grow ?_ _ | refine Grew.alloc ?_ _ | refine Grew.drew ?_))) h2).mono ?_
      rintro e w' ⟨⟨a3, k3, rfl, ho⟩, gr⟩
      exact ⟨_, rfl, by rw [R4.upd_same]; exact ⟨a3, k3, by rw [← HN1.out], ho.nms⟩, .inl gr⟩
    | 4, _, ho, _ =>
      obtain rfl := Option.some.inj ho
      have hn3 := (hn 3 (by decide)).2
      try dsimp only at hn3
      change R4.Oper.slotAt _ _ (Act.put _ (some 42) (vs 3)) _ _
      obtain ⟨gq, nq, rfl⟩ := hg
      obtain ⟨a2, k2, e2, h2⟩ := hn3
      conv => arg 3; rw [e2]
      clear e2
      go_simp
      exact ⟨by rw [R4.upd_same]; exact ⟨a2, k2, rfl, h2⟩, .inl (Grew.refl _)⟩
    | 5, _, ho, _ =>
      obtain rfl := Option.some.inj ho
      have hn4 := (hn 4 (by decide)).2
      try dsimp only at hn4
      change R4.Oper.slotAt _ _ (Act.put _ (some 38) (vs 4)) _ _
      obtain ⟨gq, nq, rfl⟩ := hg
      obtain ⟨a2, k2, e2, h2⟩ := hn4
      conv => arg 3; rw [e2]
      clear e2
      go_simp
      exact ⟨by rw [R4.upd_same]; exact ⟨a2, k2, rfl, h2⟩, .inl (Grew.refl _)⟩
    | 6, _, ho, _ =>
      obtain rfl := Option.some.inj ho
      have hn4 := (hn 4 (by decide)).2
      try dsimp only at hn4
      change R4.Oper.slotAt _ _ (Act.put _ (some 38) (vs 4)) _ _
      obtain ⟨gq, nq, rfl⟩ := hg
      obtain ⟨a2, k2, e2, h2⟩ := hn4
      conv => arg 3; rw [e2]
      clear e2
      go_simp
      exact ⟨R4.upd_same _ _ _, .inl (Grew.refl _)⟩
    | 7, _, ho, _ =>
      obtain rfl := Option.some.inj ho
      change R4.Oper.slotAt _ _ { tmps := _, defers := _ } _ _
      have hs := hg.size
      go_simp
      exact ⟨by rw [R4.upd_same]; exact NewMat.fresh rfl hs, .inl ((Grew.refl _).alloc _)⟩
    | 8, _, ho, hL =>
      obtain rfl := Option.some.inj ho
      have hn7 := (hn 7 (by decide)).2
      have hn5 := (hn 5 (by decide)).2
      try dsimp only at hn7 hn5
      change R4.Oper.slotAt _ _ (Act.put (Act.put _ (some 7) (vs 7)) (some 43) (vs 5)) _ _
      -- hL
      obtain ⟨a2, k2, e2, h2⟩ := hn5
      obtain ⟨b, x', a', p', q', e3, hB, hq⟩ := hn7
      conv => arg 3; rw [e2, e3]
      have E2 := hid e2
      have E3 := hid e3
      clear e2 e3
      have ca : W.cell? ⟨b, 0, none⟩ = some (.int .i64 x') := by simp [World.cell?, hq]
      have cb : W.cell? ⟨b, 1, none⟩ = some (.slice a' p' q') := by simp [World.cell?, hq]
      have fa : W.frozen? ⟨b, 0, none⟩ = false := by simp [World.frozen?, hq]
      have fb : W.frozen? ⟨b, 1, none⟩ = false := by simp [World.frozen?, hq]
      go_simp
      obtain ⟨s1, s2⟩ := R4.set2 hq (.int .i64 N1) (.slice a2 r1.length k2)
      have ht : Turned W ((W.setCell ⟨b, 0, none⟩ (.int .i64 N1)).setCell ⟨b, 1, none⟩ (.slice a2 r1.length k2)) b := ((Turned.refl _ _).set _ _).set _ _
      exact ⟨by rw [R4.upd_other _ _ (by decide)]; exact ⟨b, E3.out, a2, k2, s1, h2.turned ht hq⟩, .inr ⟨ht.toGrew hg (by first | omega | (simp [go_sem] <;> omega)), fun jx hjx hLj => by
        have hv := hall jx hjx hLj
        match jx, hjx, hv, hLj with
        | 0, _, hv, _ => exact hv
        | 1, _, hv, _ => exact hv
        | 2, _, hv, _ => exact MatV.turned hv ht hq
        | 3, _, hv, _ => exact MatE.turned hv ht hq
        | 4, _, hv, _ => exact MatE.turned hv ht hq
        | 5, _, hv, _ => exact MatV.turned hv ht hq
        | 6, _, hv, _ => exact hv
        | 7, _, hv, _ => exact NewMat.turned hv ht s1
        | 8, _, hv, hLj => exact absurd hLj hL
        | kx + 9, hjx, _, _ => exact absurd hjx (by omega)⟩⟩
    | kx + 9, hix, _, _ => exact absurd hix (by omega)
  case slq =>
    intro vs W1 hg hn
    have hn6 : vs 6 = .int .i64 f1 := hn 6 (by decide) (by decide)
    obtain ⟨b1', x', a', p', q', e3, hB', _⟩ : NewMat wb0.heap.size (vs 7) W1 := hn 7 (by decide) (by decide)
    obtain ⟨b1, e4, a1, k1, hb9, hN9⟩ : HasMat (vs 7) N1 r1 W1 := hn 8 (by decide) (by decide)
    have e5 : b1' = b1 := by
      rw [e3] at e4
      injection e4 with h
      injection h with h
      injection h
    subst e5
    have hgb : Grew wb0 W1 := HGB.out.trans hg
    have hW1 : Grew wb0 W1 := hg
    change wpList _ _ _ _ (Act.put (Act.put (Act.put (Act.put (Act.put (Act.put (Act.put (Act.put (Act.put _ (some 39) (vs 0)) (some 40) (vs 1)) (some 41) (vs 2)) (some 42) (vs 3)) (some 38) (vs 4)) (some 43) (vs 5)) (some 44) (vs 6)) (some 7) (vs 7)) none (vs 8)) _
    simp only [Act.put, List.setIfInBounds_toArray, List.set_cons_zero, List.set_cons_succ, List.drop_succ_cons, List.drop_zero, hn6, e3]
    have HMB1 : Hid (MatB b1' N1 r1 W1) := ⟨a1, k1, hb9, hN9⟩
    clear hn e3 e4 hn6 hb9 hN9 HGB

    have HGB := hid hgb
    have y0 := (hgb.cell (i := 0) z5).trans y0
    have y1 := (hgb.cell (i := 1) z5).trans y1
    have z5 := Nat.lt_of_lt_of_le z5 hgb.size
    have HW1 := hid hW1
    clear hgb hW1 hg
    have z51 := fun m0 : Nat => Nat.lt_add_right m0 (z5)
    have z52 := fun m0 m1 : Nat => Nat.lt_add_right m1 (z51 m0)
    have z53 := fun m0 m1 m2 : Nat => Nat.lt_add_right m2 (z52 m0 m1)
    go_wp2_with fail
    refine R4.wp_region_slots 9 (fun ix vs W => match ix with | 0 => vs 0 = .agg #[.int .i64 n, .slice am l.length km] | 1 => MatV (vs 1) W n (dagL n l) | 2 => vs 2 = .agg #[.int .i64 n, .slice am l.length km] | 3 => MatE (vs 3) W N2 (r2, f2) | 4 => MatE (vs 4) W N2 (r2, f2) | 5 => MatV (vs 5) W N2 r2 | 6 => vs 6 = .int .i64 f2 | 7 => NewMat W1.heap.size (vs 7) W | 8 => HasMat (vs 7) N2 r2 W | _ => True) (by kernel_rfl) (by kernel_rfl) ?slst ?sldep ?slop ?slq
    case slst =>
      intro ix vs W W' h hg
      match ix, h with
      | 0, h => exact h
      | 1, h => exact MatV.grew h hg
      | 2, h => exact h
      | 3, h => exact MatE.grew h hg
      | 4, h => exact MatE.grew h hg
      | 5, h => exact MatV.grew h hg
      | 6, h => exact h
      | 7, h => exact NewMat.grew h hg
      | 8, h => exact HasMat.grew h hg
      | _ + 9, _ => trivial
    case sldep =>
      intro ix o vs vs' W hix ho h hv hn
      match ix, hix, ho, h, hv with
      | 0, _, _, h, hv => exact Eq.trans hv h
      | 1, _, _, h, hv => show MatV (vs' 1) W n (dagL n l); rw [hv]; exact h
      | 2, _, _, h, hv => exact Eq.trans hv h
      | 3, _, _, h, hv => show MatE (vs' 3) W N2 (r2, f2); rw [hv]; exact h
      | 4, _, _, h, hv => show MatE (vs' 4) W N2 (r2, f2); rw [hv]; exact h
      | 5, _, _, h, hv => show MatV (vs' 5) W N2 r2; rw [hv]; exact h
      | 6, _, _, h, hv => exact Eq.trans hv h
      | 7, _, _, h, hv => show NewMat W1.heap.size (vs' 7) W; rw [hv]; exact h
      | 8, _, ho, h, hv => obtain rfl := Option.some.inj ho; show HasMat (vs' 7) _ _ _; rw [hn 7 (by decide)]; exact h
      | kx + 9, hix, _, _, _ => exact absurd hix (by omega)
    case slop =>
      intro ix o hix ho vs W L hg hL hn hall
      match ix, hix, ho, hL with
      | 0, _, ho, _ =>
        obtain rfl := Option.some.inj ho
        change R4.Oper.slotAt _ _ { tmps := _, defers := _ } _ _
        obtain ⟨gq, nq, rfl⟩ := hg
        go_simp
        exact ⟨R4.upd_same _ _ _, .inl (Grew.refl _)⟩
      | 1, _, ho, _ =>
        obtain rfl := Option.some.inj ho
        have hn0 := (hn 0 (by decide)).2
        try dsimp only at hn0
        change R4.Oper.slotAt _ _ (Act.put _ (some 46) (vs 0)) _ _
        conv => arg 3; rw [hn0]
        clear hn0
        obtain ⟨gq, nq, rfl⟩ := hg
        go_simp
        refine (HDAG.out _ (HGB.out.trans (by repeat (first | exact Grew.refl _ | refine Grew.drewN ?_ _ | refine Grew.grow ?_ _ | refine Grew.alloc ?_ _ | refine Grew.drew ?_)))).mono ?_
        rintro e w' ⟨⟨a2, k2, rfl, ho⟩, gr⟩
        exact ⟨_, rfl, by rw [R4.upd_same]; exact ⟨a2, k2, rfl, ho.nms⟩, .inl gr⟩
      | 2, _, ho, _ =>
        obtain rfl := Option.some.inj ho
        change R4.Oper.slotAt _ _ { tmps := _, defers := _ } _ _
        obtain ⟨gq, nq, rfl⟩ := hg
        go_simp
        exact ⟨R4.upd_same _ _ _, .inl (Grew.refl _)⟩
      | 3, _, ho, _ =>
        obtain rfl := Option.some.inj ho
        have hn1 := (hn 1 (by decide)).2
        have hn2 := (hn 2 (by decide)).2
        try dsimp only at hn1 hn2
        change R4.Oper.slotAt _ _ (Act.put (Act.put _ (some 47) (vs 1)) (some 48) (vs 2)) _ _
        conv => arg 3; rw [hn2]
        clear hn2
        obtain ⟨gq, nq, rfl⟩ := hg
        obtain ⟨a2, k2, e2, h2⟩ := hn1
        conv => arg 3; rw [e2]
        clear e2
        go_simp
        refine (HT2.out a2 k2 _ (HGB.out.trans (by repeat (first | exact Grew.refl _ | refine Grew.drewN ?_ _ | refine Grew.grow ?_ _ | refine Grew.alloc ?_ _ | refine Grew.drew ?_))) h2).mono ?_
        rintro e w' ⟨⟨a3, k3, rfl, ho⟩, gr⟩
        exact ⟨_, rfl, by rw [R4.upd_same]; exact ⟨a3, k3, by rw [← HN2.out], ho.nms⟩, .inl gr⟩
      | 4, _, ho, _ =>
        obtain rfl := Option.some.inj ho
        have hn3 := (hn 3 (by decide)).2
        try dsimp only at hn3
        change R4.Oper.slotAt _ _ (Act.put _ (some 49) (vs 3)) _ _
        obtain ⟨gq, nq, rfl⟩ := hg
        obtain ⟨a2, k2, e2, h2⟩ := hn3
        conv => arg 3; rw [e2]
        clear e2
        go_simp
        exact ⟨by rw [R4.upd_same]; exact ⟨a2, k2, rfl, h2⟩, .inl (Grew.refl _)⟩
      | 5, _, ho, _ =>
        obtain rfl := Option.some.inj ho
        have hn4 := (hn 4 (by decide)).2
        try dsimp only at hn4
        change R4.Oper.slotAt _ _ (Act.put _ (some 45) (vs 4)) _ _
        obtain ⟨gq, nq, rfl⟩ := hg
        obtain ⟨a2, k2, e2, h2⟩ := hn4
        conv => arg 3; rw [e2]
        clear e2
        go_simp
        exact ⟨by rw [R4.upd_same]; exact ⟨a2, k2, rfl, h2⟩, .inl (Grew.refl _)⟩
      | 6, _, ho, _ =>
        obtain rfl := Option.some.inj ho
        have hn4 := (hn 4 (by decide)).2
        try dsimp only at hn4
        change R4.Oper.slotAt _ _ (Act.put _ (some 45) (vs 4)) _ _
        obtain ⟨gq, nq, rfl⟩ := hg
        obtain ⟨a2, k2, e2, h2⟩ := hn4
        conv => arg 3; rw [e2]
        clear e2
        go_simp
        exact ⟨R4.upd_same _ _ _, .inl (Grew.refl _)⟩
      | 7, _, ho, _ =>
        obtain rfl := Option.some.inj ho
        change R4.Oper.slotAt _ _ { tmps := _, defers := _ } _ _
        have hs := hg.size
        go_simp
        exact ⟨by rw [R4.upd_same]; exact NewMat.fresh rfl hs, .inl ((Grew.refl _).alloc _)⟩
      | 8, _, ho, hL =>
        obtain rfl := Option.some.inj ho
        have hn7 := (hn 7 (by decide)).2
        have hn5 := (hn 5 (by decide)).2
        try dsimp only at hn7 hn5
        change R4.Oper.slotAt _ _ (Act.put (Act.put _ (some 9) (vs 7)) (some 50) (vs 5)) _ _
        -- hL
        obtain ⟨a2, k2, e2, h2⟩ := hn5
        obtain ⟨b, x', a', p', q', e3, hB, hq⟩ := hn7
        conv => arg 3; rw [e2, e3]
        have E2 := hid e2
        have E3 := hid e3
        clear e2 e3
        have ca : W.cell? ⟨b, 0, none⟩ = some (.int .i64 x') := by simp [World.cell?, hq]
        have cb : W.cell? ⟨b, 1, none⟩ = some (.slice a' p' q') := by simp [World.cell?, hq]
        have fa : W.frozen? ⟨b, 0, none⟩ = false := by simp [World.frozen?, hq]
        have fb : W.frozen? ⟨b, 1, none⟩ = false := by simp [World.frozen?, hq]
        go_simp
        obtain ⟨s1, s2⟩ := R4.set2 hq (.int .i64 N2) (.slice a2 r2.length k2)
        have ht : Turned W ((W.setCell ⟨b, 0, none⟩ (.int .i64 N2)).setCell ⟨b, 1, none⟩ (.slice a2 r2.length k2)) b := ((Turned.refl _ _).set _ _).set _ _
        exact ⟨by rw [R4.upd_other _ _ (by decide)]; exact ⟨b, E3.out, a2, k2, s1, h2.turned ht hq⟩, .inr ⟨ht.toGrew hg (by first | omega | (simp [go_sem] <;> omega)), fun jx hjx hLj => by
          have hv := hall jx hjx hLj
          match jx, hjx, hv, hLj with
          | 0, _, hv, _ => exact hv
          | 1, _, hv, _ => exact MatV.turned hv ht hq
          | 2, _, hv, _ => exact hv
          | 3, _, hv, _ => exact MatE.turned hv ht hq
          | 4, _, hv, _ => exact MatE.turned hv ht hq
          | 5, _, hv, _ => exact MatV.turned hv ht hq
          | 6, _, hv, _ => exact hv
          | 7, _, hv, _ => exact NewMat.turned hv ht s1
          | 8, _, hv, hLj => exact absurd hLj hL
          | kx + 9, hjx, _, _ => exact absurd hjx (by omega)⟩⟩
      | kx + 9, hix, _, _ => exact absurd hix (by omega)
    case slq =>
      intro vs W2 hg hn
      have hn6 : vs 6 = .int .i64 f2 := hn 6 (by decide) (by decide)
      obtain ⟨b2', x', a', p', q', e3, hB', _⟩ : NewMat W1.heap.size (vs 7) W2 := hn 7 (by decide) (by decide)
      obtain ⟨b2, e4, a2, k2, hb9, hN9⟩ : HasMat (vs 7) N2 r2 W2 := hn 8 (by decide) (by decide)
      have e5 : b2' = b2 := by
        rw [e3] at e4
        injection e4 with h
        injection h with h
        injection h
      subst e5
      have hgb : Grew wb0 W2 := HGB.out.trans hg
      have hW2 : Grew W1 W2 := hg
      change wpList _ _ _ _ (Act.put (Act.put (Act.put (Act.put (Act.put (Act.put (Act.put (Act.put (Act.put _ (some 46) (vs 0)) (some 47) (vs 1)) (some 48) (vs 2)) (some 49) (vs 3)) (some 45) (vs 4)) (some 50) (vs 5)) (some 51) (vs 6)) (some 9) (vs 7)) none (vs 8)) _
      simp only [Act.put, List.setIfInBounds_toArray, List.set_cons_zero, List.set_cons_succ, List.drop_succ_cons, List.drop_zero, hn6, e3]
      have HMB2 : Hid (MatB b2' N2 r2 W2) := ⟨a2, k2, hb9, hN9⟩
      clear hn e3 e4 hn6 hb9 hN9 HGB

      have HGB2 := hid hgb
      obtain ⟨a1, k1, hm1, hn1⟩ := HMB1.out.grew hW2
      obtain ⟨a2, k2, hm2, hn2⟩ := HMB2.out
      have z1 := (Array.getElem?_eq_some_iff.1 hm1).1
      have z2 := (Array.getElem?_eq_some_iff.1 hm2).1
      have q10 : W2.cell? ⟨b1', 0, none⟩ = some (.int .i64 N1) := by simp [World.cell?, hm1]
      have q11 : W2.cell? ⟨b1', 1, none⟩ = some (.slice a1 r1.length k1) := by simp [World.cell?, hm1]
      have q20 : W2.cell? ⟨b2', 0, none⟩ = some (.int .i64 N2) := by simp [World.cell?, hm2]
      have q21 : W2.cell? ⟨b2', 1, none⟩ = some (.slice a2 r2.length k2) := by simp [World.cell?, hm2]
      have HID := hid fun W => rIdentity_any n W n1 n2
      have HQ1 := hid hn1
      have HQ2 := hid hn2
      have HG1 := hid (Grew.refl W2)
      have h36 : n * n ≤ 36 := Nat.mul_le_mul n2 n2
      have HSM1 : Hid (f1 = 0 → ∀ a3 k3 W, Grew W2 W → Nms W a3 (idN n) → Calls Try.prog 19 #[.agg #[.int .i64 n, .slice a1 r1.length k1], .agg #[.int .i64 n, .slice a3 (idN n).length k3]] W fun e w' => e = .returned (.bool true) ∧ Grew W w') := hid fun h a3 k3 W hg h2 => by
        have hr := HE1.out h
        have h3 := sameMatrix_same n a1 a3 k1 k3 r1 W (by rw [hr, idN_length]; omega) (HQ1.out.grew hg) (by rw [hr]; exact h2)
        rw [show (idN n).length = r1.length by rw [hr]]
        exact h3
      have HSM2 : Hid (f2 = 0 → ∀ a3 k3 W, Grew W2 W → Nms W a3 (idN n) → Calls Try.prog 19 #[.agg #[.int .i64 n, .slice a2 r2.length k2], .agg #[.int .i64 n, .slice a3 (idN n).length k3]] W fun e w' => e = .returned (.bool true) ∧ Grew W w') := hid fun h a3 k3 W hg h2 => by
        have hr := HE2.out h
        have h3 := sameMatrix_same n a2 a3 k2 k3 r2 W (by rw [hr, idN_length]; omega) (HQ2.out.grew hg) (by rw [hr]; exact h2)
        rw [show (idN n).length = r2.length by rw [hr]]
        exact h3
      clear hm1 hm2 hn1 hn2 hgb hW2 h36 hg
      have z11 := fun m0 : Nat => Nat.lt_add_right m0 (z1)
      have z12 := fun m0 m1 : Nat => Nat.lt_add_right m1 (z11 m0)
      have z13 := fun m0 m1 m2 : Nat => Nat.lt_add_right m2 (z12 m0 m1)
      have z21 := fun m0 : Nat => Nat.lt_add_right m0 (z2)
      have z22 := fun m0 m1 : Nat => Nat.lt_add_right m1 (z21 m0)
      have z23 := fun m0 m1 m2 : Nat => Nat.lt_add_right m2 (z22 m0 m1)
      go_wp2_with fail
      by_cases hf1 : f1 = 0
      · have HSM1 := hid (HSM1.out hf1)
        have e1 : (f1 != 0) = false := by simp [hf1]
        obtain rfl : N1 = (n : Int) := by rw [← HN1.out, rowsOf, if_pos hf1]
        clear hf1
        by_cases hf2 : f2 = 0
        · have HSM2 := hid (HSM2.out hf2)
          have e2 : (f2 != 0) = false := by simp [hf2]
          obtain rfl : N2 = (n : Int) := by rw [← HN2.out, rowsOf, if_pos hf2]
          clear hf2
          refine R4.wp_region_slotsG 21 (fun ix vs W => match ix with | 0 => vs 0 = .int .i64 f1 | 1 => vs 1 = .bool false | 2 => vs 2 = .bool false | 3 => vs 3 = .agg #[.int .i64 n, .slice a1 r1.length k1] | 4 => vs 4 = .int .i64 n | 5 => MatV (vs 5) W n (idN n) | 6 => vs 6 = .bool true | 7 => vs 7 = .bool true | 8 => vs 8 = .bool true | 9 => vs 9 = .int .i64 f2 | 10 => vs 10 = .bool false | 11 => vs 11 = .bool false | 12 => vs 12 = .agg #[.int .i64 n, .slice a2 r2.length k2] | 13 => vs 13 = .int .i64 n | 14 => MatV (vs 14) W n (idN n) | 15 => vs 15 = .bool true | 16 => vs 16 = .bool true | 17 => vs 17 = .bool true | 18 => vs 18 = .bool true | 19 => vs 19 = .bool true | 20 => vs 20 = .bool true | _ => True) (fun _ W => Grew W2 W) (by kernel_rfl) (by kernel_rfl) ?slst ?sldep (Grew.refl _).drew ?slop ?slq
          case slst =>
            intro ix vs W W' h hg
            match ix, h with
            | 0, h => exact h
            | 1, h => exact h
            | 2, h => exact h
            | 3, h => exact h
            | 4, h => exact h
            | 5, h => exact MatV.grew h hg
            | 6, h => exact h
            | 7, h => exact h
            | 8, h => exact h
            | 9, h => exact h
            | 10, h => exact h
            | 11, h => exact h
            | 12, h => exact h
            | 13, h => exact h
            | 14, h => exact MatV.grew h hg
            | 15, h => exact h
            | 16, h => exact h
            | 17, h => exact h
            | 18, h => exact h
            | 19, h => exact h
            | 20, h => exact h
            | _ + 21, _ => trivial
          case sldep =>
            intro ix o vs vs' W hix ho h hv hn
            match ix, hix, ho, h, hv with
            | 0, _, _, h, hv => exact Eq.trans hv h
            | 1, _, _, h, hv => exact Eq.trans hv h
            | 2, _, _, h, hv => exact Eq.trans hv h
            | 3, _, _, h, hv => exact Eq.trans hv h
            | 4, _, _, h, hv => exact Eq.trans hv h
            | 5, _, _, h, hv => show MatV (vs' 5) W n (idN n); rw [hv]; exact h
            | 6, _, _, h, hv => exact Eq.trans hv h
            | 7, _, _, h, hv => exact Eq.trans hv h
            | 8, _, _, h, hv => exact Eq.trans hv h
            | 9, _, _, h, hv => exact Eq.trans hv h
            | 10, _, _, h, hv => exact Eq.trans hv h
            | 11, _, _, h, hv => exact Eq.trans hv h
            | 12, _, _, h, hv => exact Eq.trans hv h
            | 13, _, _, h, hv => exact Eq.trans hv h
            | 14, _, _, h, hv => show MatV (vs' 14) W n (idN n); rw [hv]; exact h
            | 15, _, _, h, hv => exact Eq.trans hv h
            | 16, _, _, h, hv => exact Eq.trans hv h
            | 17, _, _, h, hv => exact Eq.trans hv h
            | 18, _, _, h, hv => exact Eq.trans hv h
            | 19, _, _, h, hv => exact Eq.trans hv h
            | 20, _, _, h, hv => exact Eq.trans hv h
            | kx + 21, hix, _, _, _ => exact absurd hix (by omega)
          case slop =>
            intro ix o hix ho vs W L hg hL hn _ _
            match ix, hix, ho, hL with
            | 0, _, ho, _ =>
              obtain rfl := Option.some.inj ho
              change if Region.wanted _ (yielded _ (Act.tmps { tmps := _, defers := _ })) = true then R4.Oper.slotAt _ _ { tmps := _, defers := _ } _ _ else _
              rw [if_pos (by rfl)]
              have HGG := hid hg
              obtain ⟨gq, nq, rfl⟩ := hg
              go_simp
              exact ⟨HGG.out, R4.upd_same _ _ _, .inl (Grew.refl _)⟩
            | 1, _, ho, _ =>
              obtain rfl := Option.some.inj ho
              have hn0 := (hn 0 (by decide)).2
              try dsimp only at hn0
              change if Region.wanted _ (yielded _ (Act.tmps (Act.put _ (some 52) (vs 0)))) = true then R4.Oper.slotAt _ _ (Act.put _ (some 52) (vs 0)) _ _ else _
              rw [hn0]
              clear hn0
              rw [if_pos (by rfl)]
              have HGG := hid hg
              obtain ⟨gq, nq, rfl⟩ := hg
              go_simp
              exact ⟨HGG.out, R4.upd_same _ _ _, .inl (Grew.refl _)⟩
            | 2, _, ho, _ =>
              obtain rfl := Option.some.inj ho
              have hn1 := (hn 1 (by decide)).2
              try dsimp only at hn1
              change if Region.wanted _ (yielded _ (Act.tmps (Act.put _ (some 53) (vs 1)))) = true then R4.Oper.slotAt _ _ (Act.put _ (some 53) (vs 1)) _ _ else _
              rw [hn1]
              clear hn1
              rw [if_pos (by rfl)]
              have HGG := hid hg
              obtain ⟨gq, nq, rfl⟩ := hg
              go_simp
              exact ⟨HGG.out, R4.upd_same _ _ _, .inl (Grew.refl _)⟩
            | 3, _, ho, _ =>
              obtain rfl := Option.some.inj ho
              have hn2 := (hn 2 (by decide)).2
              try dsimp only at hn2
              change if Region.wanted _ (yielded _ (Act.tmps (Act.put _ (some 54) (vs 2)))) = true then R4.Oper.slotAt _ _ (Act.put _ (some 54) (vs 2)) _ _ else _
              rw [hn2]
              clear hn2
              rw [if_pos (by rfl)]
              have HGG := hid hg
              obtain ⟨gq, nq, rfl⟩ := hg
              go_simp
              exact ⟨HGG.out, R4.upd_same _ _ _, .inl (Grew.refl _)⟩
            | 4, _, ho, _ =>
              obtain rfl := Option.some.inj ho
              have hn2 := (hn 2 (by decide)).2
              try dsimp only at hn2
              change if Region.wanted _ (yielded _ (Act.tmps (Act.put _ (some 54) (vs 2)))) = true then R4.Oper.slotAt _ _ (Act.put _ (some 54) (vs 2)) _ _ else _
              rw [hn2]
              clear hn2
              rw [if_pos (by rfl)]
              have HGG := hid hg
              obtain ⟨gq, nq, rfl⟩ := hg
              go_simp
              exact ⟨HGG.out, R4.upd_same _ _ _, .inl (Grew.refl _)⟩
            | 5, _, ho, _ =>
              obtain rfl := Option.some.inj ho
              have hn4 := (hn 4 (by decide)).2
              have hn2 := (hn 2 (by decide)).2
              try dsimp only at hn4 hn2
              change if Region.wanted _ (yielded _ (Act.tmps (Act.put (Act.put _ (some 56) (vs 4)) (some 54) (vs 2)))) = true then R4.Oper.slotAt _ _ (Act.put (Act.put _ (some 56) (vs 4)) (some 54) (vs 2)) _ _ else _
              rw [hn4, hn2]
              clear hn4 hn2
              rw [if_pos (by rfl)]
              have HGG := hid hg
              obtain ⟨gq, nq, rfl⟩ := hg
              go_simp
              refine (HID.out _).mono ?_
              rintro e w' ⟨⟨a2, k2, rfl, ho⟩, gr⟩
              exact ⟨_, rfl, HGG.out.trans gr, by rw [R4.upd_same]; exact ⟨a2, k2, rfl, ho.nms⟩, .inl gr⟩
            | 6, _, ho, _ =>
              obtain rfl := Option.some.inj ho
              have hn3 := (hn 3 (by decide)).2
              have hn5 := (hn 5 (by decide)).2
              have hn2 := (hn 2 (by decide)).2
              try dsimp only at hn3 hn5 hn2
              change if Region.wanted _ (yielded _ (Act.tmps (Act.put (Act.put (Act.put _ (some 55) (vs 3)) (some 57) (vs 5)) (some 54) (vs 2)))) = true then R4.Oper.slotAt _ _ (Act.put (Act.put (Act.put _ (some 55) (vs 3)) (some 57) (vs 5)) (some 54) (vs 2)) _ _ else _
              rw [hn3, hn2]
              clear hn3 hn2
              rw [if_pos (by rfl)]
              have HGG := hid hg
              obtain ⟨gq, nq, rfl⟩ := hg
              obtain ⟨a4, k4, e4, h2⟩ := hn5
              conv => arg 3; rw [e4]
              clear e4
              go_simp
              refine (HSM1.out a4 k4 _ (by repeat (first | exact Grew.refl _ | refine Grew.drewN ?_ _ | refine Grew.grow ?_ _ | refine Grew.alloc ?_ _ | refine Grew.drew ?_)) h2).mono ?_
              rintro e w' ⟨rfl, gr⟩
              exact ⟨_, rfl, HGG.out.trans gr, R4.upd_same _ _ _, .inl gr⟩
            | 7, _, ho, _ =>
              obtain rfl := Option.some.inj ho
              have hn2 := (hn 2 (by decide)).2
              have hn6 := (hn 6 (by decide)).2
              try dsimp only at hn2 hn6
              change if Region.wanted _ (yielded _ (Act.tmps (Act.put (Act.put _ (some 54) (vs 2)) (some 58) (vs 6)))) = true then R4.Oper.slotAt _ _ (Act.put (Act.put _ (some 54) (vs 2)) (some 58) (vs 6)) _ _ else _
              rw [hn2, hn6]
              clear hn2 hn6
              rw [if_pos (by rfl)]
              have HGG := hid hg
              obtain ⟨gq, nq, rfl⟩ := hg
              go_simp
              exact ⟨HGG.out, R4.upd_same _ _ _, .inl (Grew.refl _)⟩
            | 8, _, ho, _ =>
              obtain rfl := Option.some.inj ho
              have hn7 := (hn 7 (by decide)).2
              try dsimp only at hn7
              change if Region.wanted _ (yielded _ (Act.tmps (Act.put _ (some 59) (vs 7)))) = true then R4.Oper.slotAt _ _ (Act.put _ (some 59) (vs 7)) _ _ else _
              rw [hn7]
              clear hn7
              rw [if_pos (by rfl)]
              have HGG := hid hg
              obtain ⟨gq, nq, rfl⟩ := hg
              go_simp
              exact ⟨HGG.out, R4.upd_same _ _ _, .inl (Grew.refl _)⟩
            | 9, _, ho, _ =>
              obtain rfl := Option.some.inj ho
              have hn8 := (hn 8 (by decide)).2
              try dsimp only at hn8
              change if Region.wanted _ (yielded _ (Act.tmps (Act.put _ (some 60) (vs 8)))) = true then R4.Oper.slotAt _ _ (Act.put _ (some 60) (vs 8)) _ _ else _
              rw [hn8]
              clear hn8
              rw [if_pos (by rfl)]
              have HGG := hid hg
              obtain ⟨gq, nq, rfl⟩ := hg
              go_simp
              exact ⟨HGG.out, R4.upd_same _ _ _, .inl (Grew.refl _)⟩
            | 10, _, ho, _ =>
              obtain rfl := Option.some.inj ho
              have hn9 := (hn 9 (by decide)).2
              have hn8 := (hn 8 (by decide)).2
              try dsimp only at hn9 hn8
              change if Region.wanted _ (yielded _ (Act.tmps (Act.put (Act.put _ (some 61) (vs 9)) (some 60) (vs 8)))) = true then R4.Oper.slotAt _ _ (Act.put (Act.put _ (some 61) (vs 9)) (some 60) (vs 8)) _ _ else _
              rw [hn9, hn8]
              clear hn9 hn8
              rw [if_pos (by rfl)]
              have HGG := hid hg
              obtain ⟨gq, nq, rfl⟩ := hg
              go_simp
              exact ⟨HGG.out, R4.upd_same _ _ _, .inl (Grew.refl _)⟩
            | 11, _, ho, _ =>
              obtain rfl := Option.some.inj ho
              have hn10 := (hn 10 (by decide)).2
              have hn8 := (hn 8 (by decide)).2
              try dsimp only at hn10 hn8
              change if Region.wanted _ (yielded _ (Act.tmps (Act.put (Act.put _ (some 62) (vs 10)) (some 60) (vs 8)))) = true then R4.Oper.slotAt _ _ (Act.put (Act.put _ (some 62) (vs 10)) (some 60) (vs 8)) _ _ else _
              rw [hn10, hn8]
              clear hn10 hn8
              rw [if_pos (by rfl)]
              have HGG := hid hg
              obtain ⟨gq, nq, rfl⟩ := hg
              go_simp
              exact ⟨HGG.out, R4.upd_same _ _ _, .inl (Grew.refl _)⟩
            | 12, _, ho, _ =>
              obtain rfl := Option.some.inj ho
              have hn11 := (hn 11 (by decide)).2
              try dsimp only at hn11
              change if Region.wanted _ (yielded _ (Act.tmps (Act.put _ (some 63) (vs 11)))) = true then R4.Oper.slotAt _ _ (Act.put _ (some 63) (vs 11)) _ _ else _
              rw [hn11]
              clear hn11
              rw [if_pos (by rfl)]
              have HGG := hid hg
              obtain ⟨gq, nq, rfl⟩ := hg
              go_simp
              exact ⟨HGG.out, R4.upd_same _ _ _, .inl (Grew.refl _)⟩
            | 13, _, ho, _ =>
              obtain rfl := Option.some.inj ho
              have hn11 := (hn 11 (by decide)).2
              try dsimp only at hn11
              change if Region.wanted _ (yielded _ (Act.tmps (Act.put _ (some 63) (vs 11)))) = true then R4.Oper.slotAt _ _ (Act.put _ (some 63) (vs 11)) _ _ else _
              rw [hn11]
              clear hn11
              rw [if_pos (by rfl)]
              have HGG := hid hg
              obtain ⟨gq, nq, rfl⟩ := hg
              go_simp
              exact ⟨HGG.out, R4.upd_same _ _ _, .inl (Grew.refl _)⟩
            | 14, _, ho, _ =>
              obtain rfl := Option.some.inj ho
              have hn13 := (hn 13 (by decide)).2
              have hn11 := (hn 11 (by decide)).2
              try dsimp only at hn13 hn11
              change if Region.wanted _ (yielded _ (Act.tmps (Act.put (Act.put _ (some 65) (vs 13)) (some 63) (vs 11)))) = true then R4.Oper.slotAt _ _ (Act.put (Act.put _ (some 65) (vs 13)) (some 63) (vs 11)) _ _ else _
              rw [hn13, hn11]
              clear hn13 hn11
              rw [if_pos (by rfl)]
              have HGG := hid hg
              obtain ⟨gq, nq, rfl⟩ := hg
              go_simp
              refine (HID.out _).mono ?_
              rintro e w' ⟨⟨a2, k2, rfl, ho⟩, gr⟩
              exact ⟨_, rfl, HGG.out.trans gr, by rw [R4.upd_same]; exact ⟨a2, k2, rfl, ho.nms⟩, .inl gr⟩
            | 15, _, ho, _ =>
              obtain rfl := Option.some.inj ho
              have hn12 := (hn 12 (by decide)).2
              have hn14 := (hn 14 (by decide)).2
              have hn11 := (hn 11 (by decide)).2
              try dsimp only at hn12 hn14 hn11
              change if Region.wanted _ (yielded _ (Act.tmps (Act.put (Act.put (Act.put _ (some 64) (vs 12)) (some 66) (vs 14)) (some 63) (vs 11)))) = true then R4.Oper.slotAt _ _ (Act.put (Act.put (Act.put _ (some 64) (vs 12)) (some 66) (vs 14)) (some 63) (vs 11)) _ _ else _
              rw [hn12, hn11]
              clear hn12 hn11
              rw [if_pos (by rfl)]
              have HGG := hid hg
              obtain ⟨gq, nq, rfl⟩ := hg
              obtain ⟨a3, k3, e4, h2⟩ := hn14
              conv => arg 3; rw [e4]
              clear e4
              go_simp
              refine (HSM2.out a3 k3 _ (by repeat (first | exact Grew.refl _ | refine Grew.drewN ?_ _ | refine Grew.grow ?_ _ | refine Grew.alloc ?_ _ | refine Grew.drew ?_)) h2).mono ?_
              rintro e w' ⟨rfl, gr⟩
              exact ⟨_, rfl, HGG.out.trans gr, R4.upd_same _ _ _, .inl gr⟩
            | 16, _, ho, _ =>
              obtain rfl := Option.some.inj ho
              have hn11 := (hn 11 (by decide)).2
              have hn15 := (hn 15 (by decide)).2
              have hn8 := (hn 8 (by decide)).2
              try dsimp only at hn11 hn15 hn8
              change if Region.wanted _ (yielded _ (Act.tmps (Act.put (Act.put (Act.put _ (some 63) (vs 11)) (some 67) (vs 15)) (some 60) (vs 8)))) = true then R4.Oper.slotAt _ _ (Act.put (Act.put (Act.put _ (some 63) (vs 11)) (some 67) (vs 15)) (some 60) (vs 8)) _ _ else _
              rw [hn11, hn15, hn8]
              clear hn11 hn15 hn8
              rw [if_pos (by rfl)]
              have HGG := hid hg
              obtain ⟨gq, nq, rfl⟩ := hg
              go_simp
              exact ⟨HGG.out, R4.upd_same _ _ _, .inl (Grew.refl _)⟩
            | 17, _, ho, _ =>
              obtain rfl := Option.some.inj ho
              have hn8 := (hn 8 (by decide)).2
              have hn16 := (hn 16 (by decide)).2
              try dsimp only at hn8 hn16
              change if Region.wanted _ (yielded _ (Act.tmps (Act.put (Act.put _ (some 60) (vs 8)) (some 68) (vs 16)))) = true then R4.Oper.slotAt _ _ (Act.put (Act.put _ (some 60) (vs 8)) (some 68) (vs 16)) _ _ else _
              rw [hn8, hn16]
              clear hn8 hn16
              rw [if_pos (by rfl)]
              have HGG := hid hg
              obtain ⟨gq, nq, rfl⟩ := hg
              go_simp
              exact ⟨HGG.out, R4.upd_same _ _ _, .inl (Grew.refl _)⟩
            | 18, _, ho, _ =>
              obtain rfl := Option.some.inj ho
              have hn17 := (hn 17 (by decide)).2
              try dsimp only at hn17
              change if Region.wanted _ (yielded _ (Act.tmps (Act.put _ (some 69) (vs 17)))) = true then R4.Oper.slotAt _ _ (Act.put _ (some 69) (vs 17)) _ _ else _
              rw [hn17]
              clear hn17
              rw [if_pos (by rfl)]
              have HGG := hid hg
              obtain ⟨gq, nq, rfl⟩ := hg
              go_simp
              exact ⟨HGG.out, R4.upd_same _ _ _, .inl (Grew.refl _)⟩
            | 19, _, ho, _ =>
              obtain rfl := Option.some.inj ho
              have hn18 := (hn 18 (by decide)).2
              try dsimp only at hn18
              change if Region.wanted _ (yielded _ (Act.tmps (Act.put _ (some 70) (vs 18)))) = true then R4.Oper.slotAt _ _ (Act.put _ (some 70) (vs 18)) _ _ else _
              rw [hn18]
              clear hn18
              rw [if_pos (by rfl)]
              have HGG := hid hg
              obtain ⟨gq, nq, rfl⟩ := hg
              go_simp
              refine (awake_any _).mono ?_
              rintro e w' ⟨rfl, gr⟩
              exact ⟨_, rfl, HGG.out.trans gr, R4.upd_same _ _ _, .inl gr⟩
            | 20, _, ho, _ =>
              obtain rfl := Option.some.inj ho
              have hn18 := (hn 18 (by decide)).2
              have hn19 := (hn 19 (by decide)).2
              try dsimp only at hn18 hn19
              change if Region.wanted _ (yielded _ (Act.tmps (Act.put (Act.put _ (some 70) (vs 18)) (some 71) (vs 19)))) = true then R4.Oper.slotAt _ _ (Act.put (Act.put _ (some 70) (vs 18)) (some 71) (vs 19)) _ _ else _
              rw [hn18, hn19]
              clear hn18 hn19
              rw [if_pos (by rfl)]
              have HGG := hid hg
              obtain ⟨gq, nq, rfl⟩ := hg
              go_simp
              exact ⟨HGG.out, R4.upd_same _ _ _, .inl (Grew.refl _)⟩
            | kx + 21, hix, _, _ => exact absurd hix (by omega)
          case slq =>
            intro vs W3 hg hn
            have hn20 : vs 20 = .bool true := hn 20 (by decide) (by decide)
            change wpList _ _ _ _ (Act.put (Act.put (Act.put (Act.put (Act.put (Act.put (Act.put (Act.put (Act.put (Act.put (Act.put (Act.put (Act.put (Act.put (Act.put (Act.put (Act.put (Act.put (Act.put (Act.put (Act.put _ (some 52) (vs 0)) (some 53) (vs 1)) (some 54) (vs 2)) (some 55) (vs 3)) (some 56) (vs 4)) (some 57) (vs 5)) (some 58) (vs 6)) (some 59) (vs 7)) (some 60) (vs 8)) (some 61) (vs 9)) (some 62) (vs 10)) (some 63) (vs 11)) (some 64) (vs 12)) (some 65) (vs 13)) (some 66) (vs 14)) (some 67) (vs 15)) (some 68) (vs 16)) (some 69) (vs 17)) (some 70) (vs 18)) (some 71) (vs 19)) (some 72) (vs 20)) _
            simp only [Act.put, List.setIfInBounds_toArray, List.set_cons_zero, List.set_cons_succ, List.drop_succ_cons, List.drop_zero, hn20]
            have HG3 : Hid (Grew w W3) := HGW.out.trans (HGB2.out.trans hg)
            clear hn hn20 hg
            go_wp2_with fail
            go_ret
            exact ⟨rfl, HG3.out⟩
        · have e2 : (f2 != 0) = true := by simpa using hf2
          clear hf2
          refine R4.wp_region_slotsG 21 (fun ix vs W => match ix with | 0 => vs 0 = .int .i64 f1 | 1 => vs 1 = .bool false | 2 => vs 2 = .bool false | 3 => vs 3 = .agg #[.int .i64 n, .slice a1 r1.length k1] | 4 => vs 4 = .int .i64 n | 5 => MatV (vs 5) W n (idN n) | 6 => vs 6 = .bool true | 7 => vs 7 = .bool true | 8 => vs 8 = .bool true | 9 => vs 9 = .int .i64 f2 | 10 => vs 10 = .bool true | 11 => vs 11 = .bool true | 12 => vs 12 = undef | 13 => vs 13 = undef | 14 => vs 14 = undef | 15 => vs 15 = undef | 16 => vs 16 = .bool true | 17 => vs 17 = .bool true | 18 => vs 18 = .bool true | 19 => vs 19 = .bool true | 20 => vs 20 = .bool true | _ => True) (fun _ W => Grew W2 W) (by kernel_rfl) (by kernel_rfl) ?slst ?sldep (Grew.refl _).drew ?slop ?slq
          case slst =>
            intro ix vs W W' h hg
            match ix, h with
            | 0, h => exact h
            | 1, h => exact h
            | 2, h => exact h
            | 3, h => exact h
            | 4, h => exact h
            | 5, h => exact MatV.grew h hg
            | 6, h => exact h
            | 7, h => exact h
            | 8, h => exact h
            | 9, h => exact h
            | 10, h => exact h
            | 11, h => exact h
            | 12, h => exact h
            | 13, h => exact h
            | 14, h => exact h
            | 15, h => exact h
            | 16, h => exact h
            | 17, h => exact h
            | 18, h => exact h
            | 19, h => exact h
            | 20, h => exact h
            | _ + 21, _ => trivial
          case sldep =>
            intro ix o vs vs' W hix ho h hv hn
            match ix, hix, ho, h, hv with
            | 0, _, _, h, hv => exact Eq.trans hv h
            | 1, _, _, h, hv => exact Eq.trans hv h
            | 2, _, _, h, hv => exact Eq.trans hv h
            | 3, _, _, h, hv => exact Eq.trans hv h
            | 4, _, _, h, hv => exact Eq.trans hv h
            | 5, _, _, h, hv => show MatV (vs' 5) W n (idN n); rw [hv]; exact h
            | 6, _, _, h, hv => exact Eq.trans hv h
            | 7, _, _, h, hv => exact Eq.trans hv h
            | 8, _, _, h, hv => exact Eq.trans hv h
            | 9, _, _, h, hv => exact Eq.trans hv h
            | 10, _, _, h, hv => exact Eq.trans hv h
            | 11, _, _, h, hv => exact Eq.trans hv h
            | 12, _, _, h, hv => exact Eq.trans hv h
            | 13, _, _, h, hv => exact Eq.trans hv h
            | 14, _, _, h, hv => exact Eq.trans hv h
            | 15, _, _, h, hv => exact Eq.trans hv h
            | 16, _, _, h, hv => exact Eq.trans hv h
            | 17, _, _, h, hv => exact Eq.trans hv h
            | 18, _, _, h, hv => exact Eq.trans hv h
            | 19, _, _, h, hv => exact Eq.trans hv h
            | 20, _, _, h, hv => exact Eq.trans hv h
            | kx + 21, hix, _, _, _ => exact absurd hix (by omega)
          case slop =>
            intro ix o hix ho vs W L hg hL hn _ _
            match ix, hix, ho, hL with
            | 0, _, ho, _ =>
              obtain rfl := Option.some.inj ho
              change if Region.wanted _ (yielded _ (Act.tmps { tmps := _, defers := _ })) = true then R4.Oper.slotAt _ _ { tmps := _, defers := _ } _ _ else _
              rw [if_pos (by rfl)]
              have HGG := hid hg
              obtain ⟨gq, nq, rfl⟩ := hg
              go_simp
              exact ⟨HGG.out, R4.upd_same _ _ _, .inl (Grew.refl _)⟩
            | 1, _, ho, _ =>
              obtain rfl := Option.some.inj ho
              have hn0 := (hn 0 (by decide)).2
              try dsimp only at hn0
              change if Region.wanted _ (yielded _ (Act.tmps (Act.put _ (some 52) (vs 0)))) = true then R4.Oper.slotAt _ _ (Act.put _ (some 52) (vs 0)) _ _ else _
              rw [hn0]
              clear hn0
              rw [if_pos (by rfl)]
              have HGG := hid hg
              obtain ⟨gq, nq, rfl⟩ := hg
              go_simp
              exact ⟨HGG.out, R4.upd_same _ _ _, .inl (Grew.refl _)⟩
            | 2, _, ho, _ =>
              obtain rfl := Option.some.inj ho
              have hn1 := (hn 1 (by decide)).2
              try dsimp only at hn1
              change if Region.wanted _ (yielded _ (Act.tmps (Act.put _ (some 53) (vs 1)))) = true then R4.Oper.slotAt _ _ (Act.put _ (some 53) (vs 1)) _ _ else _
              rw [hn1]
              clear hn1
              rw [if_pos (by rfl)]
              have HGG := hid hg
              obtain ⟨gq, nq, rfl⟩ := hg
              go_simp
              exact ⟨HGG.out, R4.upd_same _ _ _, .inl (Grew.refl _)⟩
            | 3, _, ho, _ =>
              obtain rfl := Option.some.inj ho
              have hn2 := (hn 2 (by decide)).2
              try dsimp only at hn2
              change if Region.wanted _ (yielded _ (Act.tmps (Act.put _ (some 54) (vs 2)))) = true then R4.Oper.slotAt _ _ (Act.put _ (some 54) (vs 2)) _ _ else _
              rw [hn2]
              clear hn2
              rw [if_pos (by rfl)]
              have HGG := hid hg
              obtain ⟨gq, nq, rfl⟩ := hg
              go_simp
              exact ⟨HGG.out, R4.upd_same _ _ _, .inl (Grew.refl _)⟩
            | 4, _, ho, _ =>
              obtain rfl := Option.some.inj ho
              have hn2 := (hn 2 (by decide)).2
              try dsimp only at hn2
              change if Region.wanted _ (yielded _ (Act.tmps (Act.put _ (some 54) (vs 2)))) = true then R4.Oper.slotAt _ _ (Act.put _ (some 54) (vs 2)) _ _ else _
              rw [hn2]
              clear hn2
              rw [if_pos (by rfl)]
              have HGG := hid hg
              obtain ⟨gq, nq, rfl⟩ := hg
              go_simp
              exact ⟨HGG.out, R4.upd_same _ _ _, .inl (Grew.refl _)⟩
            | 5, _, ho, _ =>
              obtain rfl := Option.some.inj ho
              have hn4 := (hn 4 (by decide)).2
              have hn2 := (hn 2 (by decide)).2
              try dsimp only at hn4 hn2
              change if Region.wanted _ (yielded _ (Act.tmps (Act.put (Act.put _ (some 56) (vs 4)) (some 54) (vs 2)))) = true then R4.Oper.slotAt _ _ (Act.put (Act.put _ (some 56) (vs 4)) (some 54) (vs 2)) _ _ else _
              rw [hn4, hn2]
              clear hn4 hn2
              rw [if_pos (by rfl)]
              have HGG := hid hg
              obtain ⟨gq, nq, rfl⟩ := hg
              go_simp
              refine (HID.out _).mono ?_
              rintro e w' ⟨⟨a2, k2, rfl, ho⟩, gr⟩
              exact ⟨_, rfl, HGG.out.trans gr, by rw [R4.upd_same]; exact ⟨a2, k2, rfl, ho.nms⟩, .inl gr⟩
            | 6, _, ho, _ =>
              obtain rfl := Option.some.inj ho
              have hn3 := (hn 3 (by decide)).2
              have hn5 := (hn 5 (by decide)).2
              have hn2 := (hn 2 (by decide)).2
              try dsimp only at hn3 hn5 hn2
              change if Region.wanted _ (yielded _ (Act.tmps (Act.put (Act.put (Act.put _ (some 55) (vs 3)) (some 57) (vs 5)) (some 54) (vs 2)))) = true then R4.Oper.slotAt _ _ (Act.put (Act.put (Act.put _ (some 55) (vs 3)) (some 57) (vs 5)) (some 54) (vs 2)) _ _ else _
              rw [hn3, hn2]
              clear hn3 hn2
              rw [if_pos (by rfl)]
              have HGG := hid hg
              obtain ⟨gq, nq, rfl⟩ := hg
              obtain ⟨a4, k4, e4, h2⟩ := hn5
              conv => arg 3; rw [e4]
              clear e4
              go_simp
              refine (HSM1.out a4 k4 _ (by repeat (first | exact Grew.refl _ | refine Grew.drewN ?_ _ | refine Grew.grow ?_ _ | refine Grew.alloc ?_ _ | refine Grew.drew ?_)) h2).mono ?_
              rintro e w' ⟨rfl, gr⟩
              exact ⟨_, rfl, HGG.out.trans gr, R4.upd_same _ _ _, .inl gr⟩
            | 7, _, ho, _ =>
              obtain rfl := Option.some.inj ho
              have hn2 := (hn 2 (by decide)).2
              have hn6 := (hn 6 (by decide)).2
              try dsimp only at hn2 hn6
              change if Region.wanted _ (yielded _ (Act.tmps (Act.put (Act.put _ (some 54) (vs 2)) (some 58) (vs 6)))) = true then R4.Oper.slotAt _ _ (Act.put (Act.put _ (some 54) (vs 2)) (some 58) (vs 6)) _ _ else _
              rw [hn2, hn6]
              clear hn2 hn6
              rw [if_pos (by rfl)]
              have HGG := hid hg
              obtain ⟨gq, nq, rfl⟩ := hg
              go_simp
              exact ⟨HGG.out, R4.upd_same _ _ _, .inl (Grew.refl _)⟩
            | 8, _, ho, _ =>
              obtain rfl := Option.some.inj ho
              have hn7 := (hn 7 (by decide)).2
              try dsimp only at hn7
              change if Region.wanted _ (yielded _ (Act.tmps (Act.put _ (some 59) (vs 7)))) = true then R4.Oper.slotAt _ _ (Act.put _ (some 59) (vs 7)) _ _ else _
              rw [hn7]
              clear hn7
              rw [if_pos (by rfl)]
              have HGG := hid hg
              obtain ⟨gq, nq, rfl⟩ := hg
              go_simp
              exact ⟨HGG.out, R4.upd_same _ _ _, .inl (Grew.refl _)⟩
            | 9, _, ho, _ =>
              obtain rfl := Option.some.inj ho
              have hn8 := (hn 8 (by decide)).2
              try dsimp only at hn8
              change if Region.wanted _ (yielded _ (Act.tmps (Act.put _ (some 60) (vs 8)))) = true then R4.Oper.slotAt _ _ (Act.put _ (some 60) (vs 8)) _ _ else _
              rw [hn8]
              clear hn8
              rw [if_pos (by rfl)]
              have HGG := hid hg
              obtain ⟨gq, nq, rfl⟩ := hg
              go_simp
              exact ⟨HGG.out, R4.upd_same _ _ _, .inl (Grew.refl _)⟩
            | 10, _, ho, _ =>
              obtain rfl := Option.some.inj ho
              have hn9 := (hn 9 (by decide)).2
              have hn8 := (hn 8 (by decide)).2
              try dsimp only at hn9 hn8
              change if Region.wanted _ (yielded _ (Act.tmps (Act.put (Act.put _ (some 61) (vs 9)) (some 60) (vs 8)))) = true then R4.Oper.slotAt _ _ (Act.put (Act.put _ (some 61) (vs 9)) (some 60) (vs 8)) _ _ else _
              rw [hn9, hn8]
              clear hn9 hn8
              rw [if_pos (by rfl)]
              have HGG := hid hg
              obtain ⟨gq, nq, rfl⟩ := hg
              go_simp
              exact ⟨HGG.out, R4.upd_same _ _ _, .inl (Grew.refl _)⟩
            | 11, _, ho, _ =>
              obtain rfl := Option.some.inj ho
              have hn10 := (hn 10 (by decide)).2
              have hn8 := (hn 8 (by decide)).2
              try dsimp only at hn10 hn8
              change if Region.wanted _ (yielded _ (Act.tmps (Act.put (Act.put _ (some 62) (vs 10)) (some 60) (vs 8)))) = true then R4.Oper.slotAt _ _ (Act.put (Act.put _ (some 62) (vs 10)) (some 60) (vs 8)) _ _ else _
              rw [hn10, hn8]
              clear hn10 hn8
              rw [if_pos (by rfl)]
              have HGG := hid hg
              obtain ⟨gq, nq, rfl⟩ := hg
              go_simp
              exact ⟨HGG.out, R4.upd_same _ _ _, .inl (Grew.refl _)⟩
            | 12, _, ho, _ =>
              obtain rfl := Option.some.inj ho
              have hn11 := (hn 11 (by decide)).2
              try dsimp only at hn11
              change if Region.wanted _ (yielded _ (Act.tmps (Act.put _ (some 63) (vs 11)))) = true then R4.Oper.slotAt _ _ (Act.put _ (some 63) (vs 11)) _ _ else _
              rw [hn11]
              rw [if_neg (by show ¬ (false = true); exact Bool.false_ne_true)]
              exact ⟨hg, R4.upd_same _ _ _⟩
            | 13, _, ho, _ =>
              obtain rfl := Option.some.inj ho
              have hn11 := (hn 11 (by decide)).2
              try dsimp only at hn11
              change if Region.wanted _ (yielded _ (Act.tmps (Act.put _ (some 63) (vs 11)))) = true then R4.Oper.slotAt _ _ (Act.put _ (some 63) (vs 11)) _ _ else _
              rw [hn11]
              rw [if_neg (by show ¬ (false = true); exact Bool.false_ne_true)]
              exact ⟨hg, R4.upd_same _ _ _⟩
            | 14, _, ho, _ =>
              obtain rfl := Option.some.inj ho
              have hn13 := (hn 13 (by decide)).2
              have hn11 := (hn 11 (by decide)).2
              try dsimp only at hn13 hn11
              change if Region.wanted _ (yielded _ (Act.tmps (Act.put (Act.put _ (some 65) (vs 13)) (some 63) (vs 11)))) = true then R4.Oper.slotAt _ _ (Act.put (Act.put _ (some 65) (vs 13)) (some 63) (vs 11)) _ _ else _
              rw [hn13, hn11]
              rw [if_neg (by show ¬ (false = true); exact Bool.false_ne_true)]
              exact ⟨hg, R4.upd_same _ _ _⟩
            | 15, _, ho, _ =>
              obtain rfl := Option.some.inj ho
              have hn12 := (hn 12 (by decide)).2
              have hn14 := (hn 14 (by decide)).2
              have hn11 := (hn 11 (by decide)).2
              try dsimp only at hn12 hn14 hn11
              change if Region.wanted _ (yielded _ (Act.tmps (Act.put (Act.put (Act.put _ (some 64) (vs 12)) (some 66) (vs 14)) (some 63) (vs 11)))) = true then R4.Oper.slotAt _ _ (Act.put (Act.put (Act.put _ (some 64) (vs 12)) (some 66) (vs 14)) (some 63) (vs 11)) _ _ else _
              rw [hn12, hn14, hn11]
              rw [if_neg (by show ¬ (false = true); exact Bool.false_ne_true)]
              exact ⟨hg, R4.upd_same _ _ _⟩
            | 16, _, ho, _ =>
              obtain rfl := Option.some.inj ho
              have hn11 := (hn 11 (by decide)).2
              have hn15 := (hn 15 (by decide)).2
              have hn8 := (hn 8 (by decide)).2
              try dsimp only at hn11 hn15 hn8
              change if Region.wanted _ (yielded _ (Act.tmps (Act.put (Act.put (Act.put _ (some 63) (vs 11)) (some 67) (vs 15)) (some 60) (vs 8)))) = true then R4.Oper.slotAt _ _ (Act.put (Act.put (Act.put _ (some 63) (vs 11)) (some 67) (vs 15)) (some 60) (vs 8)) _ _ else _
              rw [hn11, hn15, hn8]
              clear hn11 hn15 hn8
              rw [if_pos (by rfl)]
              have HGG := hid hg
              obtain ⟨gq, nq, rfl⟩ := hg
              go_simp
              exact ⟨HGG.out, R4.upd_same _ _ _, .inl (Grew.refl _)⟩
            | 17, _, ho, _ =>
              obtain rfl := Option.some.inj ho
              have hn8 := (hn 8 (by decide)).2
              have hn16 := (hn 16 (by decide)).2
              try dsimp only at hn8 hn16
              change if Region.wanted _ (yielded _ (Act.tmps (Act.put (Act.put _ (some 60) (vs 8)) (some 68) (vs 16)))) = true then R4.Oper.slotAt _ _ (Act.put (Act.put _ (some 60) (vs 8)) (some 68) (vs 16)) _ _ else _
              rw [hn8, hn16]
              clear hn8 hn16
              rw [if_pos (by rfl)]
              have HGG := hid hg
              obtain ⟨gq, nq, rfl⟩ := hg
              go_simp
              exact ⟨HGG.out, R4.upd_same _ _ _, .inl (Grew.refl _)⟩
            | 18, _, ho, _ =>
              obtain rfl := Option.some.inj ho
              have hn17 := (hn 17 (by decide)).2
              try dsimp only at hn17
              change if Region.wanted _ (yielded _ (Act.tmps (Act.put _ (some 69) (vs 17)))) = true then R4.Oper.slotAt _ _ (Act.put _ (some 69) (vs 17)) _ _ else _
              rw [hn17]
              clear hn17
              rw [if_pos (by rfl)]
              have HGG := hid hg
              obtain ⟨gq, nq, rfl⟩ := hg
              go_simp
              exact ⟨HGG.out, R4.upd_same _ _ _, .inl (Grew.refl _)⟩
            | 19, _, ho, _ =>
              obtain rfl := Option.some.inj ho
              have hn18 := (hn 18 (by decide)).2
              try dsimp only at hn18
              change if Region.wanted _ (yielded _ (Act.tmps (Act.put _ (some 70) (vs 18)))) = true then R4.Oper.slotAt _ _ (Act.put _ (some 70) (vs 18)) _ _ else _
              rw [hn18]
              clear hn18
              rw [if_pos (by rfl)]
              have HGG := hid hg
              obtain ⟨gq, nq, rfl⟩ := hg
              go_simp
              refine (awake_any _).mono ?_
              rintro e w' ⟨rfl, gr⟩
              exact ⟨_, rfl, HGG.out.trans gr, R4.upd_same _ _ _, .inl gr⟩
            | 20, _, ho, _ =>
              obtain rfl := Option.some.inj ho
              have hn18 := (hn 18 (by decide)).2
              have hn19 := (hn 19 (by decide)).2
              try dsimp only at hn18 hn19
              change if Region.wanted _ (yielded _ (Act.tmps (Act.put (Act.put _ (some 70) (vs 18)) (some 71) (vs 19)))) = true then R4.Oper.slotAt _ _ (Act.put (Act.put _ (some 70) (vs 18)) (some 71) (vs 19)) _ _ else _
              rw [hn18, hn19]
              clear hn18 hn19
              rw [if_pos (by rfl)]
              have HGG := hid hg
              obtain ⟨gq, nq, rfl⟩ := hg
              go_simp
              exact ⟨HGG.out, R4.upd_same _ _ _, .inl (Grew.refl _)⟩
            | kx + 21, hix, _, _ => exact absurd hix (by omega)
          case slq =>
            intro vs W3 hg hn
            have hn20 : vs 20 = .bool true := hn 20 (by decide) (by decide)
            change wpList _ _ _ _ (Act.put (Act.put (Act.put (Act.put (Act.put (Act.put (Act.put (Act.put (Act.put (Act.put (Act.put (Act.put (Act.put (Act.put (Act.put (Act.put (Act.put (Act.put (Act.put (Act.put (Act.put _ (some 52) (vs 0)) (some 53) (vs 1)) (some 54) (vs 2)) (some 55) (vs 3)) (some 56) (vs 4)) (some 57) (vs 5)) (some 58) (vs 6)) (some 59) (vs 7)) (some 60) (vs 8)) (some 61) (vs 9)) (some 62) (vs 10)) (some 63) (vs 11)) (some 64) (vs 12)) (some 65) (vs 13)) (some 66) (vs 14)) (some 67) (vs 15)) (some 68) (vs 16)) (some 69) (vs 17)) (some 70) (vs 18)) (some 71) (vs 19)) (some 72) (vs 20)) _
            simp only [Act.put, List.setIfInBounds_toArray, List.set_cons_zero, List.set_cons_succ, List.drop_succ_cons, List.drop_zero, hn20]
            have HG3 : Hid (Grew w W3) := HGW.out.trans (HGB2.out.trans hg)
            clear hn hn20 hg
            go_wp2_with fail
            go_ret
            exact ⟨rfl, HG3.out⟩
      · have e1 : (f1 != 0) = true := by simpa using hf1
        clear hf1
        by_cases hf2 : f2 = 0
        · have HSM2 := hid (HSM2.out hf2)
          have e2 : (f2 != 0) = false := by simp [hf2]
          obtain rfl : N2 = (n : Int) := by rw [← HN2.out, rowsOf, if_pos hf2]
          clear hf2
          refine R4.wp_region_slotsG 21 (fun ix vs W => match ix with | 0 => vs 0 = .int .i64 f1 | 1 => vs 1 = .bool true | 2 => vs 2 = .bool true | 3 => vs 3 = undef | 4 => vs 4 = undef | 5 => vs 5 = undef | 6 => vs 6 = undef | 7 => vs 7 = .bool true | 8 => vs 8 = .bool true | 9 => vs 9 = .int .i64 f2 | 10 => vs 10 = .bool false | 11 => vs 11 = .bool false | 12 => vs 12 = .agg #[.int .i64 n, .slice a2 r2.length k2] | 13 => vs 13 = .int .i64 n | 14 => MatV (vs 14) W n (idN n) | 15 => vs 15 = .bool true | 16 => vs 16 = .bool true | 17 => vs 17 = .bool true | 18 => vs 18 = .bool true | 19 => vs 19 = .bool true | 20 => vs 20 = .bool true | _ => True) (fun _ W => Grew W2 W) (by kernel_rfl) (by kernel_rfl) ?slst ?sldep (Grew.refl _).drew ?slop ?slq
          case slst =>
            intro ix vs W W' h hg
            match ix, h with
            | 0, h => exact h
            | 1, h => exact h
            | 2, h => exact h
            | 3, h => exact h
            | 4, h => exact h
            | 5, h => exact h
            | 6, h => exact h
            | 7, h => exact h
            | 8, h => exact h
            | 9, h => exact h
            | 10, h => exact h
            | 11, h => exact h
            | 12, h => exact h
            | 13, h => exact h
            | 14, h => exact MatV.grew h hg
            | 15, h => exact h
            | 16, h => exact h
            | 17, h => exact h
            | 18, h => exact h
            | 19, h => exact h
            | 20, h => exact h
            | _ + 21, _ => trivial
          case sldep =>
            intro ix o vs vs' W hix ho h hv hn
            match ix, hix, ho, h, hv with
            | 0, _, _, h, hv => exact Eq.trans hv h
            | 1, _, _, h, hv => exact Eq.trans hv h
            | 2, _, _, h, hv => exact Eq.trans hv h
            | 3, _, _, h, hv => exact Eq.trans hv h
            | 4, _, _, h, hv => exact Eq.trans hv h
            | 5, _, _, h, hv => exact Eq.trans hv h
            | 6, _, _, h, hv => exact Eq.trans hv h
            | 7, _, _, h, hv => exact Eq.trans hv h
            | 8, _, _, h, hv => exact Eq.trans hv h
            | 9, _, _, h, hv => exact Eq.trans hv h
            | 10, _, _, h, hv => exact Eq.trans hv h
            | 11, _, _, h, hv => exact Eq.trans hv h
            | 12, _, _, h, hv => exact Eq.trans hv h
            | 13, _, _, h, hv => exact Eq.trans hv h
            | 14, _, _, h, hv => show MatV (vs' 14) W n (idN n); rw [hv]; exact h
            | 15, _, _, h, hv => exact Eq.trans hv h
            | 16, _, _, h, hv => exact Eq.trans hv h
            | 17, _, _, h, hv => exact Eq.trans hv h
            | 18, _, _, h, hv => exact Eq.trans hv h
            | 19, _, _, h, hv => exact Eq.trans hv h
            | 20, _, _, h, hv => exact Eq.trans hv h
            | kx + 21, hix, _, _, _ => exact absurd hix (by omega)
          case slop =>
            intro ix o hix ho vs W L hg hL hn _ _
            match ix, hix, ho, hL with
            | 0, _, ho, _ =>
              obtain rfl := Option.some.inj ho
              change if Region.wanted _ (yielded _ (Act.tmps { tmps := _, defers := _ })) = true then R4.Oper.slotAt _ _ { tmps := _, defers := _ } _ _ else _
              rw [if_pos (by rfl)]
              have HGG := hid hg
              obtain ⟨gq, nq, rfl⟩ := hg
              go_simp
              exact ⟨HGG.out, R4.upd_same _ _ _, .inl (Grew.refl _)⟩
            | 1, _, ho, _ =>
              obtain rfl := Option.some.inj ho
              have hn0 := (hn 0 (by decide)).2
              try dsimp only at hn0
              change if Region.wanted _ (yielded _ (Act.tmps (Act.put _ (some 52) (vs 0)))) = true then R4.Oper.slotAt _ _ (Act.put _ (some 52) (vs 0)) _ _ else _
              rw [hn0]
              clear hn0
              rw [if_pos (by rfl)]
              have HGG := hid hg
              obtain ⟨gq, nq, rfl⟩ := hg
              go_simp
              exact ⟨HGG.out, R4.upd_same _ _ _, .inl (Grew.refl _)⟩
            | 2, _, ho, _ =>
              obtain rfl := Option.some.inj ho
              have hn1 := (hn 1 (by decide)).2
              try dsimp only at hn1
              change if Region.wanted _ (yielded _ (Act.tmps (Act.put _ (some 53) (vs 1)))) = true then R4.Oper.slotAt _ _ (Act.put _ (some 53) (vs 1)) _ _ else _
              rw [hn1]
              clear hn1
              rw [if_pos (by rfl)]
              have HGG := hid hg
              obtain ⟨gq, nq, rfl⟩ := hg
              go_simp
              exact ⟨HGG.out, R4.upd_same _ _ _, .inl (Grew.refl _)⟩
            | 3, _, ho, _ =>
              obtain rfl := Option.some.inj ho
              have hn2 := (hn 2 (by decide)).2
              try dsimp only at hn2
              change if Region.wanted _ (yielded _ (Act.tmps (Act.put _ (some 54) (vs 2)))) = true then R4.Oper.slotAt _ _ (Act.put _ (some 54) (vs 2)) _ _ else _
              rw [hn2]
              rw [if_neg (by show ¬ (false = true); exact Bool.false_ne_true)]
              exact ⟨hg, R4.upd_same _ _ _⟩
            | 4, _, ho, _ =>
              obtain rfl := Option.some.inj ho
              have hn2 := (hn 2 (by decide)).2
              try dsimp only at hn2
              change if Region.wanted _ (yielded _ (Act.tmps (Act.put _ (some 54) (vs 2)))) = true then R4.Oper.slotAt _ _ (Act.put _ (some 54) (vs 2)) _ _ else _
              rw [hn2]
              rw [if_neg (by show ¬ (false = true); exact Bool.false_ne_true)]
              exact ⟨hg, R4.upd_same _ _ _⟩
            | 5, _, ho, _ =>
              obtain rfl := Option.some.inj ho
              have hn4 := (hn 4 (by decide)).2
              have hn2 := (hn 2 (by decide)).2
              try dsimp only at hn4 hn2
              change if Region.wanted _ (yielded _ (Act.tmps (Act.put (Act.put _ (some 56) (vs 4)) (some 54) (vs 2)))) = true then R4.Oper.slotAt _ _ (Act.put (Act.put _ (some 56) (vs 4)) (some 54) (vs 2)) _ _ else _
              rw [hn4, hn2]
              rw [if_neg (by show ¬ (false = true); exact Bool.false_ne_true)]
              exact ⟨hg, R4.upd_same _ _ _⟩
            | 6, _, ho, _ =>
              obtain rfl := Option.some.inj ho
              have hn3 := (hn 3 (by decide)).2
              have hn5 := (hn 5 (by decide)).2
              have hn2 := (hn 2 (by decide)).2
              try dsimp only at hn3 hn5 hn2
              change if Region.wanted _ (yielded _ (Act.tmps (Act.put (Act.put (Act.put _ (some 55) (vs 3)) (some 57) (vs 5)) (some 54) (vs 2)))) = true then R4.Oper.slotAt _ _ (Act.put (Act.put (Act.put _ (some 55) (vs 3)) (some 57) (vs 5)) (some 54) (vs 2)) _ _ else _
              rw [hn3, hn5, hn2]
              rw [if_neg (by show ¬ (false = true); exact Bool.false_ne_true)]
              exact ⟨hg, R4.upd_same _ _ _⟩
            | 7, _, ho, _ =>
              obtain rfl := Option.some.inj ho
              have hn2 := (hn 2 (by decide)).2
              have hn6 := (hn 6 (by decide)).2
              try dsimp only at hn2 hn6
              change if Region.wanted _ (yielded _ (Act.tmps (Act.put (Act.put _ (some 54) (vs 2)) (some 58) (vs 6)))) = true then R4.Oper.slotAt _ _ (Act.put (Act.put _ (some 54) (vs 2)) (some 58) (vs 6)) _ _ else _
              rw [hn2, hn6]
              clear hn2 hn6
              rw [if_pos (by rfl)]
              have HGG := hid hg
              obtain ⟨gq, nq, rfl⟩ := hg
              go_simp
              exact ⟨HGG.out, R4.upd_same _ _ _, .inl (Grew.refl _)⟩
            | 8, _, ho, _ =>
              obtain rfl := Option.some.inj ho
              have hn7 := (hn 7 (by decide)).2
              try dsimp only at hn7
              change if Region.wanted _ (yielded _ (Act.tmps (Act.put _ (some 59) (vs 7)))) = true then R4.Oper.slotAt _ _ (Act.put _ (some 59) (vs 7)) _ _ else _
              rw [hn7]
              clear hn7
              rw [if_pos (by rfl)]
              have HGG := hid hg
              obtain ⟨gq, nq, rfl⟩ := hg
              go_simp
              exact ⟨HGG.out, R4.upd_same _ _ _, .inl (Grew.refl _)⟩
            | 9, _, ho, _ =>
              obtain rfl := Option.some.inj ho
              have hn8 := (hn 8 (by decide)).2
              try dsimp only at hn8
              change if Region.wanted _ (yielded _ (Act.tmps (Act.put _ (some 60) (vs 8)))) = true then R4.Oper.slotAt _ _ (Act.put _ (some 60) (vs 8)) _ _ else _
              rw [hn8]
              clear hn8
              rw [if_pos (by rfl)]
              have HGG := hid hg
              obtain ⟨gq, nq, rfl⟩ := hg
              go_simp
              exact ⟨HGG.out, R4.upd_same _ _ _, .inl (Grew.refl _)⟩
            | 10, _, ho, _ =>
              obtain rfl := Option.some.inj ho
              have hn9 := (hn 9 (by decide)).2
              have hn8 := (hn 8 (by decide)).2
              try dsimp only at hn9 hn8
              change if Region.wanted _ (yielded _ (Act.tmps (Act.put (Act.put _ (some 61) (vs 9)) (some 60) (vs 8)))) = true then R4.Oper.slotAt _ _ (Act.put (Act.put _ (some 61) (vs 9)) (some 60) (vs 8)) _ _ else _
              rw [hn9, hn8]
              clear hn9 hn8
              rw [if_pos (by rfl)]
              have HGG := hid hg
              obtain ⟨gq, nq, rfl⟩ := hg
              go_simp
              exact ⟨HGG.out, R4.upd_same _ _ _, .inl (Grew.refl _)⟩
            | 11, _, ho, _ =>
              obtain rfl := Option.some.inj ho
              have hn10 := (hn 10 (by decide)).2
              have hn8 := (hn 8 (by decide)).2
              try dsimp only at hn10 hn8
              change if Region.wanted _ (yielded _ (Act.tmps (Act.put (Act.put _ (some 62) (vs 10)) (some 60) (vs 8)))) = true then R4.Oper.slotAt _ _ (Act.put (Act.put _ (some 62) (vs 10)) (some 60) (vs 8)) _ _ else _
              rw [hn10, hn8]
              clear hn10 hn8
              rw [if_pos (by rfl)]
              have HGG := hid hg
              obtain ⟨gq, nq, rfl⟩ := hg
              go_simp
              exact ⟨HGG.out, R4.upd_same _ _ _, .inl (Grew.refl _)⟩
            | 12, _, ho, _ =>
              obtain rfl := Option.some.inj ho
              have hn11 := (hn 11 (by decide)).2
              try dsimp only at hn11
              change if Region.wanted _ (yielded _ (Act.tmps (Act.put _ (some 63) (vs 11)))) = true then R4.Oper.slotAt _ _ (Act.put _ (some 63) (vs 11)) _ _ else _
              rw [hn11]
              clear hn11
              rw [if_pos (by rfl)]
              have HGG := hid hg
              obtain ⟨gq, nq, rfl⟩ := hg
              go_simp
              exact ⟨HGG.out, R4.upd_same _ _ _, .inl (Grew.refl _)⟩
            | 13, _, ho, _ =>
              obtain rfl := Option.some.inj ho
              have hn11 := (hn 11 (by decide)).2
              try dsimp only at hn11
              change if Region.wanted _ (yielded _ (Act.tmps (Act.put _ (some 63) (vs 11)))) = true then R4.Oper.slotAt _ _ (Act.put _ (some 63) (vs 11)) _ _ else _
              rw [hn11]
              clear hn11
              rw [if_pos (by rfl)]
              have HGG := hid hg
              obtain ⟨gq, nq, rfl⟩ := hg
              go_simp
              exact ⟨HGG.out, R4.upd_same _ _ _, .inl (Grew.refl _)⟩
            | 14, _, ho, _ =>
              obtain rfl := Option.some.inj ho
              have hn13 := (hn 13 (by decide)).2
              have hn11 := (hn 11 (by decide)).2
              try dsimp only at hn13 hn11
              change if Region.wanted _ (yielded _ (Act.tmps (Act.put (Act.put _ (some 65) (vs 13)) (some 63) (vs 11)))) = true then R4.Oper.slotAt _ _ (Act.put (Act.put _ (some 65) (vs 13)) (some 63) (vs 11)) _ _ else _
              rw [hn13, hn11]
              clear hn13 hn11
              rw [if_pos (by rfl)]
              have HGG := hid hg
              obtain ⟨gq, nq, rfl⟩ := hg
              go_simp
              refine (HID.out _).mono ?_
              rintro e w' ⟨⟨a2, k2, rfl, ho⟩, gr⟩
              exact ⟨_, rfl, HGG.out.trans gr, by rw [R4.upd_same]; exact ⟨a2, k2, rfl, ho.nms⟩, .inl gr⟩
            | 15, _, ho, _ =>
              obtain rfl := Option.some.inj ho
              have hn12 := (hn 12 (by decide)).2
              have hn14 := (hn 14 (by decide)).2
              have hn11 := (hn 11 (by decide)).2
              try dsimp only at hn12 hn14 hn11
              change if Region.wanted _ (yielded _ (Act.tmps (Act.put (Act.put (Act.put _ (some 64) (vs 12)) (some 66) (vs 14)) (some 63) (vs 11)))) = true then R4.Oper.slotAt _ _ (Act.put (Act.put (Act.put _ (some 64) (vs 12)) (some 66) (vs 14)) (some 63) (vs 11)) _ _ else _
              rw [hn12, hn11]
              clear hn12 hn11
              rw [if_pos (by rfl)]
              have HGG := hid hg
              obtain ⟨gq, nq, rfl⟩ := hg
              obtain ⟨a3, k3, e4, h2⟩ := hn14
              conv => arg 3; rw [e4]
              clear e4
              go_simp
              refine (HSM2.out a3 k3 _ (by repeat (first | exact Grew.refl _ | refine Grew.drewN ?_ _ | refine Grew.grow ?_ _ | refine Grew.alloc ?_ _ | refine Grew.drew ?_)) h2).mono ?_
              rintro e w' ⟨rfl, gr⟩
              exact ⟨_, rfl, HGG.out.trans gr, R4.upd_same _ _ _, .inl gr⟩
            | 16, _, ho, _ =>
              obtain rfl := Option.some.inj ho
              have hn11 := (hn 11 (by decide)).2
              have hn15 := (hn 15 (by decide)).2
              have hn8 := (hn 8 (by decide)).2
              try dsimp only at hn11 hn15 hn8
              change if Region.wanted _ (yielded _ (Act.tmps (Act.put (Act.put (Act.put _ (some 63) (vs 11)) (some 67) (vs 15)) (some 60) (vs 8)))) = true then R4.Oper.slotAt _ _ (Act.put (Act.put (Act.put _ (some 63) (vs 11)) (some 67) (vs 15)) (some 60) (vs 8)) _ _ else _
              rw [hn11, hn15, hn8]
              clear hn11 hn15 hn8
              rw [if_pos (by rfl)]
              have HGG := hid hg
              obtain ⟨gq, nq, rfl⟩ := hg
              go_simp
              exact ⟨HGG.out, R4.upd_same _ _ _, .inl (Grew.refl _)⟩
            | 17, _, ho, _ =>
              obtain rfl := Option.some.inj ho
              have hn8 := (hn 8 (by decide)).2
              have hn16 := (hn 16 (by decide)).2
              try dsimp only at hn8 hn16
              change if Region.wanted _ (yielded _ (Act.tmps (Act.put (Act.put _ (some 60) (vs 8)) (some 68) (vs 16)))) = true then R4.Oper.slotAt _ _ (Act.put (Act.put _ (some 60) (vs 8)) (some 68) (vs 16)) _ _ else _
              rw [hn8, hn16]
              clear hn8 hn16
              rw [if_pos (by rfl)]
              have HGG := hid hg
              obtain ⟨gq, nq, rfl⟩ := hg
              go_simp
              exact ⟨HGG.out, R4.upd_same _ _ _, .inl (Grew.refl _)⟩
            | 18, _, ho, _ =>
              obtain rfl := Option.some.inj ho
              have hn17 := (hn 17 (by decide)).2
              try dsimp only at hn17
              change if Region.wanted _ (yielded _ (Act.tmps (Act.put _ (some 69) (vs 17)))) = true then R4.Oper.slotAt _ _ (Act.put _ (some 69) (vs 17)) _ _ else _
              rw [hn17]
              clear hn17
              rw [if_pos (by rfl)]
              have HGG := hid hg
              obtain ⟨gq, nq, rfl⟩ := hg
              go_simp
              exact ⟨HGG.out, R4.upd_same _ _ _, .inl (Grew.refl _)⟩
            | 19, _, ho, _ =>
              obtain rfl := Option.some.inj ho
              have hn18 := (hn 18 (by decide)).2
              try dsimp only at hn18
              change if Region.wanted _ (yielded _ (Act.tmps (Act.put _ (some 70) (vs 18)))) = true then R4.Oper.slotAt _ _ (Act.put _ (some 70) (vs 18)) _ _ else _
              rw [hn18]
              clear hn18
              rw [if_pos (by rfl)]
              have HGG := hid hg
              obtain ⟨gq, nq, rfl⟩ := hg
              go_simp
              refine (awake_any _).mono ?_
              rintro e w' ⟨rfl, gr⟩
              exact ⟨_, rfl, HGG.out.trans gr, R4.upd_same _ _ _, .inl gr⟩
            | 20, _, ho, _ =>
              obtain rfl := Option.some.inj ho
              have hn18 := (hn 18 (by decide)).2
              have hn19 := (hn 19 (by decide)).2
              try dsimp only at hn18 hn19
              change if Region.wanted _ (yielded _ (Act.tmps (Act.put (Act.put _ (some 70) (vs 18)) (some 71) (vs 19)))) = true then R4.Oper.slotAt _ _ (Act.put (Act.put _ (some 70) (vs 18)) (some 71) (vs 19)) _ _ else _
              rw [hn18, hn19]
              clear hn18 hn19
              rw [if_pos (by rfl)]
              have HGG := hid hg
              obtain ⟨gq, nq, rfl⟩ := hg
              go_simp
              exact ⟨HGG.out, R4.upd_same _ _ _, .inl (Grew.refl _)⟩
            | kx + 21, hix, _, _ => exact absurd hix (by omega)
          case slq =>
            intro vs W3 hg hn
            have hn20 : vs 20 = .bool true := hn 20 (by decide) (by decide)
            change wpList _ _ _ _ (Act.put (Act.put (Act.put (Act.put (Act.put (Act.put (Act.put (Act.put (Act.put (Act.put (Act.put (Act.put (Act.put (Act.put (Act.put (Act.put (Act.put (Act.put (Act.put (Act.put (Act.put _ (some 52) (vs 0)) (some 53) (vs 1)) (some 54) (vs 2)) (some 55) (vs 3)) (some 56) (vs 4)) (some 57) (vs 5)) (some 58) (vs 6)) (some 59) (vs 7)) (some 60) (vs 8)) (some 61) (vs 9)) (some 62) (vs 10)) (some 63) (vs 11)) (some 64) (vs 12)) (some 65) (vs 13)) (some 66) (vs 14)) (some 67) (vs 15)) (some 68) (vs 16)) (some 69) (vs 17)) (some 70) (vs 18)) (some 71) (vs 19)) (some 72) (vs 20)) _
            simp only [Act.put, List.setIfInBounds_toArray, List.set_cons_zero, List.set_cons_succ, List.drop_succ_cons, List.drop_zero, hn20]
            have HG3 : Hid (Grew w W3) := HGW.out.trans (HGB2.out.trans hg)
            clear hn hn20 hg
            go_wp2_with fail
            go_ret
            exact ⟨rfl, HG3.out⟩
        · have e2 : (f2 != 0) = true := by simpa using hf2
          clear hf2
          refine R4.wp_region_slotsG 21 (fun ix vs W => match ix with | 0 => vs 0 = .int .i64 f1 | 1 => vs 1 = .bool true | 2 => vs 2 = .bool true | 3 => vs 3 = undef | 4 => vs 4 = undef | 5 => vs 5 = undef | 6 => vs 6 = undef | 7 => vs 7 = .bool true | 8 => vs 8 = .bool true | 9 => vs 9 = .int .i64 f2 | 10 => vs 10 = .bool true | 11 => vs 11 = .bool true | 12 => vs 12 = undef | 13 => vs 13 = undef | 14 => vs 14 = undef | 15 => vs 15 = undef | 16 => vs 16 = .bool true | 17 => vs 17 = .bool true | 18 => vs 18 = .bool true | 19 => vs 19 = .bool true | 20 => vs 20 = .bool true | _ => True) (fun _ W => Grew W2 W) (by kernel_rfl) (by kernel_rfl) ?slst ?sldep (Grew.refl _).drew ?slop ?slq
          case slst =>
            intro ix vs W W' h hg
            match ix, h with
            | 0, h => exact h
            | 1, h => exact h
            | 2, h => exact h
            | 3, h => exact h
            | 4, h => exact h
            | 5, h => exact h
            | 6, h => exact h
            | 7, h => exact h
            | 8, h => exact h
            | 9, h => exact h
            | 10, h => exact h
            | 11, h => exact h
            | 12, h => exact h
            | 13, h => exact h
            | 14, h => exact h
            | 15, h => exact h
            | 16, h => exact h
            | 17, h => exact h
            | 18, h => exact h
            | 19, h => exact h
            | 20, h => exact h
            | _ + 21, _ => trivial
          case sldep =>
            intro ix o vs vs' W hix ho h hv hn
            match ix, hix, ho, h, hv with
            | 0, _, _, h, hv => exact Eq.trans hv h
            | 1, _, _, h, hv => exact Eq.trans hv h
            | 2, _, _, h, hv => exact Eq.trans hv h
            | 3, _, _, h, hv => exact Eq.trans hv h
            | 4, _, _, h, hv => exact Eq.trans hv h
            | 5, _, _, h, hv => exact Eq.trans hv h
            | 6, _, _, h, hv => exact Eq.trans hv h
            | 7, _, _, h, hv => exact Eq.trans hv h
            | 8, _, _, h, hv => exact Eq.trans hv h
            | 9, _, _, h, hv => exact Eq.trans hv h
            | 10, _, _, h, hv => exact Eq.trans hv h
            | 11, _, _, h, hv => exact Eq.trans hv h
            | 12, _, _, h, hv => exact Eq.trans hv h
            | 13, _, _, h, hv => exact Eq.trans hv h
            | 14, _, _, h, hv => exact Eq.trans hv h
            | 15, _, _, h, hv => exact Eq.trans hv h
            | 16, _, _, h, hv => exact Eq.trans hv h
            | 17, _, _, h, hv => exact Eq.trans hv h
            | 18, _, _, h, hv => exact Eq.trans hv h
            | 19, _, _, h, hv => exact Eq.trans hv h
            | 20, _, _, h, hv => exact Eq.trans hv h
            | kx + 21, hix, _, _, _ => exact absurd hix (by omega)
          case slop =>
            intro ix o hix ho vs W L hg hL hn _ _
            match ix, hix, ho, hL with
            | 0, _, ho, _ =>
              obtain rfl := Option.some.inj ho
              change if Region.wanted _ (yielded _ (Act.tmps { tmps := _, defers := _ })) = true then R4.Oper.slotAt _ _ { tmps := _, defers := _ } _ _ else _
              rw [if_pos (by rfl)]
              have HGG := hid hg
              obtain ⟨gq, nq, rfl⟩ := hg
              go_simp
              exact ⟨HGG.out, R4.upd_same _ _ _, .inl (Grew.refl _)⟩
            | 1, _, ho, _ =>
              obtain rfl := Option.some.inj ho
              have hn0 := (hn 0 (by decide)).2
              try dsimp only at hn0
              change if Region.wanted _ (yielded _ (Act.tmps (Act.put _ (some 52) (vs 0)))) = true then R4.Oper.slotAt _ _ (Act.put _ (some 52) (vs 0)) _ _ else _
              rw [hn0]
              clear hn0
              rw [if_pos (by rfl)]
              have HGG := hid hg
              obtain ⟨gq, nq, rfl⟩ := hg
              go_simp
              exact ⟨HGG.out, R4.upd_same _ _ _, .inl (Grew.refl _)⟩
            | 2, _, ho, _ =>
              obtain rfl := Option.some.inj ho
              have hn1 := (hn 1 (by decide)).2
              try dsimp only at hn1
              change if Region.wanted _ (yielded _ (Act.tmps (Act.put _ (some 53) (vs 1)))) = true then R4.Oper.slotAt _ _ (Act.put _ (some 53) (vs 1)) _ _ else _
              rw [hn1]
              clear hn1
              rw [if_pos (by rfl)]
              have HGG := hid hg
              obtain ⟨gq, nq, rfl⟩ := hg
              go_simp
              exact ⟨HGG.out, R4.upd_same _ _ _, .inl (Grew.refl _)⟩
            | 3, _, ho, _ =>
              obtain rfl := Option.some.inj ho
              have hn2 := (hn 2 (by decide)).2
              try dsimp only at hn2
              change if Region.wanted _ (yielded _ (Act.tmps (Act.put _ (some 54) (vs 2)))) = true then R4.Oper.slotAt _ _ (Act.put _ (some 54) (vs 2)) _ _ else _
              rw [hn2]
              rw [if_neg (by show ¬ (false = true); exact Bool.false_ne_true)]
              exact ⟨hg, R4.upd_same _ _ _⟩
            | 4, _, ho, _ =>
              obtain rfl := Option.some.inj ho
              have hn2 := (hn 2 (by decide)).2
              try dsimp only at hn2
              change if Region.wanted _ (yielded _ (Act.tmps (Act.put _ (some 54) (vs 2)))) = true then R4.Oper.slotAt _ _ (Act.put _ (some 54) (vs 2)) _ _ else _
              rw [hn2]
              rw [if_neg (by show ¬ (false = true); exact Bool.false_ne_true)]
              exact ⟨hg, R4.upd_same _ _ _⟩
            | 5, _, ho, _ =>
              obtain rfl := Option.some.inj ho
              have hn4 := (hn 4 (by decide)).2
              have hn2 := (hn 2 (by decide)).2
              try dsimp only at hn4 hn2
              change if Region.wanted _ (yielded _ (Act.tmps (Act.put (Act.put _ (some 56) (vs 4)) (some 54) (vs 2)))) = true then R4.Oper.slotAt _ _ (Act.put (Act.put _ (some 56) (vs 4)) (some 54) (vs 2)) _ _ else _
              rw [hn4, hn2]
              rw [if_neg (by show ¬ (false = true); exact Bool.false_ne_true)]
              exact ⟨hg, R4.upd_same _ _ _⟩
            | 6, _, ho, _ =>
              obtain rfl := Option.some.inj ho
              have hn3 := (hn 3 (by decide)).2
              have hn5 := (hn 5 (by decide)).2
              have hn2 := (hn 2 (by decide)).2
              try dsimp only at hn3 hn5 hn2
              change if Region.wanted _ (yielded _ (Act.tmps (Act.put (Act.put (Act.put _ (some 55) (vs 3)) (some 57) (vs 5)) (some 54) (vs 2)))) = true then R4.Oper.slotAt _ _ (Act.put (Act.put (Act.put _ (some 55) (vs 3)) (some 57) (vs 5)) (some 54) (vs 2)) _ _ else _
              rw [hn3, hn5, hn2]
              rw [if_neg (by show ¬ (false = true); exact Bool.false_ne_true)]
              exact ⟨hg, R4.upd_same _ _ _⟩
            | 7, _, ho, _ =>
              obtain rfl := Option.some.inj ho
              have hn2 := (hn 2 (by decide)).2
              have hn6 := (hn 6 (by decide)).2
              try dsimp only at hn2 hn6
              change if Region.wanted _ (yielded _ (Act.tmps (Act.put (Act.put _ (some 54) (vs 2)) (some 58) (vs 6)))) = true then R4.Oper.slotAt _ _ (Act.put (Act.put _ (some 54) (vs 2)) (some 58) (vs 6)) _ _ else _
              rw [hn2, hn6]
              clear hn2 hn6
              rw [if_pos (by rfl)]
              have HGG := hid hg
              obtain ⟨gq, nq, rfl⟩ := hg
              go_simp
              exact ⟨HGG.out, R4.upd_same _ _ _, .inl (Grew.refl _)⟩
            | 8, _, ho, _ =>
              obtain rfl := Option.some.inj ho
              have hn7 := (hn 7 (by decide)).2
              try dsimp only at hn7
              change if Region.wanted _ (yielded _ (Act.tmps (Act.put _ (some 59) (vs 7)))) = true then R4.Oper.slotAt _ _ (Act.put _ (some 59) (vs 7)) _ _ else _
              rw [hn7]
              clear hn7
              rw [if_pos (by rfl)]
              have HGG := hid hg
              obtain ⟨gq, nq, rfl⟩ := hg
              go_simp
              exact ⟨HGG.out, R4.upd_same _ _ _, .inl (Grew.refl _)⟩
            | 9, _, ho, _ =>
              obtain rfl := Option.some.inj ho
              have hn8 := (hn 8 (by decide)).2
              try dsimp only at hn8
              change if Region.wanted _ (yielded _ (Act.tmps (Act.put _ (some 60) (vs 8)))) = true then R4.Oper.slotAt _ _ (Act.put _ (some 60) (vs 8)) _ _ else _
              rw [hn8]
              clear hn8
              rw [if_pos (by rfl)]
              have HGG := hid hg
              obtain ⟨gq, nq, rfl⟩ := hg
              go_simp
              exact ⟨HGG.out, R4.upd_same _ _ _, .inl (Grew.refl _)⟩
            | 10, _, ho, _ =>
              obtain rfl := Option.some.inj ho
              have hn9 := (hn 9 (by decide)).2
              have hn8 := (hn 8 (by decide)).2
              try dsimp only at hn9 hn8
              change if Region.wanted _ (yielded _ (Act.tmps (Act.put (Act.put _ (some 61) (vs 9)) (some 60) (vs 8)))) = true then R4.Oper.slotAt _ _ (Act.put (Act.put _ (some 61) (vs 9)) (some 60) (vs 8)) _ _ else _
              rw [hn9, hn8]
              clear hn9 hn8
              rw [if_pos (by rfl)]
              have HGG := hid hg
              obtain ⟨gq, nq, rfl⟩ := hg
              go_simp
              exact ⟨HGG.out, R4.upd_same _ _ _, .inl (Grew.refl _)⟩
            | 11, _, ho, _ =>
              obtain rfl := Option.some.inj ho
              have hn10 := (hn 10 (by decide)).2
              have hn8 := (hn 8 (by decide)).2
              try dsimp only at hn10 hn8
              change if Region.wanted _ (yielded _ (Act.tmps (Act.put (Act.put _ (some 62) (vs 10)) (some 60) (vs 8)))) = true then R4.Oper.slotAt _ _ (Act.put (Act.put _ (some 62) (vs 10)) (some 60) (vs 8)) _ _ else _
              rw [hn10, hn8]
              clear hn10 hn8
              rw [if_pos (by rfl)]
              have HGG := hid hg
              obtain ⟨gq, nq, rfl⟩ := hg
              go_simp
              exact ⟨HGG.out, R4.upd_same _ _ _, .inl (Grew.refl _)⟩
            | 12, _, ho, _ =>
              obtain rfl := Option.some.inj ho
              have hn11 := (hn 11 (by decide)).2
              try dsimp only at hn11
              change if Region.wanted _ (yielded _ (Act.tmps (Act.put _ (some 63) (vs 11)))) = true then R4.Oper.slotAt _ _ (Act.put _ (some 63) (vs 11)) _ _ else _
              rw [hn11]
              rw [if_neg (by show ¬ (false = true); exact Bool.false_ne_true)]
              exact ⟨hg, R4.upd_same _ _ _⟩
            | 13, _, ho, _ =>
              obtain rfl := Option.some.inj ho
              have hn11 := (hn 11 (by decide)).2
              try dsimp only at hn11
              change if Region.wanted _ (yielded _ (Act.tmps (Act.put _ (some 63) (vs 11)))) = true then R4.Oper.slotAt _ _ (Act.put _ (some 63) (vs 11)) _ _ else _
              rw [hn11]
              rw [if_neg (by show ¬ (false = true); exact Bool.false_ne_true)]
              exact ⟨hg, R4.upd_same _ _ _⟩
            | 14, _, ho, _ =>
              obtain rfl := Option.some.inj ho
              have hn13 := (hn 13 (by decide)).2
              have hn11 := (hn 11 (by decide)).2
              try dsimp only at hn13 hn11
              change if Region.wanted _ (yielded _ (Act.tmps (Act.put (Act.put _ (some 65) (vs 13)) (some 63) (vs 11)))) = true then R4.Oper.slotAt _ _ (Act.put (Act.put _ (some 65) (vs 13)) (some 63) (vs 11)) _ _ else _
              rw [hn13, hn11]
              rw [if_neg (by show ¬ (false = true); exact Bool.false_ne_true)]
              exact ⟨hg, R4.upd_same _ _ _⟩
            | 15, _, ho, _ =>
              obtain rfl := Option.some.inj ho
              have hn12 := (hn 12 (by decide)).2
              have hn14 := (hn 14 (by decide)).2
              have hn11 := (hn 11 (by decide)).2
              try dsimp only at hn12 hn14 hn11
              change if Region.wanted _ (yielded _ (Act.tmps (Act.put (Act.put (Act.put _ (some 64) (vs 12)) (some 66) (vs 14)) (some 63) (vs 11)))) = true then R4.Oper.slotAt _ _ (Act.put (Act.put (Act.put _ (some 64) (vs 12)) (some 66) (vs 14)) (some 63) (vs 11)) _ _ else _
              rw [hn12, hn14, hn11]
              rw [if_neg (by show ¬ (false = true); exact Bool.false_ne_true)]
              exact ⟨hg, R4.upd_same _ _ _⟩
            | 16, _, ho, _ =>
              obtain rfl := Option.some.inj ho
              have hn11 := (hn 11 (by decide)).2
              have hn15 := (hn 15 (by decide)).2
              have hn8 := (hn 8 (by decide)).2
              try dsimp only at hn11 hn15 hn8
              change if Region.wanted _ (yielded _ (Act.tmps (Act.put (Act.put (Act.put _ (some 63) (vs 11)) (some 67) (vs 15)) (some 60) (vs 8)))) = true then R4.Oper.slotAt _ _ (Act.put (Act.put (Act.put _ (some 63) (vs 11)) (some 67) (vs 15)) (some 60) (vs 8)) _ _ else _
              rw [hn11, hn15, hn8]
              clear hn11 hn15 hn8
              rw [if_pos (by rfl)]
              have HGG := hid hg
              obtain ⟨gq, nq, rfl⟩ := hg
              go_simp
              exact ⟨HGG.out, R4.upd_same _ _ _, .inl (Grew.refl _)⟩
            | 17, _, ho, _ =>
              obtain rfl := Option.some.inj ho
              have hn8 := (hn 8 (by decide)).2
              have hn16 := (hn 16 (by decide)).2
              try dsimp only at hn8 hn16
              change if Region.wanted _ (yielded _ (Act.tmps (Act.put (Act.put _ (some 60) (vs 8)) (some 68) (vs 16)))) = true then R4.Oper.slotAt _ _ (Act.put (Act.put _ (some 60) (vs 8)) (some 68) (vs 16)) _ _ else _
              rw [hn8, hn16]
              clear hn8 hn16
              rw [if_pos (by rfl)]
              have HGG := hid hg
              obtain ⟨gq, nq, rfl⟩ := hg
              go_simp
              exact ⟨HGG.out, R4.upd_same _ _ _, .inl (Grew.refl _)⟩
            | 18, _, ho, _ =>
              obtain rfl := Option.some.inj ho
              have hn17 := (hn 17 (by decide)).2
              try dsimp only at hn17
              change if Region.wanted _ (yielded _ (Act.tmps (Act.put _ (some 69) (vs 17)))) = true then R4.Oper.slotAt _ _ (Act.put _ (some 69) (vs 17)) _ _ else _
              rw [hn17]
              clear hn17
              rw [if_pos (by rfl)]
              have HGG := hid hg
              obtain ⟨gq, nq, rfl⟩ := hg
              go_simp
              exact ⟨HGG.out, R4.upd_same _ _ _, .inl (Grew.refl _)⟩
            | 19, _, ho, _ =>
              obtain rfl := Option.some.inj ho
              have hn18 := (hn 18 (by decide)).2
              try dsimp only at hn18
              change if Region.wanted _ (yielded _ (Act.tmps (Act.put _ (some 70) (vs 18)))) = true then R4.Oper.slotAt _ _ (Act.put _ (some 70) (vs 18)) _ _ else _
              rw [hn18]
              clear hn18
              rw [if_pos (by rfl)]
              have HGG := hid hg
              obtain ⟨gq, nq, rfl⟩ := hg
              go_simp
              refine (awake_any _).mono ?_
              rintro e w' ⟨rfl, gr⟩
              exact ⟨_, rfl, HGG.out.trans gr, R4.upd_same _ _ _, .inl gr⟩
            | 20, _, ho, _ =>
              obtain rfl := Option.some.inj ho
              have hn18 := (hn 18 (by decide)).2
              have hn19 := (hn 19 (by decide)).2
              try dsimp only at hn18 hn19
              change if Region.wanted _ (yielded _ (Act.tmps (Act.put (Act.put _ (some 70) (vs 18)) (some 71) (vs 19)))) = true then R4.Oper.slotAt _ _ (Act.put (Act.put _ (some 70) (vs 18)) (some 71) (vs 19)) _ _ else _
              rw [hn18, hn19]
              clear hn18 hn19
              rw [if_pos (by rfl)]
              have HGG := hid hg
              obtain ⟨gq, nq, rfl⟩ := hg
              go_simp
              exact ⟨HGG.out, R4.upd_same _ _ _, .inl (Grew.refl _)⟩
            | kx + 21, hix, _, _ => exact absurd hix (by omega)
          case slq =>
            intro vs W3 hg hn
            have hn20 : vs 20 = .bool true := hn 20 (by decide) (by decide)
            change wpList _ _ _ _ (Act.put (Act.put (Act.put (Act.put (Act.put (Act.put (Act.put (Act.put (Act.put (Act.put (Act.put (Act.put (Act.put (Act.put (Act.put (Act.put (Act.put (Act.put (Act.put (Act.put (Act.put _ (some 52) (vs 0)) (some 53) (vs 1)) (some 54) (vs 2)) (some 55) (vs 3)) (some 56) (vs 4)) (some 57) (vs 5)) (some 58) (vs 6)) (some 59) (vs 7)) (some 60) (vs 8)) (some 61) (vs 9)) (some 62) (vs 10)) (some 63) (vs 11)) (some 64) (vs 12)) (some 65) (vs 13)) (some 66) (vs 14)) (some 67) (vs 15)) (some 68) (vs 16)) (some 69) (vs 17)) (some 70) (vs 18)) (some 71) (vs 19)) (some 72) (vs 20)) _
            simp only [Act.put, List.setIfInBounds_toArray, List.set_cons_zero, List.set_cons_succ, List.drop_succ_cons, List.drop_zero, hn20]
            have HG3 : Hid (Grew w W3) := HGW.out.trans (HGB2.out.trans hg)
            clear hn hn20 hg
            go_wp2_with fail
            go_ret
            exact ⟨rfl, HG3.out⟩


set_option maxRecDepth 100000 in
set_option maxHeartbeats 800000 in
theorem unitary_long (g : Int) (a0 : Option Addr) (cap : Nat) (its : List It) (w : World) (hl : its.length ≤ 9223372036854775807) (hc : Its w a0 its) (h : 40 < its.length) :
    Calls Try.prog 3 #[.int .i64 g, .slice a0 its.length cap] w fun e w' => e = .returned (.bool true) ∧ Grew w w' := by
  have e1 : decide ((40 : Int) < its.length) = true := decide_eq_true (by omega)
  clear hc hl h
  go_enter Try.func3, Try.ntmps3
  go_wp2_with fail
  refine (awake_any _).mono ?_
  rintro e w' ⟨rfl, ga, na, rfl⟩
  go_wp2_with fail
  go_ret
  exact ⟨rfl, (by repeat (first | exact Grew.refl _ | refine Grew.drewN ?_ _ | refine Grew.grow ?_ _ | refine Grew.alloc ?_ _ | refine Grew.drew ?_))⟩

set_option maxRecDepth 100000 in
set_option maxHeartbeats 800000 in
theorem unitary_wide (g : Int) (a0 : Option Addr) (cap : Nat) (its : List It) (w : World) (hl : its.length ≤ 9223372036854775807) (hc : Its w a0 its) (h : its.length ≤ 40) (h4 : 4 < g) :
    Calls Try.prog 3 #[.int .i64 g, .slice a0 its.length cap] w fun e w' => e = .returned (.bool true) ∧ Grew w w' := by
  have e1 : decide ((40 : Int) < its.length) = false := decide_eq_false (by omega)
  have e2 : decide ((4 : Int) < g) = true := decide_eq_true h4
  clear hc hl h h4
  go_enter Try.func3, Try.ntmps3
  go_wp2_with fail
  refine (awake_any _).mono ?_
  rintro e w' ⟨rfl, ga, na, rfl⟩
  go_wp2_with fail
  go_ret
  exact ⟨rfl, (by repeat (first | exact Grew.refl _ | refine Grew.drewN ?_ _ | refine Grew.grow ?_ _ | refine Grew.alloc ?_ _ | refine Grew.drew ?_))⟩

set_option maxRecDepth 100000 in
set_option maxHeartbeats 800000 in
theorem unitary_bad (g : Int) (a0 : Option Addr) (cap : Nat) (its : List It) (w : World) (hl : its.length ≤ 9223372036854775807) (hc : Its w a0 its) (h : its.length ≤ 40) (h4 : g ≤ 4) (hk : ¬ chkIts g its = 0) :
    Calls Try.prog 3 #[.int .i64 g, .slice a0 its.length cap] w fun e w' => e = .returned (.bool true) ∧ Grew w w' := by
  have e1 : decide ((40 : Int) < its.length) = false := decide_eq_false (by omega)
  have e2 : decide ((4 : Int) < g) = false := decide_eq_false (by omega)
  have HK := hid fun w' (h : Grew w w') => asked_any g a0 cap its w' hl (hc.grew h)
  obtain ⟨E, hE⟩ : ∃ E, chkIts g its = E := ⟨_, rfl⟩
  rw [hE] at HK hk
  have e3 : (E != 0) = true := by simpa using hk
  clear hc hl h h4 hk hE
  go_enter Try.func3, Try.ntmps3
  go_wp2_with fail
  refine (HK.out _ (by repeat (first | exact Grew.refl _ | refine Grew.drewN ?_ _ | refine Grew.grow ?_ _ | refine Grew.alloc ?_ _ | refine Grew.drew ?_))).mono ?_
  rintro e w' ⟨rfl, g', n', rfl⟩
  go_wp2_with fail
  refine (awake_any _).mono ?_
  rintro e w' ⟨rfl, ga, na, rfl⟩
  go_wp2_with fail
  go_ret
  exact ⟨rfl, (by repeat (first | exact Grew.refl _ | refine Grew.drewN ?_ _ | refine Grew.grow ?_ _ | refine Grew.alloc ?_ _ | refine Grew.drew ?_))⟩

set_option maxRecDepth 100000 in
set_option maxHeartbeats 800000 in
theorem unitary_err (g : Int) (a0 : Option Addr) (cap : Nat) (its : List It) (w : World) (hl : its.length ≤ 9223372036854775807) (hc : Its w a0 its) (h : its.length ≤ 40) (h4 : g ≤ 4) (hk : chkIts g its = 0) (he : ¬ (matOf g its).2 = 0) :
    Calls Try.prog 3 #[.int .i64 g, .slice a0 its.length cap] w fun e w' => e = .returned (.bool true) ∧ Grew w w' := by
  have e1 : decide ((40 : Int) < its.length) = false := decide_eq_false (by omega)
  have e2 : decide ((4 : Int) < g) = false := decide_eq_false (by omega)
  have HK := hid fun w' (h : Grew w w') => asked_any g a0 cap its w' hl (hc.grew h)
  rw [hk] at HK
  have HM := hid fun w' (h : Grew w w') => matOf_any g a0 cap its w' hl (hc.grew h)
  obtain ⟨⟨L, E⟩, hR⟩ : ∃ R, matOf g its = R := ⟨_, rfl⟩
  rw [hR] at HM he
  dsimp only at he
  have e3 : (E != 0) = true := by simpa using he
  clear hc hl h h4 hk hR he
  go_enter Try.func3, Try.ntmps3
  go_wp2_with fail
  refine (HK.out _ (by repeat (first | exact Grew.refl _ | refine Grew.drewN ?_ _ | refine Grew.grow ?_ _ | refine Grew.alloc ?_ _ | refine Grew.drew ?_))).mono ?_
  rintro e w' ⟨rfl, g', n', rfl⟩
  go_wp2_with fail
  refine (HM.out _ (by repeat (first | exact Grew.refl _ | refine Grew.drewN ?_ _ | refine Grew.grow ?_ _ | refine Grew.alloc ?_ _ | refine Grew.drew ?_))).mono ?_
  rintro e w' ⟨⟨am, km, rfl, hN⟩, g2, n2, rfl⟩
  dsimp only
  obtain ⟨N, hN'⟩ : ∃ N, rowsOf g.toNat E = N := ⟨_, rfl⟩
  rw [hN']
  clear hN hN'
  go_wp2_with fail
  refine (awake_any _).mono ?_
  rintro e w' ⟨rfl, ga, na, rfl⟩
  go_wp2_with fail
  go_ret
  exact ⟨rfl, (by repeat (first | exact Grew.refl _ | refine Grew.drewN ?_ _ | refine Grew.grow ?_ _ | refine Grew.alloc ?_ _ | refine Grew.drew ?_))⟩

theorem unitary_any (g : Int) (a0 : Option Addr) (cap : Nat) (its : List It) (w : World) (hl : its.length ≤ 9223372036854775807) (hc : Its w a0 its) :
    Calls Try.prog 3 #[.int .i64 g, .slice a0 its.length cap] w fun e w' => e = .returned (.bool true) ∧ Grew w w' := by
  by_cases h : its.length ≤ 40
  case neg => exact unitary_long g a0 cap its w hl hc (by omega)
  by_cases h4 : g ≤ 4
  case neg => exact unitary_wide g a0 cap its w hl hc h (by omega)
  by_cases hk : chkIts g its = 0
  case neg => exact unitary_bad g a0 cap its w hl hc h h4 hk
  by_cases he : (matOf g its).2 = 0
  case neg => exact unitary_err g a0 cap its w hl hc h h4 hk he
  obtain ⟨n, rfl⟩ := Int.eq_ofNat_of_zero_le (show 0 ≤ g by have := chkIts_zero hk; omega)
  refine unitary_main n a0 cap its w h (by omega) hc hk ?_
  unfold matOf at he
  rw [if_pos hk] at he
  exact he
theorem meshUnitary_walk (g : Int) (a0 : Option Addr) (len cap : Nat) (w : World) (h : len = 0 ∨ ∃ (b off : Nat) (l : List It), a0 = some ⟨b, off, none⟩ ∧ len = l.length ∧ l.length ≤ 9223372036854775807 ∧ b < w.heap.size ∧ ItsAt w b off l) :
    Calls Try.prog 3 #[.int .i64 g, .slice a0 len cap] w fun e w' => e = .returned (.bool true) ∧ Grew w w' := by
  obtain ⟨its, rfl, h1, h2⟩ := its_of h
  exact unitary_any g a0 cap its w h1 h2

end Go.Proofs.Ytkglnnkghillpaa
