/- Layer 3, the statements' side: what light becomes. Condition: the items and the numbers lie in memory. -/
import Derived.Test.YtkglnnkghillpaaLitD
namespace Go.Proofs.Ytkglnnkghillpaa
open Go Go.RowKit Amp Msh

theorem grew_app (W : World) (g h : List Obj) : Grew (W.grow g) (W.grow (g ++ h)) := ⟨h, 0, by rw [World.grow_grow]; rfl⟩
theorem own_empty {w : World} {base b : Nat} (hb : b = w.heap.size) (hB : base ≤ b) : (w.alloc (.cells #[] 53)).ownsRow base 53 5 (.slice (some ⟨b, 0, none⟩) 0 0) 0 [] := by
  subst hb
  exact World.ownsRow_lit (base := base) (e := 53) (size := 5) w #[] 0 hB (by decide) rfl

set_option maxRecDepth 100000 in
set_option maxHeartbeats 800000 in
theorem rlight_chk (g : Int) (a0 : Option Addr) (cap : Nat) (its : List It) (a1 : Option Addr) (k1 : Nat) (v : List Num) (w : World) (hl : its.length ≤ 9223372036854775807) (hc : Its w a0 its) (_hlv : v.length ≤ 20) (_h1 : Nms w a1 v) (hk : ¬ chkIts g its = 0) :
    Calls Try.prog 34 #[.int .i64 g, .slice a0 its.length cap, .slice a1 v.length k1] w (ListE (litOf g its v) w) := by
  have HK := hid fun w' (h : Grew w w') => asked_any g a0 cap its w' hl (hc.grew h)
  have HR : Hid (litOf g its v = ([], chkIts g its)) := hid (by unfold litOf; rw [if_neg hk])
  obtain ⟨E, hE⟩ : ∃ E, chkIts g its = E := ⟨_, rfl⟩
  rw [hE] at HK HR hk
  have e1 : (E != 0) = true := by simpa using hk
  clear hc _h1 hk hE
  go_enter Try.func34, Try.ntmps34
  go_wp2_with fail
  refine (HK.out _ (by repeat (first | exact Grew.refl _ | refine Grew.drewN ?_ _ | refine Grew.grow ?_ _ | refine Grew.alloc ?_ _ | refine Grew.drew ?_))).mono ?_
  rintro e w' ⟨rfl, g', n', rfl⟩
  go_wp2_with fail
  exact bodyPost_ret (v := .tuple #[.slice none 0 0, .int .i64 E]) (by simp [results, Try.results34, go_sem]) rfl ⟨⟨none, 0, by rw [HR.out]; rfl, by rw [HR.out]; exact .inl rfl⟩, (by repeat (first | exact Grew.refl _ | refine Grew.drewN ?_ _ | refine Grew.grow ?_ _ | refine Grew.alloc ?_ _ | refine Grew.drew ?_))⟩

set_option maxRecDepth 100000 in
set_option maxHeartbeats 800000 in
theorem rlight_vec (g : Int) (a0 : Option Addr) (cap : Nat) (its : List It) (a1 : Option Addr) (k1 : Nat) (v : List Num) (w : World) (hl : its.length ≤ 9223372036854775807) (hc : Its w a0 its) (hlv : v.length ≤ 20) (h1 : Nms w a1 v) (hk : chkIts g its = 0) (hn : isVec v = false) :
    Calls Try.prog 34 #[.int .i64 g, .slice a0 its.length cap, .slice a1 v.length k1] w (ListE (litOf g its v) w) := by
  have HK := hid fun w' (h : Grew w w') => asked_any g a0 cap its w' hl (hc.grew h)
  have HV := hid fun w' (h : Grew w w') => isVec_any a1 k1 v w' (by omega) (h1.grew h)
  have HR : Hid (litOf g its v = ([], 20)) := hid (by unfold litOf; rw [if_pos hk, hn]; rfl)
  rw [hk] at HK
  rw [hn] at HV
  clear hc h1 hk hn
  go_enter Try.func34, Try.ntmps34
  go_wp2_with fail
  refine (HK.out _ (by repeat (first | exact Grew.refl _ | refine Grew.drewN ?_ _ | refine Grew.grow ?_ _ | refine Grew.alloc ?_ _ | refine Grew.drew ?_))).mono ?_
  rintro e w' ⟨rfl, g', n', rfl⟩
  go_wp2_with fail
  refine (HV.out _ (by repeat (first | exact Grew.refl _ | refine Grew.drewN ?_ _ | refine Grew.grow ?_ _ | refine Grew.alloc ?_ _ | refine Grew.drew ?_))).mono ?_
  rintro e w' ⟨rfl, g1, n1', rfl⟩
  go_wp2_with fail
  exact bodyPost_ret (v := .tuple #[.slice none 0 0, .int .i64 20]) (by simp [results, Try.results34, go_sem]) rfl ⟨⟨none, 0, by rw [HR.out]; rfl, by rw [HR.out]; exact .inl rfl⟩, (by repeat (first | exact Grew.refl _ | refine Grew.drewN ?_ _ | refine Grew.grow ?_ _ | refine Grew.alloc ?_ _ | refine Grew.drew ?_))⟩

set_option maxRecDepth 100000 in
set_option maxHeartbeats 800000 in
theorem rlight_size (g : Int) (a0 : Option Addr) (cap : Nat) (its : List It) (a1 : Option Addr) (k1 : Nat) (v : List Num) (w : World) (hl : its.length ≤ 9223372036854775807) (hc : Its w a0 its) (hlv : v.length ≤ 20) (h1 : Nms w a1 v) (hk : chkIts g its = 0) (hn : isVec v = true) (hs : ¬ (v.length : Int) = g) :
    Calls Try.prog 34 #[.int .i64 g, .slice a0 its.length cap, .slice a1 v.length k1] w (ListE (litOf g its v) w) := by
  have HK := hid fun w' (h : Grew w w') => asked_any g a0 cap its w' hl (hc.grew h)
  have HV := hid fun w' (h : Grew w w') => isVec_any a1 k1 v w' (by omega) (h1.grew h)
  have HR : Hid (litOf g its v = ([], 21)) := hid (by unfold litOf; rw [if_pos hk, hn, if_pos (by rfl), if_neg hs])
  rw [hk] at HK
  rw [hn] at HV
  have e1 : ((v.length : Int) != g) = true := by simpa using hs
  clear hc h1 hk hn hs
  go_enter Try.func34, Try.ntmps34
  go_wp2_with fail
  refine (HK.out _ (by repeat (first | exact Grew.refl _ | refine Grew.drewN ?_ _ | refine Grew.grow ?_ _ | refine Grew.alloc ?_ _ | refine Grew.drew ?_))).mono ?_
  rintro e w' ⟨rfl, g', n', rfl⟩
  go_wp2_with fail
  refine (HV.out _ (by repeat (first | exact Grew.refl _ | refine Grew.drewN ?_ _ | refine Grew.grow ?_ _ | refine Grew.alloc ?_ _ | refine Grew.drew ?_))).mono ?_
  rintro e w' ⟨rfl, g1, n1', rfl⟩
  go_wp2_with fail
  exact bodyPost_ret (v := .tuple #[.slice none 0 0, .int .i64 21]) (by simp [results, Try.results34, go_sem]) rfl ⟨⟨none, 0, by rw [HR.out]; rfl, by rw [HR.out]; exact .inl rfl⟩, (by repeat (first | exact Grew.refl _ | refine Grew.drewN ?_ _ | refine Grew.grow ?_ _ | refine Grew.alloc ?_ _ | refine Grew.drew ?_))⟩

set_option maxRecDepth 100000 in
set_option maxHeartbeats 8000000 in
theorem rlight_main (n : Nat) (a0 : Option Addr) (cap : Nat) (its : List It) (b1 o1 : Nat) (k1 : Nat) (v : List Num) (w : World) (hl : its.length ≤ 9223372036854775807) (hc : Its w a0 its) (hb1 : b1 < w.heap.size) (hv1 : NumsAt w b1 o1 v) (hk : chkIts n its = 0) (hn : v.length = n) (hv : isVec v = true) :
    Calls Try.prog 34 #[.int .i64 n, .slice a0 its.length cap, .slice (some ⟨b1, o1, none⟩) v.length k1] w (ListE (litN n its v) w) := by
  obtain ⟨n1', n2', hl5, hok⟩ := chkIts_zero hk
  obtain ⟨i0, hi, hz0, hz1, hz2⟩ := info_parts info_num
  have n1 : 1 ≤ n := by omega
  have n2 : n ≤ 6 := by omega
  have h1 : Nms w (some ⟨b1, o1, none⟩) v := .inr ⟨b1, o1, rfl, hb1, hv1⟩
  have HK := hid fun w' (h : Grew w w') => asked_any n a0 cap its w' hl (hc.grew h)
  rw [hk] at HK
  have HV := hid fun w' (h : Grew w w') => isVec_any (some ⟨b1, o1, none⟩) k1 v w' (by omega) (h1.grew h)
  rw [hv] at HV
  have HNA := hid fun w' (h : Grew w w') j u (hj : (numsCells v)[j]? = some u) => (show w'.cell? ⟨b1, o1 + j, none⟩ = some u from by
    have h2 := nums_news hv1 j u hj
    rw [show (⟨b1, o1, none⟩ : Addr).add j = ⟨b1, o1 + j, none⟩ by unfold Addr.add; by_cases h0 : j = 0 <;> simp [h0]] at h2
    exact (h.cell hb1 _).trans h2)
  have HC := hid hc
  have HOK := hid hok
  obtain ⟨R, hR⟩ : ∃ R, litN n its v = R := ⟨_, rfl⟩
  rw [hR]
  have H0 := hid (show litN n (its.drop 0) v = R ∧ v.length = n ∧ VldL v from ⟨hR, hn, allVld_iff (by unfold isVec at hv; rw [Bool.and_eq_true] at hv; exact hv.1)⟩)
  have e1 : ((v.length : Int) != n) = false := by simp [hn]
  have hv6 : v.length ≤ 6 := by omega
  clear hc hok hR hk n1' n2' h1 hv1 hn hv
  go_enter Try.func34, Try.ntmps34
  go_wp2_with fail
  refine (HK.out _ (by repeat (first | exact Grew.refl _ | refine Grew.drewN ?_ _ | refine Grew.grow ?_ _ | refine Grew.alloc ?_ _ | refine Grew.drew ?_))).mono ?_
  rintro e w' ⟨rfl, g', n', rfl⟩
  go_wp2_with fail
  refine (HV.out _ (by repeat (first | exact Grew.refl _ | refine Grew.drewN ?_ _ | refine Grew.grow ?_ _ | refine Grew.alloc ?_ _ | refine Grew.drew ?_))).mono ?_
  rintro e w' ⟨rfl, g1, n1', rfl⟩
  go_wp2_with (at_builtin; refine wpList_append_behind rfl _ _ 26 rfl (w.heap.size) 53 i0 (.agg #[.int .i64 0, .int .i64 0, .int .i64 0, .int .i64 0, .int .i64 0]) 5 40 Try.underlying26 hi hz0 hz1 hz2 rfl (by decide) _ _ [] rfl ((own_empty (w := w.grow (g' ++ g1)) (b := w.heap.size + g'.length + g1.length) (by simp [go_sem] <;> omega) (by omega)).grew ((Grew.refl _).drewN _)) ⟨b1, o1, none⟩ v.length k1 (numsCells v) rfl (numsCells_length v) ?c1 (fun u hu => numsCells_one hu) ?c3 ?c4 ?c5 ?_)
  case c1 =>
    intro j u hj
    rw [show (⟨b1, o1, none⟩ : Addr).add j = ⟨b1, o1 + j, none⟩ by unfold Addr.add; by_cases h0 : j = 0 <;> simp [h0]]
    exact HNA.out _ (by repeat (first | exact Grew.refl _ | refine Grew.drewN ?_ _ | refine Grew.grow ?_ _ | refine Grew.alloc ?_ _ | refine Grew.drew ?_)) j u hj
  case c3 => unfold maxLen; omega
  case c4 => omega
  case c5 => simp [go_sem] <;> omega
  · intro v' w1 hown' hgrow hwh hdr
    obtain ⟨av, kv, rfl⟩ := ownsRow_slice hown'
    have hg : Grew w w1 := Grew.by (w' := _) (by repeat (first | exact Grew.refl _ | refine Grew.drewN ?_ _ | refine Grew.grow ?_ _ | refine Grew.alloc ?_ _ | refine Grew.drew ?_)) hgrow hdr (fun jj hjj => by simp [Value.ownBlock] at hjj; omega)
    have hNW : Nms w1 av v := OwnN.nms (base := w.heap.size) (k0 := kv) (by simpa [OwnN] using hown')
    have HWG := hid hg
    try simp only [Nat.zero_add]
    clear hown' hgrow hwh hdr hg HNA
    go_wp2_with fail
    go_loopw [9, 35] (fun c k wr => ∃ (i : Nat) (u : List Num) (av : Option Addr) (kv : Nat), i ≤ its.length ∧ k = .int .i64 i ∧ c = .slice av u.length kv ∧ Nms wr av u ∧ Grew w wr ∧ Hid (litN n (its.drop i) u = R ∧ u.length = n ∧ VldL u)) (fun _ k _ => its.length - (intOf k).toNat)
    case atStart => exact ⟨0, v, av, kv, Nat.zero_le _, rfl, rfl, hNW, HWG.out, H0⟩
    case round =>
      clear hNW
      obtain ⟨i, u, av, kv, hi', rfl, rfl, hNv, hG, hs⟩ := hrel
      have HG := hid hG
      have HNv := hid hNv
      clear hG hNv
      by_cases hlt : i < its.length
      · skip
        obtain ⟨x, hx⟩ : ∃ x, its[i]? = some x := ⟨its[i], List.getElem?_eq_getElem hlt⟩
        obtain ⟨b, off, rfl, hb, c0, c1, c2, c3⟩ := (HC.out.grew HG.out).cells hx
        have hb1 := fun m0 : Nat => Nat.lt_add_right m0 (hb)
        have hb2 := fun m0 m1 : Nat => Nat.lt_add_right m1 (hb1 m0)
        have hb3 := fun m0 m1 m2 : Nat => Nat.lt_add_right m2 (hb2 m0 m1)
        have Hx := hid hx
        clear hx
        have hok := okIts_at Hx.out HOK.out
        obtain ⟨ok1, ok2, ok3, ok4, ok5, ok6⟩ := okIt_iff hok
        have HOK1 := hid ok1
        obtain ⟨m, hm⟩ : ∃ m, ownW x.kind = m := ⟨_, rfl⟩
        obtain ⟨lm, hlm⟩ : ∃ lm, ownM x.kind x.n = lm := ⟨_, rfl⟩
        have HLM := hid (And.intro hm hlm)
        have hlmV : VldL lm := by rw [← hlm]; exact ownM_valid _ _
        have hlmL : lm.length = m * m := by rw [← hlm, ← hm]; exact ownM_length _ _
        have hm1 : 1 ≤ m := by rw [← hm]; unfold ownW; split <;> omega
        obtain ⟨lp, hlp⟩ : ∃ lp, placeN n x.pos.toNat m lm = lp := ⟨_, rfl⟩
        have hlpL : lp.length = n * n := by rw [← hlp]; exact placeL_length _ _ _ _ _
        have hlpV : VldL lp := by rw [← hlp]; exact placeL_valid hlmV _
        have HP := hid fun am km W (hN : Nms W am lm) => (show Calls Try.prog 58 #[.int .i64 n, .int .i64 x.pos, .agg #[.int .i64 m, .slice am lm.length km]] W (MatP n lp W) from by
          have h := placeIn_any n x.pos.toNat m am km lm W n1 n2 hm1 (by omega) (by rw [hm] at ok4; omega) hlmL hN
          rw [Int.toNat_of_nonneg (by omega), hlp] at h
          exact h)
        obtain ⟨L, hL⟩ : ∃ L, appR n lp u = L := ⟨_, rfl⟩
        obtain ⟨hs1, hs2, hs3⟩ := hs.out
        have HL := hid hL
        have HLn := hid (show L.length = n by rw [← hL]; exact appR_length _ _ _)
        have HR := hid (show appM n (placeN n x.pos.toNat (ownW x.kind) (ownM x.kind x.n)) u = seqR L by rw [hm, hlm, hlp, ← hL]; rfl)
        have HVL : Hid (∀ l, seqR L = (l, 0) → VldL l ∧ l.length = n) := hid (fun l h => by
          have h1 := appM_valid n lp u
          have h2 := @appM_length n lp u
          rw [show appM n lp u = seqR L by rw [← hL]; rfl, h] at h1 h2
          exact ⟨h1, h2 rfl⟩)
        have HROW := hid fun (q : Nat) a2 k2 W (hq : q < n) (hA : Nms W a2 lp) (hB : Nms W av u) => row_any n q a2 av k2 kv lp u W n2 hlpL hs2 hq hA hB
        have HS1 := hid hs1
        clear hs hok ok1 ok2 ok3 ok4 ok5 ok6 hm hlm hlmV hlmL hm1 hlp hlpL hlpV hL hs1 hs2 hs3
        go_wp2_with fail
        refine R4.wp_region_slots 7 (fun ix vs W => match ix with | 0 => vs 0 = .int .i64 n | 1 => vs 1 = .pointer (some ⟨wr.heap.size, 1, none⟩) | 2 => vs 2 = .int .i64 x.pos | 3 => vs 3 = .agg #[.int .i64 x.kind, .int .i64 x.pos, .int .i64 x.n, .string x.name] | 4 => MatV (vs 4) W m lm | 5 => MatV (vs 5) W n lp | 6 => NewMat (wr.heap.size + 1) (vs 6) W | _ => True) (by kernel_rfl) (by kernel_rfl) ?slst ?sldep ?slop ?slq
        case slst =>
          intro ix vs W W' h hg
          match ix, h with
          | 0, h => exact h
          | 1, h => exact h
          | 2, h => exact h
          | 3, h => exact h
          | 4, h => exact MatV.grew h hg
          | 5, h => exact MatV.grew h hg
          | 6, h => exact NewMat.grew h hg
          | _ + 7, _ => trivial
        case sldep =>
          intro ix o vs vs' W hix ho h hv hn
          match ix, hix, ho, h, hv with
          | 0, _, _, h, hv => exact Eq.trans hv h
          | 1, _, _, h, hv => exact Eq.trans hv h
          | 2, _, _, h, hv => exact Eq.trans hv h
          | 3, _, _, h, hv => exact Eq.trans hv h
          | 4, _, _, h, hv => show MatV (vs' 4) W m lm; rw [hv]; exact h
          | 5, _, _, h, hv => show MatV (vs' 5) W n lp; rw [hv]; exact h
          | 6, _, _, h, hv => show NewMat (wr.heap.size + 1) (vs' 6) W; rw [hv]; exact h
          | kx + 7, hix, _, _, _ => exact absurd hix (by omega)
        case slop =>
          intro ix o hix ho vs W L hg hL hn hall
          match ix, hix, ho, hL with
          | 0, _, ho, _ =>
            obtain rfl := Option.some.inj ho
            change R4.Oper.slotAt _ _ { tmps := _, defers := _ } _ _
            obtain ⟨gq, nq, rfl⟩ := hg
            go_simp
            exact ⟨R4.upd_same _ _ _, .inl (Grew.refl _)⟩
          | 1, _, ho, _ =>
            obtain rfl := Option.some.inj ho
            change R4.Oper.slotAt _ _ { tmps := _, defers := _ } _ _
            obtain ⟨gq, nq, rfl⟩ := hg
            go_simp
            exact ⟨R4.upd_same _ _ _, .inl (Grew.refl _)⟩
          | 2, _, ho, _ =>
            obtain rfl := Option.some.inj ho
            have hn1 := (hn 1 (by decide)).2
            try dsimp only at hn1
            change R4.Oper.slotAt _ _ (Act.put _ (some 40) (vs 1)) _ _
            conv => arg 3; rw [hn1]
            clear hn1
            obtain ⟨gq, nq, rfl⟩ := hg
            go_simp
            exact ⟨R4.upd_same _ _ _, .inl (Grew.refl _)⟩
          | 3, _, ho, _ =>
            obtain rfl := Option.some.inj ho
            change R4.Oper.slotAt _ _ { tmps := _, defers := _ } _ _
            obtain ⟨gq, nq, rfl⟩ := hg
            go_simp
            exact ⟨R4.upd_same _ _ _, .inl (Grew.refl _)⟩
          | 4, _, ho, _ =>
            obtain rfl := Option.some.inj ho
            have hn3 := (hn 3 (by decide)).2
            try dsimp only at hn3
            change R4.Oper.slotAt _ _ (Act.put _ (some 42) (vs 3)) _ _
            conv => arg 3; rw [hn3]
            clear hn3
            obtain ⟨gq, nq, rfl⟩ := hg
            go_simp
            refine (of_any x _ HOK1.out).mono ?_
            rintro e w' ⟨⟨a2, k2, rfl, ho⟩, gr⟩
            exact ⟨_, rfl, by rw [R4.upd_same]; exact ⟨a2, k2, by rw [← HLM.out.1, ← HLM.out.2], by rw [← HLM.out.2]; exact ho.nms⟩, .inl gr⟩
          | 5, _, ho, _ =>
            obtain rfl := Option.some.inj ho
            have hn0 := (hn 0 (by decide)).2
            have hn2 := (hn 2 (by decide)).2
            have hn4 := (hn 4 (by decide)).2
            try dsimp only at hn0 hn2 hn4
            change R4.Oper.slotAt _ _ (Act.put (Act.put (Act.put _ (some 39) (vs 0)) (some 41) (vs 2)) (some 43) (vs 4)) _ _
            conv => arg 3; rw [hn0, hn2]
            clear hn0 hn2
            obtain ⟨gq, nq, rfl⟩ := hg
            obtain ⟨a2, k2, e2, h2⟩ := hn4
            conv => arg 3; rw [e2]
            clear e2
            go_simp
            refine (HP.out a2 k2 _ h2).mono ?_
            rintro e w' ⟨⟨a3, k3, rfl, ho⟩, gr⟩
            exact ⟨_, rfl, by rw [R4.upd_same]; exact ⟨a3, k3, rfl, ho.nms⟩, .inl gr⟩
          | 6, _, ho, _ =>
            obtain rfl := Option.some.inj ho
            change R4.Oper.slotAt _ _ { tmps := _, defers := _ } _ _
            have hs := hg.size
            simp [go_sem] at hs
            go_simp
            exact ⟨by rw [R4.upd_same]; exact NewMat.fresh rfl (by omega), .inl ((Grew.refl _).alloc _)⟩
          | kx + 7, hix, _, _ => exact absurd hix (by omega)
        case slq =>
          intro vs W2 hg hn
          obtain ⟨b6, x', a', p', q', e3, hB6, hq6⟩ : NewMat (wr.heap.size + 1) (vs 6) W2 := hn 6 (by decide) (by decide)
          obtain ⟨a5, k5, e5, hN5⟩ : MatV (vs 5) W2 n lp := hn 5 (by decide) (by decide)
          have hgw : Grew wr W2 := Grew.trans (by repeat (first | exact Grew.refl _ | refine Grew.drewN ?_ _ | refine Grew.grow ?_ _ | refine Grew.alloc ?_ _ | refine Grew.drew ?_)) hg
          have ca : W2.cell? ⟨b6, 0, none⟩ = some (.int .i64 x') := by simp [World.cell?, hq6]
          have cb : W2.cell? ⟨b6, 1, none⟩ = some (.slice a' p' q') := by simp [World.cell?, hq6]
          have fa : W2.frozen? ⟨b6, 0, none⟩ = false := by simp [World.frozen?, hq6]
          have fb : W2.frozen? ⟨b6, 1, none⟩ = false := by simp [World.frozen?, hq6]
          have HG2 := hid (HG.out.trans hgw)
          have HQ6 := hid hq6
          have HN5 := hid hN5
          have HNu := hid (HNv.out.grew hgw)
          have HB6 : Hid (w.heap.size ≤ b6) := hid (by have := HG.out.size; omega)
          change wpList _ _ _ _ (Act.put (Act.put (Act.put (Act.put (Act.put (Act.put (Act.put _ (some 39) (vs 0)) (some 40) (vs 1)) (some 41) (vs 2)) (some 42) (vs 3)) (some 43) (vs 4)) (some 44) (vs 5)) (some 12) (vs 6)) _
          simp only [Act.put, List.setIfInBounds_toArray, List.set_cons_zero, List.set_cons_succ, List.drop_succ_cons, List.drop_zero, e3, e5]
          clear hn e3 e5 hN5 hg hgw hq6 hB6
          go_wp2_with fail
          obtain ⟨W3, hW3⟩ : ∃ W3, W3 = (W2.setCell ⟨b6, 0, none⟩ (.int .i64 n)).setCell ⟨b6, 1, none⟩ (.slice a5 lp.length k5) := ⟨_, rfl⟩
          obtain ⟨s1, s2⟩ := R4.set2 HQ6.out (.int .i64 n) (.slice a5 lp.length k5)
          have hT3 : Turned W2 W3 b6 := by rw [hW3]; exact ((Turned.refl _ _).set _ _).set _ _
          have hG3 : Grew w W3 := hT3.toGrew HG2.out HB6.out
          have hA3 : Nms W3 a5 lp := HN5.out.turned hT3 HQ6.out
          have hU3 : Nms W3 av u := HNu.out.turned hT3 HQ6.out
          have h63 : W3.heap[b6]? = some (.cells #[.int .i64 n, .slice a5 lp.length k5] 28) := by rw [hW3]; exact s1
          have y0 : W3.cell? ⟨b6, 0, none⟩ = some (.int .i64 n) := by simp [World.cell?, h63]
          have y1 : W3.cell? ⟨b6, 1, none⟩ = some (.slice a5 lp.length k5) := by simp [World.cell?, h63]
          have z6 := (Array.getElem?_eq_some_iff.1 h63).1
          rw [← hW3]
          have HG3 := hid hG3
          have HA3 := hid hA3
          have HU3 := hid hU3
          clear hW3 s1 s2 hT3 hG3 hA3 hU3 h63 ca cb fa fb HQ6 HN5 HNu HG2
          go_loopw [13, 46] (fun c k wr2 => ∃ (q : Nat) (ac : Option Addr) (kc : Nat) (lq : List Num), q ≤ n ∧ k = .int .i64 q ∧ c = .slice ac lq.length kc ∧ Grew W3 wr2 ∧ Hid (seqR (L.take q) = (lq, 0)) ∧ Hid (wr2.ownsRow W3.heap.size 53 5 (.slice ac lq.length kc) lq.length (numsCells lq))) (fun _ k _ => n - (intOf k).toNat)
          case atStart => exact ⟨0, none, 0, [], Nat.zero_le _, rfl, rfl, Grew.refl _, hid (by simp [seqR]), hid (World.ownsRow_nil _ _ _ _)⟩
          case round =>
            obtain ⟨q, ac, kc, lq, hq, rfl, rfl, hg2, hs, hoc⟩ := hrel
            have hsz := hg2.size
            obtain ⟨g2, n2', rfl⟩ := hg2
            have z61 := fun m0 : Nat => Nat.lt_add_right m0 (z6)
            have z62 := fun m0 m1 : Nat => Nat.lt_add_right m1 (z61 m0)
            have z63 := fun m0 m1 m2 : Nat => Nat.lt_add_right m2 (z62 m0 m1)
            by_cases hltq : q < n
            · have hlen : lq.length ≤ 6 := by rw [seqR_len hs.out (by rw [HLn.out]; omega)]; omega
              go_wp2_with fail
              refine (HROW.out q _ _ _ hltq (HA3.out.grew ⟨_, _, rfl⟩) (HU3.out.grew ⟨_, _, rfl⟩)).mono ?_
              rintro e w' ⟨rfl, g3, n3, rfl⟩
              obtain ⟨R', hR'⟩ : ∃ R', rowN (prowV lp u n q) = R' := ⟨_, rfl⟩
              rw [hR']
              have HRq : Hid (L[q]? = some R') := hid (by rw [← HL.out, ← hR']; exact appR_at lp u hltq)
              clear hR'
              by_cases hRe : R'.e = 0
              · have HRe := hid hRe
                rw [hRe]
                clear hRe
                have HOC := hid fun w2 (h : Grew (W3.grow g2) w2) => World.ownsRow.grew (w := W3.grow g2) hoc.out h
                go_wp2_with (at_builtin; refine wpList_append_behind rfl _ _ 26 rfl W3.heap.size 53 i0 (.agg #[.int .i64 0, .int .i64 0, .int .i64 0, .int .i64 0, .int .i64 0]) 5 40 Try.underlying26 hi hz0 hz1 hz2 rfl (by decide) _ _ (numsCells lq) rfl (HOC.out _ (by repeat (first | exact Grew.refl _ | exact grew_app _ _ _ | refine Grew.drewN ?_ _ | refine Grew.grow ?_ _ | refine Grew.alloc ?_ _ | refine Grew.drew ?_))) ⟨_, 0, none⟩ 1 1 (numCells ⟨R'.x, R'.k⟩) rfl rfl ?c1 (fun u hu => numCells_one hu) ?c3 ?c4 ?c5 ?_)
                case c1 => exact numCells_in (z := ⟨R'.x, R'.k⟩) (by simp [go_sem]) (by simp [go_sem]) (by simp [go_sem]) (by simp [go_sem]) (by simp [go_sem])
                case c3 => unfold maxLen; omega
                case c4 => omega
                case c5 => simp [go_sem] <;> omega
                · intro v' w1 hown' hgrow hwh hdr
                  obtain ⟨a2, k2, rfl⟩ := ownsRow_slice hown'
                  have hg4 : Grew W3 w1 := Grew.by (w' := _) (by repeat (first | exact Grew.refl _ | refine Grew.drewN ?_ _ | refine Grew.grow ?_ _ | refine Grew.alloc ?_ _ | refine Grew.drew ?_)) hgrow hdr (fun jj hjj => ownsRow_above hoc.out jj hjj)
                  rw [← numsCells_append] at hown'
                  have HG4 := hid hg4
                  have HO4 := hid hown'
                  clear hgrow hown' hwh hdr HOC hg4 hoc
                  go_wp2_with fail
                  go_roundw
                  case rel => exact ⟨q + 1, a2, k2, lq ++ [⟨R'.x, R'.k⟩], by omega, by go_num, by simp, HG4.out, hid (seqR_step hs.out HRq.out HRe.out), by simpa using HO4⟩
                  case measure => simp [intOf]; omega
              · have HRe := hid hRe
                have e1 : (R'.e != 0) = true := by simpa using hRe
                clear hRe
                go_wp2_with fail
                exact bodyPost_ret (v := .tuple #[.slice none 0 0, .int .i64 R'.e]) (by simp [results, Try.results34, go_sem]) rfl (by
                  have h := seqR_stop hs.out HRq.out HRe.out
                  have h1 := litN_stop Hx.out (HR.out.trans h) HRe.out
                  rw [HS1.out] at h1
                  exact ⟨⟨none, 0, by rw [h1]; rfl, by rw [h1]; exact .inl rfl⟩, HG3.out.trans (by repeat (first | exact Grew.refl _ | refine Grew.drewN ?_ _ | refine Grew.grow ?_ _ | refine Grew.alloc ?_ _ | refine Grew.drew ?_))⟩)
            · obtain rfl : q = n := by omega
              have h := hs.out
              rw [List.take_of_length_le (by rw [HLn.out]; exact Nat.le_refl _)] at h
              have hv2 := HVL.out _ h
              have HV2 := hid hv2
              have HSL := hid h
              have HOC := hid (OwnN.nms (base := W3.heap.size) (k0 := kc) (l := lq) (a0 := ac) (w := (W3.grow g2).drewN n2') hoc.out)
              clear hs hoc h hv2
              go_wp2_with fail
              go_roundw
              case rel =>
                refine ⟨i + 1, lq, ac, kc, by omega, by go_num, rfl, HOC.out, HG3.out.trans ⟨_, _, rfl⟩, hid ⟨?_, HV2.out.2, HV2.out.1⟩⟩
                have h1 := litN_step Hx.out (HR.out.trans HSL.out) rfl
                rw [← HS1.out]; exact h1.symm
              case measure => simp [intOf]; omega
      · obtain rfl : i = its.length := by omega
        have hfin : Hid (R = (u, 0)) := by
          obtain ⟨h2, h3, h4⟩ := hs.out
          rw [List.drop_length, litN] at h2
          exact h2.symm
        clear hs
        go_wp2_with fail
        exact bodyPost_ret (v := .tuple #[.slice av u.length kv, .int .i64 0]) (by simp [results, Try.results34, go_sem]) rfl ⟨⟨av, kv, by rw [hfin.out], by rw [hfin.out]; exact HNv.out⟩, HG.out⟩

theorem rlight_any (g : Int) (a0 : Option Addr) (cap : Nat) (its : List It) (a1 : Option Addr) (k1 : Nat) (v : List Num) (w : World) (hl : its.length ≤ 9223372036854775807) (hc : Its w a0 its) (hlv : v.length ≤ 20) (h1 : Nms w a1 v) :
    Calls Try.prog 34 #[.int .i64 g, .slice a0 its.length cap, .slice a1 v.length k1] w (ListE (litOf g its v) w) := by
  by_cases hk : chkIts g its = 0
  case neg => exact rlight_chk g a0 cap its a1 k1 v w hl hc hlv h1 hk
  by_cases hv : isVec v = true
  case neg => exact rlight_vec g a0 cap its a1 k1 v w hl hc hlv h1 hk (by simpa using hv)
  by_cases hs : (v.length : Int) = g
  case neg => exact rlight_size g a0 cap its a1 k1 v w hl hc hlv h1 hk hv hs
  obtain ⟨n, rfl⟩ := Int.eq_ofNat_of_zero_le (show 0 ≤ g by omega)
  rw [show litOf n its v = litN n its v by unfold litOf; rw [if_pos hk, hv, if_pos (by rfl), if_pos hs]; rfl]
  rcases h1 with rfl | ⟨b1, o1, rfl, hb1, hv1⟩
  · simp [isVec] at hv
  · exact rlight_main n a0 cap its b1 o1 k1 v w hl hc hb1 hv1 hk (by omega) hv

end Go.Proofs.Ytkglnnkghillpaa
