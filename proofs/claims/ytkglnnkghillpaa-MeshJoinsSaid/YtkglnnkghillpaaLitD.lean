/- Layer 3: what light becomes. Condition: the items and the numbers lie in memory. -/
import Derived.Test.YtkglnnkghillpaaLitC
namespace Go.Proofs.Ytkglnnkghillpaa
open Go Go.RowKit Amp Msh

/-- A list of numbers, in memory. -/
def LstV (v : Value) (w : World) (l : List Num) : Prop := ∃ (a0 : Option Addr) (k0 : Nat), v = .slice a0 l.length k0 ∧ Nms w a0 l
theorem LstV.grew {v : Value} {w w' : World} {l : List Num} (h : LstV v w l) (g : Grew w w') : LstV v w' l := by
  obtain ⟨a0, k0, h1, h2⟩ := h; exact ⟨a0, k0, h1, h2.grew g⟩
/-- A list of numbers and an error. -/
def LstE (v : Value) (w : World) (r : List Num × Int) : Prop := ∃ (a0 : Option Addr) (k0 : Nat), v = .tuple #[.slice a0 r.1.length k0, .int .i64 r.2] ∧ Nms w a0 r.1
theorem LstE.grew {v : Value} {w w' : World} {r : List Num × Int} (h : LstE v w r) (g : Grew w w') : LstE v w' r := by
  obtain ⟨a0, k0, h1, h2⟩ := h; exact ⟨a0, k0, h1, h2.grew g⟩

set_option maxRecDepth 100000 in
set_option maxHeartbeats 800000 in
theorem light_chk (g : Int) (a0 : Option Addr) (cap : Nat) (its : List It) (a1 : Option Addr) (k1 : Nat) (v : List Num) (w : World) (hl : its.length ≤ 9223372036854775807) (hc : Its w a0 its) (_hlv : v.length ≤ 20) (_h1 : Nms w a1 v) (hk : ¬ chkIts g its = 0) :
    Calls Try.prog 33 #[.int .i64 g, .slice a0 its.length cap, .slice a1 v.length k1] w (ListE (litOf g its v) w) := by
  have HK := hid fun w' (h : Grew w w') => check_any g a0 cap its w' hl (hc.grew h)
  have HR : Hid (litOf g its v = ([], chkIts g its)) := hid (by unfold litOf; rw [if_neg hk])
  obtain ⟨E, hE⟩ : ∃ E, chkIts g its = E := ⟨_, rfl⟩
  rw [hE] at HK HR hk
  have e1 : (E != 0) = true := by simpa using hk
  clear hc _h1 hk hE
  go_enter Try.func33, Try.ntmps33
  go_wp2_with fail
  refine (HK.out _ (by repeat (first | exact Grew.refl _ | refine Grew.drewN ?_ _ | refine Grew.grow ?_ _ | refine Grew.alloc ?_ _ | refine Grew.drew ?_))).mono ?_
  rintro e w' ⟨rfl, g', n, rfl⟩
  go_wp2_with fail
  exact bodyPost_ret (v := .tuple #[.slice none 0 0, .int .i64 E]) (by simp [results, Try.results33, go_sem]) rfl ⟨⟨none, 0, by rw [HR.out]; rfl, by rw [HR.out]; exact .inl rfl⟩, (by repeat (first | exact Grew.refl _ | refine Grew.drewN ?_ _ | refine Grew.grow ?_ _ | refine Grew.alloc ?_ _ | refine Grew.drew ?_))⟩

set_option maxRecDepth 100000 in
set_option maxHeartbeats 800000 in
theorem light_long (g : Int) (a0 : Option Addr) (cap : Nat) (its : List It) (a1 : Option Addr) (k1 : Nat) (v : List Num) (w : World) (hl : its.length ≤ 9223372036854775807) (hc : Its w a0 its) (hlv : v.length ≤ 20) (_h1 : Nms w a1 v) (hk : chkIts g its = 0) (hn : ¬ (1 ≤ v.length ∧ v.length ≤ 6)) :
    Calls Try.prog 33 #[.int .i64 g, .slice a0 its.length cap, .slice a1 v.length k1] w (ListE (litOf g its v) w) := by
  have HK := hid fun w' (h : Grew w w') => check_any g a0 cap its w' hl (hc.grew h)
  have HR : Hid (litOf g its v = ([], 20)) := hid (by unfold litOf isVec; rw [if_pos hk, decide_eq_false hn]; simp)
  rw [hk] at HK
  have HM := hid fun w => mbtw_any 1 (v.length : Int) 6 w
  rw [decide_eq_false (by omega)] at HM
  clear hc _h1 hk hn
  go_enter Try.func33, Try.ntmps33
  go_wp2_with fail
  refine (HK.out _ (by repeat (first | exact Grew.refl _ | refine Grew.drewN ?_ _ | refine Grew.grow ?_ _ | refine Grew.alloc ?_ _ | refine Grew.drew ?_))).mono ?_
  rintro e w' ⟨rfl, g', n, rfl⟩
  go_wp2_with fail
  refine (HM.out _).mono ?_
  rintro e w' ⟨rfl, g1, n1, rfl⟩
  go_wp2_with fail
  exact bodyPost_ret (v := .tuple #[.slice none 0 0, .int .i64 20]) (by simp [results, Try.results33, go_sem]) rfl ⟨⟨none, 0, by rw [HR.out]; rfl, by rw [HR.out]; exact .inl rfl⟩, (by repeat (first | exact Grew.refl _ | refine Grew.drewN ?_ _ | refine Grew.grow ?_ _ | refine Grew.alloc ?_ _ | refine Grew.drew ?_))⟩

set_option maxRecDepth 100000 in
set_option maxHeartbeats 800000 in
theorem light_bad (g : Int) (a0 : Option Addr) (cap : Nat) (its : List It) (a1 : Option Addr) (k1 : Nat) (v : List Num) (w : World) (hl : its.length ≤ 9223372036854775807) (hc : Its w a0 its) (hlv : v.length ≤ 20) (h1 : Nms w a1 v) (hk : chkIts g its = 0) (hn : 1 ≤ v.length ∧ v.length ≤ 6) (hv : allVld v = false) :
    Calls Try.prog 33 #[.int .i64 g, .slice a0 its.length cap, .slice a1 v.length k1] w (ListE (litOf g its v) w) := by
  have HK := hid fun w' (h : Grew w w') => check_any g a0 cap its w' hl (hc.grew h)
  have HR : Hid (litOf g its v = ([], 20)) := hid (by unfold litOf isVec; rw [if_pos hk, hv]; simp)
  rw [hk] at HK
  have HM := hid fun w => mbtw_any 1 (v.length : Int) 6 w
  rw [decide_eq_true (by omega)] at HM
  have HH := hid fun w' (h : Grew w w') => hasL_any a1 k1 v w' (by omega) (h1.grew h)
  rw [hv] at HH
  clear hc h1 hk hn hv
  go_enter Try.func33, Try.ntmps33
  go_wp2_with fail
  refine (HK.out _ (by repeat (first | exact Grew.refl _ | refine Grew.drewN ?_ _ | refine Grew.grow ?_ _ | refine Grew.alloc ?_ _ | refine Grew.drew ?_))).mono ?_
  rintro e w' ⟨rfl, g', n', rfl⟩
  go_wp2_with fail
  refine (HM.out _).mono ?_
  rintro e w' ⟨rfl, g1, n1', rfl⟩
  go_wp2_with fail
  refine (HH.out _ (by repeat (first | exact Grew.refl _ | refine Grew.drewN ?_ _ | refine Grew.grow ?_ _ | refine Grew.alloc ?_ _ | refine Grew.drew ?_))).mono ?_
  rintro e w' ⟨rfl, g2, n2', rfl⟩
  go_wp2_with fail
  exact bodyPost_ret (v := .tuple #[.slice none 0 0, .int .i64 20]) (by simp [results, Try.results33, go_sem]) rfl ⟨⟨none, 0, by rw [HR.out]; rfl, by rw [HR.out]; exact .inl rfl⟩, (by repeat (first | exact Grew.refl _ | refine Grew.drewN ?_ _ | refine Grew.grow ?_ _ | refine Grew.alloc ?_ _ | refine Grew.drew ?_))⟩

set_option maxRecDepth 100000 in
set_option maxHeartbeats 800000 in
theorem light_size (g : Int) (a0 : Option Addr) (cap : Nat) (its : List It) (a1 : Option Addr) (k1 : Nat) (v : List Num) (w : World) (hl : its.length ≤ 9223372036854775807) (hc : Its w a0 its) (hlv : v.length ≤ 20) (h1 : Nms w a1 v) (hk : chkIts g its = 0) (hn : 1 ≤ v.length ∧ v.length ≤ 6) (hv : allVld v = true) (hs : ¬ (v.length : Int) = g) :
    Calls Try.prog 33 #[.int .i64 g, .slice a0 its.length cap, .slice a1 v.length k1] w (ListE (litOf g its v) w) := by
  have HK := hid fun w' (h : Grew w w') => check_any g a0 cap its w' hl (hc.grew h)
  have HR : Hid (litOf g its v = ([], 21)) := hid (by unfold litOf isVec; rw [if_pos hk, hv, decide_eq_true hn, if_pos (by rfl), if_neg hs])
  rw [hk] at HK
  have HM := hid fun w => mbtw_any 1 (v.length : Int) 6 w
  rw [decide_eq_true (by omega)] at HM
  have HH := hid fun w' (h : Grew w w') => hasL_any a1 k1 v w' (by omega) (h1.grew h)
  rw [hv] at HH
  have e1 : ((v.length : Int) != g) = true := by simpa using hs
  clear hc h1 hk hn hv hs
  go_enter Try.func33, Try.ntmps33
  go_wp2_with fail
  refine (HK.out _ (by repeat (first | exact Grew.refl _ | refine Grew.drewN ?_ _ | refine Grew.grow ?_ _ | refine Grew.alloc ?_ _ | refine Grew.drew ?_))).mono ?_
  rintro e w' ⟨rfl, g', n', rfl⟩
  go_wp2_with fail
  refine (HM.out _).mono ?_
  rintro e w' ⟨rfl, g1, n1', rfl⟩
  go_wp2_with fail
  refine (HH.out _ (by repeat (first | exact Grew.refl _ | refine Grew.drewN ?_ _ | refine Grew.grow ?_ _ | refine Grew.alloc ?_ _ | refine Grew.drew ?_))).mono ?_
  rintro e w' ⟨rfl, g2, n2', rfl⟩
  go_wp2_with fail
  exact bodyPost_ret (v := .tuple #[.slice none 0 0, .int .i64 21]) (by simp [results, Try.results33, go_sem]) rfl ⟨⟨none, 0, by rw [HR.out]; rfl, by rw [HR.out]; exact .inl rfl⟩, (by repeat (first | exact Grew.refl _ | refine Grew.drewN ?_ _ | refine Grew.grow ?_ _ | refine Grew.alloc ?_ _ | refine Grew.drew ?_))⟩

set_option maxRecDepth 100000 in
set_option maxHeartbeats 8000000 in
theorem light_main (n : Nat) (a0 : Option Addr) (cap : Nat) (its : List It) (b1 o1 : Nat) (k1 : Nat) (v : List Num) (w : World) (hl : its.length ≤ 9223372036854775807) (hc : Its w a0 its) (hb1 : b1 < w.heap.size) (hv1 : NumsAt w b1 o1 v) (hk : chkIts n its = 0) (hn : v.length = n) (hv : allVld v = true) :
    Calls Try.prog 33 #[.int .i64 n, .slice a0 its.length cap, .slice (some ⟨b1, o1, none⟩) v.length k1] w (ListE (litN n its v) w) := by
  obtain ⟨n1', n2', hl5, hok⟩ := chkIts_zero hk
  have n1 : 1 ≤ n := by omega
  have n2 : n ≤ 6 := by omega
  have h1 : Nms w (some ⟨b1, o1, none⟩) v := .inr ⟨b1, o1, rfl, hb1, hv1⟩
  have HK := hid fun w' (h : Grew w w') => check_any n a0 cap its w' hl (hc.grew h)
  rw [hk] at HK
  have HM := hid fun w => mbtw_any 1 (v.length : Int) 6 w
  rw [decide_eq_true (by omega)] at HM
  have HH := hid fun w' (h : Grew w w') => hasL_any (some ⟨b1, o1, none⟩) k1 v w' (by omega) (h1.grew h)
  rw [hv] at HH
  have HCL := hid fun w' (h : Grew w w') => clone_any b1 o1 k1 v w' (by omega) (Nat.lt_of_lt_of_le hb1 h.size) (fun i z hz => by
    obtain ⟨c0, c1, c2, c3, c4⟩ := hv1 i z hz
    exact ⟨(h.cell hb1 _).trans c0, (h.cell hb1 _).trans c1, (h.cell hb1 _).trans c2, (h.cell hb1 _).trans c3, (h.cell hb1 _).trans c4⟩)
  have HC := hid hc
  have HOK := hid hok
  obtain ⟨R, hR⟩ : ∃ R, litN n its v = R := ⟨_, rfl⟩
  rw [hR]
  have H0 := hid (show litN n (its.drop 0) v = R ∧ v.length = n ∧ VldL v from ⟨hR, hn, allVld_iff hv⟩)
  have e1 : ((v.length : Int) != n) = false := by simp [hn]
  clear hc hok hR hk n1' n2' h1 hv1 hn hv
  go_enter Try.func33, Try.ntmps33
  go_wp2_with fail
  refine (HK.out _ (by repeat (first | exact Grew.refl _ | refine Grew.drewN ?_ _ | refine Grew.grow ?_ _ | refine Grew.alloc ?_ _ | refine Grew.drew ?_))).mono ?_
  rintro e w' ⟨rfl, g', n', rfl⟩
  go_wp2_with fail
  refine (HM.out _).mono ?_
  rintro e w' ⟨rfl, g1, n1', rfl⟩
  go_wp2_with fail
  refine (HH.out _ (by repeat (first | exact Grew.refl _ | refine Grew.drewN ?_ _ | refine Grew.grow ?_ _ | refine Grew.alloc ?_ _ | refine Grew.drew ?_))).mono ?_
  rintro e w' ⟨rfl, g2, n2', rfl⟩
  go_wp2_with fail
  refine (HCL.out _ (by repeat (first | exact Grew.refl _ | refine Grew.drewN ?_ _ | refine Grew.grow ?_ _ | refine Grew.alloc ?_ _ | refine Grew.drew ?_))).mono ?_
  rintro e w' ⟨⟨av, kv, rfl, hnv⟩, g3, n3, rfl⟩
  have HNV := hid hnv
  clear hnv
  go_wp2_with fail
  simp only [World.grow_drewN, World.grow_grow, World.drewN_drewN] at HNV
  obtain ⟨W, hW⟩ : ∃ W, W = (w.grow (g' ++ (g1 ++ (g2 ++ g3)))).drewN (n' + n1' + n2' + n3) := ⟨_, rfl⟩
  have hWg : Grew w W := by rw [hW]; exact (by repeat (first | exact Grew.refl _ | refine Grew.drewN ?_ _ | refine Grew.grow ?_ _ | refine Grew.alloc ?_ _ | refine Grew.drew ?_))
  have hNW : Nms W av v := by rw [hW]; simpa only [List.append_assoc, Nat.add_assoc] using HNV.out
  rw [← hW]
  have HWG := hid hWg
  clear hW hWg HNV
  go_loopw [9, 38] (fun c k wr => ∃ (i : Nat) (u : List Num) (av : Option Addr) (kv : Nat), i ≤ its.length ∧ k = .int .i64 i ∧ c = .slice av u.length kv ∧ Nms wr av u ∧ Grew w wr ∧ Hid (litN n (its.drop i) u = R ∧ u.length = n ∧ VldL u)) (fun _ k _ => its.length - (intOf k).toNat)
  case atStart => exact ⟨0, v, av, kv, Nat.zero_le _, rfl, rfl, hNW, HWG.out, H0⟩
  case round =>
    clear hNW
    obtain ⟨i, u, av, kv, hi, rfl, rfl, hNv, hG, hs⟩ := hrel
    have HG := hid hG
    have HNv := hid hNv
    clear hG hNv
    by_cases hlt : i < its.length
    · skip
      obtain ⟨x, hx⟩ : ∃ x, its[i]? = some x := ⟨its[i], List.getElem?_eq_getElem hlt⟩
      obtain ⟨b, off, rfl, hb, c0, c1, c2, c3⟩ := (HC.out.grew HG.out).cells hx
      have hb1 := fun m0 : Nat => Nat.lt_add_right m0 (hb)
      have hb2 := fun m0 m1 : Nat => Nat.lt_add_right m1 (hb1 m0)
      have hb3 := fun m0 m1 m2 : Nat => Nat.lt_add_right m2 (hb2 m0 m1)
      have Hx := hid hx
      clear hx
      have hok := okIts_at Hx.out HOK.out
      obtain ⟨ok1, ok2, ok3, ok4, ok5, ok6⟩ := okIt_iff hok
      have HOK1 := hid ok1
      obtain ⟨m, hm⟩ : ∃ m, ownW x.kind = m := ⟨_, rfl⟩
      obtain ⟨lm, hlm⟩ : ∃ lm, ownM x.kind x.n = lm := ⟨_, rfl⟩
      have HLM := hid (And.intro hm hlm)
      have hlmV : VldL lm := by rw [← hlm]; exact ownM_valid _ _
      have hlmL : lm.length = m * m := by rw [← hlm, ← hm]; exact ownM_length _ _
      have hm1 : 1 ≤ m := by rw [← hm]; unfold ownW; split <;> omega
      obtain ⟨lp, hlp⟩ : ∃ lp, placeN n x.pos.toNat m lm = lp := ⟨_, rfl⟩
      have hlpL : lp.length = n * n := by rw [← hlp]; exact placeL_length _ _ _ _ _
      have hlpV : VldL lp := by rw [← hlp]; exact placeL_valid hlmV _
      have HP := hid fun am km W (hN : Nms W am lm) => (show Calls Try.prog 69 #[.int .i64 n, .int .i64 x.pos, .agg #[.int .i64 m, .slice am lm.length km]] W (MatP n lp W) from by
        have h := place_any n x.pos.toNat m am km lm W n1 n2 hm1 (by omega) (by rw [hm] at ok4; omega) hlmL hN
        rw [Int.toNat_of_nonneg (by omega), hlp] at h
        exact h)
      obtain ⟨⟨rl, re⟩, hr⟩ : ∃ r, appM n lp u = r := ⟨_, rfl⟩
      obtain ⟨hs1, hs2, hs3⟩ := hs.out
      have HAP := hid fun a2 k2 W (hA : Nms W a2 lp) (hB : Nms W av u) => apply_any n a2 av k2 kv lp u W n1 n2 hlpL hs2 hA hB hlpV hs3
      rw [hr] at HAP
      have HSTEP : Hid (appM n (placeN n x.pos.toNat (ownW x.kind) (ownM x.kind x.n)) u = (rl, re)) := hid (by rw [hm, hlm, hlp]; exact hr)
      have HVL : Hid (VldL rl ∧ (re = 0 → rl.length = n)) := hid (by
        have h1 := appM_valid n lp u
        have h2 := @appM_length n lp u
        rw [hr] at h1 h2
        exact ⟨h1, h2⟩)
      have HS1 := hid hs1
      clear hs hok ok1 ok2 ok3 ok4 ok5 ok6 hm hlm hlmV hlmL hm1 hlp hlpL hlpV hr hs1 hs2 hs3
      go_wp2_with fail
      refine R4.wp_region_slots 12 (fun ix vs W => match ix with | 0 => vs 0 = .int .i64 n | 1 => vs 1 = .pointer (some ⟨wr.heap.size, 1, none⟩) | 2 => vs 2 = .int .i64 x.pos | 3 => vs 3 = .agg #[.int .i64 x.kind, .int .i64 x.pos, .int .i64 x.n, .string x.name] | 4 => MatV (vs 4) W m lm | 5 => MatV (vs 5) W n lp | 6 => vs 6 = .slice av u.length kv | 7 => LstE (vs 7) W (rl, re) | 8 => LstE (vs 8) W (rl, re) | 9 => LstV (vs 9) W rl | 10 => vs 10 = .int .i64 re | 11 => LstV (vs 11) W rl | _ => True) (by kernel_rfl) (by kernel_rfl) ?slst ?sldep ?slop ?slq
      case slst =>
        intro ix vs W W' h hg
        match ix, h with
        | 0, h => exact h
        | 1, h => exact h
        | 2, h => exact h
        | 3, h => exact h
        | 4, h => exact MatV.grew h hg
        | 5, h => exact MatV.grew h hg
        | 6, h => exact h
        | 7, h => exact LstE.grew h hg
        | 8, h => exact LstE.grew h hg
        | 9, h => exact LstV.grew h hg
        | 10, h => exact h
        | 11, h => exact LstV.grew h hg
        | _ + 12, _ => trivial
      case sldep =>
        intro ix o vs vs' W hix ho h hv hn
        match ix, hix, ho, h, hv with
        | 0, _, _, h, hv => exact Eq.trans hv h
        | 1, _, _, h, hv => exact Eq.trans hv h
        | 2, _, _, h, hv => exact Eq.trans hv h
        | 3, _, _, h, hv => exact Eq.trans hv h
        | 4, _, _, h, hv => show MatV (vs' 4) W m lm; rw [hv]; exact h
        | 5, _, _, h, hv => show MatV (vs' 5) W n lp; rw [hv]; exact h
        | 6, _, _, h, hv => exact Eq.trans hv h
        | 7, _, _, h, hv => show LstE (vs' 7) W (rl, re); rw [hv]; exact h
        | 8, _, _, h, hv => show LstE (vs' 8) W (rl, re); rw [hv]; exact h
        | 9, _, _, h, hv => show LstV (vs' 9) W rl; rw [hv]; exact h
        | 10, _, _, h, hv => exact Eq.trans hv h
        | 11, _, _, h, hv => show LstV (vs' 11) W rl; rw [hv]; exact h
        | kx + 12, hix, _, _, _ => exact absurd hix (by omega)
      case slop =>
        intro ix o hix ho vs W L hg hL hn hall
        match ix, hix, ho, hL with
        | 0, _, ho, _ =>
          obtain rfl := Option.some.inj ho
          change R4.Oper.slotAt _ _ { tmps := _, defers := _ } _ _
          obtain ⟨gq, nq, rfl⟩ := hg
          go_simp
          exact ⟨R4.upd_same _ _ _, .inl (Grew.refl _)⟩
        | 1, _, ho, _ =>
          obtain rfl := Option.some.inj ho
          change R4.Oper.slotAt _ _ { tmps := _, defers := _ } _ _
          obtain ⟨gq, nq, rfl⟩ := hg
          go_simp
          exact ⟨R4.upd_same _ _ _, .inl (Grew.refl _)⟩
        | 2, _, ho, _ =>
          obtain rfl := Option.some.inj ho
          have hn1 := (hn 1 (by decide)).2
          try dsimp only at hn1
          change R4.Oper.slotAt _ _ (Act.put _ (some 44) (vs 1)) _ _
          conv => arg 3; rw [hn1]
          clear hn1
          obtain ⟨gq, nq, rfl⟩ := hg
          go_simp
          exact ⟨R4.upd_same _ _ _, .inl (Grew.refl _)⟩
        | 3, _, ho, _ =>
          obtain rfl := Option.some.inj ho
          change R4.Oper.slotAt _ _ { tmps := _, defers := _ } _ _
          obtain ⟨gq, nq, rfl⟩ := hg
          go_simp
          exact ⟨R4.upd_same _ _ _, .inl (Grew.refl _)⟩
        | 4, _, ho, _ =>
          obtain rfl := Option.some.inj ho
          have hn3 := (hn 3 (by decide)).2
          try dsimp only at hn3
          change R4.Oper.slotAt _ _ (Act.put _ (some 46) (vs 3)) _ _
          conv => arg 3; rw [hn3]
          clear hn3
          obtain ⟨gq, nq, rfl⟩ := hg
          go_simp
          refine (own_any x _ HOK1.out).mono ?_
          rintro e w' ⟨⟨a2, k2, rfl, ho⟩, gr⟩
          exact ⟨_, rfl, by rw [R4.upd_same]; exact ⟨a2, k2, by rw [← HLM.out.1, ← HLM.out.2], by rw [← HLM.out.2]; exact ho.nms⟩, .inl gr⟩
        | 5, _, ho, _ =>
          obtain rfl := Option.some.inj ho
          have hn0 := (hn 0 (by decide)).2
          have hn2 := (hn 2 (by decide)).2
          have hn4 := (hn 4 (by decide)).2
          try dsimp only at hn0 hn2 hn4
          change R4.Oper.slotAt _ _ (Act.put (Act.put (Act.put _ (some 43) (vs 0)) (some 45) (vs 2)) (some 47) (vs 4)) _ _
          conv => arg 3; rw [hn0, hn2]
          clear hn0 hn2
          obtain ⟨gq, nq, rfl⟩ := hg
          obtain ⟨a2, k2, e2, h2⟩ := hn4
          conv => arg 3; rw [e2]
          clear e2
          go_simp
          refine (HP.out a2 k2 _ h2).mono ?_
          rintro e w' ⟨⟨a3, k3, rfl, ho⟩, gr⟩
          exact ⟨_, rfl, by rw [R4.upd_same]; exact ⟨a3, k3, rfl, ho.nms⟩, .inl gr⟩
        | 6, _, ho, _ =>
          obtain rfl := Option.some.inj ho
          change R4.Oper.slotAt _ _ { tmps := _, defers := _ } _ _
          obtain ⟨gq, nq, rfl⟩ := hg
          go_simp
          exact ⟨R4.upd_same _ _ _, .inl (Grew.refl _)⟩
        | 7, _, ho, _ =>
          obtain rfl := Option.some.inj ho
          have hn5 := (hn 5 (by decide)).2
          have hn6 := (hn 6 (by decide)).2
          try dsimp only at hn5 hn6
          change R4.Oper.slotAt _ _ (Act.put (Act.put _ (some 48) (vs 5)) (some 49) (vs 6)) _ _
          conv => arg 3; rw [hn6]
          clear hn6
          obtain ⟨gq, nq, rfl⟩ := hg
          obtain ⟨a2, k2, e2, h2⟩ := hn5
          conv => arg 3; rw [e2]
          clear e2
          go_simp
          refine (HAP.out a2 k2 _ h2 (HNv.out.grew (by repeat (first | exact Grew.refl _ | refine Grew.drewN ?_ _ | refine Grew.grow ?_ _ | refine Grew.alloc ?_ _ | refine Grew.drew ?_)))).mono ?_
          rintro e w' ⟨⟨a3, k3, rfl, ho⟩, gr⟩
          exact ⟨_, rfl, by rw [R4.upd_same]; exact ⟨a3, k3, rfl, ho⟩, .inl gr⟩
        | 8, _, ho, _ =>
          obtain rfl := Option.some.inj ho
          have hn7 := (hn 7 (by decide)).2
          try dsimp only at hn7
          change R4.Oper.slotAt _ _ (Act.put _ (some 50) (vs 7)) _ _
          obtain ⟨gq, nq, rfl⟩ := hg
          obtain ⟨a2, k2, e2, h2⟩ := hn7
          conv => arg 3; rw [e2]
          clear e2
          go_simp
          exact ⟨by rw [R4.upd_same]; exact ⟨a2, k2, rfl, h2⟩, .inl (Grew.refl _)⟩
        | 9, _, ho, _ =>
          obtain rfl := Option.some.inj ho
          have hn8 := (hn 8 (by decide)).2
          try dsimp only at hn8
          change R4.Oper.slotAt _ _ (Act.put _ (some 42) (vs 8)) _ _
          obtain ⟨gq, nq, rfl⟩ := hg
          obtain ⟨a2, k2, e2, h2⟩ := hn8
          conv => arg 3; rw [e2]
          clear e2
          go_simp
          exact ⟨by rw [R4.upd_same]; exact ⟨a2, k2, rfl, h2⟩, .inl (Grew.refl _)⟩
        | 10, _, ho, _ =>
          obtain rfl := Option.some.inj ho
          have hn8 := (hn 8 (by decide)).2
          try dsimp only at hn8
          change R4.Oper.slotAt _ _ (Act.put _ (some 42) (vs 8)) _ _
          obtain ⟨gq, nq, rfl⟩ := hg
          obtain ⟨a2, k2, e2, h2⟩ := hn8
          conv => arg 3; rw [e2]
          clear e2
          go_simp
          exact ⟨R4.upd_same _ _ _, .inl (Grew.refl _)⟩
        | 11, _, ho, _ =>
          obtain rfl := Option.some.inj ho
          have hn9 := (hn 9 (by decide)).2
          try dsimp only at hn9
          change R4.Oper.slotAt _ _ (Act.put _ (some 51) (vs 9)) _ _
          obtain ⟨gq, nq, rfl⟩ := hg
          obtain ⟨a2, k2, e2, h2⟩ := hn9
          conv => arg 3; rw [e2]
          clear e2
          go_simp
          exact ⟨by rw [R4.upd_same]; exact ⟨a2, k2, rfl, h2⟩, .inl (Grew.refl _)⟩
        | kx + 12, hix, _, _ => exact absurd hix (by omega)
      case slq =>
        intro vs W2 hg hn
        have hn10 : vs 10 = .int .i64 re := hn 10 (by decide) (by decide)
        obtain ⟨a9, k9, e9, hN9⟩ : LstV (vs 11) W2 rl := hn 11 (by decide) (by decide)
        have hgw : Grew w W2 := HG.out.trans (Grew.trans (by repeat (first | exact Grew.refl _ | refine Grew.drewN ?_ _ | refine Grew.grow ?_ _ | refine Grew.alloc ?_ _ | refine Grew.drew ?_)) hg)
        change wpList _ _ _ _ (Act.put (Act.put (Act.put (Act.put (Act.put (Act.put (Act.put (Act.put (Act.put (Act.put (Act.put (Act.put _ (some 43) (vs 0)) (some 44) (vs 1)) (some 45) (vs 2)) (some 46) (vs 3)) (some 47) (vs 4)) (some 48) (vs 5)) (some 49) (vs 6)) (some 50) (vs 7)) (some 42) (vs 8)) (some 51) (vs 9)) (some 52) (vs 10)) (some 12) (vs 11)) _
        simp only [Act.put, List.setIfInBounds_toArray, List.set_cons_zero, List.set_cons_succ, List.drop_succ_cons, List.drop_zero, hn10, e9]
        have HG2 := hid hgw
        have HN9 := hid hN9
        clear hn hn10 e9 hN9 hgw hg
        by_cases hre : re = 0
        · have HRE := hid hre
          rw [hre]
          clear hre
          go_wp2_with fail
          go_roundw
          case rel =>
            refine ⟨i + 1, rl, a9, k9, by omega, by go_num, rfl, HN9.out, HG2.out, hid ⟨?_, HVL.out.2 HRE.out, HVL.out.1⟩⟩
            have h1 := litN_step Hx.out HSTEP.out HRE.out
            rw [← HS1.out]; exact h1.symm
          case measure => simp [intOf]; omega
        · have HRE := hid hre
          have e1 : (re != 0) = true := by simpa using hre
          clear hre
          go_wp2_with fail
          exact bodyPost_ret (v := .tuple #[.slice none 0 0, .int .i64 re]) (by simp [results, Try.results33, go_sem]) rfl (by
            have h1 := litN_stop Hx.out HSTEP.out HRE.out
            rw [HS1.out] at h1
            exact ⟨⟨none, 0, by rw [h1]; rfl, by rw [h1]; exact .inl rfl⟩, HG2.out⟩)
    · obtain rfl : i = its.length := by omega
      have hfin : Hid (R = (u, 0)) := by
        obtain ⟨h2, h3, h4⟩ := hs.out
        rw [List.drop_length, litN] at h2
        exact h2.symm
      clear hs
      go_wp2_with fail
      exact bodyPost_ret (v := .tuple #[.slice av u.length kv, .int .i64 0]) (by simp [results, Try.results33, go_sem]) rfl ⟨⟨av, kv, by rw [hfin.out], by rw [hfin.out]; exact HNv.out⟩, HG.out⟩

theorem light_any (g : Int) (a0 : Option Addr) (cap : Nat) (its : List It) (a1 : Option Addr) (k1 : Nat) (v : List Num) (w : World) (hl : its.length ≤ 9223372036854775807) (hc : Its w a0 its) (hlv : v.length ≤ 20) (h1 : Nms w a1 v) :
    Calls Try.prog 33 #[.int .i64 g, .slice a0 its.length cap, .slice a1 v.length k1] w (ListE (litOf g its v) w) := by
  by_cases hk : chkIts g its = 0
  case neg => exact light_chk g a0 cap its a1 k1 v w hl hc hlv h1 hk
  by_cases hn : 1 ≤ v.length ∧ v.length ≤ 6
  case neg => exact light_long g a0 cap its a1 k1 v w hl hc hlv h1 hk hn
  by_cases hv : allVld v = true
  case neg => exact light_bad g a0 cap its a1 k1 v w hl hc hlv h1 hk hn (by simpa using hv)
  by_cases hs : (v.length : Int) = g
  case neg => exact light_size g a0 cap its a1 k1 v w hl hc hlv h1 hk hn hv hs
  obtain ⟨n, rfl⟩ := Int.eq_ofNat_of_zero_le (show 0 ≤ g by omega)
  rw [show litOf n its v = litN n its v by unfold litOf isVec; rw [if_pos hk, hv, decide_eq_true hn, if_pos (by rfl), if_pos hs]; rfl]
  rcases h1 with rfl | ⟨b1, o1, rfl, hb1, hv1⟩
  · simp at hn
  · exact light_main n a0 cap its b1 o1 k1 v w hl hc hb1 hv1 hk (by omega) hv

end Go.Proofs.Ytkglnnkghillpaa
