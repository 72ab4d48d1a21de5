/- Layer 3: the reference's Tidy. Condition: the items lie in memory, at most 300 of them. -/
import Derived.Test.YtkglnnkghillpaaChgD
import Derived.Test.YtkglnnkghillpaaMshTidy
import Derived.Test.YtkglnnkghillpaaTidC
namespace Go.Proofs.Ytkglnnkghillpaa
open Go Go.RowKit Amp Msh

set_option maxHeartbeats 800000 in
theorem rtidy_bad (g : Int) (a0 : Option Addr) (cap : Nat) (its : List It) (w : World) (hl : its.length ≤ 300) (hc : Its w a0 its) (hk : ¬ chkIts g its = 0) :
    Calls Try.prog 45 #[.int .i64 g, .slice a0 its.length cap] w (ListI ([], chkIts g its) w) := by
  have HK := hid fun w' (h : Grew w w') => asked_any g a0 cap its w' (by omega) (hc.grew h)
  obtain ⟨E, hE⟩ : ∃ E, chkIts g its = E := ⟨_, rfl⟩
  rw [hE] at HK hk ⊢
  have e1 : (E != 0) = true := by simpa using hk
  clear hc hk hE
  go_enter Try.func45, Try.ntmps45
  go_wp2_with fail
  refine (HK.out _ (by repeat (first | exact Grew.refl _ | refine Grew.drewN ?_ _ | refine Grew.grow ?_ _ | refine Grew.alloc ?_ _ | refine Grew.drew ?_))).mono ?_
  rintro e w' ⟨rfl, g1, m1, rfl⟩
  go_wp2_with fail
  exact bodyPost_ret (v := .tuple #[.slice none 0 0, .int .i64 E]) (by simp [results, Try.results45, go_sem]) rfl ⟨⟨none, 0, rfl, OwnI.nil _ _⟩, (by repeat (first | exact Grew.refl _ | refine Grew.drewN ?_ _ | refine Grew.grow ?_ _ | refine Grew.alloc ?_ _ | refine Grew.drew ?_))⟩

theorem okIts_takeR {g : Int} {l : List It} (h : okIts g l = true) (i : Nat) : okIts g (l.take i) = true := by
  rw [← List.take_append_drop i l, okIts_app] at h
  exact h.1
theorem lastIx_on {L : List It} {q : Nat} {y : It} {ps : Int} (h : lastIx (fun y => onB y ps) L = some q) (hy : L[q]? = some y) : onB y ps = true := by
  obtain ⟨A, z, B, h1, h2, h3, _⟩ := lastIx_some h
  have : L[q]? = some z := by rw [h1, ← h2]; simp
  rw [hy] at this
  obtain rfl := Option.some.inj this
  exact h3
theorem stepR_none {L : List It} {x : It} (h : lastIx (fun y => onB y x.pos) L = none) : stepR L x = L ++ [x] := by unfold stepR; rw [h]
theorem stepR_some {L : List It} {x y : It} {q : Nat} (h : lastIx (fun y => onB y x.pos) L = some q) (hy : L[q]? = some y) : stepR L x =
    if x.kind = 1 ∧ y.kind = 1 then (if (y.n + x.n) % 8 = 0 then L.eraseIdx q else L.set q ⟨y.kind, y.pos, (y.n + x.n) % 8, y.name⟩)
    else if x.kind = 3 ∧ y = x ∧ lastIx (fun y => onB y (x.pos + 1)) L = some q then L.eraseIdx q
    else L ++ [x] := by
  unfold stepR
  rw [h]
  dsimp only
  rw [hy]
theorem OwnI.head {w : World} {base k0 : Nat} {a0 : Option Addr} {l : List It} (h : OwnI w base a0 k0 l) (hl : 1 ≤ l.length) : ∃ g, a0 = some ⟨g, 0, none⟩ ∧ l.length ≤ k0 ∧ base ≤ g ∧ g < w.heap.size := by
  rcases h.2 with ⟨_, h2⟩ | ⟨g, cap, cur, h1, h2, h3, h4, _⟩
  · omega
  · injection h1 with e1 e2 e3
    subst e1
    subst e3
    exact ⟨g, rfl, h4, h2, (Array.getElem?_eq_some_iff.1 h3).1⟩

set_option maxRecDepth 100000 in
set_option maxHeartbeats 8000000 in
theorem rtidy_main (g : Int) (a0 : Option Addr) (cap : Nat) (its : List It) (w : World) (hl : its.length ≤ 300) (hc : Its w a0 its) (hk : chkIts g its = 0) :
    Calls Try.prog 45 #[.int .i64 g, .slice a0 its.length cap] w (ListI (tidR its, 0) w) := by
  have HK := hid fun w' (h : Grew w w') => asked_any g a0 cap its w' (by omega) (hc.grew h)
  rw [hk] at HK
  obtain ⟨q1, q2, q3, q4⟩ := chkIts_zero hk
  have HOK := hid q4
  have HC := hid hc
  clear hc hk q3 q4
  go_enter Try.func45, Try.ntmps45
  go_wp2_with fail
  refine (HK.out _ (by repeat (first | exact Grew.refl _ | refine Grew.drewN ?_ _ | refine Grew.grow ?_ _ | refine Grew.alloc ?_ _ | refine Grew.drew ?_))).mono ?_
  rintro e W1 ⟨rfl, hg1⟩
  have HG := hid (Grew.trans (a := w) (by repeat (first | exact Grew.refl _ | refine Grew.drewN ?_ _ | refine Grew.grow ?_ _ | refine Grew.alloc ?_ _ | refine Grew.drew ?_)) hg1)
  clear hg1 HK
  go_wp2_with fail
  go_loopw [7, 20] (fun c v wr => ∃ (i : Nat) (a : Option Addr) (k : Nat) (L : List It), i ≤ its.length ∧ v = .int .i64 i ∧ c = .slice a L.length k ∧ Hid (L = tidR (its.take i)) ∧ Hid (OwnI wr w.heap.size a k L) ∧ Grew w wr) (fun _ v _ => its.length - (intOf v).toNat)
  case atStart => exact ⟨0, none, 0, [], Nat.zero_le _, rfl, rfl, rfl, OwnI.nil _ _, HG.out.trans (by repeat (first | exact Grew.refl _ | refine Grew.drewN ?_ _ | refine Grew.grow ?_ _ | refine Grew.alloc ?_ _ | refine Grew.drew ?_))⟩
  case round =>
    obtain ⟨i, a, k, L, hi, rfl, rfl, HL, HO, hg⟩ := hrel
    by_cases hlt : i < its.length
    case neg =>
      obtain rfl : i = its.length := by omega
      have hL := HL.out
      rw [List.take_length] at hL
      have HGR := hid hg
      have HL := hid hL
      clear hL hg
      go_wp2_with fail
      exact bodyPost_ret (v := .tuple #[.slice a L.length k, .int .i64 0]) (by simp [results, Try.results45, go_sem]) rfl ⟨⟨a, k, by rw [HL.out], by rw [← HL.out]; exact HO.out.grew (by repeat (first | exact Grew.refl _ | refine Grew.drewN ?_ _ | refine Grew.grow ?_ _ | refine Grew.alloc ?_ _ | refine Grew.drew ?_))⟩, HGR.out.trans (by repeat (first | exact Grew.refl _ | refine Grew.drewN ?_ _ | refine Grew.grow ?_ _ | refine Grew.alloc ?_ _ | refine Grew.drew ?_))⟩
    case pos =>
      obtain ⟨⟨kd, ps, nn, nm⟩, hx⟩ : ∃ x, its[i]? = some x := ⟨its[i], List.getElem?_eq_getElem hlt⟩
      obtain ⟨b, off, rfl, hb, c0, c1, c2, c3⟩ := (HC.out.grew hg).cells hx
      have hxo := okIts_at hx HOK.out
      have hokL : okIts g L = true := by rw [HL.out]; exact (tidR_ok q2 _ (okIts_takeR HOK.out i)).1
      have hLl : L.length ≤ 300 := by
        have := (tidR_ok q2 _ (okIts_takeR HOK.out i)).2
        rw [← HL.out, List.length_take] at this
        omega
      have hst : stepR L ⟨kd, ps, nn, nm⟩ = tidR (its.take (i + 1)) := by rw [take_snocI hx, tidR_snoc, HL.out]
      have hpL : ∀ y ∈ L, 1 ≤ y.pos ∧ y.pos ≤ 6 := fun y hy => by
        unfold okIts at hokL
        rw [List.all_eq_true] at hokL
        exact ok_pos (hokL y hy) q2
      have HIL := hid (OwnI.its HO.out)
      have HLA := hid fun w' (hg2 : Grew wr w') => last_any a k L ps w' (by omega) (HIL.out.grew hg2) hpL
      have HLB := hid fun w' (hg2 : Grew wr w') => last_any a k L (ps + 1) w' (by omega) (HIL.out.grew hg2) hpL
      obtain ⟨_, hkd, hp1, hpq, _, _⟩ := okIt_iff hxo
      dsimp only at c0 c1 c2 c3 hkd hp1 hpq
      have hp6 : ps ≤ 6 := by
        have : (1 : Int) ≤ ownW kd := by unfold ownW; split <;> omega
        omega
      have hsz := hg.size
      have HSZ0 := hid hsz
      have HGR := hid hg
      have HLL := hid hLl
      have HXO := hid hxo
      have HOKL := hid hokL
      have hb1 := fun m0 : Nat => Nat.lt_add_right m0 (hb)
      have hb2 := fun m0 m1 : Nat => Nat.lt_add_right m1 (hb1 m0)
      have hb3 := fun m0 m1 m2 : Nat => Nat.lt_add_right m2 (hb2 m0 m1)
      clear hx hg hxo hokL hpL hpq HL
      cases hla : lastIx (fun y => onB y ps) L with
      | none =>
        have HN := hid (hst.symm.trans (stepR_none (L := L) (x := ⟨kd, ps, nn, nm⟩) hla))
        rw [lastI_none hla] at HLA
        clear hla hst HLB
        rcases hkd with rfl | rfl | rfl
        · skip
          go_wp2_with fail
          refine (HLA.out _ (by repeat (first | exact Grew.refl _ | refine Grew.drewN ?_ _ | refine Grew.grow ?_ _ | refine Grew.alloc ?_ _ | refine Grew.drew ?_))).mono ?_
          rintro e w' ⟨rfl, g1, m1, rfl⟩
          go_wp2_with fail
          refine wp_region_gentle_lit (by kernel_rfl) (by kernel_rfl) ?_
          repeat (first | go_big_quiet_skip | (go_big_quiet_want; go_big_quiet_op; first | go_big_quiet_on | fail))
          refine wpQuiet_nil ?_
          rintro _ ⟨gg, ng, rfl⟩
          go_wp2_with (at_builtin; go_loud (refine wpList_append_its rfl _ _ rfl w.heap.size a k L rfl (HO.out.grew (by repeat (first | exact Grew.refl _ | refine Grew.drewN ?_ _ | refine Grew.grow ?_ _ | refine Grew.alloc ?_ _ | refine Grew.drew ?_))) _ 1 [(⟨1, ps, nn, nm⟩ : It)] rfl (fun e => by cases e) (cells_newI _ _ (by simp [go_sem]) #[.int .i64 1, .int .i64 ps, .int .i64 nn, .string nm] _ [(⟨1, ps, nn, nm⟩ : It)] rfl) ?hmx ?hbs ?_))
          case hmx => have := HLL.out; simp; omega
          case hbs => (try simp [go_sem]); omega
          · intro a4 k4 wB hownB hgrowB hdrB
            have HGB := hid (show Grew w wB from Grew.by (w' := _) (HGR.out.trans (by repeat (first | exact Grew.refl _ | refine Grew.drewN ?_ _ | refine Grew.grow ?_ _ | refine Grew.alloc ?_ _ | refine Grew.drew ?_))) hgrowB hdrB (fun jj hjj => ownsRow_above HO.out jj hjj))
            have HOB := hid hownB
            clear hgrowB hdrB hownB
            go_wp2_with fail
            go_roundw
            case rel => exact ⟨i + 1, a4, k4, L ++ [(⟨1, ps, nn, nm⟩ : It)], by omega, by go_num, by simp, HN.out.symm, HOB.out, HGB.out⟩
            case measure => simp [intOf]; omega
        · skip
          go_wp2_with fail
          refine (HLA.out _ (by repeat (first | exact Grew.refl _ | refine Grew.drewN ?_ _ | refine Grew.grow ?_ _ | refine Grew.alloc ?_ _ | refine Grew.drew ?_))).mono ?_
          rintro e w' ⟨rfl, g1, m1, rfl⟩
          go_wp2_with fail
          refine wp_region_gentle_lit (by kernel_rfl) (by kernel_rfl) ?_
          repeat (first | go_big_quiet_skip | (go_big_quiet_want; go_big_quiet_op; first | go_big_quiet_on | fail))
          refine wpQuiet_nil ?_
          rintro _ ⟨gg, ng, rfl⟩
          go_wp2_with (at_builtin; go_loud (refine wpList_append_its rfl _ _ rfl w.heap.size a k L rfl (HO.out.grew (by repeat (first | exact Grew.refl _ | refine Grew.drewN ?_ _ | refine Grew.grow ?_ _ | refine Grew.alloc ?_ _ | refine Grew.drew ?_))) _ 1 [(⟨2, ps, nn, nm⟩ : It)] rfl (fun e => by cases e) (cells_newI _ _ (by simp [go_sem]) #[.int .i64 2, .int .i64 ps, .int .i64 nn, .string nm] _ [(⟨2, ps, nn, nm⟩ : It)] rfl) ?hmx ?hbs ?_))
          case hmx => have := HLL.out; simp; omega
          case hbs => (try simp [go_sem]); omega
          · intro a4 k4 wB hownB hgrowB hdrB
            have HGB := hid (show Grew w wB from Grew.by (w' := _) (HGR.out.trans (by repeat (first | exact Grew.refl _ | refine Grew.drewN ?_ _ | refine Grew.grow ?_ _ | refine Grew.alloc ?_ _ | refine Grew.drew ?_))) hgrowB hdrB (fun jj hjj => ownsRow_above HO.out jj hjj))
            have HOB := hid hownB
            clear hgrowB hdrB hownB
            go_wp2_with fail
            go_roundw
            case rel => exact ⟨i + 1, a4, k4, L ++ [(⟨2, ps, nn, nm⟩ : It)], by omega, by go_num, by simp, HN.out.symm, HOB.out, HGB.out⟩
            case measure => simp [intOf]; omega
        · skip
          go_wp2_with fail
          refine (HLA.out _ (by repeat (first | exact Grew.refl _ | refine Grew.drewN ?_ _ | refine Grew.grow ?_ _ | refine Grew.alloc ?_ _ | refine Grew.drew ?_))).mono ?_
          rintro e w' ⟨rfl, g1, m1, rfl⟩
          go_wp2_with fail
          refine wp_region_gentle_lit (by kernel_rfl) (by kernel_rfl) ?_
          repeat (first | go_big_quiet_skip | (go_big_quiet_want; go_big_quiet_op; first | go_big_quiet_on | fail))
          refine wpQuiet_nil ?_
          rintro _ ⟨gg, ng, rfl⟩
          go_wp2_with (at_builtin; go_loud (refine wpList_append_its rfl _ _ rfl w.heap.size a k L rfl (HO.out.grew (by repeat (first | exact Grew.refl _ | refine Grew.drewN ?_ _ | refine Grew.grow ?_ _ | refine Grew.alloc ?_ _ | refine Grew.drew ?_))) _ 1 [(⟨3, ps, nn, nm⟩ : It)] rfl (fun e => by cases e) (cells_newI _ _ (by simp [go_sem]) #[.int .i64 3, .int .i64 ps, .int .i64 nn, .string nm] _ [(⟨3, ps, nn, nm⟩ : It)] rfl) ?hmx ?hbs ?_))
          case hmx => have := HLL.out; simp; omega
          case hbs => (try simp [go_sem]); omega
          · intro a4 k4 wB hownB hgrowB hdrB
            have HGB := hid (show Grew w wB from Grew.by (w' := _) (HGR.out.trans (by repeat (first | exact Grew.refl _ | refine Grew.drewN ?_ _ | refine Grew.grow ?_ _ | refine Grew.alloc ?_ _ | refine Grew.drew ?_))) hgrowB hdrB (fun jj hjj => ownsRow_above HO.out jj hjj))
            have HOB := hid hownB
            clear hgrowB hdrB hownB
            go_wp2_with fail
            go_roundw
            case rel => exact ⟨i + 1, a4, k4, L ++ [(⟨3, ps, nn, nm⟩ : It)], by omega, by go_num, by simp, HN.out.symm, HOB.out, HGB.out⟩
            case measure => simp [intOf]; omega
      | some q =>
        obtain ⟨y, hy⟩ : ∃ y, L[q]? = some y := by
          obtain ⟨A, y, B, h1, h2, _⟩ := lastIx_some hla
          exact ⟨y, by rw [h1, ← h2]; simp⟩
        have hql := (List.getElem?_eq_some_iff.1 hy).1
        have hq300 : q ≤ 300 := by omega
        have hyo := okIts_at hy HOKL.out
        obtain ⟨bO, rfl, hkL, hbB, hbO⟩ := HO.out.head (by omega)
        obtain ⟨b', off', hbb, hb', d0, d1, d2, d3⟩ := HIL.out.cells hy
        cases hbb
        simp only [Nat.zero_add] at d0 d1 d2 d3
        have HON := hid ((on_iff hyo ps).1 (lastIx_on hla hy))
        have hsr := stepR_some (x := ⟨kd, ps, nn, nm⟩) hla hy
        dsimp only at hsr
        rw [hst] at hsr
        rw [lastI_some hla] at HLA
        have HW := hid fun w' (hg2 : Grew wr w') => without_any bO k q L w' (by omega) hql hkL (HIL.out.grew hg2)
        have HST := hid fun w' (hg2 : Grew wr w') => OwnI.setN (HO.out.grew hg2) hy ((y.n + nn) % 8)
        have hfO : ∀ j, wr.frozen? ⟨bO, j, none⟩ = false := fun j => World.ownsRow.frozenAt HO.out j
        have HBO := hid hbB
        have HYO := hid hyo
        have hbO1 := fun m0 : Nat => Nat.lt_add_right m0 (hbO)
        have hbO2 := fun m0 m1 : Nat => Nat.lt_add_right m1 (hbO1 m0)
        have hbO3 := fun m0 m1 m2 : Nat => Nat.lt_add_right m2 (hbO2 m0 m1)
        clear hla hst hyo hbB hb'
        rcases hkd with rfl | rfl | rfl
        · by_cases hyk : y.kind = 1
          · obtain ⟨y1, y7⟩ := ok_phase HYO.out hyk
            obtain ⟨x1, x7⟩ := ok_phase HXO.out rfl
            dsimp only at x1 x7
            rw [if_pos ⟨rfl, hyk⟩] at hsr
            rw [hyk] at d0
            by_cases h8 : (y.n + nn) % 8 = 0
            · rw [if_pos h8] at hsr
              have HN := hid hsr
              clear hsr HON HLB
              go_wp2_with fail
              refine (HLA.out _ (by repeat (first | exact Grew.refl _ | refine Grew.drewN ?_ _ | refine Grew.grow ?_ _ | refine Grew.alloc ?_ _ | refine Grew.drew ?_))).mono ?_
              rintro e w' ⟨rfl, g1, m1, rfl⟩
              go_wp2_with fail
              refine wp_region_gentle_lit (by kernel_rfl) (by kernel_rfl) ?_
              repeat (first | go_big_quiet_skip | (go_big_quiet_want; go_big_quiet_op; first | go_big_quiet_on | fail))
              refine wpQuiet_nil ?_
              rintro _ ⟨gg, ng, rfl⟩
              go_wp2_with fail
              refine (HW.out _ (by repeat (first | exact Grew.refl _ | refine Grew.drewN ?_ _ | refine Grew.grow ?_ _ | refine Grew.alloc ?_ _ | refine Grew.drew ?_))).mono ?_
              rintro e w' ⟨⟨a4, k4, rfl, hO4⟩, hg4⟩
              have HGB := hid (HGR.out.trans (Grew.trans (by repeat (first | exact Grew.refl _ | refine Grew.drewN ?_ _ | refine Grew.grow ?_ _ | refine Grew.alloc ?_ _ | refine Grew.drew ?_)) hg4))
              have HOB := hid (World.ownsRow.mono hO4 (HGR.out.trans (by repeat (first | exact Grew.refl _ | refine Grew.drewN ?_ _ | refine Grew.grow ?_ _ | refine Grew.alloc ?_ _ | refine Grew.drew ?_))).size)
              clear hO4 hg4
              go_wp2_with fail
              go_roundw
              case rel => exact ⟨i + 1, a4, k4, L.eraseIdx q, by omega, by go_num, rfl, HN.out.symm, HOB.out.grew (by repeat (first | exact Grew.refl _ | refine Grew.drewN ?_ _ | refine Grew.grow ?_ _ | refine Grew.alloc ?_ _ | refine Grew.drew ?_)), HGB.out.trans (by repeat (first | exact Grew.refl _ | refine Grew.drewN ?_ _ | refine Grew.grow ?_ _ | refine Grew.alloc ?_ _ | refine Grew.drew ?_))⟩
              case measure => simp [intOf]; omega
            · rw [if_neg h8] at hsr
              have HN := hid hsr
              clear hsr HON HLB HW
              go_wp2_with fail
              refine (HLA.out _ (by repeat (first | exact Grew.refl _ | refine Grew.drewN ?_ _ | refine Grew.grow ?_ _ | refine Grew.alloc ?_ _ | refine Grew.drew ?_))).mono ?_
              rintro e w' ⟨rfl, g1, m1, rfl⟩
              go_wp2_with fail
              refine wp_region_gentle_lit (by kernel_rfl) (by kernel_rfl) ?_
              repeat (first | go_big_quiet_skip | (go_big_quiet_want; go_big_quiet_op; first | go_big_quiet_on | fail))
              refine wpQuiet_nil ?_
              rintro _ ⟨gg, ng, rfl⟩
              go_wp2_with fail
              go_roundw
              case rel => exact ⟨i + 1, some ⟨bO, 0, none⟩, k, L.set q ⟨y.kind, y.pos, (y.n + nn) % 8, y.name⟩, by omega, by go_num, by simp, HN.out.symm, (HST.out _ (by repeat (first | exact Grew.refl _ | refine Grew.drewN ?_ _ | refine Grew.grow ?_ _ | refine Grew.alloc ?_ _ | refine Grew.drew ?_))).grew (by repeat (first | exact Grew.refl _ | refine Grew.drewN ?_ _ | refine Grew.grow ?_ _ | refine Grew.alloc ?_ _ | refine Grew.drew ?_)), (Grew.set (HGR.out.trans (by repeat (first | exact Grew.refl _ | refine Grew.drewN ?_ _ | refine Grew.grow ?_ _ | refine Grew.alloc ?_ _ | refine Grew.drew ?_))) HBO.out _ _).trans (by repeat (first | exact Grew.refl _ | refine Grew.drewN ?_ _ | refine Grew.grow ?_ _ | refine Grew.alloc ?_ _ | refine Grew.drew ?_))⟩
              case measure => simp [intOf]; omega
          · rw [if_neg fun h => hyk h.2, if_neg fun h => absurd h.1 (by decide)] at hsr
            have HN := hid hsr
            have ek : (y.kind == 1) = false := by simpa using hyk
            clear hsr hyk HON HLB HW
            go_wp2_with fail
            refine (HLA.out _ (by repeat (first | exact Grew.refl _ | refine Grew.drewN ?_ _ | refine Grew.grow ?_ _ | refine Grew.alloc ?_ _ | refine Grew.drew ?_))).mono ?_
            rintro e w' ⟨rfl, g1, m1, rfl⟩
            go_wp2_with fail
            refine wp_region_gentle_lit (by kernel_rfl) (by kernel_rfl) ?_
            repeat (first | go_big_quiet_skip | (go_big_quiet_want; go_big_quiet_op; first | go_big_quiet_on | fail))
            refine wpQuiet_nil ?_
            rintro _ ⟨gg, ng, rfl⟩
            go_wp2_with (at_builtin; go_loud (refine wpList_append_its rfl _ _ rfl w.heap.size (some ⟨bO, 0, none⟩) k L rfl (HO.out.grew (by repeat (first | exact Grew.refl _ | refine Grew.drewN ?_ _ | refine Grew.grow ?_ _ | refine Grew.alloc ?_ _ | refine Grew.drew ?_))) _ 1 [(⟨1, ps, nn, nm⟩ : It)] rfl (fun e => by cases e) (cells_newI _ _ (by simp [go_sem]) #[.int .i64 1, .int .i64 ps, .int .i64 nn, .string nm] _ [(⟨1, ps, nn, nm⟩ : It)] rfl) ?hmx ?hbs ?_))
            case hmx => have := HLL.out; simp; omega
            case hbs => (try simp [go_sem]); omega
            · intro a4 k4 wB hownB hgrowB hdrB
              have HGB := hid (show Grew w wB from Grew.by (w' := _) (HGR.out.trans (by repeat (first | exact Grew.refl _ | refine Grew.drewN ?_ _ | refine Grew.grow ?_ _ | refine Grew.alloc ?_ _ | refine Grew.drew ?_))) hgrowB hdrB (fun jj hjj => ownsRow_above HO.out jj hjj))
              have HOB := hid hownB
              clear hgrowB hdrB hownB
              go_wp2_with fail
              go_roundw
              case rel => exact ⟨i + 1, a4, k4, L ++ [(⟨1, ps, nn, nm⟩ : It)], by omega, by go_num, by simp, HN.out.symm, HOB.out, HGB.out⟩
              case measure => simp [intOf]; omega
        · rw [if_neg fun h => absurd h.1 (by decide), if_neg fun h => absurd h.1 (by decide)] at hsr
          have HN := hid hsr
          clear hsr HON HLB HW
          go_wp2_with fail
          refine (HLA.out _ (by repeat (first | exact Grew.refl _ | refine Grew.drewN ?_ _ | refine Grew.grow ?_ _ | refine Grew.alloc ?_ _ | refine Grew.drew ?_))).mono ?_
          rintro e w' ⟨rfl, g1, m1, rfl⟩
          go_wp2_with fail
          refine wp_region_gentle_lit (by kernel_rfl) (by kernel_rfl) ?_
          repeat (first | go_big_quiet_skip | (go_big_quiet_want; go_big_quiet_op; first | go_big_quiet_on | fail))
          refine wpQuiet_nil ?_
          rintro _ ⟨gg, ng, rfl⟩
          go_wp2_with (at_builtin; go_loud (refine wpList_append_its rfl _ _ rfl w.heap.size (some ⟨bO, 0, none⟩) k L rfl (HO.out.grew (by repeat (first | exact Grew.refl _ | refine Grew.drewN ?_ _ | refine Grew.grow ?_ _ | refine Grew.alloc ?_ _ | refine Grew.drew ?_))) _ 1 [(⟨2, ps, nn, nm⟩ : It)] rfl (fun e => by cases e) (cells_newI _ _ (by simp [go_sem]) #[.int .i64 2, .int .i64 ps, .int .i64 nn, .string nm] _ [(⟨2, ps, nn, nm⟩ : It)] rfl) ?hmx ?hbs ?_))
          case hmx => have := HLL.out; simp; omega
          case hbs => (try simp [go_sem]); omega
          · intro a4 k4 wB hownB hgrowB hdrB
            have HGB := hid (show Grew w wB from Grew.by (w' := _) (HGR.out.trans (by repeat (first | exact Grew.refl _ | refine Grew.drewN ?_ _ | refine Grew.grow ?_ _ | refine Grew.alloc ?_ _ | refine Grew.drew ?_))) hgrowB hdrB (fun jj hjj => ownsRow_above HO.out jj hjj))
            have HOB := hid hownB
            clear hgrowB hdrB hownB
            go_wp2_with fail
            go_roundw
            case rel => exact ⟨i + 1, a4, k4, L ++ [(⟨2, ps, nn, nm⟩ : It)], by omega, by go_num, by simp, HN.out.symm, HOB.out, HGB.out⟩
            case measure => simp [intOf]; omega
        · rw [if_neg fun h => absurd h.1 (by decide)] at hsr
          by_cases hyx : y.kind = 3 ∧ y.pos = ps
          · obtain rfl := cross_eq HXO.out HYO.out rfl hyx.1 hyx.2
            dsimp only at d0 d1 d2 d3 hsr
            by_cases hl1 : lastI L (ps + 1) = q
            · rw [if_pos ⟨rfl, rfl, lastI_iff.1 hl1⟩] at hsr
              have HN := hid hsr
              rw [hl1] at HLB
              clear hsr hl1 HON hyx
              go_wp2_with fail
              refine (HLA.out _ (by repeat (first | exact Grew.refl _ | refine Grew.drewN ?_ _ | refine Grew.grow ?_ _ | refine Grew.alloc ?_ _ | refine Grew.drew ?_))).mono ?_
              rintro e w' ⟨rfl, g1, m1, rfl⟩
              go_wp2_with fail
              refine wp_region_gentle_lit (by kernel_rfl) (by kernel_rfl) ?_
              repeat (first | go_big_quiet_skip | (go_big_quiet_want; go_big_quiet_op; first | go_big_quiet_on | (apply Exists.intro; refine ⟨fun qq => ?_, ?_⟩; (focus ((first | (go_at_call 81; refine Calls.gentle_of (HLB.out _ (by repeat (first | exact Grew.refl _ | refine Grew.drewN ?_ _ | refine Grew.grow ?_ _ | refine Grew.alloc ?_ _ | refine Grew.drew ?_))) ?_)); rintro _ ⟨g', n', rfl⟩; exact ⟨⟨qq.g ++ g', qq.n + n'⟩, by rw [World.grow_drewN, World.grow_grow, World.drewN_drewN]; repeat (first | rw [List.append_assoc] | rw [Nat.add_assoc])⟩)); go_big_quiet_on)))
              refine wpQuiet_nil ?_
              rintro _ ⟨gg, ng, rfl⟩
              go_wp2_with fail
              refine (HW.out _ (by repeat (first | exact Grew.refl _ | refine Grew.drewN ?_ _ | refine Grew.grow ?_ _ | refine Grew.alloc ?_ _ | refine Grew.drew ?_))).mono ?_
              rintro e w' ⟨⟨a4, k4, rfl, hO4⟩, hg4⟩
              have HGB := hid (HGR.out.trans (Grew.trans (by repeat (first | exact Grew.refl _ | refine Grew.drewN ?_ _ | refine Grew.grow ?_ _ | refine Grew.alloc ?_ _ | refine Grew.drew ?_)) hg4))
              have HOB := hid (World.ownsRow.mono hO4 (HGR.out.trans (by repeat (first | exact Grew.refl _ | refine Grew.drewN ?_ _ | refine Grew.grow ?_ _ | refine Grew.alloc ?_ _ | refine Grew.drew ?_))).size)
              clear hO4 hg4
              go_wp2_with fail
              go_roundw
              case rel => exact ⟨i + 1, a4, k4, L.eraseIdx q, by omega, by go_num, rfl, HN.out.symm, HOB.out.grew (by repeat (first | exact Grew.refl _ | refine Grew.drewN ?_ _ | refine Grew.grow ?_ _ | refine Grew.alloc ?_ _ | refine Grew.drew ?_)), HGB.out.trans (by repeat (first | exact Grew.refl _ | refine Grew.drewN ?_ _ | refine Grew.grow ?_ _ | refine Grew.alloc ?_ _ | refine Grew.drew ?_))⟩
              case measure => simp [intOf]; omega
            · rw [if_neg fun h => hl1 (lastI_iff.2 h.2.2)] at hsr
              have HN := hid hsr
              have e5 : (lastI L (ps + 1) == (q : Int)) = false := by simpa using hl1
              obtain ⟨T1, hT1⟩ : ∃ T, lastI L (ps + 1) = T := ⟨_, rfl⟩
              rw [hT1] at HLB e5
              clear hsr hl1 hT1 HON hyx HW
              go_wp2_with fail
              refine (HLA.out _ (by repeat (first | exact Grew.refl _ | refine Grew.drewN ?_ _ | refine Grew.grow ?_ _ | refine Grew.alloc ?_ _ | refine Grew.drew ?_))).mono ?_
              rintro e w' ⟨rfl, g1, m1, rfl⟩
              go_wp2_with fail
              refine wp_region_gentle_lit (by kernel_rfl) (by kernel_rfl) ?_
              repeat (first | go_big_quiet_skip | (go_big_quiet_want; go_big_quiet_op; first | go_big_quiet_on | (apply Exists.intro; refine ⟨fun qq => ?_, ?_⟩; (focus ((first | (go_at_call 81; refine Calls.gentle_of (HLB.out _ (by repeat (first | exact Grew.refl _ | refine Grew.drewN ?_ _ | refine Grew.grow ?_ _ | refine Grew.alloc ?_ _ | refine Grew.drew ?_))) ?_)); rintro _ ⟨g', n', rfl⟩; exact ⟨⟨qq.g ++ g', qq.n + n'⟩, by rw [World.grow_drewN, World.grow_grow, World.drewN_drewN]; repeat (first | rw [List.append_assoc] | rw [Nat.add_assoc])⟩)); go_big_quiet_on)))
              refine wpQuiet_nil ?_
              rintro _ ⟨gg, ng, rfl⟩
              go_wp2_with (at_builtin; go_loud (refine wpList_append_its rfl _ _ rfl w.heap.size (some ⟨bO, 0, none⟩) k L rfl (HO.out.grew (by repeat (first | exact Grew.refl _ | refine Grew.drewN ?_ _ | refine Grew.grow ?_ _ | refine Grew.alloc ?_ _ | refine Grew.drew ?_))) _ 1 [(⟨3, ps, nn, nm⟩ : It)] rfl (fun e => by cases e) (cells_newI _ _ (by simp [go_sem]) #[.int .i64 3, .int .i64 ps, .int .i64 nn, .string nm] _ [(⟨3, ps, nn, nm⟩ : It)] rfl) ?hmx ?hbs ?_))
              case hmx => have := HLL.out; simp; omega
              case hbs => (try simp [go_sem]); omega
              · intro a4 k4 wB hownB hgrowB hdrB
                have HGB := hid (show Grew w wB from Grew.by (w' := _) (HGR.out.trans (by repeat (first | exact Grew.refl _ | refine Grew.drewN ?_ _ | refine Grew.grow ?_ _ | refine Grew.alloc ?_ _ | refine Grew.drew ?_))) hgrowB hdrB (fun jj hjj => ownsRow_above HO.out jj hjj))
                have HOB := hid hownB
                clear hgrowB hdrB hownB
                go_wp2_with fail
                go_roundw
                case rel => exact ⟨i + 1, a4, k4, L ++ [(⟨3, ps, nn, nm⟩ : It)], by omega, by go_num, by simp, HN.out.symm, HOB.out, HGB.out⟩
                case measure => simp [intOf]; omega
          · rw [if_neg fun h => hyx ⟨by rw [h.2.1], by rw [h.2.1]⟩] at hsr
            have HN := hid hsr
            by_cases hyk : y.kind = 3
            · have hyp : ¬ y.pos = ps := fun h => hyx ⟨hyk, h⟩
              have ek : (y.pos == ps) = false := by simpa using hyp
              rw [hyk] at d0
              clear hsr hyx hyk HON HLB HW
              go_wp2_with fail
              refine (HLA.out _ (by repeat (first | exact Grew.refl _ | refine Grew.drewN ?_ _ | refine Grew.grow ?_ _ | refine Grew.alloc ?_ _ | refine Grew.drew ?_))).mono ?_
              rintro e w' ⟨rfl, g1, m1, rfl⟩
              go_wp2_with fail
              refine wp_region_gentle_lit (by kernel_rfl) (by kernel_rfl) ?_
              repeat (first | go_big_quiet_skip | (go_big_quiet_want; go_big_quiet_op; first | go_big_quiet_on | fail))
              refine wpQuiet_nil ?_
              rintro _ ⟨gg, ng, rfl⟩
              go_wp2_with (at_builtin; go_loud (refine wpList_append_its rfl _ _ rfl w.heap.size (some ⟨bO, 0, none⟩) k L rfl (HO.out.grew (by repeat (first | exact Grew.refl _ | refine Grew.drewN ?_ _ | refine Grew.grow ?_ _ | refine Grew.alloc ?_ _ | refine Grew.drew ?_))) _ 1 [(⟨3, ps, nn, nm⟩ : It)] rfl (fun e => by cases e) (cells_newI _ _ (by simp [go_sem]) #[.int .i64 3, .int .i64 ps, .int .i64 nn, .string nm] _ [(⟨3, ps, nn, nm⟩ : It)] rfl) ?hmx ?hbs ?_))
              case hmx => have := HLL.out; simp; omega
              case hbs => (try simp [go_sem]); omega
              · intro a4 k4 wB hownB hgrowB hdrB
                have HGB := hid (show Grew w wB from Grew.by (w' := _) (HGR.out.trans (by repeat (first | exact Grew.refl _ | refine Grew.drewN ?_ _ | refine Grew.grow ?_ _ | refine Grew.alloc ?_ _ | refine Grew.drew ?_))) hgrowB hdrB (fun jj hjj => ownsRow_above HO.out jj hjj))
                have HOB := hid hownB
                clear hgrowB hdrB hownB
                go_wp2_with fail
                go_roundw
                case rel => exact ⟨i + 1, a4, k4, L ++ [(⟨3, ps, nn, nm⟩ : It)], by omega, by go_num, by simp, HN.out.symm, HOB.out, HGB.out⟩
                case measure => simp [intOf]; omega
            · have ek : (y.kind == 3) = false := by simpa using hyk
              clear hsr hyx hyk HON HLB HW
              go_wp2_with fail
              refine (HLA.out _ (by repeat (first | exact Grew.refl _ | refine Grew.drewN ?_ _ | refine Grew.grow ?_ _ | refine Grew.alloc ?_ _ | refine Grew.drew ?_))).mono ?_
              rintro e w' ⟨rfl, g1, m1, rfl⟩
              go_wp2_with fail
              refine wp_region_gentle_lit (by kernel_rfl) (by kernel_rfl) ?_
              repeat (first | go_big_quiet_skip | (go_big_quiet_want; go_big_quiet_op; first | go_big_quiet_on | fail))
              refine wpQuiet_nil ?_
              rintro _ ⟨gg, ng, rfl⟩
              go_wp2_with (at_builtin; go_loud (refine wpList_append_its rfl _ _ rfl w.heap.size (some ⟨bO, 0, none⟩) k L rfl (HO.out.grew (by repeat (first | exact Grew.refl _ | refine Grew.drewN ?_ _ | refine Grew.grow ?_ _ | refine Grew.alloc ?_ _ | refine Grew.drew ?_))) _ 1 [(⟨3, ps, nn, nm⟩ : It)] rfl (fun e => by cases e) (cells_newI _ _ (by simp [go_sem]) #[.int .i64 3, .int .i64 ps, .int .i64 nn, .string nm] _ [(⟨3, ps, nn, nm⟩ : It)] rfl) ?hmx ?hbs ?_))
              case hmx => have := HLL.out; simp; omega
              case hbs => (try simp [go_sem]); omega
              · intro a4 k4 wB hownB hgrowB hdrB
                have HGB := hid (show Grew w wB from Grew.by (w' := _) (HGR.out.trans (by repeat (first | exact Grew.refl _ | refine Grew.drewN ?_ _ | refine Grew.grow ?_ _ | refine Grew.alloc ?_ _ | refine Grew.drew ?_))) hgrowB hdrB (fun jj hjj => ownsRow_above HO.out jj hjj))
                have HOB := hid hownB
                clear hgrowB hdrB hownB
                go_wp2_with fail
                go_roundw
                case rel => exact ⟨i + 1, a4, k4, L ++ [(⟨3, ps, nn, nm⟩ : It)], by omega, by go_num, by simp, HN.out.symm, HOB.out, HGB.out⟩
                case measure => simp [intOf]; omega

end Go.Proofs.Ytkglnnkghillpaa
