/- Layer 3, the statements' side: the identity. No condition. -/
import Derived.Test.YtkglnnkghillpaaMshO

namespace Go.Proofs.Ytkglnnkghillpaa
open Go Go.RowKit Amp Msh

theorem idN_at {n q : Nat} (h : q < n * n) : (idN n)[q]? = some (if q / n = q % n then oneZ else noneZ) := by
  simp [idN, gridR, List.getElem?_range h]
theorem take_step {α : Type} {l : List α} {q : Nat} {z : α} (h : l[q]? = some z) : l.take (q + 1) = l.take q ++ [z] := by
  rw [List.take_add_one, h]; rfl
/-- A literal of numbers in a new block. -/
def LitN (B : Nat) (v : Value) (z : Num) (w : World) : Prop := ∃ b : Nat, v = .slice (some ⟨b, 0, none⟩) 1 1 ∧ B ≤ b ∧ w.heap[b]? = some (.cells #[.int .i64 z.x.a, .int .i64 z.x.b, .int .i64 z.x.c, .int .i64 z.x.d, .int .i64 z.k] 53)
theorem LitN.grew {B : Nat} {v : Value} {z : Num} {w w' : World} (h : LitN B v z w) (g : Grew w w') : LitN B v z w' := by
  obtain ⟨b, h1, h2, h3⟩ := h
  exact ⟨b, h1, h2, (g.block b (Array.getElem?_eq_some_iff.1 h3).1).trans h3⟩
theorem LitN.fresh {B : Nat} {z : Num} {w : World} {b : Nat} (hb : b = w.heap.size) (hB : B ≤ w.heap.size) : LitN B (.slice (some ⟨b, 0, none⟩) 1 1) z (w.alloc (.cells #[.int .i64 z.x.a, .int .i64 z.x.b, .int .i64 z.x.c, .int .i64 z.x.d, .int .i64 z.k] 53)) := by
  subst hb
  exact ⟨_, rfl, hB, blk_new rfl⟩

set_option maxRecDepth 100000 in
set_option maxHeartbeats 4000000 in
theorem rIdentity_any (n : Nat) (w : World) (n1 : 1 ≤ n) (n2 : n ≤ 6) :
    Calls Try.prog 20 #[.int .i64 n] w (MatP n (idN n) w) := by
  obtain ⟨i0, hi, hz0, hz1, hz2⟩ := info_parts info_num
  have h36 : n * n ≤ 36 := Nat.mul_le_mul n2 n2
  have hnn : (n : Int) * n = ((n * n : Nat) : Int) := (Int.natCast_mul _ _).symm
  obtain ⟨nn, hN⟩ : ∃ nn, n * n = nn := ⟨_, rfl⟩
  rw [hN] at hnn h36
  have HN := hid hN
  clear hN
  go_enter Try.func20, Try.ntmps20
  go_wp2_with fail
  obtain ⟨W, hW⟩ : ∃ W, W = (w.alloc (.cells #[.int .i64 0, .slice none 0 0] 28)).alloc (.cells #[.int .i64 n, .slice none 0 0] 28) := ⟨_, rfl⟩
  have hWg : Grew w W := by rw [hW]; exact (by repeat (first | exact Grew.refl _ | refine Grew.drewN ?_ _ | refine Grew.grow ?_ _ | refine Grew.alloc ?_ _ | refine Grew.drew ?_))
  have hWs : W.heap.size = w.heap.size + 2 := by rw [hW]; simp
  have hr0 : W.cell? ⟨w.heap.size, 0, none⟩ = some (.int .i64 0) ∧ W.cell? ⟨w.heap.size, 1, none⟩ = some (.slice none 0 0) ∧ W.frozen? ⟨w.heap.size, 0, none⟩ = false ∧ W.frozen? ⟨w.heap.size, 1, none⟩ = false := by rw [hW]; simp [go_sem]
  have hM0 : MatIn W W (w.heap.size + 1) n [] := by
    refine ⟨Turned.refl _ _, by omega, none, 0, ?_, OwnN.nil _ _⟩
    rw [hW]
    exact blk_new (by simp)
  rw [← hW]
  clear hW
  have HWs := hid hWs
  clear hWs
  go_loopw [10] (fun v wr => ∃ q : Nat, q ≤ nn ∧ v = .int .i64 q ∧ MatIn W wr (w.heap.size + 1) n ((idN n).take q)) (fun v _ => nn - (intOf v).toNat)
  case atStart => exact ⟨0, Nat.zero_le _, rfl, hM0⟩
  case round =>
    obtain ⟨q, hq, rfl, hM⟩ := hrel
    by_cases hlt : q < nn
    · rw [← HN.out] at hlt
      obtain ⟨l, hl⟩ : ∃ l, (idN n).take q = l := ⟨_, rfl⟩
      rw [hl] at hM
      obtain ⟨a0, k0, hv, ho, c0, c1, f0, f1⟩ := hM.cells
      have hWw := hM.1.size
      have hb' : w.heap.size + 1 < wr.heap.size := by have := HWs.out; omega
      have hlen : l.length ≤ 36 := by rw [← hl]; simp; omega
      have hb'1 := fun m0 : Nat => Nat.lt_add_right m0 (hb')
      have hb'2 := fun m0 m1 : Nat => Nat.lt_add_right m1 (hb'1 m0)
      have hb'3 := fun m0 m1 m2 : Nat => Nat.lt_add_right m2 (hb'2 m0 m1)
      have HM := hid hM
      have HO := hid ho
      have HV := hid hv
      have HL := hid hl
      clear hM ho hv hr0 hl
      have hq6 : q < nn := by rw [← HN.out]; exact hlt
      have hn0 : ((n : Int) == 0) = false := by simp; omega
      have hdv : (wrap64 ((q : Int) / n) == (q : Int) % n) = (((q / n : Nat) : Int) == ((q % n : Nat) : Int)) := by
        have h1 : q / n ≤ q := Nat.div_le_self _ _
        rw [show (q : Int) / n = ((q / n : Nat) : Int) from (Int.natCast_ediv q n).symm, IntWalk.wrap64_in _ (by
          obtain ⟨d, hd⟩ : ∃ d, q / n = d := ⟨_, rfl⟩
          rw [hd] at h1 ⊢
          omega)]
        rfl
      have HDV := hid hdv
      clear hdv
      go_wp2_with fail
      refine wp_region_gentle_lit (by kernel_rfl) (by kernel_rfl) ?_
      repeat (first | go_big_quiet_skip | (go_big_quiet_want; go_big_quiet_op; first | go_big_quiet_on | fail))
      refine wpQuiet_nil ?_
      rintro _ ⟨gg, ng, rfl⟩
      go_wp2_with fail
      · rename_i hd
        rw [HDV.out, beq_iff_eq] at hd
        have hd : q / n = q % n := Int.ofNat.inj hd
        refine R4.wp_region_slots 4 (fun ix vs W => match ix with | 0 => vs 0 = .pointer (some ⟨w.heap.size + 1, 1, none⟩) | 1 => vs 1 = .slice a0 l.length k0 | 2 => vs 2 = .agg #[.int .i64 1, .int .i64 0, .int .i64 0, .int .i64 0, .int .i64 0] | 3 => LitN wr.heap.size (vs 3) oneZ W | _ => True) (by kernel_rfl) (by kernel_rfl) ?slst ?sldep ?slop ?slq
        case slst =>
          intro ix vs W W' h hg
          match ix, h with
          | 0, h => exact h
          | 1, h => exact h
          | 2, h => exact h
          | 3, h => exact LitN.grew h hg
          | _ + 4, _ => trivial
        case sldep =>
          intro ix o vs vs' W hix ho h hv hn
          match ix, hix, ho, h, hv with
          | 0, _, _, h, hv => exact Eq.trans hv h
          | 1, _, _, h, hv => exact Eq.trans hv h
          | 2, _, _, h, hv => exact Eq.trans hv h
          | 3, _, _, h, hv => show LitN wr.heap.size (vs' 3) oneZ W; rw [hv]; exact h
          | kx + 4, hix, _, _, _ => exact absurd hix (by omega)
        case slop =>
          intro ix o hix ho vs W L hg hL hn hall
          match ix, hix, ho, hL with
          | 0, _, ho, _ =>
            obtain rfl := Option.some.inj ho
            change R4.Oper.slotAt _ _ { tmps := _, defers := _ } _ _
            obtain ⟨gq, nq, rfl⟩ := hg
            go_simp
            exact ⟨R4.upd_same _ _ _, .inl (Grew.refl _)⟩
          | 1, _, ho, _ =>
            obtain rfl := Option.some.inj ho
            have hn0 := (hn 0 (by decide)).2
            try dsimp only at hn0
            change R4.Oper.slotAt _ _ (Act.put _ (some 20) (vs 0)) _ _
            conv => arg 3; rw [hn0]
            clear hn0
            obtain ⟨gq, nq, rfl⟩ := hg
            go_simp
            exact ⟨R4.upd_same _ _ _, .inl (Grew.refl _)⟩
          | 2, _, ho, _ =>
            obtain rfl := Option.some.inj ho
            change R4.Oper.slotAt _ _ { tmps := _, defers := _ } _ _
            obtain ⟨gq, nq, rfl⟩ := hg
            go_simp
            refine (rone_any _).mono ?_
            rintro e w' ⟨rfl, gr⟩
            exact ⟨_, rfl, R4.upd_same _ _ _, .inl gr⟩
          | 3, _, ho, _ =>
            obtain rfl := Option.some.inj ho
            have hn2 := (hn 2 (by decide)).2
            try dsimp only at hn2
            change R4.Oper.slotAt _ _ (Act.put _ (some 22) (vs 2)) _ _
            conv => arg 3; rw [hn2]
            clear hn2
            have hs := hg.size
            simp [go_sem] at hs
            go_simp
            exact ⟨by rw [R4.upd_same]; exact LitN.fresh (z := oneZ) rfl (by omega), .inl ((Grew.refl _).alloc _)⟩
          | kx + 4, hix, _, _ => exact absurd hix (by omega)
        case slq =>
          intro vs W2 hg hn
          have hn0 : vs 0 = .pointer (some ⟨w.heap.size + 1, 1, none⟩) := hn 0 (by decide) (by decide)
          have hn1 : vs 1 = .slice a0 l.length k0 := hn 1 (by decide) (by decide)
          have hn2 : vs 2 = .agg #[.int .i64 1, .int .i64 0, .int .i64 0, .int .i64 0, .int .i64 0] := hn 2 (by decide) (by decide)
          obtain ⟨b, hn3, hB, hb⟩ : LitN wr.heap.size (vs 3) oneZ W2 := hn 3 (by decide) (by decide)
          change wpList _ _ _ _ (Act.put (Act.put (Act.put (Act.put _ (some 20) (vs 0)) (some 21) (vs 1)) (some 22) (vs 2)) (some 23) (vs 3)) _
          rw [hn0, hn1, hn2, hn3]
          clear hn hn0 hn1 hn2 hn3
          have hg := Grew.trans (a := wr) ⟨gg, ng, rfl⟩ hg
          have HG2 := hid hg
          have HMG := hid (HM.out.grew hg)
          have HOG : Hid (OwnN W2 W.heap.size a0 k0 l) := HO.out.grew hg
          have HBl := hid hb
          have hWW : Hid (W.heap.size ≤ W2.heap.size) := Nat.le_trans hWw hg.size
          have hvG : Hid (W2.heap[w.heap.size + 1]? = some (.cells #[.int .i64 n, .slice a0 l.length k0] 28)) := (hg.block _ hb').trans HV.out
          have c1' : W2.cell? ⟨w.heap.size + 1, 1, none⟩ = some (.slice a0 l.length k0) := by have := hvG.out; simp [World.cell?, this]
          clear hg hb hB c0 c1 f0 f1 hb' hb'1 hb'2 hb'3 hWw
          simp only [Act.put, List.setIfInBounds_toArray, List.set_cons_zero, List.set_cons_succ, List.drop_succ_cons, List.drop_zero]
          go_wp2_with (at_builtin; refine wpList_append_behind rfl _ _ 26 rfl W.heap.size 53 i0 (.agg #[.int .i64 0, .int .i64 0, .int .i64 0, .int .i64 0, .int .i64 0]) 5 40 Try.underlying26 hi hz0 hz1 hz2 rfl (by decide) _ _ (numsCells l) rfl (HOG.out) ⟨b, 0, none⟩ 1 1 (numCells oneZ) rfl rfl ?c1 (fun u hu => numCells_one hu) ?c3 ?c4 ?c5 ?_)
          case c1 =>
            have h := HBl.out
            exact numCells_in (z := oneZ) (by simp [World.cell?, h]) (by simp [World.cell?, h]) (by simp [World.cell?, h]) (by simp [World.cell?, h]) (by simp [World.cell?, h])
          case c3 => unfold maxLen; omega
          case c4 => omega
          case c5 => exact hWW.out
          · intro v' w1 hown' hgrow hwh hdr
            obtain ⟨a1, k1, rfl⟩ := ownsRow_slice hown'
            obtain ⟨d1, d2, d3, hM'⟩ := HMG.out.appended (z := oneZ) hvG.out HOG.out (Grew.refl _) hgrow hdr hown'
            have HM' := hid hM'
            clear hgrow hown' hwh hdr hM' c1'
            go_wp2_with fail
            go_roundw
            case rel => exact ⟨q + 1, by omega, by go_num, by rw [show (idN n).take (q + 1) = l ++ [oneZ] by rw [take_step (z := oneZ) (by rw [idN_at hlt, if_pos hd]), HL.out]]; exact HM'.out⟩
            case measure => simp [intOf]; omega

      · rename_i hd
        rw [HDV.out, beq_eq_false_iff_ne] at hd
        have hd : ¬ q / n = q % n := fun h => hd (by rw [h])
        refine R4.wp_region_slots 4 (fun ix vs W => match ix with | 0 => vs 0 = .pointer (some ⟨w.heap.size + 1, 1, none⟩) | 1 => vs 1 = .slice a0 l.length k0 | 2 => vs 2 = .agg #[.int .i64 0, .int .i64 0, .int .i64 0, .int .i64 0, .int .i64 0] | 3 => LitN wr.heap.size (vs 3) noneZ W | _ => True) (by kernel_rfl) (by kernel_rfl) ?slst ?sldep ?slop ?slq
        case slst =>
          intro ix vs W W' h hg
          match ix, h with
          | 0, h => exact h
          | 1, h => exact h
          | 2, h => exact h
          | 3, h => exact LitN.grew h hg
          | _ + 4, _ => trivial
        case sldep =>
          intro ix o vs vs' W hix ho h hv hn
          match ix, hix, ho, h, hv with
          | 0, _, _, h, hv => exact Eq.trans hv h
          | 1, _, _, h, hv => exact Eq.trans hv h
          | 2, _, _, h, hv => exact Eq.trans hv h
          | 3, _, _, h, hv => show LitN wr.heap.size (vs' 3) noneZ W; rw [hv]; exact h
          | kx + 4, hix, _, _, _ => exact absurd hix (by omega)
        case slop =>
          intro ix o hix ho vs W L hg hL hn hall
          match ix, hix, ho, hL with
          | 0, _, ho, _ =>
            obtain rfl := Option.some.inj ho
            change R4.Oper.slotAt _ _ { tmps := _, defers := _ } _ _
            obtain ⟨gq, nq, rfl⟩ := hg
            go_simp
            exact ⟨R4.upd_same _ _ _, .inl (Grew.refl _)⟩
          | 1, _, ho, _ =>
            obtain rfl := Option.some.inj ho
            have hn0 := (hn 0 (by decide)).2
            try dsimp only at hn0
            change R4.Oper.slotAt _ _ (Act.put _ (some 26) (vs 0)) _ _
            conv => arg 3; rw [hn0]
            clear hn0
            obtain ⟨gq, nq, rfl⟩ := hg
            go_simp
            exact ⟨R4.upd_same _ _ _, .inl (Grew.refl _)⟩
          | 2, _, ho, _ =>
            obtain rfl := Option.some.inj ho
            change R4.Oper.slotAt _ _ { tmps := _, defers := _ } _ _
            obtain ⟨gq, nq, rfl⟩ := hg
            go_simp
            refine (rnone_any _).mono ?_
            rintro e w' ⟨rfl, gr⟩
            exact ⟨_, rfl, R4.upd_same _ _ _, .inl gr⟩
          | 3, _, ho, _ =>
            obtain rfl := Option.some.inj ho
            have hn2 := (hn 2 (by decide)).2
            try dsimp only at hn2
            change R4.Oper.slotAt _ _ (Act.put _ (some 28) (vs 2)) _ _
            conv => arg 3; rw [hn2]
            clear hn2
            have hs := hg.size
            simp [go_sem] at hs
            go_simp
            exact ⟨by rw [R4.upd_same]; exact LitN.fresh (z := noneZ) rfl (by omega), .inl ((Grew.refl _).alloc _)⟩
          | kx + 4, hix, _, _ => exact absurd hix (by omega)
        case slq =>
          intro vs W2 hg hn
          have hn0 : vs 0 = .pointer (some ⟨w.heap.size + 1, 1, none⟩) := hn 0 (by decide) (by decide)
          have hn1 : vs 1 = .slice a0 l.length k0 := hn 1 (by decide) (by decide)
          have hn2 : vs 2 = .agg #[.int .i64 0, .int .i64 0, .int .i64 0, .int .i64 0, .int .i64 0] := hn 2 (by decide) (by decide)
          obtain ⟨b, hn3, hB, hb⟩ : LitN wr.heap.size (vs 3) noneZ W2 := hn 3 (by decide) (by decide)
          change wpList _ _ _ _ (Act.put (Act.put (Act.put (Act.put _ (some 26) (vs 0)) (some 27) (vs 1)) (some 28) (vs 2)) (some 29) (vs 3)) _
          rw [hn0, hn1, hn2, hn3]
          clear hn hn0 hn1 hn2 hn3
          have hg := Grew.trans (a := wr) ⟨gg, ng, rfl⟩ hg
          have HG2 := hid hg
          have HMG := hid (HM.out.grew hg)
          have HOG : Hid (OwnN W2 W.heap.size a0 k0 l) := HO.out.grew hg
          have HBl := hid hb
          have hWW : Hid (W.heap.size ≤ W2.heap.size) := Nat.le_trans hWw hg.size
          have hvG : Hid (W2.heap[w.heap.size + 1]? = some (.cells #[.int .i64 n, .slice a0 l.length k0] 28)) := (hg.block _ hb').trans HV.out
          have c1' : W2.cell? ⟨w.heap.size + 1, 1, none⟩ = some (.slice a0 l.length k0) := by have := hvG.out; simp [World.cell?, this]
          clear hg hb hB c0 c1 f0 f1 hb' hb'1 hb'2 hb'3 hWw
          simp only [Act.put, List.setIfInBounds_toArray, List.set_cons_zero, List.set_cons_succ, List.drop_succ_cons, List.drop_zero]
          go_wp2_with (at_builtin; refine wpList_append_behind rfl _ _ 26 rfl W.heap.size 53 i0 (.agg #[.int .i64 0, .int .i64 0, .int .i64 0, .int .i64 0, .int .i64 0]) 5 40 Try.underlying26 hi hz0 hz1 hz2 rfl (by decide) _ _ (numsCells l) rfl (HOG.out) ⟨b, 0, none⟩ 1 1 (numCells noneZ) rfl rfl ?c1 (fun u hu => numCells_one hu) ?c3 ?c4 ?c5 ?_)
          case c1 =>
            have h := HBl.out
            exact numCells_in (z := noneZ) (by simp [World.cell?, h]) (by simp [World.cell?, h]) (by simp [World.cell?, h]) (by simp [World.cell?, h]) (by simp [World.cell?, h])
          case c3 => unfold maxLen; omega
          case c4 => omega
          case c5 => exact hWW.out
          · intro v' w1 hown' hgrow hwh hdr
            obtain ⟨a1, k1, rfl⟩ := ownsRow_slice hown'
            obtain ⟨d1, d2, d3, hM'⟩ := HMG.out.appended (z := noneZ) hvG.out HOG.out (Grew.refl _) hgrow hdr hown'
            have HM' := hid hM'
            clear hgrow hown' hwh hdr hM' c1'
            go_wp2_with fail
            go_roundw
            case rel => exact ⟨q + 1, by omega, by go_num, by rw [show (idN n).take (q + 1) = l ++ [noneZ] by rw [take_step (z := noneZ) (by rw [idN_at hlt, if_neg hd]), HL.out]]; exact HM'.out⟩
            case measure => simp [intOf]; omega

    · obtain rfl : q = nn := by omega
      obtain ⟨l, hl⟩ : ∃ l, (idN n).take q = l := ⟨_, rfl⟩
      have hl' : idN n = l := by rw [← hl, List.take_of_length_le (by rw [idN_length, HN.out]; exact Nat.le_refl _)]
      rw [hl] at hM
      have HL' := hid hl'
      obtain ⟨a0, k0, hv, ho, c0, c1, f0, f1⟩ := hM.cells
      have hWw := hM.1.size
      have hWs := HWs.out
      have hb : w.heap.size + 1 < wr.heap.size := by omega
      have hr : w.heap.size < wr.heap.size := by omega
      have HG := hid (hM.1.toGrew hWg (by omega))
      have HR0 : Hid (wr.cell? ⟨w.heap.size, 0, none⟩ = some (.int .i64 0) ∧ wr.cell? ⟨w.heap.size, 1, none⟩ = some (.slice none 0 0) ∧ wr.frozen? ⟨w.heap.size, 0, none⟩ = false ∧ wr.frozen? ⟨w.heap.size, 1, none⟩ = false) := hid (by
        have hbl := hM.1.block (k := w.heap.size) (by omega) (by omega)
        simpa [World.cell?, World.frozen?, hbl] using hr0)
      obtain ⟨q0, q1, q2, q3⟩ := HR0.out
      have HO := hid ho
      clear hM ho hv hr0 hWs hWw hl hl'
      go_wp2_with fail
      exact bodyPost_ret (v := .agg #[.int .i64 n, .slice a0 l.length k0]) (by simp [results, Try.results20, go_sem, q0, q1]) rfl (⟨⟨a0, k0, by rw [HL'.out], (by rw [HL'.out]; refine OwnN.mono' (OwnN.al HO.out ?_) ?_; exact (by (try simp only [go_sem, q0, q1]); (try simp only [List.append_assoc]); repeat (first | exact Al.refl _ _ | refine Al.drewN ?_ _ | refine Al.grow ?_ _ | refine Al.alloc ?_ _ | refine Al.other ?_ _ _ (by have := HWs.out; omega) | refine Al.set ?_ _ _ _ (by have := HWs.out; omega))); have := HWs.out; omega)⟩, (by repeat (first | exact Grew.refl _ | exact HG.out | refine Grew.drewN ?_ _ | refine Grew.grow ?_ _ | refine Grew.alloc ?_ _ | refine Grew.drew ?_ | refine Grew.set ?_ (Nat.le_refl _) _ _ | refine Grew.set ?_ (by omega) _ _))⟩)

end Go.Proofs.Ytkglnnkghillpaa

/- Layer 3, the statements' side: a matrix laid into the identity. Condition: it lies in memory. -/

namespace Go.Proofs.Ytkglnnkghillpaa
open Go Go.RowKit Amp Msh

set_option maxRecDepth 100000 in
set_option maxHeartbeats 4000000 in
theorem placeIn_any (n p m : Nat) (am : Option Addr) (km : Nat) (lm : List Num) (w : World) (n1 : 1 ≤ n) (n2 : n ≤ 6) (m1 : 1 ≤ m) (p1 : 1 ≤ p) (hp : p + m ≤ n + 1) (hlm : lm.length = m * m) (h0 : Nms w am lm) :
    Calls Try.prog 58 #[.int .i64 n, .int .i64 p, .agg #[.int .i64 m, .slice am lm.length km]] w (MatP n (placeN n p m lm) w) := by
  have HI := hid fun w => rIdentity_any n w n1 n2
  have H0 := hid h0
  have HLM := hid hlm
  have hl36 : lm.length ≤ 36 := by have := Nat.mul_le_mul (show m ≤ 6 by omega) (show m ≤ 6 by omega); omega
  clear h0 hlm
  go_enter Try.func58, Try.ntmps58
  go_wp2_with fail
  refine (HI.out _).mono ?_
  rintro e w' ⟨⟨a0, k0, rfl, ho⟩, g, n', rfl⟩
  obtain ⟨b0, rfl⟩ := ho.here (by rw [idN_length]; exact Nat.mul_pos n1 n1)
  obtain ⟨l0, hl0⟩ : ∃ l0, idN n = l0 := ⟨_, rfl⟩
  rw [hl0] at ho ⊢
  have HL0 := hid hl0
  have hlen : l0.length = n * n := by rw [← hl0]; exact idN_length n
  have HLEN := hid hlen
  have HO := hid ho
  clear hl0 hlen ho
  go_wp2_with fail
  obtain ⟨W, hW⟩ : ∃ W, W = ((((w.alloc (.cells #[.int .i64 m, .slice am lm.length km] 28)).alloc (.cells #[.int .i64 0, .slice none 0 0] 28)).grow g).alloc (.cells #[.int .i64 n, .slice (some ⟨b0, 0, none⟩) l0.length k0] 28)).drewN n' := ⟨_, rfl⟩
  obtain ⟨b7, hb7⟩ : ∃ b7, b7 = w.heap.size + 1 + 1 + g.length := ⟨_, rfl⟩
  have hWg : Grew w W := by rw [hW]; exact (by repeat (first | exact Grew.refl _ | refine Grew.drewN ?_ _ | refine Grew.grow ?_ _ | refine Grew.alloc ?_ _ | refine Grew.drew ?_))
  have hWs : W.heap.size = w.heap.size + 1 + 1 + g.length + 1 := by rw [hW]; simp [go_sem]
  have hO : OwnN W (w.heap.size + 2) (some ⟨b0, 0, none⟩) k0 l0 := by
    rw [hW]
    exact (HO.out.mono' (by simp)).grew ((Grew.refl _).alloc _)
  have hb0 : b0 < b7 := by
    obtain ⟨_, _, _, _, _, _, _, h, _⟩ := HO.out.at (i := 0) (by rw [HLEN.out]; exact Nat.mul_pos n1 n1)
    rw [hb7]; simp [go_sem] at h; omega
  have hb2 : w.heap.size + 2 ≤ b0 := by
    obtain ⟨_, _, _, _, _, _, _, _, h⟩ := hO.at (i := 0) (by rw [HLEN.out]; exact Nat.mul_pos n1 n1)
    exact h
  have hC : W.cell? ⟨w.heap.size, 0, none⟩ = some (.int .i64 m) ∧ W.cell? ⟨w.heap.size, 1, none⟩ = some (.slice am lm.length km) ∧ W.cell? ⟨b7, 0, none⟩ = some (.int .i64 n) ∧ W.cell? ⟨b7, 1, none⟩ = some (.slice (some ⟨b0, 0, none⟩) l0.length k0) ∧
      W.cell? ⟨w.heap.size + 1, 0, none⟩ = some (.int .i64 0) ∧ W.cell? ⟨w.heap.size + 1, 1, none⟩ = some (.slice none 0 0) ∧ W.frozen? ⟨w.heap.size + 1, 0, none⟩ = false ∧ W.frozen? ⟨w.heap.size + 1, 1, none⟩ = false := by
    rw [hW, hb7]; simp [go_sem]
  rw [← hW, ← hb7]
  have HWG := hid hWg
  have HW7 : Hid (b7 < W.heap.size ∧ w.heap.size + 2 ≤ b0 ∧ b0 < b7) := hid (by omega)
  clear hW hWg hb0 hb2
  clear hb7 hWs HO
  have key : ∀ wr, Turned W wr b0 → Grew w wr ∧ w.heap.size + 1 < wr.heap.size ∧ b7 < wr.heap.size ∧ b0 < wr.heap.size ∧ wr.cell? ⟨w.heap.size, 0, none⟩ = some (.int .i64 m) ∧ wr.cell? ⟨w.heap.size, 1, none⟩ = some (.slice am lm.length km) ∧ wr.cell? ⟨b7, 0, none⟩ = some (.int .i64 n) ∧ wr.cell? ⟨b7, 1, none⟩ = some (.slice (some ⟨b0, 0, none⟩) l0.length k0) ∧
      wr.cell? ⟨w.heap.size + 1, 0, none⟩ = some (.int .i64 0) ∧ wr.cell? ⟨w.heap.size + 1, 1, none⟩ = some (.slice none 0 0) ∧ wr.frozen? ⟨w.heap.size + 1, 0, none⟩ = false ∧ wr.frozen? ⟨w.heap.size + 1, 1, none⟩ = false := by
    intro wr hT
    obtain ⟨h1, h2, h3⟩ := HW7.out
    have hs := hT.size
    obtain ⟨q1, q2, q3, q4, q5, q6, q7, q8⟩ := hC
    have e1 := hT.block (k := w.heap.size) (by omega) (by omega)
    have e2 := hT.block (k := b7) (by omega) (by omega)
    have e3 := hT.block (k := w.heap.size + 1) (by omega) (by omega)
    refine ⟨hT.toGrew HWG.out (by omega), by omega, by omega, by omega, ?_, ?_, ?_, ?_, ?_, ?_, ?_, ?_⟩
    · rw [← q1]; simp [World.cell?, e1]
    · rw [← q2]; simp [World.cell?, e1]
    · rw [← q3]; simp [World.cell?, e2]
    · rw [← q4]; simp [World.cell?, e2]
    · rw [← q5]; simp [World.cell?, e3]
    · rw [← q6]; simp [World.cell?, e3]
    · rw [← q7]; simp [World.frozen?, e3]
    · rw [← q8]; simp [World.frozen?, e3]
  have KEY := hid key
  clear key hC
  go_loopw [14] (fun v wr => ∃ i : Nat, i ≤ m ∧ v = .int .i64 i ∧ Turned W wr b0 ∧ OwnN wr (w.heap.size + 2) (some ⟨b0, 0, none⟩) k0 (placeL n p m lm (i * m))) (fun v _ => m - (intOf v).toNat)
  case atStart => exact ⟨0, Nat.zero_le _, rfl, Turned.refl _ _, by rw [Nat.zero_mul, placeL, HL0.out]; exact hO⟩
  case round =>
    obtain ⟨i, hi, rfl, hT, hOw⟩ := hrel
    by_cases hlt : i < m
    · obtain ⟨_, z1, z2, z3, y1, y2, y3, y4, _⟩ := KEY.out wr hT
      go_wp2_with fail
      go_loopw [19] (fun v wr => ∃ k : Nat, k ≤ m ∧ v = .int .i64 k ∧ Turned W wr b0 ∧ OwnN wr (w.heap.size + 2) (some ⟨b0, 0, none⟩) k0 (placeL n p m lm (i * m + k))) (fun v _ => m - (intOf v).toNat)
      case atStart => exact ⟨0, Nat.zero_le _, rfl, hT.grew (by repeat (first | exact Grew.refl _ | refine Grew.drewN ?_ _ | refine Grew.grow ?_ _ | refine Grew.alloc ?_ _ | refine Grew.drew ?_)), hOw.grew (by repeat (first | exact Grew.refl _ | refine Grew.drewN ?_ _ | refine Grew.grow ?_ _ | refine Grew.alloc ?_ _ | refine Grew.drew ?_))⟩
      case round =>
        clear y1 y2 y3 y4 z1 z2 z3
        obtain ⟨k, hk, rfl, hT, hOw⟩ := hrel
        by_cases hlk : k < m
        · obtain ⟨hG, z1, z2, z3, y1, y2, y3, y4, _⟩ := KEY.out wr hT
          have z0 : w.heap.size < wr.heap.size := by omega
          have hq : i * m + k < lm.length := by rw [HLM.out]; exact grid_lt hlt hlk
          obtain ⟨z, hz⟩ : ∃ z, lm[i * m + k]? = some z := ⟨lm[i * m + k], List.getElem?_eq_getElem hq⟩
          obtain ⟨b, off, rfl, hb, c0, c1, c2, c3, c4⟩ := (H0.out.grew hG).cells hz
          have hj : (p - 1 + i) * n + (p - 1) + k < l0.length := by rw [HLEN.out]; exact placeI_lt p1 hp hlt hlk
          obtain ⟨zo, d0, d1, d2, d3, d4, df, _, _⟩ := hOw.at (i := (p - 1 + i) * n + (p - 1) + k) (by rw [placeL_length, ← HLEN.out]; exact hj)
          obtain ⟨R, hR⟩ : ∃ R, (p - 1 + i) * n = R := ⟨_, rfl⟩
          obtain ⟨I, hI⟩ : ∃ I, i * m = I := ⟨_, rfl⟩
          have hR1 : ((p : Int) - 1 + i) * n = (R : Nat) := by
            rw [← hR, show (p : Int) - 1 + i = ((p - 1 + i : Nat) : Int) by omega]; exact (Int.natCast_mul _ _).symm
          have hI1 : (i : Int) * m = (I : Nat) := by rw [← hI]; exact (Int.natCast_mul _ _).symm
          have hl36' : l0.length ≤ 36 := by have := HLEN.out; have := Nat.mul_le_mul n2 n2; omega
          rw [hR] at hj d0 d1 d2 d3 d4
          rw [hI] at c0 c1 c2 c3 c4 hq
          have hR2 : R ≤ 36 := by omega
          have hI2 : I ≤ 36 := by omega
          obtain ⟨J, hJ⟩ : ∃ J, R + (p - 1) + k = J := ⟨_, rfl⟩
          have hJ1 : (R : Int) + p - 1 + k = (J : Nat) := by omega
          have hQ1 : (I : Int) + k = ((I + k : Nat) : Int) := by omega
          obtain ⟨Q, hQ⟩ : ∃ Q, I + k = Q := ⟨_, rfl⟩
          rw [hQ] at hQ1 c0 c1 c2 c3 c4 hq
          rw [hJ] at hj d0 d1 d2 d3 d4
          have hj' : (J : Int) < l0.length := by omega
          have hq' : (Q : Int) < lm.length := by omega
          have f0 := df (J * 5)
          have f1 := df (J * 5 + 1)
          have f2 := df (J * 5 + 2)
          have f3 := df (J * 5 + 3)
          have f4 := df (J * 5 + 4)
          have HT := hid hT
          have HOW := hid hOw
          have HZ := hid hz
          have HR := hid hR
          have HI' := hid hI
          have HQ := hid hQ
          have HJ := hid hJ
          clear df hT hOw hz hR hI hQ hJ hG hO
          have z01 := fun m0 : Nat => Nat.lt_add_right m0 (z0)
          have z02 := fun m0 m1 : Nat => Nat.lt_add_right m1 (z01 m0)
          have z03 := fun m0 m1 m2 : Nat => Nat.lt_add_right m2 (z02 m0 m1)
          have z11 := fun m0 : Nat => Nat.lt_add_right m0 (z1)
          have z12 := fun m0 m1 : Nat => Nat.lt_add_right m1 (z11 m0)
          have z13 := fun m0 m1 m2 : Nat => Nat.lt_add_right m2 (z12 m0 m1)
          have z21 := fun m0 : Nat => Nat.lt_add_right m0 (z2)
          have z22 := fun m0 m1 : Nat => Nat.lt_add_right m1 (z21 m0)
          have z23 := fun m0 m1 m2 : Nat => Nat.lt_add_right m2 (z22 m0 m1)
          have z31 := fun m0 : Nat => Nat.lt_add_right m0 (z3)
          have z32 := fun m0 m1 : Nat => Nat.lt_add_right m1 (z31 m0)
          have z33 := fun m0 m1 m2 : Nat => Nat.lt_add_right m2 (z32 m0 m1)
          have hb1 := fun m0 : Nat => Nat.lt_add_right m0 (hb)
          have hb2 := fun m0 m1 : Nat => Nat.lt_add_right m1 (hb1 m0)
          have hb3 := fun m0 m1 m2 : Nat => Nat.lt_add_right m2 (hb2 m0 m1)
          go_wp2_with fail
          refine R3.wp_region_gentle_tail 23 (by kernel_rfl) (by kernel_rfl) (by kernel_rfl) ?_
          simp only [List.take_succ_cons, List.take_zero, List.drop_succ_cons, List.drop_zero]
          repeat (first | go_big_quiet_skip | (go_big_quiet_want; go_big_quiet_op; first | go_big_quiet_on | fail))
          refine wpQuiet_nil ?_
          rintro _ ⟨gg, ng, rfl⟩
          go_wp2_with fail
          go_roundw
          case rel =>
            refine ⟨k + 1, by omega, by go_num, ?_, ?_⟩
            · refine Turned.grew ?_ ⟨gg, ng, rfl⟩
              exact ((((HT.out.set _ _).set _ _).set _ _).set _ _).set _ _
            · refine OwnN.grew ?_ ⟨gg, ng, rfl⟩
              have e : placeL n p m lm (i * m + (k + 1)) = (placeL n p m lm (i * m + k)).set J z := by
                show (placeL n p m lm (i * m + k)).set (placeI n p m (i * m + k)) (lm.getD (i * m + k) noneZ) = _
                rw [placeI_eq hlk, HR.out, HJ.out, List.getD_eq_getElem?_getD, HZ.out]; rfl
              rw [e]
              exact HOW.out.put J z (by rw [placeL_length, ← HLEN.out]; exact hj)
          case measure => simp [intOf]; omega
        · obtain rfl : k = m := by omega
          obtain ⟨_, z1, z2, z3, y1, y2, y3, y4, _⟩ := KEY.out wr hT
          go_wp2_with fail
          go_roundw
          case rel => exact ⟨i + 1, by omega, by go_num, hT.grew (by repeat (first | exact Grew.refl _ | refine Grew.drewN ?_ _ | refine Grew.grow ?_ _ | refine Grew.alloc ?_ _ | refine Grew.drew ?_)), by rw [Nat.add_mul, Nat.one_mul]; exact hOw.grew (by repeat (first | exact Grew.refl _ | refine Grew.drewN ?_ _ | refine Grew.grow ?_ _ | refine Grew.alloc ?_ _ | refine Grew.drew ?_))⟩
          case measure => simp [intOf]; omega
    · obtain rfl : i = m := by omega
      obtain ⟨hG, z1, z2, z3, y1, y2, y3, y4, y5, y6, y7, y8⟩ := KEY.out wr hT
      have hl1 : l0.length = (placeN n p i lm).length := by rw [HLEN.out]; exact (placeL_length n p i lm _).symm
      have HL1 := hid hl1
      have HG := hid hG
      have HOW := hid hOw
      have hlow := HW7.out.2.1
      clear hl1 hT hOw hG hO
      go_wp2_with fail
      exact bodyPost_ret (v := .agg #[.int .i64 n, .slice (some ⟨b0, 0, none⟩) l0.length k0]) (by simp [results, Try.results58, go_sem, y5, y6]) rfl ⟨⟨_, _, by rw [HL1.out], (HOW.out.al (by (try simp only [go_sem]); (try simp only [List.append_assoc]); repeat (first | exact Al.refl _ _ | refine Al.drewN ?_ _ | refine Al.grow ?_ _ | refine Al.alloc ?_ _ | refine Al.other ?_ _ _ (by simp [go_sem] <;> omega) | refine Al.set ?_ _ _ _ (by simp [go_sem] <;> omega)))).mono' (by omega)⟩, (by repeat (first | exact Grew.refl _ | exact HG.out | refine Grew.drewN ?_ _ | refine Grew.grow ?_ _ | refine Grew.alloc ?_ _ | refine Grew.drew ?_ | refine Grew.set ?_ (Nat.le_refl _) _ _ | refine Grew.set ?_ (by omega) _ _))⟩

end Go.Proofs.Ytkglnnkghillpaa
