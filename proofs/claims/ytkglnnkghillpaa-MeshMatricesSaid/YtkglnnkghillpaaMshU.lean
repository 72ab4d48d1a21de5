/- Layer 3, the statements' side: the product of two matrices. Condition: both lie in memory. -/
import Derived.Test.YtkglnnkghillpaaMshT

namespace Go.Proofs.Ytkglnnkghillpaa
open Go Go.RowKit Amp Msh

/-- A column of a matrix. -/
def colL (lb : List Num) (n k : Nat) : List Num := (List.range n).map fun j => lb.getD (j * n + k) ⟨zero, 0⟩
theorem colL_length (lb : List Num) (n k : Nat) : (colL lb n k).length = n := by simp [colL]
theorem colL_at {lb : List Num} {n k j : Nat} (hj : j < n) : (colL lb n k)[j]? = some (lb.getD (j * n + k) ⟨zero, 0⟩) := by simp [colL, List.getElem?_range hj]
theorem prowV_col (la lb : List Num) (n i k : Nat) : prowV la (colL lb n k) n i = prow la lb n i k := by
  unfold prowV prow
  apply List.map_congr_left
  intro j hj
  rw [List.mem_range] at hj
  simp [List.getD, colL_at hj]

set_option maxRecDepth 100000 in
set_option maxHeartbeats 8000000 in
theorem times_any (n : Nat) (a0 a1 : Option Addr) (k0 k1 : Nat) (la lb : List Num) (w : World) (n2 : n ≤ 6) (hla : la.length = n * n) (hlb : lb.length = n * n) (h0 : Nms w a0 la) (h1 : Nms w a1 lb) :
    Calls Try.prog 17 #[.agg #[.int .i64 n, .slice a0 la.length k0], .agg #[.int .i64 n, .slice a1 lb.length k1]] w (MadeP n (mulM n la lb) w) := by
  have H0 := hid h0
  have H1 := hid h1
  have HLA := hid hla
  have HLB := hid hlb
  obtain ⟨i0, hi, hz0, hz1, hz2⟩ := info_parts info_num
  obtain ⟨F, hF⟩ : ∃ F : Nat → Nat → Res, F = fun i k => rowN (prow la lb n i k) := ⟨_, rfl⟩
  have HR' : Hid (mulM n la lb = matR n F) := hid (by rw [hF]; rfl)
  have HROW := hid fun (i k : Nat) (c : Option Addr) (kc : Nat) (w' : World) (hg : Grew w w') (hik : i < n) (hc : Nms w' c (colL lb n k)) => (show Calls Try.prog 37 #[.agg #[.int .i64 n, .slice a0 la.length k0], .int .i64 i, .slice c n kc] w' fun e w'' => e = .returned (.tuple #[.agg #[.int .i64 (F i k).x.a, .int .i64 (F i k).x.b, .int .i64 (F i k).x.c, .int .i64 (F i k).x.d, .int .i64 (F i k).k], .int .i64 (F i k).e]) ∧ Grew w' w'' from by
    have h := row_any n i a0 c k0 kc la (colL lb n k) w' n2 hla (colL_length _ _ _) hik (h0.grew hg) hc
    rw [prowV_col, colL_length] at h
    rw [hF]
    exact h)
  clear h0 h1 hla hlb hF
  go_enter Try.func17, Try.ntmps17
  go_wp2_with fail
  obtain ⟨W, hW⟩ : ∃ W, W = (((w.alloc (.cells #[.int .i64 n, .slice a0 la.length k0] 28)).alloc (.cells #[.int .i64 n, .slice a1 lb.length k1] 28)).alloc (.cells #[.int .i64 0, .slice none 0 0] 28)).alloc (.cells #[.int .i64 n, .slice none 0 0] 28) := ⟨_, rfl⟩
  have hWg : Grew w W := by rw [hW]; exact (by repeat (first | exact Grew.refl _ | refine Grew.drewN ?_ _ | refine Grew.grow ?_ _ | refine Grew.alloc ?_ _ | refine Grew.drew ?_))
  have hWs : W.heap.size = w.heap.size + 4 := by rw [hW]; simp
  obtain ⟨b6, hb6⟩ : ∃ b6, b6 = w.heap.size + 1 + 1 + 1 := ⟨_, rfl⟩
  obtain ⟨b4, hb4⟩ : ∃ b4, b4 = w.heap.size + 1 + 1 := ⟨_, rfl⟩
  obtain ⟨b3, hb3⟩ : ∃ b3, b3 = w.heap.size + 1 := ⟨_, rfl⟩
  have hr0 : (W.cell? ⟨b4, 0, none⟩ = some (.int .i64 0) ∧ W.cell? ⟨b4, 1, none⟩ = some (.slice none 0 0) ∧ W.frozen? ⟨b4, 0, none⟩ = false ∧ W.frozen? ⟨b4, 1, none⟩ = false) ∧ W.cell? ⟨w.heap.size, 0, none⟩ = some (.int .i64 n) ∧ W.cell? ⟨w.heap.size, 1, none⟩ = some (.slice a0 la.length k0) ∧ W.cell? ⟨b3, 0, none⟩ = some (.int .i64 n) ∧ W.cell? ⟨b3, 1, none⟩ = some (.slice a1 lb.length k1) := by rw [hW, hb4, hb3]; simp [go_sem]
  have hM0 : MatIn W W b6 n [] := by
    refine ⟨Turned.refl _ _, by omega, none, 0, ?_, OwnN.nil _ _⟩
    rw [hW, hb6]
    exact blk_new (by simp)
  rw [← hW, ← hb6, ← hb4, ← hb3]
  clear hW
  have HB := hid (show b6 < W.heap.size ∧ w.heap.size < b3 ∧ b3 < b4 ∧ b4 < b6 from by omega)
  clear hb6 hb4 hb3 hWs
  have HWG := hid hWg
  have KEY := hid fun wr (hT : Turned W wr b6) => (show Grew w wr ∧ (w.heap.size < wr.heap.size ∧ b3 < wr.heap.size ∧ b4 < wr.heap.size ∧ b6 < wr.heap.size) ∧ (wr.cell? ⟨b4, 0, none⟩ = some (.int .i64 0) ∧ wr.cell? ⟨b4, 1, none⟩ = some (.slice none 0 0) ∧ wr.frozen? ⟨b4, 0, none⟩ = false ∧ wr.frozen? ⟨b4, 1, none⟩ = false) ∧ wr.cell? ⟨w.heap.size, 0, none⟩ = some (.int .i64 n) ∧ wr.cell? ⟨w.heap.size, 1, none⟩ = some (.slice a0 la.length k0) ∧ wr.cell? ⟨b3, 0, none⟩ = some (.int .i64 n) ∧ wr.cell? ⟨b3, 1, none⟩ = some (.slice a1 lb.length k1) from by
    obtain ⟨x1, x2, x3, x4⟩ := HB.out
    have hs := hT.size
    obtain ⟨⟨q1, q2, q3, q4⟩, q5, q6, q7, q8⟩ := hr0
    have e4 := hT.block (k := b4) (by omega) (by omega)
    have e0 := hT.block (k := w.heap.size) (by omega) (by omega)
    have e3 := hT.block (k := b3) (by omega) (by omega)
    refine ⟨hT.toGrew HWG.out (by omega), by omega, ⟨?_, ?_, ?_, ?_⟩, ?_, ?_, ?_, ?_⟩
    · rw [← q1]; simp [World.cell?, e4]
    · rw [← q2]; simp [World.cell?, e4]
    · rw [← q3]; simp [World.frozen?, e4]
    · rw [← q4]; simp [World.frozen?, e4]
    · rw [← q5]; simp [World.cell?, e0]
    · rw [← q6]; simp [World.cell?, e0]
    · rw [← q7]; simp [World.cell?, e3]
    · rw [← q8]; simp [World.cell?, e3])
  clear hr0 hWg
  go_loopw [18] (fun v wr => ∃ (i : Nat) (l : List Num), i ≤ n ∧ v = .int .i64 i ∧ Hid (seqR ((gridR n F).take (i * n)) = (l, 0)) ∧ MatIn W wr b6 n l) (fun v _ => n - (intOf v).toNat)
  case atStart => exact ⟨0, [], Nat.zero_le _, rfl, hid (by simp [seqR]), hM0⟩
  case round =>
    obtain ⟨i, l, hin, rfl, hs, hM⟩ := hrel
    by_cases hlt : i < n
    · obtain ⟨_, ⟨x0, x3, x4, x6⟩, _, y0, y1, y2, y3⟩ := KEY.out wr hM.1
      go_wp2_with fail
      go_loopw [23] (fun v wr => ∃ (k : Nat) (l : List Num), k ≤ n ∧ v = .int .i64 k ∧ Hid (seqR ((gridR n F).take (i * n + k)) = (l, 0)) ∧ MatIn W wr b6 n l) (fun v _ => n - (intOf v).toNat)
      case atStart => exact ⟨0, l, Nat.zero_le _, rfl, hs, hM.grew (by repeat (first | exact Grew.refl _ | refine Grew.drewN ?_ _ | refine Grew.grow ?_ _ | refine Grew.alloc ?_ _ | refine Grew.drew ?_))⟩
      case round =>
        clear x0 x3 x4 x6 y0 y1 y2 y3
        obtain ⟨k, l, hkn, rfl, hs, hM⟩ := hrel
        by_cases hlk : k < n
        · obtain ⟨hG, ⟨x0, x3, x4, x6⟩, ⟨u0, u1, u2, u3⟩, y0, y1, y2, y3⟩ := KEY.out wr hM.1
          have HG := hid hG
          have HM := hid hM
          clear hM hG
          have x01 := fun m0 : Nat => Nat.lt_add_right m0 (x0)
          have x02 := fun m0 m1 : Nat => Nat.lt_add_right m1 (x01 m0)
          have x03 := fun m0 m1 m2 : Nat => Nat.lt_add_right m2 (x02 m0 m1)
          have x31 := fun m0 : Nat => Nat.lt_add_right m0 (x3)
          have x32 := fun m0 m1 : Nat => Nat.lt_add_right m1 (x31 m0)
          have x33 := fun m0 m1 m2 : Nat => Nat.lt_add_right m2 (x32 m0 m1)
          have x41 := fun m0 : Nat => Nat.lt_add_right m0 (x4)
          have x42 := fun m0 m1 : Nat => Nat.lt_add_right m1 (x41 m0)
          have x43 := fun m0 m1 m2 : Nat => Nat.lt_add_right m2 (x42 m0 m1)
          have x61 := fun m0 : Nat => Nat.lt_add_right m0 (x6)
          have x62 := fun m0 m1 : Nat => Nat.lt_add_right m1 (x61 m0)
          have x63 := fun m0 m1 m2 : Nat => Nat.lt_add_right m2 (x62 m0 m1)
          go_wp2_with fail
          go_loopw [9, 28] (fun c v wr2 => ∃ (q : Nat) (ac : Option Addr) (kc : Nat), q ≤ n ∧ v = .int .i64 q ∧ c = .slice ac q kc ∧ Grew wr wr2 ∧ Hid (wr2.ownsRow wr.heap.size 53 5 (.slice ac q kc) q (numsCells ((colL lb n k).take q)))) (fun _ v _ => n - (intOf v).toNat)
          case atStart => exact ⟨0, none, 0, Nat.zero_le _, rfl, rfl, (by repeat (first | exact Grew.refl _ | refine Grew.drewN ?_ _ | refine Grew.grow ?_ _ | refine Grew.alloc ?_ _ | refine Grew.drew ?_)), hid (World.ownsRow_nil _ _ _ _)⟩
          case round =>
            obtain ⟨q, ac, kc, hq, rfl, rfl, hg2, hoc⟩ := hrel
            obtain ⟨g2, n2', rfl⟩ := hg2
            by_cases hlq : q < n
            · have hj : q * n + k < lb.length := by rw [HLB.out]; exact grid_lt hlq hlk
              obtain ⟨z, hz⟩ : ∃ z, lb[q * n + k]? = some z := ⟨lb[q * n + k], List.getElem?_eq_getElem hj⟩
              obtain ⟨b, off, rfl, hb, c0, c1, c2, c3, c4⟩ := (H1.out.grew HG.out).cells hz
              obtain ⟨I, hI⟩ : ∃ I, q * n = I := ⟨_, rfl⟩
              have hI1 : (q : Int) * n = (I : Nat) := by rw [← hI]; exact (Int.natCast_mul _ _).symm
              have hl36 : lb.length ≤ 36 := by have := HLB.out; have := Nat.mul_le_mul n2 n2; omega
              have Hz : Hid ((colL lb n k)[q]? = some z) := hid (by rw [colL_at hlq, List.getD_eq_getElem?_getD, hz]; rfl)
              rw [hI] at c0 c1 c2 c3 c4 hj
              obtain ⟨J, hJ⟩ : ∃ J, I + k = J := ⟨_, rfl⟩
              have hJ1 : (I : Int) + k = (J : Nat) := by omega
              rw [hJ] at c0 c1 c2 c3 c4 hj
              have hj' : (J : Int) < lb.length := by omega
              have hI2 : I ≤ 36 := by omega
              clear hz hI hJ
              have hb1 := fun m0 : Nat => Nat.lt_add_right m0 (hb)
              have hb2 := fun m0 m1 : Nat => Nat.lt_add_right m1 (hb1 m0)
              have hb3 := fun m0 m1 m2 : Nat => Nat.lt_add_right m2 (hb2 m0 m1)
              have HOC := hid fun w2 (h : Grew ((wr.grow g2).drewN n2') w2) => (World.ownsRow.grew hoc.out h)
              go_wp2_with (at_builtin; refine wpList_append_behind rfl _ _ 26 rfl wr.heap.size 53 i0 (.agg #[.int .i64 0, .int .i64 0, .int .i64 0, .int .i64 0, .int .i64 0]) 5 40 Try.underlying26 hi hz0 hz1 hz2 rfl (by decide) _ _ (numsCells ((colL lb n k).take q)) rfl (HOC.out _ ((Grew.refl _).alloc _)) ⟨wr.heap.size + g2.length, 0, none⟩ 1 1 (numCells z) rfl rfl ?c1 (fun u hu => numCells_one hu) ?c3 ?c4 ?c5 ?_)
              case c1 => exact numCells_in (z := z) (by simp [go_sem]) (by simp [go_sem]) (by simp [go_sem]) (by simp [go_sem]) (by simp [go_sem])
              case c3 => unfold maxLen; omega
              case c4 => omega
              case c5 => simp [go_sem] <;> omega
              · intro v' w1 hown' hgrow hwh hdr
                obtain ⟨a2, k2, rfl⟩ := ownsRow_slice hown'
                have hg3 : Grew wr w1 := Grew.by (w' := _) (by repeat (first | exact Grew.refl _ | refine Grew.drewN ?_ _ | refine Grew.grow ?_ _ | refine Grew.alloc ?_ _ | refine Grew.drew ?_)) hgrow hdr (fun jj hjj => ownsRow_above hoc.out jj hjj)
                rw [← numsCells_append, ← take_step Hz.out] at hown'
                have HG3 := hid hg3
                have HO3 := hid hown'
                clear hgrow hown' hwh hdr HOC hg3 hoc
                go_wp2_with fail
                go_roundw
                case rel => exact ⟨q + 1, a2, k2, by omega, by go_num, rfl, HG3.out, HO3⟩
                case measure => simp [intOf]; omega
            · obtain rfl : q = n := by omega
              have hcol : Nms ((wr.grow g2).drewN n2') ac (colL lb q k) := by
                have h := hoc.out
                rw [List.take_of_length_le (by rw [colL_length]; exact Nat.le_refl _)] at h
                refine OwnN.nms (base := wr.heap.size) (k0 := kc) ?_
                unfold OwnN
                rw [colL_length]
                exact h
              have HCOL := hid hcol
              clear hcol hoc
              go_wp2_with fail
              refine (HROW.out i k ac kc _ (HG.out.trans (by repeat (first | exact Grew.refl _ | refine Grew.drewN ?_ _ | refine Grew.grow ?_ _ | refine Grew.alloc ?_ _ | refine Grew.drew ?_))) hlt (HCOL.out.grew (by repeat (first | exact Grew.refl _ | refine Grew.drewN ?_ _ | refine Grew.grow ?_ _ | refine Grew.alloc ?_ _ | refine Grew.drew ?_)))).mono ?_
              rintro e w' ⟨rfl, g3, n3, rfl⟩
              obtain ⟨R, hR⟩ : ∃ R, F i k = R := ⟨_, rfl⟩
              rw [hR]
              have HR := hid hR
              clear hR HCOL
              obtain ⟨a6, k6, hv, ho, c0, c1, f0, f1⟩ := HM.out.cells
              have hWw := HM.out.1.size
              have HO := hid ho
              have HV := hid hv
              clear ho hv
              by_cases hRe : R.e = 0
              · have HRe := hid hRe
                rw [hRe]
                have HO' := hid fun w2 (h : Grew wr w2) => (HO.out.grew h : w2.ownsRow _ _ _ _ _ _)
                clear hRe
                have hlen : l.length ≤ 36 := by rw [seqR_len hs.out (by rw [gridR_length]; exact Nat.le_of_lt (grid_lt hlt hlk))]; have := grid_lt hlt hlk; have := Nat.mul_le_mul n2 n2; omega
                go_wp2_with (at_builtin; refine wpList_append_behind rfl _ _ 26 rfl W.heap.size 53 i0 (.agg #[.int .i64 0, .int .i64 0, .int .i64 0, .int .i64 0, .int .i64 0]) 5 40 Try.underlying26 hi hz0 hz1 hz2 rfl (by decide) _ _ (numsCells l) rfl (HO'.out _ (by repeat (first | exact Grew.refl _ | refine Grew.drewN ?_ _ | refine Grew.grow ?_ _ | refine Grew.alloc ?_ _ | refine Grew.drew ?_))) ⟨_, 0, none⟩ 1 1 (numCells ⟨R.x, R.k⟩) rfl rfl ?c1 (fun u hu => numCells_one hu) ?c3 ?c4 ?c5 ?_)
                case c1 => exact numCells_in (z := ⟨R.x, R.k⟩) (by simp [go_sem]) (by simp [go_sem]) (by simp [go_sem]) (by simp [go_sem]) (by simp [go_sem])
                case c3 => unfold maxLen; omega
                case c4 => omega
                case c5 => exact Nat.le_trans hWw (Grew.size (w := _) (by repeat (first | exact Grew.refl _ | refine Grew.drewN ?_ _ | refine Grew.grow ?_ _ | refine Grew.alloc ?_ _ | refine Grew.drew ?_)))
                · intro v' w1 hown' hgrow hwh hdr
                  obtain ⟨a1', k1', rfl⟩ := ownsRow_slice hown'
                  obtain ⟨d1, d2, d3, hM'⟩ := HM.out.appended (z := ⟨R.x, R.k⟩) HV.out HO.out (show Grew wr _ from (by repeat (first | exact Grew.refl _ | refine Grew.drewN ?_ _ | refine Grew.grow ?_ _ | refine Grew.alloc ?_ _ | refine Grew.drew ?_))) hgrow hdr hown'
                  have HM' := hid hM'
                  clear hgrow hown' hwh hdr HO' hM' c0 c1 f0 f1 HG hWw
                  go_wp2_with fail
                  go_roundw
                  case rel => exact ⟨k + 1, l ++ [⟨R.x, R.k⟩], by omega, by go_num, hid (seqR_step hs.out (by rw [gridR_at F hlt hlk, HR.out]) HRe.out), HM'.out⟩
                  case measure => simp [intOf]; omega
              · have HRe := hid hRe
                have e1 : (R.e != 0) = true := by simpa using hRe
                clear hRe c0 c1 f0 f1
                have hBB := HB.out
                go_wp2_with fail
                exact bodyPost_ret (v := .tuple #[.agg #[.int .i64 0, .slice none 0 0], .int .i64 R.e]) (by simp [results, Try.results17, go_sem, u0, u1, x4, x42]) rfl (MadeP.bad (by rw [HR'.out]; exact seqR_stop hs.out (by rw [gridR_at F hlt hlk, HR.out]) HRe.out) HRe.out (by repeat (first | exact Grew.refl _ | exact HG.out | refine Grew.drewN ?_ _ | refine Grew.grow ?_ _ | refine Grew.alloc ?_ _ | refine Grew.drew ?_ | refine Grew.set ?_ (Nat.le_refl _) _ _ | refine Grew.set ?_ (by omega) _ _)))
        · obtain rfl : k = n := by omega
          obtain ⟨_, ⟨x0, x3, x4, x6⟩, _, y0, y1, y2, y3⟩ := KEY.out wr hM.1
          go_wp2_with fail
          go_roundw
          case rel => exact ⟨i + 1, l, by omega, by go_num, hid (by rw [Nat.add_mul, Nat.one_mul]; exact hs.out), hM.grew (by repeat (first | exact Grew.refl _ | refine Grew.drewN ?_ _ | refine Grew.grow ?_ _ | refine Grew.alloc ?_ _ | refine Grew.drew ?_))⟩
          case measure => simp [intOf]; omega
    · obtain rfl : i = n := by omega
      obtain ⟨hG, ⟨x0, x3, x4, x6⟩, ⟨u0, u1, u2, u3⟩, y0, y1, y2, y3⟩ := KEY.out wr hM.1
      obtain ⟨a6, k6, hv, ho, c0, c1, f0, f1⟩ := hM.cells
      have HG := hid hG
      have HO := hid ho
      have hs' : matR i F = (l, 0) := by
        have := hs.out
        rw [List.take_of_length_le (by rw [gridR_length]; exact Nat.le_refl _)] at this
        exact this
      have HS := hid (HR'.out.trans hs')
      have HW4 := hid (Nat.le_trans HWG.out.size (Nat.le_refl _))
      clear hM ho hv hs' hs hG
      have hBB := HB.out
      go_wp2_with fail
      exact bodyPost_ret (v := .tuple #[.agg #[.int .i64 i, .slice a6 l.length k6], .int .i64 0]) (by simp [results, Try.results17, go_sem, u0, u1]) rfl (MadeP.good HS.out (by refine OwnN.mono' (base' := w.heap.size) (OwnN.al HO.out ?_) HW4.out; exact (by (try simp only [go_sem]); (try simp only [List.append_assoc]); repeat (first | exact Al.refl _ _ | refine Al.drewN ?_ _ | refine Al.grow ?_ _ | refine Al.alloc ?_ _ | refine Al.other ?_ _ _ (by omega) | refine Al.set ?_ _ _ _ (by omega)))) (by repeat (first | exact Grew.refl _ | exact HG.out | refine Grew.drewN ?_ _ | refine Grew.grow ?_ _ | refine Grew.alloc ?_ _ | refine Grew.drew ?_ | refine Grew.set ?_ (Nat.le_refl _) _ _ | refine Grew.set ?_ (by omega) _ _)))

end Go.Proofs.Ytkglnnkghillpaa

/- Layer 3, the statements' side: the matrix of flat items. Condition: they lie in memory. -/

namespace Go.Proofs.Ytkglnnkghillpaa
open Go Go.RowKit Amp Msh

/-- A new block that can hold a matrix. -/
def NewMat (B : Nat) (v : Value) (w : World) : Prop := ∃ (b : Nat) (x : Int) (a : Option Addr) (p q : Nat), v = .pointer (some ⟨b, 0, none⟩) ∧ B ≤ b ∧ w.heap[b]? = some (.cells #[.int .i64 x, .slice a p q] 28)
theorem NewMat.grew {B : Nat} {v : Value} {w w' : World} (h : NewMat B v w) (g : Grew w w') : NewMat B v w' := by
  obtain ⟨b, x, a, p, q, h1, h2, h3⟩ := h
  exact ⟨b, x, a, p, q, h1, h2, (g.block b (Array.getElem?_eq_some_iff.1 h3).1).trans h3⟩
theorem NewMat.fresh {B : Nat} {w : World} {b : Nat} (hb : b = w.heap.size) (hB : B ≤ w.heap.size) : NewMat B (.pointer (some ⟨b, 0, none⟩)) (w.alloc (.cells #[.int .i64 0, .slice none 0 0] 28)) := by
  subst hb
  exact ⟨_, 0, none, 0, 0, rfl, hB, blk_new rfl⟩
theorem MatB.grew {b : Nat} {n : Int} {l : List Num} {w w' : World} (h : MatB b n l w) (g : Grew w w') : MatB b n l w' := by
  obtain ⟨a, k, h1, h2⟩ := h
  exact ⟨a, k, (g.block b (Array.getElem?_eq_some_iff.1 h1).1).trans h1, h2.grew g⟩
theorem NewMat.turned {B b : Nat} {v : Value} {w w' : World} {x : Int} {a : Option Addr} {p q : Nat} (h : NewMat B v w) (ht : Turned w w' b) (hb : w'.heap[b]? = some (.cells #[.int .i64 x, .slice a p q] 28)) : NewMat B v w' := by
  obtain ⟨c, x', a', p', q', h1, h2, h3⟩ := h
  by_cases hc : c = b
  · subst hc; exact ⟨c, x, a, p, q, h1, h2, hb⟩
  · exact ⟨c, x', a', p', q', h1, h2, (ht.block (Array.getElem?_eq_some_iff.1 h3).1 hc).trans h3⟩
/-- The matrix that a slot points to. -/
def HasMat (v : Value) (n : Int) (l : List Num) (w : World) : Prop := ∃ b : Nat, v = .pointer (some ⟨b, 0, none⟩) ∧ MatB b n l w
theorem HasMat.grew {v : Value} {n : Int} {l : List Num} {w w' : World} (h : HasMat v n l w) (g : Grew w w') : HasMat v n l w' := by
  obtain ⟨b, h1, h2⟩ := h
  exact ⟨b, h1, h2.grew g⟩

set_option maxRecDepth 100000 in
set_option maxHeartbeats 800000 in
theorem rmatOf_bad (g : Int) (a0 : Option Addr) (cap : Nat) (l : List It) (w : World) (hl : l.length ≤ 9223372036854775807) (hc : Its w a0 l) (he : ¬ chkIts g l = 0) :
    Calls Try.prog 30 #[.int .i64 g, .slice a0 l.length cap] w (MadeN g.toNat (matOf g l) w) := by
  have HK := hid fun w' (h : Grew w w') => asked_any g a0 cap l w' hl (hc.grew h)
  have HR : Hid (matOf g l = ([], chkIts g l)) := hid (by unfold matOf; rw [if_neg he])
  obtain ⟨E, hE⟩ : ∃ E, chkIts g l = E := ⟨_, rfl⟩
  rw [hE] at HK HR he
  have e1 : (E != 0) = true := by simpa using he
  have HE := hid he
  clear he hE hc
  go_enter Try.func30, Try.ntmps30
  go_wp2_with fail
  refine (HK.out _ (by repeat (first | exact Grew.refl _ | refine Grew.drewN ?_ _ | refine Grew.grow ?_ _ | refine Grew.alloc ?_ _ | refine Grew.drew ?_))).mono ?_
  rintro e w' ⟨rfl, g', n, rfl⟩
  go_wp2_with fail
  exact bodyPost_ret (v := .tuple #[.agg #[.int .i64 0, .slice none 0 0], .int .i64 E]) (by simp [results, Try.results30, go_sem]) rfl (MadeN.bad HR.out HE.out (by repeat (first | exact Grew.refl _ | refine Grew.drewN ?_ _ | refine Grew.grow ?_ _ | refine Grew.alloc ?_ _ | refine Grew.drew ?_)))

set_option maxRecDepth 100000 in
set_option maxHeartbeats 8000000 in
theorem rmatOf_ok (n : Nat) (a0 : Option Addr) (cap : Nat) (its : List It) (w : World) (hl : its.length ≤ 9223372036854775807) (hc : Its w a0 its) (hk : chkIts n its = 0) :
    Calls Try.prog 30 #[.int .i64 n, .slice a0 its.length cap] w (MadeN n (itsM n its (idN n)) w) := by
  obtain ⟨n1', n2', hl5, hok⟩ := chkIts_zero hk
  have n1 : 1 ≤ n := by omega
  have n2 : n ≤ 6 := by omega
  have HK := hid fun w' (h : Grew w w') => asked_any n a0 cap its w' hl (hc.grew h)
  rw [hk] at HK
  have HI := hid fun w => rIdentity_any n w n1 n2
  have HC := hid hc
  have HOK := hid hok
  obtain ⟨R, hR⟩ : ∃ R, itsM n its (idN n) = R := ⟨_, rfl⟩
  rw [hR]
  have HR := hid hR
  clear hc hok hR hk n1' n2'
  go_enter Try.func30, Try.ntmps30
  go_wp2_with fail
  refine (HK.out _ (by repeat (first | exact Grew.refl _ | refine Grew.drewN ?_ _ | refine Grew.grow ?_ _ | refine Grew.alloc ?_ _ | refine Grew.drew ?_))).mono ?_
  rintro e w' ⟨rfl, g', n', rfl⟩
  go_wp2_with fail
  refine (HI.out _).mono ?_
  rintro e w' ⟨⟨a1, k1, rfl, ho⟩, g, n'', rfl⟩
  obtain ⟨l0, hl0⟩ : ∃ l0, idN n = l0 := ⟨_, rfl⟩
  rw [hl0] at ho ⊢
  have HO := hid ho
  have HL0 := hid hl0
  clear ho hl0
  go_wp2_with fail
  obtain ⟨G, hG⟩ : ∃ G, g' ++ g = G := ⟨_, rfl⟩
  obtain ⟨N', hN'⟩ : ∃ N', n' + n'' = N' := ⟨_, rfl⟩
  obtain ⟨W, hW⟩ : ∃ W, W = (((w.alloc (.cells #[.int .i64 0, .slice none 0 0] 28)).grow (g' ++ g)).alloc (.cells #[.int .i64 n, .slice a1 l0.length k1] 28)).drewN (n' + n'') := ⟨_, rfl⟩
  obtain ⟨b7, hb7⟩ : ∃ b7, b7 = w.heap.size + 1 + g'.length + g.length := ⟨_, rfl⟩
  have hWg : Grew w W := by rw [hW]; exact (by repeat (first | exact Grew.refl _ | refine Grew.drewN ?_ _ | refine Grew.grow ?_ _ | refine Grew.alloc ?_ _ | refine Grew.drew ?_))
  have hWs : W.heap.size = w.heap.size + 1 + g'.length + g.length + 1 := by rw [hW]; simp [go_sem]
  have hN : Nms W a1 l0 := by
    have h := HO.out
    simp only [World.grow_drewN, World.grow_grow, World.drewN_drewN] at h
    rw [hW]
    exact (h.grew ((Grew.refl _).alloc _)).nms
  have hB7 : W.heap[b7]? = some (.cells #[.int .i64 n, .slice a1 l0.length k1] 28) := by
    rw [hW, hb7, World.heap_drewN]
    exact blk_new (by simp [go_sem])
  have hB0 : W.heap[w.heap.size]? = some (.cells #[.int .i64 0, .slice none 0 0] 28) := by
    rw [hW, World.heap_drewN, blk_past (by simp [go_sem] <;> omega), World.grow_heap_lt _ _ _ (by simp [go_sem])]
    exact blk_new rfl
  rw [← hW, ← hb7]
  have HWG := hid hWg
  have HW8 : Hid (b7 < W.heap.size ∧ w.heap.size < b7) := hid (by omega)
  clear hW hWg hb7 hWs HO hG hN'
  have KEY := hid fun wr (hT : Turned W wr b7) => (show Grew w wr ∧ w.heap.size < wr.heap.size ∧ b7 < wr.heap.size ∧ wr.heap[w.heap.size]? = some (.cells #[.int .i64 0, .slice none 0 0] 28) from by
    obtain ⟨h1, h2⟩ := HW8.out
    have hs := hT.size
    have e1 := hT.block (k := w.heap.size) (by omega) (by omega)
    exact ⟨hT.toGrew HWG.out (by omega), by omega, by omega, e1.trans hB0⟩)
  clear hB0
  go_loopw [23] (fun v wr => ∃ (i : Nat) (l : List Num), i ≤ its.length ∧ v = .int .i64 i ∧ Hid (itsM n (its.drop i) l = R ∧ l.length = n * n ∧ VldL l) ∧ Turned W wr b7 ∧ MatB b7 n l wr) (fun v _ => its.length - (intOf v).toNat)
  case atStart => exact ⟨0, l0, Nat.zero_le _, rfl, hid ⟨by rw [← HL0.out]; exact HR.out, by rw [← HL0.out]; exact idN_length n, by rw [← HL0.out]; exact idN_valid n⟩, Turned.refl _ _, a1, k1, hB7, hN⟩
  case round =>
    obtain ⟨i, l, hi, rfl, hs, hT, ao, ko, hBo, hNo⟩ := hrel
    obtain ⟨hG, z0, z7, hB0⟩ := KEY.out wr hT
    have y0 : wr.cell? ⟨w.heap.size, 0, none⟩ = some (.int .i64 0) := by simp [World.cell?, hB0]
    have y1 : wr.cell? ⟨w.heap.size, 1, none⟩ = some (.slice none 0 0) := by simp [World.cell?, hB0]
    have y2 : wr.frozen? ⟨w.heap.size, 0, none⟩ = false := by simp [World.frozen?, hB0]
    have y3 : wr.frozen? ⟨w.heap.size, 1, none⟩ = false := by simp [World.frozen?, hB0]
    have HB0 := hid hB0
    have HG := hid hG
    have HT := hid hT
    have HBo := hid hBo
    have HNo := hid hNo
    have c70 : wr.cell? ⟨b7, 0, none⟩ = some (.int .i64 n) := by simp [World.cell?, hBo]
    have c71 : wr.cell? ⟨b7, 1, none⟩ = some (.slice ao l.length ko) := by simp [World.cell?, hBo]
    have f70 : wr.frozen? ⟨b7, 0, none⟩ = false := by simp [World.frozen?, hBo]
    have f71 : wr.frozen? ⟨b7, 1, none⟩ = false := by simp [World.frozen?, hBo]
    clear hG hT hBo hNo hB7 hN hB0
    have z01 := fun m0 : Nat => Nat.lt_add_right m0 (z0)
    have z02 := fun m0 m1 : Nat => Nat.lt_add_right m1 (z01 m0)
    have z03 := fun m0 m1 m2 : Nat => Nat.lt_add_right m2 (z02 m0 m1)
    have z71 := fun m0 : Nat => Nat.lt_add_right m0 (z7)
    have z72 := fun m0 m1 : Nat => Nat.lt_add_right m1 (z71 m0)
    have z73 := fun m0 m1 m2 : Nat => Nat.lt_add_right m2 (z72 m0 m1)
    by_cases hlt : i < its.length
    · obtain ⟨x, hx⟩ : ∃ x, its[i]? = some x := ⟨its[i], List.getElem?_eq_getElem hlt⟩
      obtain ⟨b, off, rfl, hb, c0, c1, c2, c3⟩ := (HC.out.grew HG.out).cells hx
      have hb1 := fun m0 : Nat => Nat.lt_add_right m0 (hb)
      have hb2 := fun m0 m1 : Nat => Nat.lt_add_right m1 (hb1 m0)
      have hb3 := fun m0 m1 m2 : Nat => Nat.lt_add_right m2 (hb2 m0 m1)
      have Hx := hid hx
      clear hx
      have hok := okIts_at Hx.out HOK.out
      obtain ⟨ok1, ok2, ok3, ok4, ok5, ok6⟩ := okIt_iff hok
      have HOK1 := hid ok1
      obtain ⟨m, hm⟩ : ∃ m, ownW x.kind = m := ⟨_, rfl⟩
      obtain ⟨lm, hlm⟩ : ∃ lm, ownM x.kind x.n = lm := ⟨_, rfl⟩
      have HLM := hid (And.intro hm hlm)
      have hlmV : VldL lm := by rw [← hlm]; exact ownM_valid _ _
      have hlmL : lm.length = m * m := by rw [← hlm, ← hm]; exact ownM_length _ _
      have hm1 : 1 ≤ m := by rw [← hm]; unfold ownW; split <;> omega
      obtain ⟨lp, hlp⟩ : ∃ lp, placeN n x.pos.toNat m lm = lp := ⟨_, rfl⟩
      have hlpL : lp.length = n * n := by rw [← hlp]; exact placeL_length _ _ _ _ _
      have HP := hid fun am km W (hN : Nms W am lm) => (show Calls Try.prog 58 #[.int .i64 n, .int .i64 x.pos, .agg #[.int .i64 m, .slice am lm.length km]] W (MatP n lp W) from by
        have h := placeIn_any n x.pos.toNat m am km lm W n1 n2 hm1 (by omega) (by rw [hm] at ok4; omega) hlmL hN
        rw [Int.toNat_of_nonneg (by omega), hlp] at h
        exact h)
      obtain ⟨⟨rl, re⟩, hr⟩ : ∃ r, mulM n lp l = r := ⟨_, rfl⟩
      obtain ⟨hs1, hs2, hs3⟩ := hs.out
      have HM := hid fun a2 k2 W (hA : Nms W a2 lp) (hB : Nms W ao l) => times_any n a2 ao k2 ko lp l W n2 hlpL hs2 hA hB
      rw [hr] at HM
      have HSTEP : Hid (stepM n x l = (rl, re)) := hid (by unfold stepM; rw [hm, hlm, hlp]; exact hr)
      have HVL : Hid (VldL rl ∧ (re = 0 → rl.length = n * n)) := hid (by
        have h1 := mulM_valid n lp l
        have h2 := @matR_length n (fun i k => rowN (prow lp l n i k))
        have h3 : matR n (fun i k => rowN (prow lp l n i k)) = (rl, re) := hr
        rw [h3] at h2
        rw [hr] at h1
        exact ⟨h1, h2⟩)
      obtain ⟨N, hN⟩ : ∃ N, rowsOf n re = N := ⟨_, rfl⟩
      have HN := hid hN
      have HS1 := hid hs1
      clear hs hok ok1 ok2 ok3 ok4 ok5 ok6 hm hlm hlmV hlmL hm1 hlp hlpL hr hs1 hs2 hs3 hN
      go_wp2_with fail
      refine R4.wp_region_slots 13 (fun ix vs W => match ix with | 0 => vs 0 = .int .i64 n | 1 => vs 1 = .pointer (some ⟨wr.heap.size, 1, none⟩) | 2 => vs 2 = .int .i64 x.pos | 3 => vs 3 = .agg #[.int .i64 x.kind, .int .i64 x.pos, .int .i64 x.n, .string x.name] | 4 => MatV (vs 4) W m lm | 5 => MatV (vs 5) W n lp | 6 => vs 6 = .agg #[.int .i64 n, .slice ao l.length ko] | 7 => MatE (vs 7) W N (rl, re) | 8 => MatE (vs 8) W N (rl, re) | 9 => MatV (vs 9) W N rl | 10 => vs 10 = .int .i64 re | 11 => NewMat (wr.heap.size + 1) (vs 11) W | 12 => HasMat (vs 11) N rl W | _ => True) (by kernel_rfl) (by kernel_rfl) ?slst ?sldep ?slop ?slq
      case slst =>
        intro ix vs W W' h hg
        match ix, h with
        | 0, h => exact h
        | 1, h => exact h
        | 2, h => exact h
        | 3, h => exact h
        | 4, h => exact MatV.grew h hg
        | 5, h => exact MatV.grew h hg
        | 6, h => exact h
        | 7, h => exact MatE.grew h hg
        | 8, h => exact MatE.grew h hg
        | 9, h => exact MatV.grew h hg
        | 10, h => exact h
        | 11, h => exact NewMat.grew h hg
        | 12, h => exact HasMat.grew h hg
        | _ + 13, _ => trivial
      case sldep =>
        intro ix o vs vs' W hix ho h hv hn
        match ix, hix, ho, h, hv with
        | 0, _, _, h, hv => exact Eq.trans hv h
        | 1, _, _, h, hv => exact Eq.trans hv h
        | 2, _, _, h, hv => exact Eq.trans hv h
        | 3, _, _, h, hv => exact Eq.trans hv h
        | 4, _, _, h, hv => show MatV (vs' 4) W m lm; rw [hv]; exact h
        | 5, _, _, h, hv => show MatV (vs' 5) W n lp; rw [hv]; exact h
        | 6, _, _, h, hv => exact Eq.trans hv h
        | 7, _, _, h, hv => show MatE (vs' 7) W N (rl, re); rw [hv]; exact h
        | 8, _, _, h, hv => show MatE (vs' 8) W N (rl, re); rw [hv]; exact h
        | 9, _, _, h, hv => show MatV (vs' 9) W N rl; rw [hv]; exact h
        | 10, _, _, h, hv => exact Eq.trans hv h
        | 11, _, _, h, hv => show NewMat (wr.heap.size + 1) (vs' 11) W; rw [hv]; exact h
        | 12, _, ho, h, hv => obtain rfl := Option.some.inj ho; show HasMat (vs' 11) _ _ _; rw [hn 11 (by decide)]; exact h
        | kx + 13, hix, _, _, _ => exact absurd hix (by omega)
      case slop =>
        intro ix o hix ho vs W L hg hL hn hall
        match ix, hix, ho, hL with
        | 0, _, ho, _ =>
          obtain rfl := Option.some.inj ho
          change R4.Oper.slotAt _ _ { tmps := _, defers := _ } _ _
          obtain ⟨gq, nq, rfl⟩ := hg
          go_simp
          exact ⟨R4.upd_same _ _ _, .inl (Grew.refl _)⟩
        | 1, _, ho, _ =>
          obtain rfl := Option.some.inj ho
          change R4.Oper.slotAt _ _ { tmps := _, defers := _ } _ _
          obtain ⟨gq, nq, rfl⟩ := hg
          go_simp
          exact ⟨R4.upd_same _ _ _, .inl (Grew.refl _)⟩
        | 2, _, ho, _ =>
          obtain rfl := Option.some.inj ho
          have hn1 := (hn 1 (by decide)).2
          try dsimp only at hn1
          change R4.Oper.slotAt _ _ (Act.put _ (some 29) (vs 1)) _ _
          conv => arg 3; rw [hn1]
          clear hn1
          obtain ⟨gq, nq, rfl⟩ := hg
          go_simp
          exact ⟨R4.upd_same _ _ _, .inl (Grew.refl _)⟩
        | 3, _, ho, _ =>
          obtain rfl := Option.some.inj ho
          change R4.Oper.slotAt _ _ { tmps := _, defers := _ } _ _
          obtain ⟨gq, nq, rfl⟩ := hg
          go_simp
          exact ⟨R4.upd_same _ _ _, .inl (Grew.refl _)⟩
        | 4, _, ho, _ =>
          obtain rfl := Option.some.inj ho
          have hn3 := (hn 3 (by decide)).2
          try dsimp only at hn3
          change R4.Oper.slotAt _ _ (Act.put _ (some 31) (vs 3)) _ _
          conv => arg 3; rw [hn3]
          clear hn3
          obtain ⟨gq, nq, rfl⟩ := hg
          go_simp
          refine (of_any x _ HOK1.out).mono ?_
          rintro e w' ⟨⟨a2, k2, rfl, ho⟩, gr⟩
          exact ⟨_, rfl, by rw [R4.upd_same]; exact ⟨a2, k2, by rw [← HLM.out.1, ← HLM.out.2], by rw [← HLM.out.2]; exact ho.nms⟩, .inl gr⟩
        | 5, _, ho, _ =>
          obtain rfl := Option.some.inj ho
          have hn0 := (hn 0 (by decide)).2
          have hn2 := (hn 2 (by decide)).2
          have hn4 := (hn 4 (by decide)).2
          try dsimp only at hn0 hn2 hn4
          change R4.Oper.slotAt _ _ (Act.put (Act.put (Act.put _ (some 28) (vs 0)) (some 30) (vs 2)) (some 32) (vs 4)) _ _
          conv => arg 3; rw [hn0, hn2]
          clear hn0 hn2
          obtain ⟨gq, nq, rfl⟩ := hg
          obtain ⟨a2, k2, e2, h2⟩ := hn4
          conv => arg 3; rw [e2]
          clear e2
          go_simp
          refine (HP.out a2 k2 _ h2).mono ?_
          rintro e w' ⟨⟨a3, k3, rfl, ho⟩, gr⟩
          exact ⟨_, rfl, by rw [R4.upd_same]; exact ⟨a3, k3, rfl, ho.nms⟩, .inl gr⟩
        | 6, _, ho, _ =>
          obtain rfl := Option.some.inj ho
          change R4.Oper.slotAt _ _ { tmps := _, defers := _ } _ _
          obtain ⟨gq, nq, rfl⟩ := hg
          go_simp
          exact ⟨R4.upd_same _ _ _, .inl (Grew.refl _)⟩
        | 7, _, ho, _ =>
          obtain rfl := Option.some.inj ho
          have hn5 := (hn 5 (by decide)).2
          have hn6 := (hn 6 (by decide)).2
          try dsimp only at hn5 hn6
          change R4.Oper.slotAt _ _ (Act.put (Act.put _ (some 33) (vs 5)) (some 34) (vs 6)) _ _
          conv => arg 3; rw [hn6]
          clear hn6
          obtain ⟨gq, nq, rfl⟩ := hg
          obtain ⟨a2, k2, e2, h2⟩ := hn5
          conv => arg 3; rw [e2]
          clear e2
          go_simp
          refine (HM.out a2 k2 _ h2 (HNo.out.grew (by repeat (first | exact Grew.refl _ | refine Grew.drewN ?_ _ | refine Grew.grow ?_ _ | refine Grew.alloc ?_ _ | refine Grew.drew ?_)))).mono ?_
          rintro e w' ⟨⟨a3, k3, rfl, ho⟩, gr⟩
          exact ⟨_, rfl, by rw [R4.upd_same]; exact ⟨a3, k3, by rw [← HN.out], ho.nms⟩, .inl gr⟩
        | 8, _, ho, _ =>
          obtain rfl := Option.some.inj ho
          have hn7 := (hn 7 (by decide)).2
          try dsimp only at hn7
          change R4.Oper.slotAt _ _ (Act.put _ (some 35) (vs 7)) _ _
          obtain ⟨gq, nq, rfl⟩ := hg
          obtain ⟨a2, k2, e2, h2⟩ := hn7
          conv => arg 3; rw [e2]
          clear e2
          go_simp
          exact ⟨by rw [R4.upd_same]; exact ⟨a2, k2, rfl, h2⟩, .inl (Grew.refl _)⟩
        | 9, _, ho, _ =>
          obtain rfl := Option.some.inj ho
          have hn8 := (hn 8 (by decide)).2
          try dsimp only at hn8
          change R4.Oper.slotAt _ _ (Act.put _ (some 27) (vs 8)) _ _
          obtain ⟨gq, nq, rfl⟩ := hg
          obtain ⟨a2, k2, e2, h2⟩ := hn8
          conv => arg 3; rw [e2]
          clear e2
          go_simp
          exact ⟨by rw [R4.upd_same]; exact ⟨a2, k2, rfl, h2⟩, .inl (Grew.refl _)⟩
        | 10, _, ho, _ =>
          obtain rfl := Option.some.inj ho
          have hn8 := (hn 8 (by decide)).2
          try dsimp only at hn8
          change R4.Oper.slotAt _ _ (Act.put _ (some 27) (vs 8)) _ _
          obtain ⟨gq, nq, rfl⟩ := hg
          obtain ⟨a2, k2, e2, h2⟩ := hn8
          conv => arg 3; rw [e2]
          clear e2
          go_simp
          exact ⟨R4.upd_same _ _ _, .inl (Grew.refl _)⟩
        | 11, _, ho, _ =>
          obtain rfl := Option.some.inj ho
          change R4.Oper.slotAt _ _ { tmps := _, defers := _ } _ _
          have hs := hg.size
          simp [go_sem] at hs
          go_simp
          exact ⟨by rw [R4.upd_same]; exact NewMat.fresh rfl (by omega), .inl ((Grew.refl _).alloc _)⟩
        | 12, _, ho, hL =>
          obtain rfl := Option.some.inj ho
          have hn11 := (hn 11 (by decide)).2
          have hn9 := (hn 9 (by decide)).2
          try dsimp only at hn11 hn9
          change R4.Oper.slotAt _ _ (Act.put (Act.put _ (some 10) (vs 11)) (some 36) (vs 9)) _ _
          -- hL
          obtain ⟨a2, k2, e2, h2⟩ := hn9
          obtain ⟨b, x', a', p', q', e3, hB, hq⟩ := hn11
          conv => arg 3; rw [e2, e3]
          have E2 := hid e2
          have E3 := hid e3
          clear e2 e3
          have ca : W.cell? ⟨b, 0, none⟩ = some (.int .i64 x') := by simp [World.cell?, hq]
          have cb : W.cell? ⟨b, 1, none⟩ = some (.slice a' p' q') := by simp [World.cell?, hq]
          have fa : W.frozen? ⟨b, 0, none⟩ = false := by simp [World.frozen?, hq]
          have fb : W.frozen? ⟨b, 1, none⟩ = false := by simp [World.frozen?, hq]
          go_simp
          obtain ⟨s1, s2⟩ := R4.set2 hq (.int .i64 N) (.slice a2 rl.length k2)
          have ht : Turned W ((W.setCell ⟨b, 0, none⟩ (.int .i64 N)).setCell ⟨b, 1, none⟩ (.slice a2 rl.length k2)) b := ((Turned.refl _ _).set _ _).set _ _
          exact ⟨by rw [R4.upd_other _ _ (by decide)]; exact ⟨b, E3.out, a2, k2, s1, h2.turned ht hq⟩, .inr ⟨ht.toGrew hg (by simp [go_sem] <;> omega), fun jx hjx hLj => by
            have hv := hall jx hjx hLj
            match jx, hjx, hv, hLj with
            | 0, _, hv, _ => exact hv
            | 1, _, hv, _ => exact hv
            | 2, _, hv, _ => exact hv
            | 3, _, hv, _ => exact hv
            | 4, _, hv, _ => exact MatV.turned hv ht hq
            | 5, _, hv, _ => exact MatV.turned hv ht hq
            | 6, _, hv, _ => exact hv
            | 7, _, hv, _ => exact MatE.turned hv ht hq
            | 8, _, hv, _ => exact MatE.turned hv ht hq
            | 9, _, hv, _ => exact MatV.turned hv ht hq
            | 10, _, hv, _ => exact hv
            | 11, _, hv, _ => exact NewMat.turned hv ht s1
            | 12, _, hv, hLj => exact absurd hLj hL
            | kx + 13, hjx, _, _ => exact absurd hjx (by omega)⟩⟩
        | kx + 13, hix, _, _ => exact absurd hix (by omega)
      case slq =>
        intro vs W2 hg hn
        have hn10 : vs 10 = .int .i64 re := hn 10 (by decide) (by decide)
        obtain ⟨b', x', a', p', q', e3, hB', _⟩ : NewMat (wr.heap.size + 1) (vs 11) W2 := hn 11 (by decide) (by decide)
        obtain ⟨b10, e4, a9, k9, hb9, hN9⟩ : HasMat (vs 11) N rl W2 := hn 12 (by decide) (by decide)
        have e5 : b' = b10 := by
          rw [e3] at e4
          injection e4 with h
          injection h with h
          injection h
        subst e5
        have hgw : Grew wr W2 := Grew.trans (by repeat (first | exact Grew.refl _ | refine Grew.drewN ?_ _ | refine Grew.grow ?_ _ | refine Grew.alloc ?_ _ | refine Grew.drew ?_)) hg
        have cA : W2.cell? ⟨b', 0, none⟩ = some (.int .i64 N) := by simp [World.cell?, hb9]
        have cB : W2.cell? ⟨b', 1, none⟩ = some (.slice a9 rl.length k9) := by simp [World.cell?, hb9]
        have hlt' : b' < W2.heap.size := (Array.getElem?_eq_some_iff.1 hb9).1
        have hbA := (hgw.cell (i := 0) z7).trans c70
        have hbB := (hgw.cell (i := 1) z7).trans c71
        have hfb := (hgw.block b7 z7).trans HBo.out
        have hfA : W2.frozen? ⟨b7, 0, none⟩ = false := by simp [World.frozen?, hfb]
        have hfB : W2.frozen? ⟨b7, 1, none⟩ = false := by simp [World.frozen?, hfb]
        have h0b := (hgw.block _ z0).trans HB0.out
        have yA : W2.cell? ⟨w.heap.size, 0, none⟩ = some (.int .i64 0) := by simp [World.cell?, h0b]
        have yB : W2.cell? ⟨w.heap.size, 1, none⟩ = some (.slice none 0 0) := by simp [World.cell?, h0b]
        have yC : W2.frozen? ⟨w.heap.size, 0, none⟩ = false := by simp [World.frozen?, h0b]
        have yD : W2.frozen? ⟨w.heap.size, 1, none⟩ = false := by simp [World.frozen?, h0b]
        have HT2 : Hid (Turned W W2 b7) := HT.out.grew hgw
        have HG2 : Hid (Grew w W2) := HG.out.trans hgw
        have HFB := hid hfb
        have HB9 := hid hb9
        have HN9 := hid hN9
        change wpList _ _ _ _ (Act.put (Act.put (Act.put (Act.put (Act.put (Act.put (Act.put (Act.put (Act.put (Act.put (Act.put (Act.put (Act.put _ (some 28) (vs 0)) (some 29) (vs 1)) (some 30) (vs 2)) (some 31) (vs 3)) (some 32) (vs 4)) (some 33) (vs 5)) (some 34) (vs 6)) (some 35) (vs 7)) (some 27) (vs 8)) (some 36) (vs 9)) (some 37) (vs 10)) (some 10) (vs 11)) none (vs 12)) _
        simp only [Act.put, List.setIfInBounds_toArray, List.set_cons_zero, List.set_cons_succ, List.drop_succ_cons, List.drop_zero, hn10, e3]
        clear hn hb9 hN9 hg hgw hfb h0b hB' e3 e4 hn10
        clear z0 z01 z02 z03 z7 z71 z72 z73 y0 y1 y2 y3 c70 c71 f70 f71
        by_cases hre : re = 0
        · have HRE := hid hre
          rw [hre]
          clear hre
          have HNn : Hid (N = n) := hid (by rw [← HN.out, rowsOf, if_pos HRE.out])
          go_wp2_with fail
          go_roundw
          case rel =>
            refine ⟨i + 1, rl, by omega, by go_num, hid ⟨?_, HVL.out.2 HRE.out, HVL.out.1⟩, (HT2.out.set _ _).set _ _, ?_⟩
            · have h1 := itsM_step (l := l) Hx.out (by rw [HSTEP.out]; exact HRE.out)
              rw [HSTEP.out] at h1
              rw [← HS1.out]; exact h1.symm
            · obtain ⟨s1, s2⟩ := R4.set2 HFB.out (.int .i64 N) (.slice a9 rl.length k9)
              refine ⟨a9, k9, by rw [← HNn.out]; exact s1, ?_⟩
              exact HN9.out.turned (((Turned.refl _ _).set _ _).set _ _) HFB.out
          case measure => simp [intOf]; omega
        · have HRE := hid hre
          have e1 : (re != 0) = true := by simpa using hre
          clear hre
          have HG := HG2
          go_wp2_with fail
          exact bodyPost_ret (v := .tuple #[.agg #[.int .i64 0, .slice none 0 0], .int .i64 re]) (by simp [results, Try.results30, go_sem, yA, yB]) rfl (MadeN.bad (by
            have h1 := itsM_stop (l := l) Hx.out (by rw [HSTEP.out]; exact HRE.out)
            rw [HSTEP.out] at h1
            rw [← HS1.out]; exact h1) HRE.out (by repeat (first | exact Grew.refl _ | exact HG.out | refine Grew.drewN ?_ _ | refine Grew.grow ?_ _ | refine Grew.alloc ?_ _ | refine Grew.drew ?_ | refine Grew.set ?_ (Nat.le_refl _) _ _ | refine Grew.set ?_ (by omega) _ _)))
    · obtain rfl : i = its.length := by omega
      have hfin : Hid (R = (l, 0)) := by
        obtain ⟨h2, h3, h4⟩ := hs.out
        rw [List.drop_length, itsM] at h2
        exact h2.symm
      clear hs
      go_wp2_with fail
      exact bodyPost_ret (v := .tuple #[.agg #[.int .i64 n, .slice ao l.length ko], .int .i64 0]) (by simp [results, Try.results30, go_sem, y0, y1]) rfl ⟨⟨ao, ko, by rw [hfin.out]; rfl, by rw [hfin.out]; exact HNo.out.turned (b := w.heap.size) (((Turned.refl _ _).set _ _).set _ _) HB0.out⟩, (by repeat (first | exact Grew.refl _ | exact HG.out | refine Grew.drewN ?_ _ | refine Grew.grow ?_ _ | refine Grew.alloc ?_ _ | refine Grew.drew ?_ | refine Grew.set ?_ (Nat.le_refl _) _ _ | refine Grew.set ?_ (by omega) _ _))⟩

theorem rmatOf_any (g : Int) (a0 : Option Addr) (cap : Nat) (l : List It) (w : World) (hl : l.length ≤ 9223372036854775807) (hc : Its w a0 l) :
    Calls Try.prog 30 #[.int .i64 g, .slice a0 l.length cap] w (MadeN g.toNat (matOf g l) w) := by
  by_cases he : chkIts g l = 0
  · obtain ⟨n, rfl⟩ := Int.eq_ofNat_of_zero_le (show 0 ≤ g by have := chkIts_zero he; omega)
    rw [show matOf n l = itsM n l (idN n) by unfold matOf; rw [if_pos he]; rfl]
    exact rmatOf_ok n a0 cap l w hl hc he
  · exact rmatOf_bad g a0 cap l w hl hc he

end Go.Proofs.Ytkglnnkghillpaa
