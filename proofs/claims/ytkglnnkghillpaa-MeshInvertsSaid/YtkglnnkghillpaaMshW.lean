/- Layer 3, the statements' side: Shaped of a valid matrix; the adjoint. Condition: the matrix lies in memory and is valid. -/
import Derived.Test.YtkglnnkghillpaaMshU
import Derived.Test.YtkglnnkghillpaaMshVal
namespace Go.Proofs.Ytkglnnkghillpaa
open Go Go.RowKit Amp Msh

set_option maxRecDepth 100000 in
set_option maxHeartbeats 800000 in
theorem shaped_ok (n : Nat) (a0 : Option Addr) (k0 : Nat) (l : List Num) (w : World) (n2 : n ≤ 6) (hl : l.length = n * n) (h0 : Nms w a0 l) (hv : VldL l) :
    Calls Try.prog 16 #[.int .i64 n, .agg #[.int .i64 n, .slice a0 l.length k0]] w fun e w' => e = .returned (.bool true) ∧ Grew w w' := by
  have H0 := hid h0
  have HV := hid hv
  have h36 : l.length ≤ 36 := by have := Nat.mul_le_mul n2 n2; omega
  have e1 : ((l.length : Int) == (n : Int) * n) = true := by rw [hl, Int.natCast_mul]; simp
  have p1 : 0 ≤ (n : Int) * n := by rw [← Int.natCast_mul]; omega
  have p2 : (n : Int) * n ≤ 36 := by have := Nat.mul_le_mul n2 n2; rw [← Int.natCast_mul]; omega
  have p3 : (l.length : Int) = (n : Int) * n := by rw [hl, Int.natCast_mul]
  clear h0 hv hl
  go_enter Try.func16, Try.ntmps16
  go_wp2_with fail
  go_loopw [23] (fun v wr => ∃ i : Nat, i ≤ l.length ∧ v = .int .i64 i ∧ Grew w wr) (fun v _ => l.length - (intOf v).toNat)
  case atStart => exact ⟨0, Nat.zero_le _, rfl, (by repeat (first | exact Grew.refl _ | refine Grew.drewN ?_ _ | refine Grew.grow ?_ _ | refine Grew.alloc ?_ _ | refine Grew.drew ?_))⟩
  case round =>
    obtain ⟨i, hi, rfl, g, n', rfl⟩ := hrel
    by_cases hlt : i < l.length
    · obtain ⟨z, hz⟩ : ∃ z, l[i]? = some z := ⟨l[i], List.getElem?_eq_getElem hlt⟩
      obtain ⟨b, off, rfl, hb, c0, c1, c2, c3, c4⟩ := H0.out.cells hz
      have hb1 := fun m0 : Nat => Nat.lt_add_right m0 (hb)
      have hb2 := fun m0 m1 : Nat => Nat.lt_add_right m1 (hb1 m0)
      have hb3 := fun m0 m1 m2 : Nat => Nat.lt_add_right m2 (hb2 m0 m1)
      have HZ := hid fun w => rValid_any z.x z.k w
      rw [HV.out i z hz] at HZ
      clear hz
      go_wp2_with fail
      refine (HZ.out _).mono ?_
      rintro e w' ⟨rfl, g1, n1, rfl⟩
      go_wp2_with fail
      go_roundw
      case rel => exact ⟨i + 1, by omega, by go_num, (by repeat (first | exact Grew.refl _ | refine Grew.drewN ?_ _ | refine Grew.grow ?_ _ | refine Grew.alloc ?_ _ | refine Grew.drew ?_))⟩
      case measure => simp [intOf]; omega
    · obtain rfl : i = l.length := by omega
      go_wp2_with fail
      go_ret
      exact ⟨rfl, (by repeat (first | exact Grew.refl _ | refine Grew.drewN ?_ _ | refine Grew.grow ?_ _ | refine Grew.alloc ?_ _ | refine Grew.drew ?_))⟩

set_option maxRecDepth 100000 in
set_option maxHeartbeats 4000000 in
theorem dagger_any (n : Nat) (a0 : Option Addr) (k0 : Nat) (la : List Num) (w : World) (n2 : n ≤ 6) (hla : la.length = n * n) (h0 : Nms w a0 la) (hv : VldL la) :
    Calls Try.prog 18 #[.agg #[.int .i64 n, .slice a0 la.length k0]] w (MatP n (dagL n la) w) := by
  have H0 := hid h0
  have HLA := hid hla
  have HV0 := hid hv
  obtain ⟨i0, hi, hz0, hz1, hz2⟩ := info_parts info_num
  clear h0 hla hv
  go_enter Try.func18, Try.ntmps18
  go_wp2_with fail
  obtain ⟨W, hW⟩ : ∃ W, W = ((w.alloc (.cells #[.int .i64 n, .slice a0 la.length k0] 28)).alloc (.cells #[.int .i64 0, .slice none 0 0] 28)).alloc (.cells #[.int .i64 n, .slice none 0 0] 28) := ⟨_, rfl⟩
  have hWg : Grew w W := by rw [hW]; exact (by repeat (first | exact Grew.refl _ | refine Grew.drewN ?_ _ | refine Grew.grow ?_ _ | refine Grew.alloc ?_ _ | refine Grew.drew ?_))
  have hWs : W.heap.size = w.heap.size + 3 := by rw [hW]; simp
  obtain ⟨b6, hb6⟩ : ∃ b6, b6 = w.heap.size + 1 + 1 := ⟨_, rfl⟩
  obtain ⟨b4, hb4⟩ : ∃ b4, b4 = w.heap.size + 1 := ⟨_, rfl⟩
  have hr0 : (W.cell? ⟨b4, 0, none⟩ = some (.int .i64 0) ∧ W.cell? ⟨b4, 1, none⟩ = some (.slice none 0 0) ∧ W.frozen? ⟨b4, 0, none⟩ = false ∧ W.frozen? ⟨b4, 1, none⟩ = false) ∧ W.cell? ⟨w.heap.size, 0, none⟩ = some (.int .i64 n) ∧ W.cell? ⟨w.heap.size, 1, none⟩ = some (.slice a0 la.length k0) := by rw [hW, hb4]; simp [go_sem]
  have hM0 : MatIn W W b6 n [] := by
    refine ⟨Turned.refl _ _, by omega, none, 0, ?_, OwnN.nil _ _⟩
    rw [hW, hb6]
    exact blk_new (by simp)
  rw [← hW, ← hb6, ← hb4]
  clear hW
  have HB := hid (show b6 < W.heap.size ∧ w.heap.size < b4 ∧ b4 < b6 from by omega)
  clear hb6 hb4 hWs
  have HWG := hid hWg
  have KEY := hid fun wr (hT : Turned W wr b6) => (show Grew w wr ∧ (w.heap.size < wr.heap.size ∧ b4 < wr.heap.size ∧ b6 < wr.heap.size) ∧ (wr.cell? ⟨b4, 0, none⟩ = some (.int .i64 0) ∧ wr.cell? ⟨b4, 1, none⟩ = some (.slice none 0 0) ∧ wr.frozen? ⟨b4, 0, none⟩ = false ∧ wr.frozen? ⟨b4, 1, none⟩ = false) ∧ wr.cell? ⟨w.heap.size, 0, none⟩ = some (.int .i64 n) ∧ wr.cell? ⟨w.heap.size, 1, none⟩ = some (.slice a0 la.length k0) from by
    obtain ⟨x1, x2, x3⟩ := HB.out
    have hs := hT.size
    obtain ⟨⟨q1, q2, q3, q4⟩, q5, q6⟩ := hr0
    have e4 := hT.block (k := b4) (by omega) (by omega)
    have e0 := hT.block (k := w.heap.size) (by omega) (by omega)
    refine ⟨hT.toGrew HWG.out (by omega), by omega, ⟨?_, ?_, ?_, ?_⟩, ?_, ?_⟩
    · rw [← q1]; simp [World.cell?, e4]
    · rw [← q2]; simp [World.cell?, e4]
    · rw [← q3]; simp [World.frozen?, e4]
    · rw [← q4]; simp [World.frozen?, e4]
    · rw [← q5]; simp [World.cell?, e0]
    · rw [← q6]; simp [World.cell?, e0])
  clear hr0 hWg
  go_loopw [12] (fun v wr => ∃ i : Nat, i ≤ n ∧ v = .int .i64 i ∧ MatIn W wr b6 n ((dagL n la).take (i * n))) (fun v _ => n - (intOf v).toNat)
  case atStart => exact ⟨0, Nat.zero_le _, rfl, by rw [Nat.zero_mul]; exact hM0⟩
  case round =>
    obtain ⟨i, hin, rfl, hM⟩ := hrel
    by_cases hlt : i < n
    · obtain ⟨_, ⟨x0, x4, x6⟩, _, y0, y1⟩ := KEY.out wr hM.1
      go_wp2_with fail
      go_loopw [17] (fun v wr => ∃ k : Nat, k ≤ n ∧ v = .int .i64 k ∧ MatIn W wr b6 n ((dagL n la).take (i * n + k))) (fun v _ => n - (intOf v).toNat)
      case atStart => exact ⟨0, Nat.zero_le _, rfl, hM.grew (by repeat (first | exact Grew.refl _ | refine Grew.drewN ?_ _ | refine Grew.grow ?_ _ | refine Grew.alloc ?_ _ | refine Grew.drew ?_))⟩
      case round =>
        clear x0 x4 x6 y0 y1
        obtain ⟨k, hkn, rfl, hM⟩ := hrel
        by_cases hlk : k < n
        · obtain ⟨hG, ⟨x0, x4, x6⟩, _, y0, y1⟩ := KEY.out wr hM.1
          obtain ⟨l, hl⟩ : ∃ l, (dagL n la).take (i * n + k) = l := ⟨_, rfl⟩
          rw [hl] at hM
          have hj : k * n + i < la.length := by rw [HLA.out]; exact grid_lt hlk hlt
          obtain ⟨z, hz⟩ : ∃ z, la[k * n + i]? = some z := ⟨la[k * n + i], List.getElem?_eq_getElem hj⟩
          have Hz : Hid ((dagL n la)[i * n + k]? = some (conjZ z)) := hid (by rw [show (dagL n la)[i * n + k]? = _ from gridR_at _ hlt hlk, List.getD_eq_getElem?_getD, hz]; rfl)
          obtain ⟨⟨_, _⟩, ⟨_, _⟩, ⟨_, _⟩, ⟨_, _⟩⟩ := smallB_iff.1 (show smallB z.x = true by have := HV0.out _ z hz; unfold validB at this; simp only [Bool.and_eq_true] at this; exact this.1.1)
          obtain ⟨b, off, rfl, hb, c0, c1, c2, c3, c4⟩ := (H0.out.grew hG).cells hz
          obtain ⟨a6, k6, hv, ho, d0, d1, f0, f1⟩ := hM.cells
          obtain ⟨I, hI⟩ : ∃ I, k * n = I := ⟨_, rfl⟩
          have hI1 : (k : Int) * n = (I : Nat) := by rw [← hI]; exact (Int.natCast_mul _ _).symm
          have hl36 : la.length ≤ 36 := by have := HLA.out; have := Nat.mul_le_mul n2 n2; omega
          rw [hI] at c0 c1 c2 c3 c4 hj
          obtain ⟨J, hJ⟩ : ∃ J, I + i = J := ⟨_, rfl⟩
          have hJ1 : (I : Int) + i = (J : Nat) := by omega
          rw [hJ] at c0 c1 c2 c3 c4 hj
          have hj' : (J : Int) < la.length := by omega
          have hI2 : I ≤ 36 := by omega
          have hlen : l.length ≤ 36 := by have := grid_lt hlt hlk; have := Nat.mul_le_mul n2 n2; rw [← hl]; simp; omega
          have hWw := hM.1.size
          have HM := hid hM
          have HO := hid ho
          have HV := hid hv
          have HL := hid hl
          clear hz hI hJ hM ho hv hl hG
          have x01 := fun m0 : Nat => Nat.lt_add_right m0 (x0)
          have x02 := fun m0 m1 : Nat => Nat.lt_add_right m1 (x01 m0)
          have x03 := fun m0 m1 m2 : Nat => Nat.lt_add_right m2 (x02 m0 m1)
          have x41 := fun m0 : Nat => Nat.lt_add_right m0 (x4)
          have x42 := fun m0 m1 : Nat => Nat.lt_add_right m1 (x41 m0)
          have x43 := fun m0 m1 m2 : Nat => Nat.lt_add_right m2 (x42 m0 m1)
          have x61 := fun m0 : Nat => Nat.lt_add_right m0 (x6)
          have x62 := fun m0 m1 : Nat => Nat.lt_add_right m1 (x61 m0)
          have x63 := fun m0 m1 m2 : Nat => Nat.lt_add_right m2 (x62 m0 m1)
          have hb1 := fun m0 : Nat => Nat.lt_add_right m0 (hb)
          have hb2 := fun m0 m1 : Nat => Nat.lt_add_right m1 (hb1 m0)
          have hb3 := fun m0 m1 m2 : Nat => Nat.lt_add_right m2 (hb2 m0 m1)
          have HO' := hid fun w2 (h : Grew wr w2) => (HO.out.grew h : w2.ownsRow _ _ _ _ _ _)
          go_wp2_with (at_builtin; refine wpList_append_behind rfl _ _ 26 rfl W.heap.size 53 i0 (.agg #[.int .i64 0, .int .i64 0, .int .i64 0, .int .i64 0, .int .i64 0]) 5 40 Try.underlying26 hi hz0 hz1 hz2 rfl (by decide) _ _ (numsCells l) rfl (HO'.out _ (by repeat (first | exact Grew.refl _ | refine Grew.drewN ?_ _ | refine Grew.grow ?_ _ | refine Grew.alloc ?_ _ | refine Grew.drew ?_))) ⟨_, 0, none⟩ 1 1 (numCells (conjZ z)) rfl rfl ?c1 (fun u hu => numCells_one hu) ?c3 ?c4 ?c5 ?_)
          case c1 => exact numCells_in (z := conjZ z) (by simp [go_sem, conjZ, conjC]) (by simp [go_sem, conjZ, conjC]) (by simp [go_sem, conjZ, conjC]) (by simp [go_sem, conjZ, conjC]) (by simp [go_sem, conjZ, conjC])
          case c3 => unfold maxLen; omega
          case c4 => omega
          case c5 => exact Nat.le_trans hWw (Grew.size (w := _) (by repeat (first | exact Grew.refl _ | refine Grew.drewN ?_ _ | refine Grew.grow ?_ _ | refine Grew.alloc ?_ _ | refine Grew.drew ?_)))
          · intro v' w1 hown' hgrow hwh hdr
            obtain ⟨a1', k1', rfl⟩ := ownsRow_slice hown'
            obtain ⟨e1, e2, e3, hM'⟩ := HM.out.appended (z := conjZ z) HV.out HO.out (show Grew wr _ from (by repeat (first | exact Grew.refl _ | refine Grew.drewN ?_ _ | refine Grew.grow ?_ _ | refine Grew.alloc ?_ _ | refine Grew.drew ?_))) hgrow hdr hown'
            have HM' := hid hM'
            clear hgrow hown' hwh hdr HO' hM' d0 d1 f0 f1 hWw
            go_wp2_with fail
            go_roundw
            case rel => exact ⟨k + 1, by omega, by go_num, by rw [show (dagL n la).take (i * n + (k + 1)) = l ++ [conjZ z] by rw [← Nat.add_assoc, take_step Hz.out, HL.out]]; exact HM'.out⟩
            case measure => simp [intOf]; omega
        · obtain rfl : k = n := by omega
          obtain ⟨_, ⟨x0, x4, x6⟩, _, y0, y1⟩ := KEY.out wr hM.1
          go_wp2_with fail
          go_roundw
          case rel => exact ⟨i + 1, by omega, by go_num, by rw [Nat.add_mul, Nat.one_mul]; exact hM.grew (by repeat (first | exact Grew.refl _ | refine Grew.drewN ?_ _ | refine Grew.grow ?_ _ | refine Grew.alloc ?_ _ | refine Grew.drew ?_))⟩
          case measure => simp [intOf]; omega
    · obtain rfl : i = n := by omega
      obtain ⟨hG, ⟨x0, x4, x6⟩, ⟨u0, u1, u2, u3⟩, y0, y1⟩ := KEY.out wr hM.1
      rw [List.take_of_length_le (by rw [dagL_length]; exact Nat.le_refl _)] at hM
      obtain ⟨l, hl⟩ : ∃ l, dagL i la = l := ⟨_, rfl⟩
      rw [hl] at hM
      obtain ⟨a6, k6, hv, ho, c0, c1, f0, f1⟩ := hM.cells
      have HG := hid hG
      have HO := hid ho
      have HL := hid hl
      have HW4 := hid HWG.out.size
      clear hM ho hv hG hl
      have hBB := HB.out
      go_wp2_with fail
      exact bodyPost_ret (v := .agg #[.int .i64 i, .slice a6 l.length k6]) (by simp [results, Try.results18, go_sem, u0, u1]) rfl ⟨⟨a6, k6, by rw [HL.out], by rw [HL.out]; refine OwnN.mono' (base' := w.heap.size) (OwnN.al HO.out ?_) HW4.out; exact (by (try simp only [go_sem]); (try simp only [List.append_assoc]); repeat (first | exact Al.refl _ _ | refine Al.drewN ?_ _ | refine Al.grow ?_ _ | refine Al.alloc ?_ _ | refine Al.other ?_ _ _ (by omega) | refine Al.set ?_ _ _ _ (by omega)))⟩, (by repeat (first | exact Grew.refl _ | exact HG.out | refine Grew.drewN ?_ _ | refine Grew.grow ?_ _ | refine Grew.alloc ?_ _ | refine Grew.drew ?_ | refine Grew.set ?_ (Nat.le_refl _) _ _ | refine Grew.set ?_ (by omega) _ _))⟩

end Go.Proofs.Ytkglnnkghillpaa
