/- Layer 3: a matrix times numbers. Condition: they lie in memory and are valid. -/
import Derived.Test.YtkglnnkghillpaaLitB
namespace Go.Proofs.Ytkglnnkghillpaa
open Go Go.RowKit Amp Msh

set_option maxHeartbeats 800000 in
theorem products_app (p0 p1 p2 : Nat) (l : List (Num × Num)) (w : World) (hl : l.length ≤ 6)
    (HF : ∀ (j : Nat) (p : Num × Num) (w' : World), l[j]? = some p → Grew w w' → Calls Try.prog 102 #[.int .i64 j, .pointer (some ⟨p0, 0, none⟩), .pointer (some ⟨p1, 0, none⟩), .pointer (some ⟨p2, 0, none⟩)] w' fun e w'' => e = .returned (.tuple #[.agg #[.int .i64 p.1.x.a, .int .i64 p.1.x.b, .int .i64 p.1.x.c, .int .i64 p.1.x.d, .int .i64 p.1.k], .agg #[.int .i64 p.2.x.a, .int .i64 p.2.x.b, .int .i64 p.2.x.c, .int .i64 p.2.x.d, .int .i64 p.2.k]]) ∧ Grew w' w'') :
    Calls Try.prog 101 #[.int .i64 l.length, .func (.func 102) #[] #[.pointer (some ⟨p0, 0, none⟩), .pointer (some ⟨p1, 0, none⟩), .pointer (some ⟨p2, 0, none⟩)]] w fun e w' => e = .returned (.tuple #[.agg #[.int .i64 (rowN l).x.a, .int .i64 (rowN l).x.b, .int .i64 (rowN l).x.c, .int .i64 (rowN l).x.d, .int .i64 (rowN l).k], .int .i64 (rowN l).e]) ∧ Grew w w' := by
  have HF := hid HF
  go_enter Try.func101, Try.ntmps101
  go_wp2_with fail
  go_loopw [13] (fun n wr => ∃ (i : Nat) (s : C4) (k : Int), i ≤ l.length ∧ n = .int .i64 i ∧ Hid (rowA s k (l.drop i) = rowN l) ∧ Grew ((w.alloc (.cells #[.int .i64 0, .int .i64 0, .int .i64 0, .int .i64 0, .int .i64 0] 53)).alloc (.cells #[.int .i64 s.a, .int .i64 s.b, .int .i64 s.c, .int .i64 s.d, .int .i64 k] 53)) wr) (fun n _ => l.length - (intOf n).toNat)
  case atStart => exact ⟨0, zero, 0, Nat.zero_le _, rfl, rfl, (by repeat (first | exact Grew.refl _ | refine Grew.drewN ?_ _ | refine Grew.grow ?_ _ | refine Grew.alloc ?_ _ | refine Grew.drew ?_))⟩
  case round =>
    obtain ⟨i, s, k, hi, rfl, hs, g, n, rfl⟩ := hrel
    by_cases hlt : i < l.length
    · obtain ⟨p, hp⟩ : ∃ p, l[i]? = some p := ⟨l[i], List.getElem?_eq_getElem hlt⟩
      have Hp := hid hp
      clear hp
      go_wp2_with fail
      refine (HF.out i p _ Hp.out (by repeat (first | exact Grew.refl _ | refine Grew.drewN ?_ _ | refine Grew.grow ?_ _ | refine Grew.alloc ?_ _ | refine Grew.drew ?_))).mono ?_
      rintro e w' ⟨rfl, g1, n1, rfl⟩
      go_wp2_with fail
      have HM := hid fun w => aMul_any p.1.x p.2.x p.1.k p.2.k w
      obtain ⟨m, hm⟩ : ∃ m, mulN p.1.x p.1.k p.2.x p.2.k = m := ⟨_, rfl⟩
      rw [hm] at HM
      have Hm := hid hm
      clear hm
      refine (HM.out _).mono ?_
      rintro e w' ⟨rfl, g2, n2, rfl⟩
      by_cases he : m.e = 0
      case neg =>
        have h0 : Hid (rowN l = ⟨zero, 0, m.e⟩) := hs.out.symm.trans (rowA_mul Hp.out Hm.out he)
        have e1 : (m.e != 0) = true := by simpa using he
        clear he hs Hp Hm
        go_wp2_with fail
        exact bodyPost_ret (v := .tuple #[.agg #[.int .i64 0, .int .i64 0, .int .i64 0, .int .i64 0, .int .i64 0], .int .i64 m.e]) (by simp [results, Try.results101, go_sem]) rfl ⟨by rw [h0.out]; rfl, (by repeat (first | exact Grew.refl _ | refine Grew.drewN ?_ _ | refine Grew.grow ?_ _ | refine Grew.alloc ?_ _ | refine Grew.drew ?_))⟩
      have He := hid he
      rw [he]
      clear he
      go_wp2_with fail
      have HA := hid fun w => aAdd_any s m.x k m.k w
      obtain ⟨a, ha⟩ : ∃ a, addN s k m.x m.k = a := ⟨_, rfl⟩
      rw [ha] at HA
      have Ha := hid ha
      clear ha
      refine (HA.out _).mono ?_
      rintro e w' ⟨rfl, g3, n3, rfl⟩
      by_cases hae : a.e = 0
      case neg =>
        have h0 : Hid (rowN l = ⟨zero, 0, a.e⟩) := hs.out.symm.trans (rowA_add Hp.out Hm.out He.out Ha.out hae)
        have e1 : (a.e != 0) = true := by simpa using hae
        clear hae hs Hp Hm Ha
        go_wp2_with fail
        exact bodyPost_ret (v := .tuple #[.agg #[.int .i64 0, .int .i64 0, .int .i64 0, .int .i64 0, .int .i64 0], .int .i64 a.e]) (by simp [results, Try.results101, go_sem]) rfl ⟨by rw [h0.out]; rfl, (by repeat (first | exact Grew.refl _ | refine Grew.drewN ?_ _ | refine Grew.grow ?_ _ | refine Grew.alloc ?_ _ | refine Grew.drew ?_))⟩
      have h0 : Hid (rowA a.x a.k (l.drop (i + 1)) = rowN l) := (rowA_step Hp.out Hm.out He.out Ha.out hae).symm.trans hs.out
      rw [hae]
      clear hae hs Hp Hm Ha He
      go_wp2_with fail
      go_roundw
      case rel => exact ⟨i + 1, a.x, a.k, by omega, by go_num, h0, (by repeat (first | exact Grew.refl _ | refine Grew.drewN ?_ _ | refine Grew.grow ?_ _ | refine Grew.alloc ?_ _ | refine Grew.drew ?_))⟩
      case measure => simp [intOf]; omega
    · obtain rfl : i = l.length := by omega
      have h0 : Hid (rowN l = ⟨s, k, 0⟩) := hs.out.symm.trans (rowA_end s k l)
      clear hs
      go_wp2_with fail
      exact bodyPost_ret (v := .tuple #[.agg #[.int .i64 s.a, .int .i64 s.b, .int .i64 s.c, .int .i64 s.d, .int .i64 k], .int .i64 0]) (by simp [results, Try.results101, go_sem]) rfl ⟨by rw [h0.out], (by repeat (first | exact Grew.refl _ | refine Grew.drewN ?_ _ | refine Grew.grow ?_ _ | refine Grew.alloc ?_ _ | refine Grew.drew ?_))⟩

theorem products_appN (p0 p1 p2 : Nat) (l : List (Num × Num)) (n : Nat) (hn : l.length = n) (w : World) (hl : n ≤ 6)
    (HF : ∀ (j : Nat) (p : Num × Num) (w' : World), l[j]? = some p → Grew w w' → Calls Try.prog 102 #[.int .i64 j, .pointer (some ⟨p0, 0, none⟩), .pointer (some ⟨p1, 0, none⟩), .pointer (some ⟨p2, 0, none⟩)] w' fun e w'' => e = .returned (.tuple #[.agg #[.int .i64 p.1.x.a, .int .i64 p.1.x.b, .int .i64 p.1.x.c, .int .i64 p.1.x.d, .int .i64 p.1.k], .agg #[.int .i64 p.2.x.a, .int .i64 p.2.x.b, .int .i64 p.2.x.c, .int .i64 p.2.x.d, .int .i64 p.2.k]]) ∧ Grew w' w'') :
    Calls Try.prog 101 #[.int .i64 n, .func (.func 102) #[] #[.pointer (some ⟨p0, 0, none⟩), .pointer (some ⟨p1, 0, none⟩), .pointer (some ⟨p2, 0, none⟩)]] w fun e w' => e = .returned (.tuple #[.agg #[.int .i64 (rowN l).x.a, .int .i64 (rowN l).x.b, .int .i64 (rowN l).x.c, .int .i64 (rowN l).x.d, .int .i64 (rowN l).k], .int .i64 (rowN l).e]) ∧ Grew w w' := by
  subst hn
  exact products_app p0 p1 p2 l w hl HF
theorem prowV_both {la lv : List Num} {n i j : Nat} {p : Num × Num} (hla : la.length = n * n) (hlv : lv.length = n) (hi : i < n) (h : (prowV la lv n i)[j]? = some p) : j < n ∧ la[i * n + j]? = some p.1 ∧ lv[j]? = some p.2 := by
  have hj : j < n := by have := (List.getElem?_eq_some_iff.1 h).1; rwa [prowV_length] at this
  have h1 : i * n + j < la.length := by rw [hla]; exact grid_lt hi hj
  have h2 : j < lv.length := by rw [hlv]; exact hj
  have e := prowV_at hj (List.getElem?_eq_getElem h1) (List.getElem?_eq_getElem h2)
  rw [h] at e
  obtain rfl := Option.some.inj e
  exact ⟨hj, List.getElem?_eq_getElem h1, List.getElem?_eq_getElem h2⟩

set_option maxRecDepth 100000 in
set_option maxHeartbeats 4000000 in
theorem apply_any (n : Nat) (a0 a1 : Option Addr) (k0 k1 : Nat) (la lv : List Num) (w : World) (n1 : 1 ≤ n) (n2 : n ≤ 6) (hla : la.length = n * n) (hlv : lv.length = n) (h0 : Nms w a0 la) (h1 : Nms w a1 lv) (va : VldL la) (vv : VldL lv) :
    Calls Try.prog 68 #[.agg #[.int .i64 n, .slice a0 la.length k0], .slice a1 lv.length k1] w (ListE (appM n la lv) w) := by
  obtain ⟨i0, hi, hz0, hz1, hz2⟩ := info_parts info_num
  have q : n * n ≤ 36 := Nat.mul_le_mul n2 n2
  have i1 : (1 : Int) ≤ n := by omega
  have i2 : (n : Int) ≤ 6 := by omega
  have la9 : la.length ≤ 9223372036854775807 := by omega
  have lv9 : lv.length ≤ 9223372036854775807 := by omega
  have laI : (la.length : Int) = (n : Int) * n := by rw [hla]; exact Int.natCast_mul n n
  have HVA := hid fun w' (hg : Grew w w') => mvalid_ok n i1 i2 a0 k0 la w' la9 (h0.grew hg) va laI
  have HVB := hid fun w' (hg : Grew w w') => vector_ok a1 k1 lv w' lv9 (h1.grew hg) vv (by omega) (by omega)
  have HP := hid fun (i : Nat) (px pi pv : Nat) w' (hg : Grew w w') (hin : i < n) (bx : px < w'.heap.size) (bi : pi < w'.heap.size) (bv : pv < w'.heap.size) hx0 hx1 hi0 hv0 =>
    products_appN px pi pv (prowV la lv n i) n (prowV_length _ _ _ _) w' n2 fun j p w'' hp hg' => by
      obtain ⟨hj, hx, hy⟩ := prowV_both hla hlv hin hp
      have G := hg.trans hg'
      exact appF_any n i j px pi pv a0 a1 k0 k1 la lv p.1 p.2 w'' (Nat.lt_of_lt_of_le bx hg'.size) (Nat.lt_of_lt_of_le bi hg'.size) (Nat.lt_of_lt_of_le bv hg'.size) ((hg'.cell bx _).trans hx0) ((hg'.cell bx _).trans hx1) ((hg'.cell bi _).trans hi0) ((hg'.cell bv _).trans hv0) (by omega) (by omega) (h0.grew G) (h1.grew G) (sq_le hin n2) hx hy
  have hlvn : (lv.length : Int) = n := by omega
  have e0 : ((lv.length : Int) != n) = false := by simp [hlvn]
  have HLV := hid hlv
  clear h0 h1 va vv laI la9 lv9 i1 i2 q hla hlv hlvn
  go_enter Try.func68, Try.ntmps68
  go_wp2_with fail
  refine (HVA.out _ (by repeat (first | exact Grew.refl _ | refine Grew.drewN ?_ _ | refine Grew.grow ?_ _ | refine Grew.alloc ?_ _ | refine Grew.drew ?_))).mono ?_
  rintro e w' ⟨rfl, g, n', rfl⟩
  go_wp2_with fail
  refine (HVB.out _ (by repeat (first | exact Grew.refl _ | refine Grew.drewN ?_ _ | refine Grew.grow ?_ _ | refine Grew.alloc ?_ _ | refine Grew.drew ?_))).mono ?_
  rintro e w' ⟨rfl, g', n'', rfl⟩
  go_wp2_with fail
  obtain ⟨W, hW⟩ : ∃ W, W = ((((w.alloc (.cells #[.int .i64 n, .slice a0 la.length k0] 28)).alloc (.cells #[.slice a1 lv.length k1] 26)).grow (g ++ g')).alloc (.cells #[.int .i64 n, .slice a0 la.length k0] 126)).drewN (n' + n'') := ⟨_, rfl⟩
  have hWg : Grew w W := by rw [hW]; exact (by repeat (first | exact Grew.refl _ | refine Grew.drewN ?_ _ | refine Grew.grow ?_ _ | refine Grew.alloc ?_ _ | refine Grew.drew ?_))
  obtain ⟨b6, hb6⟩ : ∃ b6, b6 = w.heap.size + 1 + 1 + g.length + g'.length := ⟨_, rfl⟩
  obtain ⟨b3, hb3⟩ : ∃ b3, b3 = w.heap.size + 1 := ⟨_, rfl⟩
  have hk : (W.cell? ⟨w.heap.size, 0, none⟩ = some (.int .i64 n) ∧ W.cell? ⟨w.heap.size, 1, none⟩ = some (.slice a0 la.length k0) ∧ W.cell? ⟨b3, 0, none⟩ = some (.slice a1 lv.length k1) ∧ W.cell? ⟨b6, 0, none⟩ = some (.int .i64 n) ∧ W.cell? ⟨b6, 1, none⟩ = some (.slice a0 la.length k0)) ∧ w.heap.size < W.heap.size ∧ b3 < W.heap.size ∧ b6 < W.heap.size := by rw [hW, hb6, hb3]; simp [go_sem] <;> omega
  obtain ⟨⟨y0, y1, y2, y3, y4⟩, z0, z3, z6⟩ := hk
  rw [← hW, ← hb6, ← hb3]
  have HWG := hid hWg
  clear hW hb6 hb3 hWg
  obtain ⟨L, hL⟩ : ∃ L, appR n la lv = L := ⟨_, rfl⟩
  have HL := hid hL
  have HLn := hid (show L.length = n by rw [← hL]; exact appR_length _ _ _)
  have HR : Hid (appM n la lv = seqR L) := hid (by rw [← hL]; rfl)
  clear hL
  go_loopw [7, 30] (fun c v wr => ∃ (q : Nat) (ac : Option Addr) (kc : Nat) (lq : List Num), q ≤ n ∧ v = .int .i64 q ∧ c = .slice ac lq.length kc ∧ Grew W wr ∧ Hid (seqR (L.take q) = (lq, 0)) ∧ Hid (wr.ownsRow W.heap.size 53 5 (.slice ac lq.length kc) lq.length (numsCells lq))) (fun _ v _ => n - (intOf v).toNat)
  case atStart => exact ⟨0, none, 0, [], Nat.zero_le _, rfl, rfl, Grew.refl _, hid (by simp [seqR]), hid (World.ownsRow_nil _ _ _ _)⟩
  case round =>
    obtain ⟨q, ac, kc, lq, hq, rfl, rfl, hg2, hs, hoc⟩ := hrel
    have hsz := hg2.size
    obtain ⟨g2, n2', rfl⟩ := hg2
    by_cases hlt : q < n
    · have hlen : lq.length ≤ 6 := by rw [seqR_len hs.out (by rw [HLn.out]; omega)]; omega
      have z01 := fun m0 : Nat => Nat.lt_add_right m0 (z0)
      have z02 := fun m0 m1 : Nat => Nat.lt_add_right m1 (z01 m0)
      have z03 := fun m0 m1 m2 : Nat => Nat.lt_add_right m2 (z02 m0 m1)
      have z31 := fun m0 : Nat => Nat.lt_add_right m0 (z3)
      have z32 := fun m0 m1 : Nat => Nat.lt_add_right m1 (z31 m0)
      have z33 := fun m0 m1 m2 : Nat => Nat.lt_add_right m2 (z32 m0 m1)
      have z61 := fun m0 : Nat => Nat.lt_add_right m0 (z6)
      have z62 := fun m0 m1 : Nat => Nat.lt_add_right m1 (z61 m0)
      have z63 := fun m0 m1 m2 : Nat => Nat.lt_add_right m2 (z62 m0 m1)
      go_wp2_with fail
      refine (HP.out q _ _ _ _ (HWG.out.trans (by repeat (first | exact Grew.refl _ | refine Grew.drewN ?_ _ | refine Grew.grow ?_ _ | refine Grew.alloc ?_ _ | refine Grew.drew ?_))) hlt (by simp [go_sem] <;> omega) (by simp [go_sem] <;> omega) (by simp [go_sem] <;> omega) (by simp [go_sem, y3, z6, z61]) (by simp [go_sem, y4, z6, z61]) (by simp [go_sem]) (by simp [go_sem, y2, z3, z31])).mono ?_
      rintro e w' ⟨rfl, g3, n3, rfl⟩
      obtain ⟨R, hR⟩ : ∃ R, rowN (prowV la lv n q) = R := ⟨_, rfl⟩
      rw [hR]
      have HRq : Hid (L[q]? = some R) := hid (by rw [← HL.out, ← hR]; exact appR_at la lv hlt)
      clear hR
      by_cases hRe : R.e = 0
      · have HRe := hid hRe
        rw [hRe]
        clear hRe
        have HOC := hid fun w2 (h : Grew (W.grow g2) w2) => World.ownsRow.grew (w := W.grow g2) hoc.out h
        go_wp2_with (at_builtin; refine wpList_append_behind rfl _ _ 26 rfl W.heap.size 53 i0 (.agg #[.int .i64 0, .int .i64 0, .int .i64 0, .int .i64 0, .int .i64 0]) 5 40 Try.underlying26 hi hz0 hz1 hz2 rfl (by decide) _ _ (numsCells lq) rfl (HOC.out _ (by repeat (first | exact Grew.refl _ | refine Grew.drewN ?_ _ | refine Grew.grow ?_ _ | refine Grew.alloc ?_ _ | refine Grew.drew ?_))) ⟨_, 0, none⟩ 1 1 (numCells ⟨R.x, R.k⟩) rfl rfl ?c1 (fun u hu => numCells_one hu) ?c3 ?c4 ?c5 ?_)
        case c1 => exact numCells_in (z := ⟨R.x, R.k⟩) (by simp [go_sem]) (by simp [go_sem]) (by simp [go_sem]) (by simp [go_sem]) (by simp [go_sem])
        case c3 => unfold maxLen; omega
        case c4 => omega
        case c5 => simp [go_sem] <;> omega
        · intro v' w1 hown' hgrow hwh hdr
          obtain ⟨a2, k2, rfl⟩ := ownsRow_slice hown'
          have hg4 : Grew W w1 := Grew.by (w' := _) (by repeat (first | exact Grew.refl _ | refine Grew.drewN ?_ _ | refine Grew.grow ?_ _ | refine Grew.alloc ?_ _ | refine Grew.drew ?_)) hgrow hdr (fun jj hjj => ownsRow_above hoc.out jj hjj)
          rw [← numsCells_append] at hown'
          have HG4 := hid hg4
          have HO4 := hid hown'
          clear hgrow hown' hwh hdr HOC hg4 hoc
          go_wp2_with fail
          go_roundw
          case rel => exact ⟨q + 1, a2, k2, lq ++ [⟨R.x, R.k⟩], by omega, by go_num, by simp, HG4.out, hid (seqR_step hs.out HRq.out HRe.out), by simpa using HO4⟩
          case measure => simp [intOf]; omega
      · have HRe := hid hRe
        have e1 : (R.e != 0) = true := by simpa using hRe
        have HG := HWG
        clear hRe
        go_wp2_with fail
        exact bodyPost_ret (v := .tuple #[.slice none 0 0, .int .i64 R.e]) (by simp [results, Try.results68, go_sem]) rfl (by
          have h := seqR_stop hs.out HRq.out HRe.out
          exact ⟨⟨none, 0, by rw [HR.out, h]; rfl, by rw [HR.out, h]; exact .inl rfl⟩, HWG.out.trans (by repeat (first | exact Grew.refl _ | refine Grew.drewN ?_ _ | refine Grew.grow ?_ _ | refine Grew.alloc ?_ _ | refine Grew.drew ?_))⟩)
    · obtain rfl : q = n := by omega
      have hfin : Hid (appM q la lv = (lq, 0)) := hid (by
        have h := hs.out
        rw [List.take_of_length_le (by rw [HLn.out]; exact Nat.le_refl _)] at h
        rw [HR.out]; exact h)
      have HOC := hid (OwnN.nms (base := W.heap.size) (k0 := kc) (l := lq) (a0 := ac) (w := (W.grow g2).drewN n2') hoc.out)
      clear hs hoc
      go_wp2_with fail
      exact bodyPost_ret (v := .tuple #[.slice ac lq.length kc, .int .i64 0]) (by simp [results, Try.results68, go_sem]) rfl ⟨⟨ac, kc, by rw [hfin.out], by rw [hfin.out]; exact HOC.out⟩, HWG.out.trans (by repeat (first | exact Grew.refl _ | refine Grew.drewN ?_ _ | refine Grew.grow ?_ _ | refine Grew.alloc ?_ _ | refine Grew.drew ?_))⟩

end Go.Proofs.Ytkglnnkghillpaa
