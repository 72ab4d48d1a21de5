/- Layer 3, the statements' side: a row times numbers. Condition: both lie in memory and are long enough. -/
import Derived.Test.YtkglnnkghillpaaMshR
import Derived.Test.YtkglnnkghillpaaAmpI
import Derived.Test.YtkglnnkghillpaaAmpN
namespace Go.Proofs.Ytkglnnkghillpaa
open Go Go.RowKit Amp Msh

/-- The factors of row i of a matrix and a list of numbers. -/
def prowV (la lv : List Num) (n i : Nat) : List (Num × Num) := (List.range n).map fun j => (la.getD (i * n + j) ⟨zero, 0⟩, lv.getD j ⟨zero, 0⟩)
theorem prowV_length (la lv : List Num) (n i : Nat) : (prowV la lv n i).length = n := by simp [prowV]
theorem prowV_at {la lv : List Num} {n i j : Nat} {x y : Num} (hj : j < n) (hx : la[i * n + j]? = some x) (hy : lv[j]? = some y) : (prowV la lv n i)[j]? = some (x, y) := by
  simp [prowV, List.getElem?_range hj, List.getD, hx, hy]

set_option maxRecDepth 100000 in
set_option maxHeartbeats 16000000 in
theorem row_any (n i : Nat) (a0 a1 : Option Addr) (k0 k1 : Nat) (la lv : List Num) (w : World) (n2 : n ≤ 6) (hla : la.length = n * n) (hlv : lv.length = n) (hi : i < n) (h0 : Nms w a0 la) (h1 : Nms w a1 lv) :
    Calls Try.prog 37 #[.agg #[.int .i64 n, .slice a0 la.length k0], .int .i64 i, .slice a1 lv.length k1] w fun e w' => e = .returned (.tuple #[.agg #[.int .i64 (rowN (prowV la lv n i)).x.a, .int .i64 (rowN (prowV la lv n i)).x.b, .int .i64 (rowN (prowV la lv n i)).x.c, .int .i64 (rowN (prowV la lv n i)).x.d, .int .i64 (rowN (prowV la lv n i)).k], .int .i64 (rowN (prowV la lv n i)).e]) ∧ Grew w w' := by
  have H0 := hid h0
  have H1 := hid h1
  have HLA := hid hla
  have HLV := hid hlv
  have h36 : n * n ≤ 36 := Nat.mul_le_mul n2 n2
  obtain ⟨L, hL⟩ : ∃ L, prowV la lv n i = L := ⟨_, rfl⟩
  rw [hL]
  have HL := hid hL
  clear h0 h1 hla hlv hL h36
  go_enter Try.func37, Try.ntmps37
  go_wp2_with fail
  refine (rnone_any _).mono ?_
  rintro e w' ⟨rfl, gn, nn, rfl⟩
  go_wp2_with fail
  go_loopw [15] (fun v wr => ∃ (j : Nat) (s : C4) (k : Int), j ≤ n ∧ v = .int .i64 j ∧ Hid (rowA s k (L.drop j) = rowN L) ∧ Grew (((((w.alloc (.cells #[.int .i64 n, .slice a0 la.length k0] 28)).alloc (.cells #[.int .i64 0, .int .i64 0, .int .i64 0, .int .i64 0, .int .i64 0] 53)).grow gn).alloc (.cells #[.int .i64 s.a, .int .i64 s.b, .int .i64 s.c, .int .i64 s.d, .int .i64 k] 53))) wr) (fun v _ => n - (intOf v).toNat)
  case atStart => exact ⟨0, zero, 0, Nat.zero_le _, rfl, rfl, (Grew.refl _).drewN _⟩
  case round =>
    obtain ⟨j, s, k, hj, rfl, hs, g, n', rfl⟩ := hrel
    by_cases hlt : j < n
    · have hq : i * n + j < la.length := by rw [HLA.out]; exact grid_lt hi hlt
      have hjv : j < lv.length := by rw [HLV.out]; exact hlt
      obtain ⟨x, hx⟩ : ∃ x, la[i * n + j]? = some x := ⟨la[i * n + j], List.getElem?_eq_getElem hq⟩
      obtain ⟨y, hy⟩ : ∃ y, lv[j]? = some y := ⟨lv[j], List.getElem?_eq_getElem hjv⟩
      obtain ⟨b, off, rfl, hb, c0, c1, c2, c3, c4⟩ := H0.out.cells hx
      obtain ⟨c, oc, rfl, hc, d0, d1, d2, d3, d4⟩ := H1.out.cells hy
      have Hp : Hid (L[j]? = some (x, y)) := hid (by rw [← HL.out]; exact prowV_at hlt hx hy)
      obtain ⟨I, hI⟩ : ∃ I, i * n = I := ⟨_, rfl⟩
      have hI1 : (i : Int) * n = (I : Nat) := by rw [← hI]; exact (Int.natCast_mul _ _).symm
      have hl36 : la.length ≤ 36 := by have := HLA.out; have := Nat.mul_le_mul n2 n2; omega
      rw [hI] at c0 c1 c2 c3 c4 hq
      obtain ⟨Q, hQ⟩ : ∃ Q, I + j = Q := ⟨_, rfl⟩
      have hQ1 : (I : Int) + j = (Q : Nat) := by omega
      rw [hQ] at c0 c1 c2 c3 c4 hq
      have hq' : (Q : Int) < la.length := by omega
      have hjv' : (j : Int) < lv.length := by omega
      have hI2 : I ≤ 36 := by omega
      have hQ2 : Q ≤ 36 := by omega
      have HMU := hid fun w => rMul_any x.x y.x x.k y.k w
      obtain ⟨m, hm⟩ : ∃ m, mulN x.x x.k y.x y.k = m := ⟨_, rfl⟩
      rw [hm] at HMU
      have Hm := hid hm
      clear hx hy hm hI hQ
      have hb1 := fun m0 : Nat => Nat.lt_add_right m0 (hb)
      have hb2 := fun m0 m1 : Nat => Nat.lt_add_right m1 (hb1 m0)
      have hb3 := fun m0 m1 m2 : Nat => Nat.lt_add_right m2 (hb2 m0 m1)
      have hc1 := fun m0 : Nat => Nat.lt_add_right m0 (hc)
      have hc2 := fun m0 m1 : Nat => Nat.lt_add_right m1 (hc1 m0)
      have hc3 := fun m0 m1 m2 : Nat => Nat.lt_add_right m2 (hc2 m0 m1)
      have hb4 := fun m0 m1 m2 m3 : Nat => Nat.lt_add_right m3 (hb3 m0 m1 m2)
      have hc4 := fun m0 m1 m2 m3 : Nat => Nat.lt_add_right m3 (hc3 m0 m1 m2)
      have hb5 := fun m0 m1 m2 m3 m4 : Nat => Nat.lt_add_right m4 (hb4 m0 m1 m2 m3)
      have hc5 := fun m0 m1 m2 m3 m4 : Nat => Nat.lt_add_right m4 (hc4 m0 m1 m2 m3)
      go_wp2_with fail
      refine R4.wp_region_slots 20 (fun ix vs W => match ix with | 0 => vs 0 = .pointer (some ⟨w.heap.size, 1, none⟩) | 1 => vs 1 = .slice (some ⟨b, off, none⟩) la.length k0 | 2 => vs 2 = .int .i64 i | 3 => vs 3 = .pointer (some ⟨w.heap.size, 0, none⟩) | 4 => vs 4 = .int .i64 n | 5 => vs 5 = .int .i64 I | 6 => vs 6 = .int .i64 j | 7 => vs 7 = .int .i64 Q | 8 => vs 8 = .pointer (some ⟨b, off + Q * 5, none⟩) | 9 => vs 9 = .agg #[.int .i64 x.x.a, .int .i64 x.x.b, .int .i64 x.x.c, .int .i64 x.x.d, .int .i64 x.k] | 10 => vs 10 = .slice (some ⟨c, oc, none⟩) lv.length k1 | 11 => vs 11 = .int .i64 j | 12 => vs 12 = .pointer (some ⟨c, oc + j * 5, none⟩) | 13 => vs 13 = .agg #[.int .i64 y.x.a, .int .i64 y.x.b, .int .i64 y.x.c, .int .i64 y.x.d, .int .i64 y.k] | 14 => vs 14 = .tuple #[.agg #[.int .i64 m.x.a, .int .i64 m.x.b, .int .i64 m.x.c, .int .i64 m.x.d, .int .i64 m.k], .int .i64 m.e] | 15 => vs 15 = .tuple #[.agg #[.int .i64 m.x.a, .int .i64 m.x.b, .int .i64 m.x.c, .int .i64 m.x.d, .int .i64 m.k], .int .i64 m.e] | 16 => vs 16 = .agg #[.int .i64 m.x.a, .int .i64 m.x.b, .int .i64 m.x.c, .int .i64 m.x.d, .int .i64 m.k] | 17 => vs 17 = .int .i64 m.e | 18 => R4.NewBlk (w.heap.size + 3 + gn.length + g.length) 53 5 (vs 18) W | 19 => R4.HasBlk (.cells #[.int .i64 m.x.a, .int .i64 m.x.b, .int .i64 m.x.c, .int .i64 m.x.d, .int .i64 m.k] 53) (vs 18) W | _ => True) (by kernel_rfl) (by kernel_rfl) ?slst ?sldep ?slop ?slq
      case slst =>
        intro ix vs W W' h hg
        match ix, h with
        | 0, h => exact h
        | 1, h => exact h
        | 2, h => exact h
        | 3, h => exact h
        | 4, h => exact h
        | 5, h => exact h
        | 6, h => exact h
        | 7, h => exact h
        | 8, h => exact h
        | 9, h => exact h
        | 10, h => exact h
        | 11, h => exact h
        | 12, h => exact h
        | 13, h => exact h
        | 14, h => exact h
        | 15, h => exact h
        | 16, h => exact h
        | 17, h => exact h
        | 18, h => exact R4.NewBlk.grew h hg
        | 19, h => exact R4.HasBlk.grew h hg
        | _ + 20, _ => trivial
      case sldep =>
        intro ix o vs vs' W hix ho h hv hn
        match ix, hix, ho, h, hv with
        | 0, _, _, h, hv => exact Eq.trans hv h
        | 1, _, _, h, hv => exact Eq.trans hv h
        | 2, _, _, h, hv => exact Eq.trans hv h
        | 3, _, _, h, hv => exact Eq.trans hv h
        | 4, _, _, h, hv => exact Eq.trans hv h
        | 5, _, _, h, hv => exact Eq.trans hv h
        | 6, _, _, h, hv => exact Eq.trans hv h
        | 7, _, _, h, hv => exact Eq.trans hv h
        | 8, _, _, h, hv => exact Eq.trans hv h
        | 9, _, _, h, hv => exact Eq.trans hv h
        | 10, _, _, h, hv => exact Eq.trans hv h
        | 11, _, _, h, hv => exact Eq.trans hv h
        | 12, _, _, h, hv => exact Eq.trans hv h
        | 13, _, _, h, hv => exact Eq.trans hv h
        | 14, _, _, h, hv => exact Eq.trans hv h
        | 15, _, _, h, hv => exact Eq.trans hv h
        | 16, _, _, h, hv => exact Eq.trans hv h
        | 17, _, _, h, hv => exact Eq.trans hv h
        | 18, _, _, h, hv => show R4.NewBlk (w.heap.size + 3 + gn.length + g.length) 53 5 (vs' 18) W; rw [hv]; exact h
        | 19, _, ho, h, hv => obtain rfl := Option.some.inj ho; show R4.HasBlk _ (vs' 18) _; rw [hn 18 (by decide)]; exact h
        | kx + 20, hix, _, _, _ => exact absurd hix (by omega)
      case slop =>
        intro ix o hix ho vs W L hg hL hn hall
        match ix, hix, ho, hL with
        | 0, _, ho, _ =>
          obtain rfl := Option.some.inj ho
          change R4.Oper.slotAt _ _ { tmps := _, defers := _ } _ _
          obtain ⟨gq, nq, rfl⟩ := hg
          go_simp
          exact ⟨R4.upd_same _ _ _, .inl (Grew.refl _)⟩
        | 1, _, ho, _ =>
          obtain rfl := Option.some.inj ho
          have hn0 := (hn 0 (by decide)).2
          try dsimp only at hn0
          change R4.Oper.slotAt _ _ (Act.put _ (some 19) (vs 0)) _ _
          conv => arg 3; rw [hn0]
          clear hn0
          obtain ⟨gq, nq, rfl⟩ := hg
          go_simp
          exact ⟨R4.upd_same _ _ _, .inl (Grew.refl _)⟩
        | 2, _, ho, _ =>
          obtain rfl := Option.some.inj ho
          change R4.Oper.slotAt _ _ { tmps := _, defers := _ } _ _
          obtain ⟨gq, nq, rfl⟩ := hg
          go_simp
          exact ⟨R4.upd_same _ _ _, .inl (Grew.refl _)⟩
        | 3, _, ho, _ =>
          obtain rfl := Option.some.inj ho
          change R4.Oper.slotAt _ _ { tmps := _, defers := _ } _ _
          obtain ⟨gq, nq, rfl⟩ := hg
          go_simp
          exact ⟨R4.upd_same _ _ _, .inl (Grew.refl _)⟩
        | 4, _, ho, _ =>
          obtain rfl := Option.some.inj ho
          have hn3 := (hn 3 (by decide)).2
          try dsimp only at hn3
          change R4.Oper.slotAt _ _ (Act.put _ (some 22) (vs 3)) _ _
          conv => arg 3; rw [hn3]
          clear hn3
          obtain ⟨gq, nq, rfl⟩ := hg
          go_simp
          exact ⟨R4.upd_same _ _ _, .inl (Grew.refl _)⟩
        | 5, _, ho, _ =>
          obtain rfl := Option.some.inj ho
          have hn2 := (hn 2 (by decide)).2
          have hn4 := (hn 4 (by decide)).2
          try dsimp only at hn2 hn4
          change R4.Oper.slotAt _ _ (Act.put (Act.put _ (some 21) (vs 2)) (some 23) (vs 4)) _ _
          conv => arg 3; rw [hn2, hn4]
          clear hn2 hn4
          obtain ⟨gq, nq, rfl⟩ := hg
          go_simp
          rw [IntWalk.i64_in _ (by omega)]
          exact ⟨R4.upd_same _ _ _, .inl (Grew.refl _)⟩
        | 6, _, ho, _ =>
          obtain rfl := Option.some.inj ho
          change R4.Oper.slotAt _ _ { tmps := _, defers := _ } _ _
          obtain ⟨gq, nq, rfl⟩ := hg
          go_simp
          exact ⟨R4.upd_same _ _ _, .inl (Grew.refl _)⟩
        | 7, _, ho, _ =>
          obtain rfl := Option.some.inj ho
          have hn5 := (hn 5 (by decide)).2
          have hn6 := (hn 6 (by decide)).2
          try dsimp only at hn5 hn6
          change R4.Oper.slotAt _ _ (Act.put (Act.put _ (some 24) (vs 5)) (some 25) (vs 6)) _ _
          conv => arg 3; rw [hn5, hn6]
          clear hn5 hn6
          obtain ⟨gq, nq, rfl⟩ := hg
          go_simp
          rw [IntWalk.i64_in _ (by omega)]
          exact ⟨R4.upd_same _ _ _, .inl (Grew.refl _)⟩
        | 8, _, ho, _ =>
          obtain rfl := Option.some.inj ho
          have hn1 := (hn 1 (by decide)).2
          have hn7 := (hn 7 (by decide)).2
          try dsimp only at hn1 hn7
          change R4.Oper.slotAt _ _ (Act.put (Act.put _ (some 20) (vs 1)) (some 26) (vs 7)) _ _
          conv => arg 3; rw [hn1, hn7]
          clear hn1 hn7
          obtain ⟨gq, nq, rfl⟩ := hg
          go_simp
          exact ⟨R4.upd_same _ _ _, .inl (Grew.refl _)⟩
        | 9, _, ho, _ =>
          obtain rfl := Option.some.inj ho
          have hn8 := (hn 8 (by decide)).2
          try dsimp only at hn8
          change R4.Oper.slotAt _ _ (Act.put _ (some 27) (vs 8)) _ _
          conv => arg 3; rw [hn8]
          clear hn8
          obtain ⟨gq, nq, rfl⟩ := hg
          go_simp
          exact ⟨R4.upd_same _ _ _, .inl (Grew.refl _)⟩
        | 10, _, ho, _ =>
          obtain rfl := Option.some.inj ho
          change R4.Oper.slotAt _ _ { tmps := _, defers := _ } _ _
          obtain ⟨gq, nq, rfl⟩ := hg
          go_simp
          exact ⟨R4.upd_same _ _ _, .inl (Grew.refl _)⟩
        | 11, _, ho, _ =>
          obtain rfl := Option.some.inj ho
          change R4.Oper.slotAt _ _ { tmps := _, defers := _ } _ _
          obtain ⟨gq, nq, rfl⟩ := hg
          go_simp
          exact ⟨R4.upd_same _ _ _, .inl (Grew.refl _)⟩
        | 12, _, ho, _ =>
          obtain rfl := Option.some.inj ho
          have hn10 := (hn 10 (by decide)).2
          have hn11 := (hn 11 (by decide)).2
          try dsimp only at hn10 hn11
          change R4.Oper.slotAt _ _ (Act.put (Act.put _ (some 29) (vs 10)) (some 30) (vs 11)) _ _
          conv => arg 3; rw [hn10, hn11]
          clear hn10 hn11
          obtain ⟨gq, nq, rfl⟩ := hg
          go_simp
          exact ⟨R4.upd_same _ _ _, .inl (Grew.refl _)⟩
        | 13, _, ho, _ =>
          obtain rfl := Option.some.inj ho
          have hn12 := (hn 12 (by decide)).2
          try dsimp only at hn12
          change R4.Oper.slotAt _ _ (Act.put _ (some 31) (vs 12)) _ _
          conv => arg 3; rw [hn12]
          clear hn12
          obtain ⟨gq, nq, rfl⟩ := hg
          go_simp
          exact ⟨R4.upd_same _ _ _, .inl (Grew.refl _)⟩
        | 14, _, ho, _ =>
          obtain rfl := Option.some.inj ho
          have hn9 := (hn 9 (by decide)).2
          have hn13 := (hn 13 (by decide)).2
          try dsimp only at hn9 hn13
          change R4.Oper.slotAt _ _ (Act.put (Act.put _ (some 28) (vs 9)) (some 32) (vs 13)) _ _
          conv => arg 3; rw [hn9, hn13]
          clear hn9 hn13
          obtain ⟨gq, nq, rfl⟩ := hg
          go_simp
          refine (HMU.out _).mono ?_
          rintro e w' ⟨rfl, gr⟩
          exact ⟨_, rfl, R4.upd_same _ _ _, .inl gr⟩
        | 15, _, ho, _ =>
          obtain rfl := Option.some.inj ho
          have hn14 := (hn 14 (by decide)).2
          try dsimp only at hn14
          change R4.Oper.slotAt _ _ (Act.put _ (some 33) (vs 14)) _ _
          conv => arg 3; rw [hn14]
          clear hn14
          obtain ⟨gq, nq, rfl⟩ := hg
          go_simp
          exact ⟨R4.upd_same _ _ _, .inl (Grew.refl _)⟩
        | 16, _, ho, _ =>
          obtain rfl := Option.some.inj ho
          have hn15 := (hn 15 (by decide)).2
          try dsimp only at hn15
          change R4.Oper.slotAt _ _ (Act.put _ (some 18) (vs 15)) _ _
          conv => arg 3; rw [hn15]
          clear hn15
          obtain ⟨gq, nq, rfl⟩ := hg
          go_simp
          exact ⟨R4.upd_same _ _ _, .inl (Grew.refl _)⟩
        | 17, _, ho, _ =>
          obtain rfl := Option.some.inj ho
          have hn15 := (hn 15 (by decide)).2
          try dsimp only at hn15
          change R4.Oper.slotAt _ _ (Act.put _ (some 18) (vs 15)) _ _
          conv => arg 3; rw [hn15]
          clear hn15
          obtain ⟨gq, nq, rfl⟩ := hg
          go_simp
          exact ⟨R4.upd_same _ _ _, .inl (Grew.refl _)⟩
        | 18, _, ho, _ =>
          obtain rfl := Option.some.inj ho
          change R4.Oper.slotAt _ _ { tmps := _, defers := _ } _ _
          have hs := hg.size
          simp [go_sem] at hs
          go_simp
          exact ⟨by rw [R4.upd_same]; exact R4.NewBlk.fresh (cs := #[.int .i64 0, .int .i64 0, .int .i64 0, .int .i64 0, .int .i64 0]) rfl (by omega), .inl ((Grew.refl _).alloc _)⟩
        | 19, _, ho, hL =>
          obtain rfl := Option.some.inj ho
          have hn18 := (hn 18 (by decide)).2
          have hn16 := (hn 16 (by decide)).2
          try dsimp only at hn18 hn16
          change R4.Oper.slotAt _ _ (Act.put (Act.put _ (some 10) (vs 18)) (some 34) (vs 16)) _ _
          conv => arg 3; rw [hn16]
          clear hn16
          obtain ⟨b, cs, hb1, hb2, hb4, hb3⟩ := hn18
          conv => arg 3; rw [hb1]
          have Hb1 := hid hb1
          clear hb1
          obtain ⟨x0, x1, x2, x3, x4, rfl⟩ : ∃ x0 x1 x2 x3 x4, cs = #[x0, x1, x2, x3, x4] := by
            obtain ⟨l⟩ := cs
            obtain ⟨x0, x1, x2, x3, x4, rfl⟩ := list5 (l := l) (by simpa using hb4)
            exact ⟨x0, x1, x2, x3, x4, rfl⟩
          have hc : W.cell? ⟨b, 0, none⟩ = some x0 ∧ W.cell? ⟨b, 1, none⟩ = some x1 ∧ W.cell? ⟨b, 2, none⟩ = some x2 ∧ W.cell? ⟨b, 3, none⟩ = some x3 ∧ W.cell? ⟨b, 4, none⟩ = some x4 := by simp [World.cell?, hb3]
          have hf : ∀ i, W.frozen? ⟨b, i, none⟩ = false := fun i => by simp [World.frozen?, hb3]
          obtain ⟨c0, c1, c2, c3, c4⟩ := hc
          have f0 := hf 0
          have f1 := hf 1
          have f2 := hf 2
          have f3 := hf 3
          have f4 := hf 4
          go_simp
          obtain ⟨s1, s2⟩ := R4.set5 hb3 (.int .i64 m.x.a) (.int .i64 m.x.b) (.int .i64 m.x.c) (.int .i64 m.x.d) (.int .i64 m.k)
          exact ⟨by rw [R4.upd_other _ _ (by decide)]; exact ⟨b, Hb1.out, s1⟩, .inr ⟨by repeat (first | exact hg | refine Grew.set ?_ (by simp [go_sem] <;> omega) _ _), fun jx hjx hLj => by
            have hv := hall jx hjx hLj
            match jx, hjx, hv, hLj with
            | 0, _, hv, _ => exact hv
            | 1, _, hv, _ => exact hv
            | 2, _, hv, _ => exact hv
            | 3, _, hv, _ => exact hv
            | 4, _, hv, _ => exact hv
            | 5, _, hv, _ => exact hv
            | 6, _, hv, _ => exact hv
            | 7, _, hv, _ => exact hv
            | 8, _, hv, _ => exact hv
            | 9, _, hv, _ => exact hv
            | 10, _, hv, _ => exact hv
            | 11, _, hv, _ => exact hv
            | 12, _, hv, _ => exact hv
            | 13, _, hv, _ => exact hv
            | 14, _, hv, _ => exact hv
            | 15, _, hv, _ => exact hv
            | 16, _, hv, _ => exact hv
            | 17, _, hv, _ => exact hv
            | 18, _, hv, _ => exact R4.NewBlk.other (show R4.NewBlk _ _ _ _ _ from hv) s2 hb3 s1 rfl
            | 19, _, hv, hLj => exact absurd hLj hL
            | kx + 20, hjx, _, _ => exact absurd hjx (by omega)⟩⟩
        | kx + 20, hix, _, _ => exact absurd hix (by omega)
      case slq =>
        intro vs W hg hn
        have hn0 := hn 0 (by decide) (by decide)
        have hn1 := hn 1 (by decide) (by decide)
        have hn2 := hn 2 (by decide) (by decide)
        have hn3 := hn 3 (by decide) (by decide)
        have hn4 := hn 4 (by decide) (by decide)
        have hn5 := hn 5 (by decide) (by decide)
        have hn6 := hn 6 (by decide) (by decide)
        have hn7 := hn 7 (by decide) (by decide)
        have hn8 := hn 8 (by decide) (by decide)
        have hn9 := hn 9 (by decide) (by decide)
        have hn10 := hn 10 (by decide) (by decide)
        have hn11 := hn 11 (by decide) (by decide)
        have hn12 := hn 12 (by decide) (by decide)
        have hn13 := hn 13 (by decide) (by decide)
        have hn14 := hn 14 (by decide) (by decide)
        have hn15 := hn 15 (by decide) (by decide)
        have hn16 := hn 16 (by decide) (by decide)
        have hn17 := hn 17 (by decide) (by decide)
        have hn18 := hn 18 (by decide) (by decide)
        have hn19 := hn 19 (by decide) (by decide)
        change wpList _ _ _ _ (Act.put (Act.put (Act.put (Act.put (Act.put (Act.put (Act.put (Act.put (Act.put (Act.put (Act.put (Act.put (Act.put (Act.put (Act.put (Act.put (Act.put (Act.put (Act.put (Act.put _ (some 19) (vs 0)) (some 20) (vs 1)) (some 21) (vs 2)) (some 22) (vs 3)) (some 23) (vs 4)) (some 24) (vs 5)) (some 25) (vs 6)) (some 26) (vs 7)) (some 27) (vs 8)) (some 28) (vs 9)) (some 29) (vs 10)) (some 30) (vs 11)) (some 31) (vs 12)) (some 32) (vs 13)) (some 33) (vs 14)) (some 18) (vs 15)) (some 34) (vs 16)) (some 35) (vs 17)) (some 10) (vs 18)) none (vs 19)) _
        rw [hn0, hn1, hn2, hn3, hn4, hn5, hn6, hn7, hn8, hn9, hn10, hn11, hn12, hn13, hn14, hn15, hn16, hn17]
        clear hn hn0 hn1 hn2 hn3 hn4 hn5 hn6 hn7 hn8 hn9 hn10 hn11 hn12 hn13 hn14 hn15 hn16 hn17
        obtain ⟨b, cs, hb1, hb2, _, _⟩ := hn18
        obtain ⟨b2, hb3, hb4⟩ := hn19
        rw [hb1] at hb3
        obtain rfl : b = b2 := by injection hb3 with h; injection h with h; injection h
        rw [hb1]
        obtain ⟨g1, g2, kk, e1, rfl⟩ := hg.at_block (by simp [go_sem] <;> omega) hb4
        subst e1
        clear hb1 hb3 hb4 hb2 hg
        simp only [Act.put, List.setIfInBounds_toArray, List.set_cons_zero, List.set_cons_succ, List.drop_succ_cons, List.drop_zero]
        by_cases he : m.e = 0
        case neg =>
          have h0 : Hid (rowN L = ⟨zero, 0, m.e⟩) := hs.out.symm.trans (rowA_mul Hp.out Hm.out he)
          have e1 : (m.e != 0) = true := by simpa using he
          clear he hs Hp Hm
          go_wp2_with fail
          refine (rnone_any _).mono ?_
          rintro e w' ⟨rfl, g4, n4, rfl⟩
          go_wp2_with fail
          exact bodyPost_ret (v := .tuple #[.agg #[.int .i64 0, .int .i64 0, .int .i64 0, .int .i64 0, .int .i64 0], .int .i64 m.e]) (by simp [results, Try.results37, go_sem]) rfl ⟨by rw [h0.out]; rfl, (by repeat (first | exact Grew.refl _ | refine Grew.drewN ?_ _ | refine Grew.grow ?_ _ | refine Grew.alloc ?_ _ | refine Grew.drew ?_))⟩
        have He := hid he
        rw [he]
        clear he
        go_wp2_with fail
        have HA := hid fun w => rAdd_any s m.x k m.k w
        obtain ⟨a, ha⟩ : ∃ a, addN s k m.x m.k = a := ⟨_, rfl⟩
        rw [ha] at HA
        have Ha := hid ha
        clear ha
        refine (HA.out _).mono ?_
        rintro e w' ⟨rfl, g3, n3, rfl⟩
        by_cases hae : a.e = 0
        case neg =>
          have h0 : Hid (rowN L = ⟨zero, 0, a.e⟩) := hs.out.symm.trans (rowA_add Hp.out Hm.out He.out Ha.out hae)
          have e1 : (a.e != 0) = true := by simpa using hae
          clear hae hs Hp Hm Ha
          go_wp2_with fail
          refine (rnone_any _).mono ?_
          rintro e w' ⟨rfl, g4, n4, rfl⟩
          go_wp2_with fail
          exact bodyPost_ret (v := .tuple #[.agg #[.int .i64 0, .int .i64 0, .int .i64 0, .int .i64 0, .int .i64 0], .int .i64 a.e]) (by simp [results, Try.results37, go_sem]) rfl ⟨by rw [h0.out]; rfl, (by repeat (first | exact Grew.refl _ | refine Grew.drewN ?_ _ | refine Grew.grow ?_ _ | refine Grew.alloc ?_ _ | refine Grew.drew ?_))⟩
        have h0 : Hid (rowA a.x a.k (L.drop (j + 1)) = rowN L) := (rowA_step Hp.out Hm.out He.out Ha.out hae).symm.trans hs.out
        rw [hae]
        clear hae hs Hp Hm Ha He
        go_wp2_with fail
        go_roundw
        case rel => exact ⟨j + 1, a.x, a.k, by omega, by go_num, h0, (by repeat (first | exact Grew.refl _ | refine Grew.drewN ?_ _ | refine Grew.grow ?_ _ | refine Grew.alloc ?_ _ | refine Grew.drew ?_))⟩
        case measure => simp [intOf]; omega
    · obtain rfl : j = n := by omega
      have h0 : Hid (rowN L = ⟨s, k, 0⟩) := hid (by
        have h2 : L.length = j := by rw [← HL.out]; exact prowV_length _ _ _ _
        have h3 := rowA_end s k L
        rw [h2] at h3
        exact hs.out.symm.trans h3)
      clear hs
      go_wp2_with fail
      exact bodyPost_ret (v := .tuple #[.agg #[.int .i64 s.a, .int .i64 s.b, .int .i64 s.c, .int .i64 s.d, .int .i64 k], .int .i64 0]) (by simp [results, Try.results37, go_sem]) rfl ⟨by rw [h0.out], (by repeat (first | exact Grew.refl _ | refine Grew.drewN ?_ _ | refine Grew.grow ?_ _ | refine Grew.alloc ?_ _ | refine Grew.drew ?_))⟩

end Go.Proofs.Ytkglnnkghillpaa
