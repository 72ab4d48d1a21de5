/- Layer 3: a copy of a list of numbers; a matrix times numbers. Condition: they lie in memory and are valid. -/
import Derived.Test.YtkglnnkghillpaaLitA
import Derived.Lib.LazyBuf
namespace Go.Proofs.Ytkglnnkghillpaa
open Go Go.RowKit Amp Msh

theorem run_eql_nums_nil (a : Addr) (n c : Nat) (w : World) : (binOp .eql 26 (.slice (some a) n c) (.slice none 0 0)).run Try.prog w = .ok (.bool false) w := run_eql_slice_nil w 26 53 (some a) n c Try.underlying26
attribute [go_sem high] run_eql_nums_nil
theorem nums_news {w : World} {b off : Nat} {l : List Num} (h : NumsAt w b off l) : ∀ j u, (numsCells l)[j]? = some u → w.cell? ((⟨b, off, none⟩ : Addr).add j) = some u := by
  intro j u hj
  have hjl : j < (numsCells l).length := (List.getElem?_eq_some_iff.1 hj).1
  rw [numsCells_length] at hjl
  have hi : j / 5 < l.length := by omega
  have hz : l[j / 5]? = some l[j / 5] := List.getElem?_eq_getElem hi
  obtain ⟨c0, c1, c2, c3, c4⟩ := h _ _ hz
  have hc : j % 5 < 5 := Nat.mod_lt _ (by decide)
  have e := numsCells_at l _ _ hz (j % 5) hc
  rw [show j / 5 * 5 + j % 5 = j by omega, hj] at e
  have ha : (⟨b, off, none⟩ : Addr).add j = ⟨b, off + j, none⟩ := by
    unfold Addr.add
    by_cases h0 : j = 0
    · simp [h0]
    · simp [h0]
  rw [ha]
  rw [show off + j = off + j / 5 * 5 + j % 5 by omega]
  match h5 : j % 5, hc, e with
  | 0, _, e => simp [numCells] at e; subst e; exact c0
  | 1, _, e => simp [numCells] at e; subst e; exact c1
  | 2, _, e => simp [numCells] at e; subst e; exact c2
  | 3, _, e => simp [numCells] at e; subst e; exact c3
  | 4, _, e => simp [numCells] at e; subst e; exact c4
theorem numsCells_one {l : List Num} {u : Value} (hu : u ∈ numsCells l) : u.oneCell' = true := by
  unfold numsCells at hu
  obtain ⟨z, _, hz⟩ := List.mem_flatMap.1 hu
  exact numCells_one hz
/-- A list of numbers that a function answers. -/
def ListN (l : List Num) (w : World) (e : Ending) (w' : World) : Prop := (∃ (a2 : Option Addr) (k2 : Nat), e = .returned (.slice a2 l.length k2) ∧ Nms w' a2 l) ∧ Grew w w'
/-- A list of numbers and an error that a function answers. -/
def ListE (r : List Num × Int) (w : World) (e : Ending) (w' : World) : Prop := (∃ (a2 : Option Addr) (k2 : Nat), e = .returned (.tuple #[.slice a2 r.1.length k2, .int .i64 r.2]) ∧ Nms w' a2 r.1) ∧ Grew w w'

set_option maxRecDepth 100000 in
set_option maxHeartbeats 800000 in
theorem clone_any (b off : Nat) (k0 : Nat) (l : List Num) (w : World) (hl : l.length ≤ 20) (hb : b < w.heap.size) (h0 : NumsAt w b off l) :
    Calls Try.prog 67 #[.slice (some ⟨b, off, none⟩) l.length k0] w (ListN l w) := by
  obtain ⟨i0, hi, hz0, hz1, hz2⟩ := info_parts info_num
  have HN := hid h0
  have hOwn := hid fun (w : World) => World.ownsRow_lit (base := w.heap.size) (e := 53) (size := 5) w #[] 0 (Nat.le_refl _) (by decide) rfl
  clear h0
  go_enter Try.func67, Try.ntmps67
  go_wp2_with (at_builtin; refine wpList_append_behind rfl _ _ 26 rfl w.heap.size 53 i0 (.agg #[.int .i64 0, .int .i64 0, .int .i64 0, .int .i64 0, .int .i64 0]) 5 40 Try.underlying26 hi hz0 hz1 hz2 rfl (by decide) _ _ [] rfl (hOwn.out w) ⟨b, off, none⟩ l.length k0 (numsCells l) rfl (numsCells_length l) ?c1 (fun u hu => numsCells_one hu) ?c3 ?c4 ?c5 ?_)
  case c1 =>
    intro j u hj
    have h := nums_news HN.out j u hj
    rw [show (⟨b, off, none⟩ : Addr).add j = ⟨b, off + j, none⟩ by unfold Addr.add; by_cases h0 : j = 0 <;> simp [h0]] at h
    exact h
  case c3 => unfold maxLen; omega
  case c4 => omega
  · intro v' w1 hown' hgrow hwh hdr
    obtain ⟨a1, k1, rfl⟩ := ownsRow_slice hown'
    have hg : Grew w w1 := Grew.by (w' := w.alloc (.cells #[] 53)) (by repeat (first | exact Grew.refl _ | refine Grew.drewN ?_ _ | refine Grew.grow ?_ _ | refine Grew.alloc ?_ _ | refine Grew.drew ?_)) hgrow hdr (fun jj hjj => by simp [Value.ownBlock] at hjj; omega)
    have hn : Nms w1 a1 l := OwnN.nms (base := w.heap.size) (k0 := k1) (by simpa [OwnN] using hown')
    have HG := hid hg
    have HNN := hid hn
    clear hown' hgrow hwh hdr hg hn
    try simp only [Nat.zero_add]
    go_wp2_with fail
    exact bodyPost_ret (v := .slice a1 l.length k1) (by simp [results, Try.results67, go_sem]) rfl ⟨⟨a1, k1, rfl, HNN.out⟩, HG.out⟩

/-- Since W0 block b alone has turned, and it has not until operation 8 has come up. -/
def ClsA (W0 : World) (b : Nat) (o : Obj) (L : Nat → Prop) (W : World) : Prop := Turned W0 W b ∧ (¬ L 8 → W.heap[b]? = some o)
theorem clsA {W0 W W' : World} {b i : Nat} {L : Nat → Prop} {o : Obj} (hb : b < W0.heap.size) (hg : ClsA W0 b o L W) (gr : Grew W W') : ClsA W0 b o (fun j => L j ∨ j = i) W' :=
  ⟨hg.1.grew gr, fun h => (gr.block b (Nat.lt_of_lt_of_le hb hg.1.size)).trans (hg.2 fun h' => h (.inl h'))⟩
theorem clsA8 {W0 W W' : World} {b : Nat} {L : Nat → Prop} {o : Obj} (hg : ClsA W0 b o L W) (ht : Turned W W' b) : ClsA W0 b o (fun j => L j ∨ j = 8) W' :=
  ⟨hg.1.trans ht, fun h => absurd (.inr rfl) h⟩

set_option maxRecDepth 100000 in
set_option maxHeartbeats 2000000 in
theorem appF_any (n i j : Nat) (px pi pv : Nat) (a0 a1 : Option Addr) (k0 k1 : Nat) (la lv : List Num) (x y : Num) (w : World) (bx : px < w.heap.size) (bi : pi < w.heap.size) (bv : pv < w.heap.size)
    (hx0 : w.cell? ⟨px, 0, none⟩ = some (.int .i64 n)) (hx1 : w.cell? ⟨px, 1, none⟩ = some (.slice a0 la.length k0)) (hi : w.cell? ⟨pi, 0, none⟩ = some (.int .i64 i)) (hv0 : w.cell? ⟨pv, 0, none⟩ = some (.slice a1 lv.length k1))
    (hla : la.length ≤ 36) (_hlv : lv.length ≤ 36) (h0 : Nms w a0 la) (h1 : Nms w a1 lv) (hin : i * n ≤ 36) (hx : la[i * n + j]? = some x) (hy : lv[j]? = some y) :
    Calls Try.prog 102 #[.int .i64 j, .pointer (some ⟨px, 0, none⟩), .pointer (some ⟨pi, 0, none⟩), .pointer (some ⟨pv, 0, none⟩)] w fun e w' => e = .returned (.tuple #[.agg #[.int .i64 x.x.a, .int .i64 x.x.b, .int .i64 x.x.c, .int .i64 x.x.d, .int .i64 x.k], .agg #[.int .i64 y.x.a, .int .i64 y.x.b, .int .i64 y.x.c, .int .i64 y.x.d, .int .i64 y.k]]) ∧ Grew w w' := by
  have c1 : (i : Int) * n = ((i * n : Nat) : Int) := by simp
  have HX := hid fun w' (hg : Grew w w') => at_any n i j (i * n + j) x a0 k0 la w' hla (h0.grew hg) (by omega) (by omega) (by omega) hx
  obtain ⟨c, oc, rfl, hcc, d0, d1, d2, d3, d4⟩ := h1.cells hy
  have hjl : (j : Int) < lv.length := by have := (List.getElem?_eq_some_iff.1 hy).1; omega
  clear h0 h1 hx hy c1
  go_enter Try.func102, Try.ntmps102
  go_wp2_with fail
  obtain ⟨W0, hW0⟩ : ∃ W0, W0 = (w.alloc (.cells #[.int .i64 0, .int .i64 0, .int .i64 0, .int .i64 0, .int .i64 0] 53)).alloc (.cells #[.int .i64 0, .int .i64 0, .int .i64 0, .int .i64 0, .int .i64 0] 53) := ⟨_, rfl⟩
  have hB5 : W0.heap[w.heap.size]? = some (.cells #[.int .i64 0, .int .i64 0, .int .i64 0, .int .i64 0, .int .i64 0] 53) := by
    rw [hW0, blk_past (by simp)]
    exact blk_new rfl
  have hB6 : W0.heap[w.heap.size + 1]? = some (.cells #[.int .i64 0, .int .i64 0, .int .i64 0, .int .i64 0, .int .i64 0] 53) := by
    rw [hW0]
    exact blk_new (by simp)
  have hb50 : w.heap.size < W0.heap.size := by rw [hW0]; simp <;> omega
  have hb60 : w.heap.size + 1 < W0.heap.size := by rw [hW0]; simp <;> omega
  have HW0 : Hid (Grew w W0) := hid (by rw [hW0]; exact (by repeat (first | exact Grew.refl _ | refine Grew.drewN ?_ _ | refine Grew.grow ?_ _ | refine Grew.alloc ?_ _ | refine Grew.drew ?_)))
  rw [← hW0]
  clear hW0
  refine R4.wp_region_slotsC 9 (fun ix vs W => match ix with | 0 => vs 0 = .agg #[.int .i64 n, .slice a0 la.length k0] | 1 => vs 1 = .int .i64 i | 2 => vs 2 = .int .i64 j | 3 => vs 3 = .agg #[.int .i64 x.x.a, .int .i64 x.x.b, .int .i64 x.x.c, .int .i64 x.x.d, .int .i64 x.k] | 4 => vs 4 = .slice (some ⟨c, oc, none⟩) lv.length k1 | 5 => vs 5 = .int .i64 j | 6 => vs 6 = .pointer (some ⟨c, oc + j * 5, none⟩) | 7 => vs 7 = .agg #[.int .i64 y.x.a, .int .i64 y.x.b, .int .i64 y.x.c, .int .i64 y.x.d, .int .i64 y.k] | 8 => W.heap[w.heap.size]? = some (.cells #[.int .i64 x.x.a, .int .i64 x.x.b, .int .i64 x.x.c, .int .i64 x.x.d, .int .i64 x.k] 53) | _ => True) (fun L W => ClsA W0 w.heap.size (.cells #[.int .i64 0, .int .i64 0, .int .i64 0, .int .i64 0, .int .i64 0] 53) L W) (by kernel_rfl) (by kernel_rfl) ?slst ?sldep ⟨(Turned.refl W0 w.heap.size).grew (Grew.refl _).drew, fun _ => hB5⟩ ?slop ?slq
  case slst =>
    intro ix vs W W' h hg
    match ix, h with
    | 0, h => exact h
    | 1, h => exact h
    | 2, h => exact h
    | 3, h => exact h
    | 4, h => exact h
    | 5, h => exact h
    | 6, h => exact h
    | 7, h => exact h
    | 8, h => exact (hg.block _ (Array.getElem?_eq_some_iff.1 h).1).trans h
    | _ + 9, _ => trivial
  case sldep =>
    intro ix o vs vs' W hix ho h hv hn
    match ix, hix, ho, h, hv with
    | 0, _, _, h, hv => exact Eq.trans hv h
    | 1, _, _, h, hv => exact Eq.trans hv h
    | 2, _, _, h, hv => exact Eq.trans hv h
    | 3, _, _, h, hv => exact Eq.trans hv h
    | 4, _, _, h, hv => exact Eq.trans hv h
    | 5, _, _, h, hv => exact Eq.trans hv h
    | 6, _, _, h, hv => exact Eq.trans hv h
    | 7, _, _, h, hv => exact Eq.trans hv h
    | 8, _, ho, h, hv => exact h
    | kx + 9, hix, _, _, _ => exact absurd hix (by omega)
  case slop =>
    intro ix o hix ho vs W L hg hL hn hall hdown
    match ix, hix, ho, hL with
    | 0, _, ho, _ =>
      obtain rfl := Option.some.inj ho
      change R4.Oper.slotAt _ _ { tmps := _, defers := _ } _ _
      have hgw := hg.1.toGrew HW0.out (Nat.le_refl _)
      have ca := (hgw.cell (i := 0) bx).trans hx0
      have cb := (hgw.cell (i := 1) bx).trans hx1
      go_simp
      exact ⟨clsA hb50 hg (Grew.refl _), R4.upd_same _ _ _, .inl (Grew.refl _)⟩
    | 1, _, ho, _ =>
      obtain rfl := Option.some.inj ho
      change R4.Oper.slotAt _ _ { tmps := _, defers := _ } _ _
      have hgw := hg.1.toGrew HW0.out (Nat.le_refl _)
      have ca := (hgw.cell (i := 0) bi).trans hi
      go_simp
      exact ⟨clsA hb50 hg (Grew.refl _), R4.upd_same _ _ _, .inl (Grew.refl _)⟩
    | 2, _, ho, _ =>
      obtain rfl := Option.some.inj ho
      change R4.Oper.slotAt _ _ { tmps := _, defers := _ } _ _
      go_simp
      exact ⟨clsA hb50 hg (Grew.refl _), R4.upd_same _ _ _, .inl (Grew.refl _)⟩
    | 3, _, ho, _ =>
      obtain rfl := Option.some.inj ho
      have hn0 := (hn 0 (by decide)).2
      have hn1 := (hn 1 (by decide)).2
      have hn2 := (hn 2 (by decide)).2
      try dsimp only at hn0 hn1 hn2
      change R4.Oper.slotAt _ _ (Act.put (Act.put (Act.put _ (some 7) (vs 0)) (some 8) (vs 1)) (some 9) (vs 2)) _ _
      conv => arg 3; rw [hn0, hn1, hn2]
      clear hn0 hn1 hn2
      have hgw := hg.1.toGrew HW0.out (Nat.le_refl _)
      go_simp
      refine (HX.out _ hgw).mono ?_
      rintro e w' ⟨rfl, gr⟩
      exact ⟨_, rfl, clsA hb50 hg gr, R4.upd_same _ _ _, .inl gr⟩
    | 4, _, ho, _ =>
      obtain rfl := Option.some.inj ho
      change R4.Oper.slotAt _ _ { tmps := _, defers := _ } _ _
      have hgw := hg.1.toGrew HW0.out (Nat.le_refl _)
      have ca := (hgw.cell (i := 0) bv).trans hv0
      go_simp
      exact ⟨clsA hb50 hg (Grew.refl _), R4.upd_same _ _ _, .inl (Grew.refl _)⟩
    | 5, _, ho, _ =>
      obtain rfl := Option.some.inj ho
      change R4.Oper.slotAt _ _ { tmps := _, defers := _ } _ _
      go_simp
      exact ⟨clsA hb50 hg (Grew.refl _), R4.upd_same _ _ _, .inl (Grew.refl _)⟩
    | 6, _, ho, _ =>
      obtain rfl := Option.some.inj ho
      have hn4 := (hn 4 (by decide)).2
      have hn5 := (hn 5 (by decide)).2
      try dsimp only at hn4 hn5
      change R4.Oper.slotAt _ _ (Act.put (Act.put _ (some 11) (vs 4)) (some 12) (vs 5)) _ _
      conv => arg 3; rw [hn4, hn5]
      clear hn4 hn5
      go_simp
      exact ⟨clsA hb50 hg (Grew.refl _), R4.upd_same _ _ _, .inl (Grew.refl _)⟩
    | 7, _, ho, _ =>
      obtain rfl := Option.some.inj ho
      have hn6 := (hn 6 (by decide)).2
      try dsimp only at hn6
      change R4.Oper.slotAt _ _ (Act.put _ (some 13) (vs 6)) _ _
      conv => arg 3; rw [hn6]
      clear hn6
      have hgw := hg.1.toGrew HW0.out (Nat.le_refl _)
      have q0 := (hgw.cell hcc _).trans d0
      have q1 := (hgw.cell hcc _).trans d1
      have q2 := (hgw.cell hcc _).trans d2
      have q3 := (hgw.cell hcc _).trans d3
      have q4 := (hgw.cell hcc _).trans d4
      go_simp
      exact ⟨clsA hb50 hg (Grew.refl _), R4.upd_same _ _ _, .inl (Grew.refl _)⟩
    | 8, _, ho, hL =>
      obtain rfl := Option.some.inj ho
      have hn3 := (hn 3 (by decide)).2
      try dsimp only at hn3
      change R4.Oper.slotAt _ _ (Act.put _ (some 10) (vs 3)) _ _
      conv => arg 3; rw [hn3]
      clear hn3
      -- hL
      have hq := hg.2 hL
      have cc : W.cell? ⟨w.heap.size, 0, none⟩ = some (.int .i64 0) ∧ W.cell? ⟨w.heap.size, 1, none⟩ = some (.int .i64 0) ∧ W.cell? ⟨w.heap.size, 2, none⟩ = some (.int .i64 0) ∧ W.cell? ⟨w.heap.size, 3, none⟩ = some (.int .i64 0) ∧ W.cell? ⟨w.heap.size, 4, none⟩ = some (.int .i64 0) := by simp [World.cell?, hq]
      have hf : ∀ i, W.frozen? ⟨w.heap.size, i, none⟩ = false := fun i => by simp [World.frozen?, hq]
      obtain ⟨q0, q1, q2, q3, q4⟩ := cc
      have f0 := hf 0
      have f1 := hf 1
      have f2 := hf 2
      have f3 := hf 3
      have f4 := hf 4
      go_simp
      obtain ⟨s1, s2⟩ := R4.set5 hq (.int .i64 x.x.a) (.int .i64 x.x.b) (.int .i64 x.x.c) (.int .i64 x.x.d) (.int .i64 x.k)
      have ht := (((((Turned.refl W w.heap.size).set 0 (.int .i64 x.x.a)).set 1 (.int .i64 x.x.b)).set 2 (.int .i64 x.x.c)).set 3 (.int .i64 x.x.d)).set 4 (.int .i64 x.k)
      exact ⟨clsA8 hg ht, s1, .inr fun jx hjx hLj => by
        have hv := hall jx hjx hLj
        match jx, hjx, hv, hLj with
        | 0, _, hv, _ => exact hv
        | 1, _, hv, _ => exact hv
        | 2, _, hv, _ => exact hv
        | 3, _, hv, _ => exact hv
        | 4, _, hv, _ => exact hv
        | 5, _, hv, _ => exact hv
        | 6, _, hv, _ => exact hv
        | 7, _, hv, _ => exact hv
        | 8, _, hv, hLj => exact absurd hLj hL
        | kx + 9, hjx, _, _ => exact absurd hjx (by omega)⟩
    | kx + 9, hix, _, _ => exact absurd hix (by omega)
  case slq =>
    intro vs W hC hn
    have hn7 : vs 7 = .agg #[.int .i64 y.x.a, .int .i64 y.x.b, .int .i64 y.x.c, .int .i64 y.x.d, .int .i64 y.k] := hn 7 (by decide) (by decide)
    have hn8 : W.heap[w.heap.size]? = some (.cells #[.int .i64 x.x.a, .int .i64 x.x.b, .int .i64 x.x.c, .int .i64 x.x.d, .int .i64 x.k] 53) := hn 8 (by decide) (by decide)
    have hgw : Grew w W := hC.1.toGrew HW0.out (Nat.le_refl _)
    have h6 : W.heap[w.heap.size + 1]? = some (.cells #[.int .i64 0, .int .i64 0, .int .i64 0, .int .i64 0, .int .i64 0] 53) := (hC.1.block hb60 (by omega)).trans hB6
    have ee : W.cell? ⟨w.heap.size, 0, none⟩ = some (.int .i64 x.x.a) ∧ W.cell? ⟨w.heap.size, 1, none⟩ = some (.int .i64 x.x.b) ∧ W.cell? ⟨w.heap.size, 2, none⟩ = some (.int .i64 x.x.c) ∧ W.cell? ⟨w.heap.size, 3, none⟩ = some (.int .i64 x.x.d) ∧ W.cell? ⟨w.heap.size, 4, none⟩ = some (.int .i64 x.k) := by simp [World.cell?, hn8]
    have gg : W.cell? ⟨w.heap.size + 1, 0, none⟩ = some (.int .i64 0) ∧ W.cell? ⟨w.heap.size + 1, 1, none⟩ = some (.int .i64 0) ∧ W.cell? ⟨w.heap.size + 1, 2, none⟩ = some (.int .i64 0) ∧ W.cell? ⟨w.heap.size + 1, 3, none⟩ = some (.int .i64 0) ∧ W.cell? ⟨w.heap.size + 1, 4, none⟩ = some (.int .i64 0) := by simp [World.cell?, h6]
    have hf : ∀ i, W.frozen? ⟨w.heap.size + 1, i, none⟩ = false := fun i => by simp [World.frozen?, h6]
    obtain ⟨q0, q1, q2, q3, q4⟩ := ee
    obtain ⟨r0, r1, r2, r3, r4⟩ := gg
    have f0 := hf 0
    have f1 := hf 1
    have f2 := hf 2
    have f3 := hf 3
    have f4 := hf 4
    have HG := hid hgw
    change wpList _ _ _ _ (Act.put (Act.put (Act.put (Act.put (Act.put (Act.put (Act.put (Act.put (Act.put _ (some 7) (vs 0)) (some 8) (vs 1)) (some 9) (vs 2)) (some 10) (vs 3)) (some 11) (vs 4)) (some 12) (vs 5)) (some 13) (vs 6)) (some 14) (vs 7)) none (vs 8)) _
    simp only [Act.put, List.setIfInBounds_toArray, List.set_cons_zero, List.set_cons_succ, List.drop_succ_cons, List.drop_zero, hn7]
    clear hn hn7 hn8 h6 hgw hC hf hB5 hB6
    go_wp2_with fail
    exact bodyPost_ret (v := .tuple #[.agg #[.int .i64 x.x.a, .int .i64 x.x.b, .int .i64 x.x.c, .int .i64 x.x.d, .int .i64 x.k], .agg #[.int .i64 y.x.a, .int .i64 y.x.b, .int .i64 y.x.c, .int .i64 y.x.d, .int .i64 y.k]]) (by simp [results, Try.results102, go_sem, q0, q1, q2, q3, q4, r0, r1, r2, r3, r4]) rfl ⟨rfl, Grew.set (Grew.set (Grew.set (Grew.set (Grew.set HG.out (by omega) _ _) (by omega) _ _) (by omega) _ _) (by omega) _ _) (by omega) _ _⟩

end Go.Proofs.Ytkglnnkghillpaa
