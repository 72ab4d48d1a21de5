/- Layer 3: the matrix of an item on its own guides. Condition: it is one. -/
import Derived.Test.YtkglnnkghillpaaMshJ
import Derived.Test.YtkglnnkghillpaaRegion
import Derived.Test.YtkglnnkghillpaaAmpK


namespace Go.Proofs.Ytkglnnkghillpaa
open Go Go.RowKit Amp Msh

theorem OwnN.lit {w : World} {base b : Nat} {cs : Array Value} {l : List Num} (hb : w.heap[b]? = some (.cells cs 53)) (hc : cs.toList = numsCells l) (hl : l.length ≤ maxLen) (hbase : base ≤ b) : OwnN w base (some ⟨b, 0, none⟩) l.length l := by
  have hs : cs.size = l.length * 5 := by rw [← numsCells_length, ← hc]; simp
  refine ⟨numsCells_length l, .inr ⟨b, l.length, cs, rfl, hbase, hb, Nat.le_refl _, hl, hs, ?_⟩⟩
  rw [hc, List.take_of_length_le (by rw [numsCells_length]; exact Nat.le_refl _)]
theorem blk_past {w : World} {o : Obj} {k : Nat} (h : k < w.heap.size) : (w.alloc o).heap[k]? = w.heap[k]? := by
  show (w.heap.push o)[k]? = _
  rw [Array.getElem?_push, if_neg (by omega)]
/-- What a function answers that makes a matrix and no error. -/
def MatP (n : Nat) (l : List Num) (w : World) (e : Ending) (w' : World) : Prop := (∃ (a0 : Option Addr) (k0 : Nat), e = .returned (.agg #[.int .i64 n, .slice a0 l.length k0]) ∧ OwnN w' w.heap.size a0 k0 l) ∧ Grew w w'

theorem World.heap_drewN (w : World) (n : Nat) : (w.drewN n).heap = w.heap := rfl

set_option maxRecDepth 100000 in
set_option maxHeartbeats 800000 in
theorem own_cross (p n : Int) (s : ByteArray) (w : World) :
    Calls Try.prog 70 #[.agg #[.int .i64 3, .int .i64 p, .int .i64 n, .string s]] w (MatP 2 (ownM 3 n) w) := by
  go_enter Try.func70, Try.ntmps70
  go_wp2_with fail
  exact bodyPost_ret (v := .agg #[.int .i64 2, .slice (some ⟨_, 0, none⟩) 4 4]) (by simp [results, Try.results70, go_sem]; rfl) rfl ⟨⟨_, _, rfl, OwnN.lit (by repeat (first | exact blk_new (by simp [go_sem] <;> omega) | rw [World.heap_drewN] | rw [World.grow_heap_lt _ _ _ (by simp [go_sem] <;> omega)] | rw [blk_past (by simp [go_sem] <;> omega)])) (by rfl) (by show _ ≤ 9223372036854775807; exact Nat.le_of_ble_eq_true rfl) (by first | omega | (simp [go_sem] <;> omega))⟩, (by repeat (first | exact Grew.refl _ | refine Grew.drewN ?_ _ | refine Grew.grow ?_ _ | refine Grew.alloc ?_ _ | refine Grew.drew ?_ | refine Grew.set ?_ (Nat.le_refl _) _ _ | refine Grew.set ?_ (by omega) _ _))⟩

set_option maxRecDepth 100000 in
set_option maxHeartbeats 800000 in
theorem own_couple (p n : Int) (s : ByteArray) (w : World) :
    Calls Try.prog 70 #[.agg #[.int .i64 2, .int .i64 p, .int .i64 n, .string s]] w (MatP 2 (ownM 2 n) w) := by
  go_enter Try.func70, Try.ntmps70
  go_wp2_with fail
  exact bodyPost_ret (v := .agg #[.int .i64 2, .slice (some ⟨_, 0, none⟩) 4 4]) (by simp [results, Try.results70, go_sem]; rfl) rfl ⟨⟨_, _, rfl, OwnN.lit (by repeat (first | exact blk_new (by simp [go_sem] <;> omega) | rw [World.heap_drewN] | rw [World.grow_heap_lt _ _ _ (by simp [go_sem] <;> omega)] | rw [blk_past (by simp [go_sem] <;> omega)])) (by rfl) (by show _ ≤ 9223372036854775807; exact Nat.le_of_ble_eq_true rfl) (by first | omega | (simp [go_sem] <;> omega))⟩, (by repeat (first | exact Grew.refl _ | refine Grew.drewN ?_ _ | refine Grew.grow ?_ _ | refine Grew.alloc ?_ _ | refine Grew.drew ?_ | refine Grew.set ?_ (Nat.le_refl _) _ _ | refine Grew.set ?_ (by omega) _ _))⟩

set_option maxRecDepth 100000 in
set_option maxHeartbeats 800000 in
theorem own_phase (p n : Int) (s : ByteArray) (w : World) :
    Calls Try.prog 70 #[.agg #[.int .i64 1, .int .i64 p, .int .i64 n, .string s]] w (MatP 1 (ownM 1 n) w) := by
  have HT := hid fun w => aTurn_any ⟨1, 0, 0, 0⟩ 0 n w
  have hv : validB ⟨1, 0, 0, 0⟩ 0 = true := by decide
  rw [hv] at HT
  simp only [changeR, if_true] at HT
  obtain ⟨y, hy⟩ : ∃ y, turnC (n % 8).toNat ⟨1, 0, 0, 0⟩ = y := ⟨_, rfl⟩
  rw [hy] at HT
  have Hy := hid hy
  clear hy hv
  go_enter Try.func70, Try.ntmps70
  go_wp2_with fail
  refine (HT.out _).mono ?_
  rintro e w' ⟨rfl, g, n', rfl⟩
  go_wp2_with fail
  rw [show ownM 1 n = [⟨y, 0⟩] by unfold ownM; rw [if_pos rfl, Hy.out]]
  exact bodyPost_ret (v := .agg #[.int .i64 1, .slice (some ⟨_, 0, none⟩) 1 1]) (by simp [results, Try.results70, go_sem]; rfl) rfl ⟨⟨_, _, rfl, OwnN.lit (by repeat (first | exact blk_new (by simp [go_sem] <;> omega) | rw [World.heap_drewN] | rw [World.grow_heap_lt _ _ _ (by simp [go_sem] <;> omega)] | rw [blk_past (by simp [go_sem] <;> omega)])) (by rfl) (by show _ ≤ 9223372036854775807; exact Nat.le_of_ble_eq_true rfl) (by first | omega | (simp [go_sem] <;> omega))⟩, (by repeat (first | exact Grew.refl _ | refine Grew.drewN ?_ _ | refine Grew.grow ?_ _ | refine Grew.alloc ?_ _ | refine Grew.drew ?_ | refine Grew.set ?_ (Nat.le_refl _) _ _ | refine Grew.set ?_ (by omega) _ _))⟩

theorem own_any (x : It) (w : World) (hw : wid x.kind x.n x.name ≠ 0) :
    Calls Try.prog 70 #[.agg #[.int .i64 x.kind, .int .i64 x.pos, .int .i64 x.n, .string x.name]] w (MatP (ownW x.kind) (ownM x.kind x.n) w) := by
  obtain ⟨kind, p, n, s⟩ := x
  dsimp only at *
  unfold wid at hw
  split at hw
  case isFalse => exact absurd rfl hw
  split at hw
  case isTrue h => obtain ⟨rfl, _⟩ := h; exact own_phase p n s w
  split at hw
  case isFalse => exact absurd rfl hw
  case isTrue h =>
    obtain ⟨rfl | rfl, _⟩ := h
    · exact own_couple p n s w
    · exact own_cross p n s w

end Go.Proofs.Ytkglnnkghillpaa

/- Layer 3, the statements' side: the matrix of an item on its own guides. Condition: it is one. -/

namespace Go.Proofs.Ytkglnnkghillpaa
open Go Go.RowKit Amp Msh

set_option maxRecDepth 100000 in
set_option maxHeartbeats 800000 in
theorem of_couple (p n : Int) (s : ByteArray) (w : World) :
    Calls Try.prog 56 #[.agg #[.int .i64 2, .int .i64 p, .int .i64 n, .string s]] w (MatP 2 (ownM 2 n) w) := by
  go_enter Try.func56, Try.ntmps56
  go_wp2_with fail
  exact bodyPost_ret (v := .agg #[.int .i64 2, .slice (some ⟨_, 0, none⟩) 4 4]) (by simp [results, Try.results56, go_sem]; rfl) rfl ⟨⟨_, _, rfl, OwnN.lit (by repeat (first | exact blk_new (by simp [go_sem] <;> omega) | rw [World.heap_drewN] | rw [World.grow_heap_lt _ _ _ (by simp [go_sem] <;> omega)] | rw [blk_past (by simp [go_sem] <;> omega)])) (by rfl) (by show _ ≤ 9223372036854775807; exact Nat.le_of_ble_eq_true rfl) (by first | omega | (simp [go_sem] <;> omega))⟩, (by repeat (first | exact Grew.refl _ | refine Grew.drewN ?_ _ | refine Grew.grow ?_ _ | refine Grew.alloc ?_ _ | refine Grew.drew ?_ | refine Grew.set ?_ (Nat.le_refl _) _ _ | refine Grew.set ?_ (by omega) _ _))⟩

set_option maxRecDepth 100000 in
set_option maxHeartbeats 800000 in
theorem of_cross (p n : Int) (s : ByteArray) (w : World) :
    Calls Try.prog 56 #[.agg #[.int .i64 3, .int .i64 p, .int .i64 n, .string s]] w (MatP 2 (ownM 3 n) w) := by
  go_enter Try.func56, Try.ntmps56
  go_wp2_with fail
  refine (rnone_any _).mono ?_
  rintro e w' ⟨rfl, g0, n0, rfl⟩
  go_wp2_with fail
  refine (rone_any _).mono ?_
  rintro e w' ⟨rfl, g1, n1, rfl⟩
  go_wp2_with fail
  refine (rone_any _).mono ?_
  rintro e w' ⟨rfl, g2, n2, rfl⟩
  go_wp2_with fail
  refine (rnone_any _).mono ?_
  rintro e w' ⟨rfl, g3, n3, rfl⟩
  go_wp2_with fail
  exact bodyPost_ret (v := .agg #[.int .i64 2, .slice (some ⟨_, 0, none⟩) 4 4]) (by simp [results, Try.results56, go_sem]; rfl) rfl ⟨⟨_, _, rfl, OwnN.lit (by repeat (first | exact blk_new (by simp [go_sem] <;> omega) | rw [World.heap_drewN] | rw [World.grow_heap_lt _ _ _ (by simp [go_sem] <;> omega)] | rw [blk_past (by simp [go_sem] <;> omega)])) (by rfl) (by show _ ≤ 9223372036854775807; exact Nat.le_of_ble_eq_true rfl) (by first | omega | (simp [go_sem] <;> omega))⟩, (by repeat (first | exact Grew.refl _ | refine Grew.drewN ?_ _ | refine Grew.grow ?_ _ | refine Grew.alloc ?_ _ | refine Grew.drew ?_ | refine Grew.set ?_ (Nat.le_refl _) _ _ | refine Grew.set ?_ (by omega) _ _))⟩

set_option maxRecDepth 100000 in
set_option maxHeartbeats 8000000 in
theorem of_phase (p n : Int) (s : ByteArray) (w : World) :
    Calls Try.prog 56 #[.agg #[.int .i64 1, .int .i64 p, .int .i64 n, .string s]] w (MatP 1 (ownM 1 n) w) := by
  have HT := hid fun w => rTurn_any ⟨1, 0, 0, 0⟩ 0 n w
  have hv : validB ⟨1, 0, 0, 0⟩ 0 = true := by decide
  rw [hv] at HT
  simp only [changeR, if_true] at HT
  obtain ⟨y, hy⟩ : ∃ y, turnC (n % 8).toNat ⟨1, 0, 0, 0⟩ = y := ⟨_, rfl⟩
  rw [hy] at HT
  have Hy := hid hy
  clear hy hv
  go_enter Try.func56, Try.ntmps56
  go_wp2_with fail
  refine R4.wp_region_slots 9 (fun ix vs W => match ix with | 0 => vs 0 = .agg #[.int .i64 1, .int .i64 0, .int .i64 0, .int .i64 0, .int .i64 0] | 1 => vs 1 = .pointer (some ⟨w.heap.size, 2, none⟩) | 2 => vs 2 = .int .i64 n | 3 => vs 3 = .tuple #[.agg #[.int .i64 y.a, .int .i64 y.b, .int .i64 y.c, .int .i64 y.d, .int .i64 0], .int .i64 0] | 4 => vs 4 = .tuple #[.agg #[.int .i64 y.a, .int .i64 y.b, .int .i64 y.c, .int .i64 y.d, .int .i64 0], .int .i64 0] | 5 => vs 5 = .agg #[.int .i64 y.a, .int .i64 y.b, .int .i64 y.c, .int .i64 y.d, .int .i64 0] | 6 => vs 6 = .int .i64 0 | 7 => R4.NewBlk (w.heap.size + 4) 53 5 (vs 7) W | 8 => R4.HasBlk (.cells #[.int .i64 y.a, .int .i64 y.b, .int .i64 y.c, .int .i64 y.d, .int .i64 0] 53) (vs 7) W | _ => True) (by kernel_rfl) (by kernel_rfl) ?slst ?sldep ?slop ?slq
  case slst =>
    intro ix vs W W' h hg
    match ix, h with
    | 0, h => exact h
    | 1, h => exact h
    | 2, h => exact h
    | 3, h => exact h
    | 4, h => exact h
    | 5, h => exact h
    | 6, h => exact h
    | 7, h => exact R4.NewBlk.grew h hg
    | 8, h => exact R4.HasBlk.grew h hg
    | _ + 9, _ => trivial
  case sldep =>
    intro ix o vs vs' W hix ho h hv hn
    match ix, hix, ho, h, hv with
    | 0, _, _, h, hv => exact Eq.trans hv h
    | 1, _, _, h, hv => exact Eq.trans hv h
    | 2, _, _, h, hv => exact Eq.trans hv h
    | 3, _, _, h, hv => exact Eq.trans hv h
    | 4, _, _, h, hv => exact Eq.trans hv h
    | 5, _, _, h, hv => exact Eq.trans hv h
    | 6, _, _, h, hv => exact Eq.trans hv h
    | 7, _, _, h, hv => show R4.NewBlk (w.heap.size + 4) 53 5 (vs' 7) W; rw [hv]; exact h
    | 8, _, ho, h, hv => obtain rfl := Option.some.inj ho; show R4.HasBlk _ (vs' 7) _; rw [hn 7 (by decide)]; exact h
    | kx + 9, hix, _, _, _ => exact absurd hix (by omega)
  case slop =>
    intro ix o hix ho vs W L hg hL hn hall
    match ix, hix, ho, hL with
    | 0, _, ho, _ =>
      obtain rfl := Option.some.inj ho
      change R4.Oper.slotAt _ _ { tmps := _, defers := _ } _ _
      obtain ⟨gq, nq, rfl⟩ := hg
      go_simp
      refine (rone_any _).mono ?_
      rintro e w' ⟨rfl, gr⟩
      exact ⟨_, rfl, R4.upd_same _ _ _, .inl gr⟩
    | 1, _, ho, _ =>
      obtain rfl := Option.some.inj ho
      change R4.Oper.slotAt _ _ { tmps := _, defers := _ } _ _
      obtain ⟨gq, nq, rfl⟩ := hg
      go_simp
      exact ⟨R4.upd_same _ _ _, .inl (by repeat (first | exact Grew.refl _ | refine Grew.drewN ?_ _ | refine Grew.grow ?_ _ | refine Grew.alloc ?_ _ | refine Grew.drew ?_))⟩
    | 2, _, ho, _ =>
      obtain rfl := Option.some.inj ho
      have hn1 := (hn 1 (by decide)).2
      try dsimp only at hn1
      change R4.Oper.slotAt _ _ (Act.put _ (some 31) (vs 1)) _ _
      conv => arg 3; rw [hn1]
      clear hn1
      obtain ⟨gq, nq, rfl⟩ := hg
      go_simp
      exact ⟨R4.upd_same _ _ _, .inl (by repeat (first | exact Grew.refl _ | refine Grew.drewN ?_ _ | refine Grew.grow ?_ _ | refine Grew.alloc ?_ _ | refine Grew.drew ?_))⟩
    | 3, _, ho, _ =>
      obtain rfl := Option.some.inj ho
      have hn0 := (hn 0 (by decide)).2
      have hn2 := (hn 2 (by decide)).2
      try dsimp only at hn0 hn2
      change R4.Oper.slotAt _ _ (Act.put (Act.put _ (some 30) (vs 0)) (some 32) (vs 2)) _ _
      conv => arg 3; rw [hn0, hn2]
      clear hn0 hn2
      obtain ⟨gq, nq, rfl⟩ := hg
      go_simp
      refine (HT.out _).mono ?_
      rintro e w' ⟨rfl, gr⟩
      exact ⟨_, rfl, R4.upd_same _ _ _, .inl gr⟩
    | 4, _, ho, _ =>
      obtain rfl := Option.some.inj ho
      have hn3 := (hn 3 (by decide)).2
      try dsimp only at hn3
      change R4.Oper.slotAt _ _ (Act.put _ (some 33) (vs 3)) _ _
      conv => arg 3; rw [hn3]
      clear hn3
      obtain ⟨gq, nq, rfl⟩ := hg
      go_simp
      exact ⟨R4.upd_same _ _ _, .inl (by repeat (first | exact Grew.refl _ | refine Grew.drewN ?_ _ | refine Grew.grow ?_ _ | refine Grew.alloc ?_ _ | refine Grew.drew ?_))⟩
    | 5, _, ho, _ =>
      obtain rfl := Option.some.inj ho
      have hn4 := (hn 4 (by decide)).2
      try dsimp only at hn4
      change R4.Oper.slotAt _ _ (Act.put _ (some 29) (vs 4)) _ _
      conv => arg 3; rw [hn4]
      clear hn4
      obtain ⟨gq, nq, rfl⟩ := hg
      go_simp
      exact ⟨R4.upd_same _ _ _, .inl (by repeat (first | exact Grew.refl _ | refine Grew.drewN ?_ _ | refine Grew.grow ?_ _ | refine Grew.alloc ?_ _ | refine Grew.drew ?_))⟩
    | 6, _, ho, _ =>
      obtain rfl := Option.some.inj ho
      have hn4 := (hn 4 (by decide)).2
      try dsimp only at hn4
      change R4.Oper.slotAt _ _ (Act.put _ (some 29) (vs 4)) _ _
      conv => arg 3; rw [hn4]
      clear hn4
      obtain ⟨gq, nq, rfl⟩ := hg
      go_simp
      exact ⟨R4.upd_same _ _ _, .inl (by repeat (first | exact Grew.refl _ | refine Grew.drewN ?_ _ | refine Grew.grow ?_ _ | refine Grew.alloc ?_ _ | refine Grew.drew ?_))⟩
    | 7, _, ho, _ =>
      obtain rfl := Option.some.inj ho
      change R4.Oper.slotAt _ _ { tmps := _, defers := _ } _ _
      obtain ⟨gq, nq, rfl⟩ := hg
      go_simp
      exact ⟨by rw [R4.upd_same]; exact R4.NewBlk.fresh (cs := #[.int .i64 0, .int .i64 0, .int .i64 0, .int .i64 0, .int .i64 0]) (by simp [go_sem]) (by simp [go_sem] <;> omega) |>.grew ((Grew.refl _).drewN _), .inl ((Grew.refl _).alloc _)⟩
    | 8, _, ho, hL =>
      obtain rfl := Option.some.inj ho
      have hn7 := (hn 7 (by decide)).2
      have hn5 := (hn 5 (by decide)).2
      try dsimp only at hn7 hn5
      change R4.Oper.slotAt _ _ (Act.put (Act.put _ (some 5) (vs 7)) (some 34) (vs 5)) _ _
      conv => arg 3; rw [hn5]
      clear hn5
      obtain ⟨b, cs, hb1, hb2, hb4, hb3⟩ := hn7
      conv => arg 3; rw [hb1]
      have Hb1 := hid hb1
      clear hb1
      obtain ⟨x0, x1, x2, x3, x4, rfl⟩ : ∃ x0 x1 x2 x3 x4, cs = #[x0, x1, x2, x3, x4] := by
        obtain ⟨l⟩ := cs
        obtain ⟨x0, x1, x2, x3, x4, rfl⟩ := list5 (l := l) (by simpa using hb4)
        exact ⟨x0, x1, x2, x3, x4, rfl⟩
      have hc : W.cell? ⟨b, 0, none⟩ = some x0 ∧ W.cell? ⟨b, 1, none⟩ = some x1 ∧ W.cell? ⟨b, 2, none⟩ = some x2 ∧ W.cell? ⟨b, 3, none⟩ = some x3 ∧ W.cell? ⟨b, 4, none⟩ = some x4 := by simp [World.cell?, hb3]
      have hf : ∀ i, W.frozen? ⟨b, i, none⟩ = false := fun i => by simp [World.frozen?, hb3]
      obtain ⟨c0, c1, c2, c3, c4⟩ := hc
      have f0 := hf 0
      have f1 := hf 1
      have f2 := hf 2
      have f3 := hf 3
      have f4 := hf 4
      go_simp
      obtain ⟨s1, s2⟩ := R4.set5 hb3 (.int .i64 y.a) (.int .i64 y.b) (.int .i64 y.c) (.int .i64 y.d) (.int .i64 0)
      exact ⟨by rw [R4.upd_other _ _ (by decide)]; exact ⟨b, Hb1.out, s1⟩, .inr ⟨by repeat (first | exact hg | refine Grew.set ?_ (by simp [go_sem] <;> omega) _ _), fun jx hjx hLj => by
        have hv := hall jx hjx hLj
        match jx, hjx, hv, hLj with
        | 0, _, hv, _ => exact hv
        | 1, _, hv, _ => exact hv
        | 2, _, hv, _ => exact hv
        | 3, _, hv, _ => exact hv
        | 4, _, hv, _ => exact hv
        | 5, _, hv, _ => exact hv
        | 6, _, hv, _ => exact hv
        | 7, _, hv, _ => exact R4.NewBlk.other (show R4.NewBlk _ _ _ _ _ from hv) s2 hb3 s1 rfl
        | 8, _, hv, hLj => exact absurd hLj hL
        | kx + 9, hjx, _, _ => exact absurd hjx (by omega)⟩⟩
    | kx + 9, hix, _, _ => exact absurd hix (by omega)
  case slq =>
    intro vs W hg hn
    have hn0 := hn 0 (by decide) (by decide)
    have hn1 := hn 1 (by decide) (by decide)
    have hn2 := hn 2 (by decide) (by decide)
    have hn3 := hn 3 (by decide) (by decide)
    have hn4 := hn 4 (by decide) (by decide)
    have hn5 := hn 5 (by decide) (by decide)
    have hn6 := hn 6 (by decide) (by decide)
    have hn7 := hn 7 (by decide) (by decide)
    have hn8 := hn 8 (by decide) (by decide)
    change wpList _ _ _ _ (Act.put (Act.put (Act.put (Act.put (Act.put (Act.put (Act.put (Act.put (Act.put _ (some 30) (vs 0)) (some 31) (vs 1)) (some 32) (vs 2)) (some 33) (vs 3)) (some 29) (vs 4)) (some 34) (vs 5)) (some 35) (vs 6)) (some 5) (vs 7)) none (vs 8)) _
    rw [hn0, hn1, hn2, hn3, hn4, hn5, hn6]
    clear hn hn0 hn1 hn2 hn3 hn4 hn5 hn6
    obtain ⟨b, cs, hb1, hb2, _, _⟩ := hn7
    obtain ⟨b2, hb3, hb4⟩ := hn8
    rw [hb1] at hb3
    obtain rfl : b = b2 := by injection hb3 with h; injection h with h; injection h
    rw [hb1]
    obtain ⟨g1, g2, kk, e1, rfl⟩ := hg.at_block (by simp [go_sem] <;> omega) hb4
    subst e1
    clear hb1 hb3 hb4 hb2 hg
    simp only [Act.put, List.setIfInBounds_toArray, List.set_cons_zero, List.set_cons_succ, List.drop_succ_cons, List.drop_zero]
    go_wp2_with fail
    rw [show ownM 1 n = [⟨y, 0⟩] by unfold ownM; rw [if_pos rfl, Hy.out]]
    exact bodyPost_ret (v := .agg #[.int .i64 1, .slice (some ⟨_, 0, none⟩) 1 1]) (by simp [results, Try.results56, go_sem]; rfl) rfl ⟨⟨_, _, rfl, OwnN.lit (by repeat (first | exact blk_new (by simp [go_sem] <;> omega) | rw [World.heap_drewN] | rw [World.grow_heap_lt _ _ _ (by simp [go_sem] <;> omega)] | rw [blk_past (by simp [go_sem] <;> omega)])) (by rfl) (by show _ ≤ 9223372036854775807; exact Nat.le_of_ble_eq_true rfl) (by first | omega | (simp [go_sem] <;> omega))⟩, (by repeat (first | exact Grew.refl _ | refine Grew.drewN ?_ _ | refine Grew.grow ?_ _ | refine Grew.alloc ?_ _ | refine Grew.drew ?_ | refine Grew.set ?_ (Nat.le_refl _) _ _ | refine Grew.set ?_ (by omega) _ _))⟩

theorem of_any (x : It) (w : World) (hw : wid x.kind x.n x.name ≠ 0) :
    Calls Try.prog 56 #[.agg #[.int .i64 x.kind, .int .i64 x.pos, .int .i64 x.n, .string x.name]] w (MatP (ownW x.kind) (ownM x.kind x.n) w) := by
  obtain ⟨kind, p, n, s⟩ := x
  dsimp only at *
  unfold wid at hw
  split at hw
  case isFalse => exact absurd rfl hw
  split at hw
  case isTrue h => obtain ⟨rfl, _⟩ := h; exact of_phase p n s w
  split at hw
  case isFalse => exact absurd rfl hw
  case isTrue h =>
    obtain ⟨rfl | rfl, _⟩ := h
    · exact of_couple p n s w
    · exact of_cross p n s w

end Go.Proofs.Ytkglnnkghillpaa
