/- Layer 9, in main's ghost: Agrees of both. Condition: the test's settings lie in memory. -/
import Derived.Test.YtnceajabigdleaaPtQ3
import Derived.Test.YtnceajabigdleaaRegion
namespace Go.Proofs.Qm
open Go Go.Pt Go.RowKit

theorem fit_one (n : Int) (t : Tst) (b : Nat) (w : World) (hn : n = 2 ∨ n = 4) (hl : t.len ≤ 9223372036854775807) (hb : b < w.heap.size) (h0 : w.cell? ⟨b, 0, none⟩ = some (.slice t.a t.len t.cap)) (h1 : w.cell? ⟨b, 1, none⟩ = some (.int .i64 t.i)) (h2 : w.cell? ⟨b, 2, none⟩ = some (.int .i64 t.o)) :
    Calls prog 21 #[.int .i64 n, .slice (some ⟨b, 0, none⟩) 1 1] w fun e w' => e = .returned (.bool (tstB n t)) ∧ Grew w w' := by
  have h := fit_some n b 0 1 [t] w hn hb (by simp) (fun i z hz => by
    match i, hz with
    | 0, hz =>
      obtain rfl : t = z := by simpa using hz
      exact ⟨⟨by simpa using h0, by simpa using h1, by simpa using h2⟩, hl⟩)
  have e : (decide ([t].length ≤ 40) && tstsB n [t]) = tstB n t := by simp [tstsB]
  rw [e] at h
  exact h

set_option maxRecDepth 100000 in
set_option maxHeartbeats 8000000 in
theorem Agrees_yes (n o : Int) (N m s i b off cap : Nat) (l : List Bool) (w : World) (hn : (n = 2 ∧ N = 2 ∧ m = 2 ∧ l.length = 1) ∨ (n = 4 ∧ N = 64 ∧ m = 4 ∧ l.length = 6)) (hs : s < N) (hi : i < m) (ho : 0 ≤ o ∧ o ≤ n - 1) (hb : b < w.heap.size) (hc : BlsAt w b off l) :
    Calls prog 8 #[.int .i64 n, .int .i64 s, .agg #[.slice (some ⟨b, off, none⟩) l.length cap, .int .i64 i, .int .i64 o]] w fun e w' => e = .returned (.tuple #[.bool (((refA n (thB s l) i : Nat) : Int) == o), .int .i64 0]) ∧ Grew w w' := by
  have hn2 : n = 2 ∨ n = 4 := hn.imp (fun h => h.1) (fun h => h.1)
  have HK := hid fun w => known_any n s w
  have HF := hid fun w' B => fit_one n ⟨some ⟨b, off, none⟩, l.length, cap, i, o⟩ B w' hn2 (show l.length ≤ 9223372036854775807 by omega)
  have HT := hid fun w => tables_any n N m (by rcases hn with ⟨a, b, c, _⟩ | ⟨a, b, c, _⟩; exact .inl ⟨a, b, c⟩; exact .inr ⟨a, b, c⟩) w
  have HA := hid fun w' (hg : Grew w w') C (hT : Tab w' m N C) => answer_any (n := m) (N := N) (C := C) s i b off cap l (refA n (thB s l) i : Nat) w' (Nat.lt_of_lt_of_le hb hg.size) (by omega) (hc.grew hb hg) hT (by rcases hn with ⟨_, h2, _, h4⟩ | ⟨_, h2, _, h4⟩ <;> rw [h4, h2]) hs hi (by omega)
    (by rcases hn with ⟨h1, _, h3, _⟩ | ⟨h1, _, h3, _⟩ <;> (subst h1; subst h3; first | exact table2 s l i hi | exact table4 s l i hi))
  rw [show stB n s = true by rcases hn with ⟨rfl, rfl, _⟩ | ⟨rfl, rfl, _⟩ <;> simp [stB] <;> omega] at HK
  rw [show tstB n ⟨some ⟨b, off, none⟩, l.length, cap, i, o⟩ = true by rcases hn with ⟨rfl, _, rfl, h4⟩ | ⟨rfl, _, rfl, h4⟩ <;> simp [tstB, fitB, h4, cntZ] <;> omega] at HF
  dsimp only at HF
  have hl6 : l.length ≤ 6 := by omega
  obtain ⟨r, hr⟩ : ∃ r, refA n (thB s l) i = r := ⟨_, rfl⟩
  rw [hr] at HA ⊢
  clear hr hc hn ho
  obtain ⟨L, hL⟩ : ∃ L, l.length = L := ⟨_, rfl⟩
  rw [hL] at HF HA hl6 ⊢
  clear hL hn2
  go_enter func8, ntmps8
  go_wp2_with fail
  refine (HK.out _).mono ?_
  rintro e w' ⟨rfl, rfl⟩
  go_wp2_with fail
  refine (HF.out _ _ (by simp [go_sem]) (by simp [go_sem]) (by simp [go_sem]) (by simp [go_sem])).mono ?_
  rintro e w' ⟨rfl, g, k, rfl⟩
  go_wp2_with fail
  refine R4.wp_region_slots 11 (fun ix vs W => match ix with | 0 => vs 0 = .int .i64 n | 1 => ∃ C, vs 1 = .slice (some ⟨C, 0, none⟩) N N ∧ Tab W m N C | 2 => vs 2 = .int .i64 s | 3 => vs 3 = .pointer (some ⟨w.heap.size, 0, none⟩) | 4 => vs 4 = .slice (some ⟨b, off, none⟩) L cap | 5 => vs 5 = .pointer (some ⟨w.heap.size, 1, none⟩) | 6 => vs 6 = .int .i64 i | 7 => vs 7 = .int .i64 r | 8 => vs 8 = .pointer (some ⟨w.heap.size, 2, none⟩) | 9 => vs 9 = .int .i64 o | 10 => vs 10 = .bool ((r : Int) == o) | _ => True) (by kernel_rfl) (by kernel_rfl) ?slst ?sldep ?slop ?slq
  case slst =>
    intro ix vs W W' h hg
    match ix, h with
    | 0, h => exact h
    | 1, h => obtain ⟨C, h1, h2⟩ := h; exact ⟨C, h1, h2.grew hg⟩
    | 2, h => exact h
    | 3, h => exact h
    | 4, h => exact h
    | 5, h => exact h
    | 6, h => exact h
    | 7, h => exact h
    | 8, h => exact h
    | 9, h => exact h
    | 10, h => exact h
    | _ + 11, _ => trivial
  case sldep =>
    intro ix o vs vs' W hix ho h hv hn
    match ix, hix, ho, h, hv with
    | 0, _, _, h, hv => exact Eq.trans hv h
    | 1, _, _, h, hv => show ∃ C, vs' 1 = .slice (some ⟨C, 0, none⟩) N N ∧ Tab W m N C; rw [hv]; exact h
    | 2, _, _, h, hv => exact Eq.trans hv h
    | 3, _, _, h, hv => exact Eq.trans hv h
    | 4, _, _, h, hv => exact Eq.trans hv h
    | 5, _, _, h, hv => exact Eq.trans hv h
    | 6, _, _, h, hv => exact Eq.trans hv h
    | 7, _, _, h, hv => exact Eq.trans hv h
    | 8, _, _, h, hv => exact Eq.trans hv h
    | 9, _, _, h, hv => exact Eq.trans hv h
    | 10, _, _, h, hv => exact Eq.trans hv h
    | kx + 11, hix, _, _, _ => exact absurd hix (by omega)
  case slop =>
    intro ix o hix ho vs W L hg hL hn hall
    match ix, hix, ho, hL with
    | 0, _, ho, _ =>
      obtain rfl := Option.some.inj ho
      change R4.Oper.slotAt _ _ { tmps := _, defers := _ } _ _
      obtain ⟨gq, nq, rfl⟩ := hg
      go_simp
      exact ⟨R4.upd_same _ _ _, .inl (by repeat (first | exact Grew.refl _ | refine Grew.drewN ?_ _ | refine Grew.grow ?_ _ | refine Grew.alloc ?_ _ | refine Grew.drew ?_))⟩
    | 1, _, ho, _ =>
      obtain rfl := Option.some.inj ho
      have hn0 := (hn 0 (by decide)).2
      try dsimp only at hn0
      change R4.Oper.slotAt _ _ (Act.put _ (some 19) (vs 0)) _ _
      conv => arg 3; rw [hn0]
      clear hn0
      obtain ⟨gq, nq, rfl⟩ := hg
      go_simp
      refine (HT.out _).mono ?_
      rintro e w' ⟨C, rfl, hT, gr⟩
      exact ⟨_, rfl, by rw [R4.upd_same]; exact ⟨C, rfl, hT⟩, .inl gr⟩
    | 2, _, ho, _ =>
      obtain rfl := Option.some.inj ho
      change R4.Oper.slotAt _ _ { tmps := _, defers := _ } _ _
      obtain ⟨gq, nq, rfl⟩ := hg
      go_simp
      exact ⟨R4.upd_same _ _ _, .inl (by repeat (first | exact Grew.refl _ | refine Grew.drewN ?_ _ | refine Grew.grow ?_ _ | refine Grew.alloc ?_ _ | refine Grew.drew ?_))⟩
    | 3, _, ho, _ =>
      obtain rfl := Option.some.inj ho
      change R4.Oper.slotAt _ _ { tmps := _, defers := _ } _ _
      obtain ⟨gq, nq, rfl⟩ := hg
      go_simp
      exact ⟨R4.upd_same _ _ _, .inl (by repeat (first | exact Grew.refl _ | refine Grew.drewN ?_ _ | refine Grew.grow ?_ _ | refine Grew.alloc ?_ _ | refine Grew.drew ?_))⟩
    | 4, _, ho, _ =>
      obtain rfl := Option.some.inj ho
      have hn3 := (hn 3 (by decide)).2
      try dsimp only at hn3
      change R4.Oper.slotAt _ _ (Act.put _ (some 22) (vs 3)) _ _
      conv => arg 3; rw [hn3]
      clear hn3
      obtain ⟨gq, nq, rfl⟩ := hg
      go_simp
      exact ⟨R4.upd_same _ _ _, .inl (by repeat (first | exact Grew.refl _ | refine Grew.drewN ?_ _ | refine Grew.grow ?_ _ | refine Grew.alloc ?_ _ | refine Grew.drew ?_))⟩
    | 5, _, ho, _ =>
      obtain rfl := Option.some.inj ho
      change R4.Oper.slotAt _ _ { tmps := _, defers := _ } _ _
      obtain ⟨gq, nq, rfl⟩ := hg
      go_simp
      exact ⟨R4.upd_same _ _ _, .inl (by repeat (first | exact Grew.refl _ | refine Grew.drewN ?_ _ | refine Grew.grow ?_ _ | refine Grew.alloc ?_ _ | refine Grew.drew ?_))⟩
    | 6, _, ho, _ =>
      obtain rfl := Option.some.inj ho
      have hn5 := (hn 5 (by decide)).2
      try dsimp only at hn5
      change R4.Oper.slotAt _ _ (Act.put _ (some 24) (vs 5)) _ _
      conv => arg 3; rw [hn5]
      clear hn5
      obtain ⟨gq, nq, rfl⟩ := hg
      go_simp
      exact ⟨R4.upd_same _ _ _, .inl (by repeat (first | exact Grew.refl _ | refine Grew.drewN ?_ _ | refine Grew.grow ?_ _ | refine Grew.alloc ?_ _ | refine Grew.drew ?_))⟩
    | 7, _, ho, _ =>
      obtain rfl := Option.some.inj ho
      have hn1 := (hn 1 (by decide)).2
      have hn2 := (hn 2 (by decide)).2
      have hn4 := (hn 4 (by decide)).2
      have hn6 := (hn 6 (by decide)).2
      try dsimp only at hn1 hn2 hn4 hn6
      change R4.Oper.slotAt _ _ (Act.put (Act.put (Act.put (Act.put _ (some 20) (vs 1)) (some 21) (vs 2)) (some 23) (vs 4)) (some 25) (vs 6)) _ _
      conv => arg 3; rw [hn2, hn4, hn6]
      clear hn2 hn4 hn6
      obtain ⟨C, hC, hT⟩ := hn1
      conv => arg 3; rw [hC]
      clear hC
      have HA2 := hid (HA.out _ (Grew.trans (by repeat (first | exact Grew.refl _ | refine Grew.drewN ?_ _ | refine Grew.grow ?_ _ | refine Grew.alloc ?_ _ | refine Grew.drew ?_)) hg) C hT)
      clear hT
      go_simp
      refine HA2.out.mono ?_
      rintro e w' ⟨rfl, rfl⟩
      exact ⟨_, rfl, R4.upd_same _ _ _, .inl (Grew.refl _)⟩
    | 8, _, ho, _ =>
      obtain rfl := Option.some.inj ho
      change R4.Oper.slotAt _ _ { tmps := _, defers := _ } _ _
      obtain ⟨gq, nq, rfl⟩ := hg
      go_simp
      exact ⟨R4.upd_same _ _ _, .inl (by repeat (first | exact Grew.refl _ | refine Grew.drewN ?_ _ | refine Grew.grow ?_ _ | refine Grew.alloc ?_ _ | refine Grew.drew ?_))⟩
    | 9, _, ho, _ =>
      obtain rfl := Option.some.inj ho
      have hn8 := (hn 8 (by decide)).2
      try dsimp only at hn8
      change R4.Oper.slotAt _ _ (Act.put _ (some 27) (vs 8)) _ _
      conv => arg 3; rw [hn8]
      clear hn8
      obtain ⟨gq, nq, rfl⟩ := hg
      go_simp
      exact ⟨R4.upd_same _ _ _, .inl (by repeat (first | exact Grew.refl _ | refine Grew.drewN ?_ _ | refine Grew.grow ?_ _ | refine Grew.alloc ?_ _ | refine Grew.drew ?_))⟩
    | 10, _, ho, _ =>
      obtain rfl := Option.some.inj ho
      have hn7 := (hn 7 (by decide)).2
      have hn9 := (hn 9 (by decide)).2
      try dsimp only at hn7 hn9
      change R4.Oper.slotAt _ _ (Act.put (Act.put _ (some 26) (vs 7)) (some 28) (vs 9)) _ _
      conv => arg 3; rw [hn7, hn9]
      clear hn7 hn9
      obtain ⟨gq, nq, rfl⟩ := hg
      go_simp
      exact ⟨R4.upd_same _ _ _, .inl (by repeat (first | exact Grew.refl _ | refine Grew.drewN ?_ _ | refine Grew.grow ?_ _ | refine Grew.alloc ?_ _ | refine Grew.drew ?_))⟩
    | kx + 11, hix, _, _ => exact absurd hix (by omega)
  case slq =>
    intro vs W hg hn
    have hn0 := hn 0 (by decide) (by decide)
    have hn1 := hn 1 (by decide) (by decide)
    have hn2 := hn 2 (by decide) (by decide)
    have hn3 := hn 3 (by decide) (by decide)
    have hn4 := hn 4 (by decide) (by decide)
    have hn5 := hn 5 (by decide) (by decide)
    have hn6 := hn 6 (by decide) (by decide)
    have hn7 := hn 7 (by decide) (by decide)
    have hn8 := hn 8 (by decide) (by decide)
    have hn9 := hn 9 (by decide) (by decide)
    have hn10 := hn 10 (by decide) (by decide)
    change wpList _ _ _ _ (Act.put (Act.put (Act.put (Act.put (Act.put (Act.put (Act.put (Act.put (Act.put (Act.put (Act.put _ (some 19) (vs 0)) (some 20) (vs 1)) (some 21) (vs 2)) (some 22) (vs 3)) (some 23) (vs 4)) (some 24) (vs 5)) (some 25) (vs 6)) (some 26) (vs 7)) (some 27) (vs 8)) (some 28) (vs 9)) (some 29) (vs 10)) _
    rw [hn0, hn2, hn3, hn4, hn5, hn6, hn7, hn8, hn9, hn10]
    clear hn hn0 hn2 hn3 hn4 hn5 hn6 hn7 hn8 hn9 hn10
    simp only [Act.put, List.setIfInBounds_toArray, List.set_cons_zero, List.set_cons_succ, List.drop_succ_cons, List.drop_zero]
    have HG := hid (Grew.trans (a := w) (by repeat (first | exact Grew.refl _ | refine Grew.drewN ?_ _ | refine Grew.grow ?_ _ | refine Grew.alloc ?_ _ | refine Grew.drew ?_)) hg)
    clear hg
    go_wp2_with fail
    exact bodyPost_ret (v := .tuple #[.bool ((r : Int) == o), .int .i64 0]) (by simp [results, results8, go_sem]) rfl ⟨rfl, (by repeat (first | exact HG.out | refine Grew.drewN ?_ _ | refine Grew.grow ?_ _ | refine Grew.alloc ?_ _ | refine Grew.drew ?_))⟩
end Go.Proofs.Qm
/- Layer 9, in main's ghost: Agrees of both. Condition: the test's settings lie in memory. -/
namespace Go.Proofs.Qm
open Go Go.Pt Go.RowKit

set_option maxHeartbeats 1600000 in
theorem Agrees_no (n s i o : Int) (a : Option Addr) (len cap : Nat) (w : World) (hl : len ≤ 9223372036854775807) (h : stB n s = false) :
    Calls prog 8 #[.int .i64 n, .int .i64 s, .agg #[.slice a len cap, .int .i64 i, .int .i64 o]] w fun e w' => e = .returned (.tuple #[.bool false, .int .i64 2]) ∧ Grew w w' := by
  have HK := hid fun w => known_any n s w
  rw [h] at HK
  clear h
  go_enter func8, ntmps8
  go_wp2_with fail
  refine (HK.out _).mono ?_
  rintro e w' ⟨rfl, rfl⟩
  go_wp2_with fail
  exact bodyPost_ret (v := .tuple #[.bool false, .int .i64 2]) (by simp [results, results8, go_sem]) rfl ⟨rfl, (by repeat (first | exact Grew.refl _ | refine Grew.drewN ?_ _ | refine Grew.grow ?_ _ | refine Grew.alloc ?_ _ | refine Grew.drew ?_))⟩
set_option maxHeartbeats 1600000 in
theorem Agrees_unfit (n s i o : Int) (a : Option Addr) (len cap : Nat) (w : World) (hl : len ≤ 9223372036854775807) (h : stB n s = true) (hf : tstB n ⟨a, len, cap, i, o⟩ = false) :
    Calls prog 8 #[.int .i64 n, .int .i64 s, .agg #[.slice a len cap, .int .i64 i, .int .i64 o]] w fun e w' => e = .returned (.tuple #[.bool false, .int .i64 90]) ∧ Grew w w' := by
  have HK := hid fun w => known_any n s w
  have HF := hid fun w' B => fit_one n ⟨a, len, cap, i, o⟩ B w' (stB_n h) hl
  rw [h] at HK
  rw [hf] at HF
  dsimp only at HF
  clear h hf
  go_enter func8, ntmps8
  go_wp2_with fail
  refine (HK.out _).mono ?_
  rintro e w' ⟨rfl, rfl⟩
  go_wp2_with fail
  refine (HF.out _ _ (by simp [go_sem]) (by simp [go_sem]) (by simp [go_sem]) (by simp [go_sem])).mono ?_
  rintro e w' ⟨rfl, g, k, rfl⟩
  go_wp2_with fail
  exact bodyPost_ret (v := .tuple #[.bool false, .int .i64 90]) (by simp [results, results8, go_sem]) rfl ⟨rfl, (by repeat (first | exact Grew.refl _ | refine Grew.drewN ?_ _ | refine Grew.grow ?_ _ | refine Grew.alloc ?_ _ | refine Grew.drew ?_))⟩

set_option maxHeartbeats 1600000 in
theorem rAgrees_no (n s i o : Int) (a : Option Addr) (len cap : Nat) (w : World) (hl : len ≤ 9223372036854775807) (h : stB n s = false) :
    Calls prog 9 #[.int .i64 n, .int .i64 s, .agg #[.slice a len cap, .int .i64 i, .int .i64 o]] w fun e w' => e = .returned (.tuple #[.bool false, .int .i64 2]) ∧ Grew w w' := by
  have HK := hid fun w => rknown_any n w
  by_cases hn : n = 2 ∨ n = 4
  case neg =>
    rw [show (decide (n = 2) || decide (n = 4)) = false by rw [not_or] at hn; simp [hn.1, hn.2]] at HK
    clear h hn
    go_enter func9, ntmps9
    go_wp2_with fail
    refine (HK.out _).mono ?_
    rintro e w' ⟨rfl, rfl⟩
    go_wp2_with fail
    exact bodyPost_ret (v := .tuple #[.bool false, .int .i64 2]) (by simp [results, results9, go_sem]) rfl ⟨rfl, (by repeat (first | exact Grew.refl _ | refine Grew.drewN ?_ _ | refine Grew.grow ?_ _ | refine Grew.alloc ?_ _ | refine Grew.drew ?_))⟩
  rw [show (decide (n = 2) || decide (n = 4)) = true by rcases hn with rfl | rfl <;> simp] at HK
  have HS := hid fun w => rstate_any n s w hn
  rw [h] at HS
  clear h hn
  go_enter func9, ntmps9
  go_wp2_with fail
  refine (HK.out _).mono ?_
  rintro e w' ⟨rfl, rfl⟩
  go_wp2_with fail
  refine (HS.out _).mono ?_
  rintro e w' ⟨rfl, rfl⟩
  go_wp2_with fail
  exact bodyPost_ret (v := .tuple #[.bool false, .int .i64 2]) (by simp [results, results9, go_sem]) rfl ⟨rfl, (by repeat (first | exact Grew.refl _ | refine Grew.drewN ?_ _ | refine Grew.grow ?_ _ | refine Grew.alloc ?_ _ | refine Grew.drew ?_))⟩
set_option maxHeartbeats 1600000 in
theorem rAgrees_unfit (n s i o : Int) (a : Option Addr) (len cap : Nat) (w : World) (hl : len ≤ 9223372036854775807) (h : stB n s = true) (hf : tstB n ⟨a, len, cap, i, o⟩ = false) :
    Calls prog 9 #[.int .i64 n, .int .i64 s, .agg #[.slice a len cap, .int .i64 i, .int .i64 o]] w fun e w' => e = .returned (.tuple #[.bool false, .int .i64 90]) ∧ Grew w w' := by
  have HK := hid fun w => rknown_any n w
  have hn := stB_n h
  rw [show (decide (n = 2) || decide (n = 4)) = true by rcases hn with rfl | rfl <;> simp] at HK
  have HS := hid fun w => rstate_any n s w hn
  have HT := hid fun w => isTest_any n ⟨a, len, cap, i, o⟩ w hn hl
  rw [h] at HS
  rw [hf] at HT
  dsimp only at HT
  clear h hn hf
  go_enter func9, ntmps9
  go_wp2_with fail
  refine (HK.out _).mono ?_
  rintro e w' ⟨rfl, rfl⟩
  go_wp2_with fail
  refine (HS.out _).mono ?_
  rintro e w' ⟨rfl, rfl⟩
  go_wp2_with fail
  refine (HT.out _).mono ?_
  rintro e w' ⟨rfl, g, k, rfl⟩
  go_wp2_with fail
  exact bodyPost_ret (v := .tuple #[.bool false, .int .i64 90]) (by simp [results, results9, go_sem]) rfl ⟨rfl, (by repeat (first | exact Grew.refl _ | refine Grew.drewN ?_ _ | refine Grew.grow ?_ _ | refine Grew.alloc ?_ _ | refine Grew.drew ?_))⟩
set_option maxHeartbeats 3200000 in
theorem rAgrees_yes (n o : Int) (N m s i b off cap : Nat) (l : List Bool) (w : World) (hn : (n = 2 ∧ N = 2 ∧ m = 2 ∧ l.length = 1) ∨ (n = 4 ∧ N = 64 ∧ m = 4 ∧ l.length = 6)) (hs : s < N) (hi : i < m) (ho : 0 ≤ o ∧ o ≤ n - 1) (hb : b < w.heap.size) (hc : BlsAt w b off l) :
    Calls prog 9 #[.int .i64 n, .int .i64 s, .agg #[.slice (some ⟨b, off, none⟩) l.length cap, .int .i64 i, .int .i64 o]] w fun e w' => e = .returned (.tuple #[.bool (((refA n (thB s l) i : Nat) : Int) == o), .int .i64 0]) ∧ Grew w w' := by
  have hn2 : n = 2 ∨ n = 4 := hn.imp (fun h => h.1) (fun h => h.1)
  have HK := hid fun w => rknown_any n w
  have HS := hid fun w => rstate_any n s w hn2
  have HT := hid fun w => isTest_any n ⟨some ⟨b, off, none⟩, l.length, cap, i, o⟩ w hn2 (show l.length ≤ 9223372036854775807 by omega)
  have HA := hid fun w' (hg : Grew w w') => show Calls prog 20 #[.int .i64 n, .int .i64 s, .slice (some ⟨b, off, none⟩) l.length cap, .int .i64 i] w' fun e w'' => e = .returned (.int .i64 (refA n (thB s l) i : Nat)) ∧ Grew w' w'' by
    rcases hn with ⟨rfl, rfl, rfl, h4⟩ | ⟨rfl, rfl, rfl, h4⟩
    · exact ranswer2_any s i b off cap l w' (by omega) h4 hi (Nat.lt_of_lt_of_le hb hg.size) (hc.grew hb hg)
    · exact ranswer4_any s i b off cap l w' (by omega) h4 hi (Nat.lt_of_lt_of_le hb hg.size) (hc.grew hb hg)
  rw [show (decide (n = 2) || decide (n = 4)) = true by rcases hn2 with rfl | rfl <;> simp] at HK
  rw [show stB n s = true by rcases hn with ⟨rfl, rfl, _⟩ | ⟨rfl, rfl, _⟩ <;> simp [stB] <;> omega] at HS
  rw [show tstB n ⟨some ⟨b, off, none⟩, l.length, cap, i, o⟩ = true by rcases hn with ⟨rfl, _, rfl, h4⟩ | ⟨rfl, _, rfl, h4⟩ <;> simp [tstB, fitB, h4, cntZ] <;> omega] at HT
  dsimp only at HT
  have hl6 : l.length ≤ 6 := by omega
  obtain ⟨r, hr⟩ : ∃ r, refA n (thB s l) i = r := ⟨_, rfl⟩
  rw [hr] at HA ⊢
  clear hr hc hn ho hn2
  obtain ⟨L, hL⟩ : ∃ L, l.length = L := ⟨_, rfl⟩
  rw [hL] at HT HA hl6 ⊢
  clear hL
  go_enter func9, ntmps9
  go_wp2_with fail
  refine (HK.out _).mono ?_
  rintro e w' ⟨rfl, rfl⟩
  go_wp2_with fail
  refine (HS.out _).mono ?_
  rintro e w' ⟨rfl, rfl⟩
  go_wp2_with fail
  refine (HT.out _).mono ?_
  rintro e w' ⟨rfl, g, k, rfl⟩
  go_wp2_with fail
  refine wp_region_gentle_lit (by kernel_rfl) (by kernel_rfl) ?_
  repeat (first | go_big_quiet_skip | (go_big_quiet_want; go_big_quiet_op; first | go_big_quiet_on | (apply Exists.intro; refine ⟨fun qq => ?_, ?_⟩; (focus ((first | (go_at_call 20; refine Calls.gentle_of (HA.out _ (by repeat (first | exact Grew.refl _ | refine Grew.drewN ?_ _ | refine Grew.grow ?_ _ | refine Grew.alloc ?_ _ | refine Grew.drew ?_))) ?_)); rintro _ ⟨g', n', rfl⟩; (first | exact gentle_fin_c _ _ _ _ _ | exact gentle_fin _ _ _ _ | exact gentle_fin_gc _ _ _ _ _ _ | exact gentle_fin_g _ _ _ _ _))); go_big_quiet_on)))
  refine wpQuiet_nil ?_
  rintro _ ⟨gg, ng, rfl⟩
  go_wp2_with fail
  exact bodyPost_ret (v := .tuple #[.bool ((r : Int) == o), .int .i64 0]) (by simp [results, results9, go_sem]) rfl ⟨rfl, (by repeat (first | exact Grew.refl _ | refine Grew.drewN ?_ _ | refine Grew.grow ?_ _ | refine Grew.alloc ?_ _ | refine Grew.drew ?_))⟩

/-- Agrees of the program and of the reference answer alike. -/
theorem Agrees_both (n s i o : Int) (a : Option Addr) (len cap : Nat) (l : List Bool) (w : World) (hl : len ≤ 9223372036854775807) (ht : TurnAt w a len l) :
    ∃ r : Bool × Int, (∀ w', Grew w w' → Calls prog 8 #[.int .i64 n, .int .i64 s, .agg #[.slice a len cap, .int .i64 i, .int .i64 o]] w' fun e w'' => e = .returned (.tuple #[.bool r.1, .int .i64 r.2]) ∧ Grew w' w'') ∧
      ∀ w', Grew w w' → Calls prog 9 #[.int .i64 n, .int .i64 s, .agg #[.slice a len cap, .int .i64 i, .int .i64 o]] w' fun e w'' => e = .returned (.tuple #[.bool r.1, .int .i64 r.2]) ∧ Grew w' w'' := by
  cases h : stB n s with
  | false => exact ⟨(false, 2), fun w' _ => Agrees_no n s i o a len cap w' hl h, fun w' _ => rAgrees_no n s i o a len cap w' hl h⟩
  | true =>
    cases hf : tstB n ⟨a, len, cap, i, o⟩ with
    | false => exact ⟨(false, 90), fun w' _ => Agrees_unfit n s i o a len cap w' hl h hf, fun w' _ => rAgrees_unfit n s i o a len cap w' hl h hf⟩
    | true =>
      simp only [tstB, Bool.and_eq_true, decide_eq_true_eq] at hf
      obtain ⟨hfit, ho⟩ := hf
      have hA : ansB n s len i = true := by simp [ansB, h, hfit]
      obtain ⟨rfl, ht⟩ := ht
      have hne : l ≠ [] := by rintro rfl; rcases ansB_iff.1 hA with h | h <;> (obtain ⟨_, _, _, h4, _⟩ := h; simp at h4)
      rcases ht with ht | ⟨b, off, rfl, hb, hc⟩
      · exact absurd ht hne
      have hs : ∃ S : Nat, s = S := ⟨s.toNat, by rcases ansB_iff.1 hA with h | h <;> omega⟩
      have hi : ∃ I : Nat, i = I := ⟨i.toNat, by rcases ansB_iff.1 hA with h | h <;> omega⟩
      obtain ⟨S, rfl⟩ := hs
      obtain ⟨I, rfl⟩ := hi
      have hn : ∃ N m : Nat, ((n = 2 ∧ N = 2 ∧ m = 2 ∧ l.length = 1) ∨ (n = 4 ∧ N = 64 ∧ m = 4 ∧ l.length = 6)) ∧ S < N ∧ I < m := by
        rcases ansB_iff.1 hA with ⟨h1, _, h2, h3, _, h4⟩ | ⟨h1, _, h2, h3, _, h4⟩
        · exact ⟨2, 2, .inl ⟨h1, rfl, rfl, h3⟩, by omega, by omega⟩
        · exact ⟨64, 4, .inr ⟨h1, rfl, rfl, h3⟩, by omega, by omega⟩
      obtain ⟨N, m, hn, h1, h2⟩ := hn
      exact ⟨(((refA n (thB S l) I : Nat) : Int) == o, 0), fun w' hg => Agrees_yes n o N m S I b off cap l w' hn h1 h2 ho (Nat.lt_of_lt_of_le hb hg.size) (hc.grew hb hg), fun w' hg => rAgrees_yes n o N m S I b off cap l w' hn h1 h2 ho (Nat.lt_of_lt_of_le hb hg.size) (hc.grew hb hg)⟩
end Go.Proofs.Qm
