/- Layer 3: the width of an item among cells; which items fit. Condition: the map of cells lies in memory. -/
import Derived.Test.YtkglnnkghillpaaMshA
import Derived.Test.YtkglnnkghillpaaMshCls
import Derived.Test.YtkglnnkghillpaaNetA
namespace Go.Proofs.Ytkglnnkghillpaa
open Go Go.RowKit Amp Msh

def gdV (C : List Cl) : ByteArray → Option Value := fun s => (C.find? (hasN s)).map fun c => .int .i64 c.gd
theorem zero_int (w : World) : (zeroValue 3).run Try.prog w = .ok (.int .i64 0) w := by kernel_rfl
theorem look_gd {w : World} {b n : Nat} {C : List Cl} (h : MapV w b n (gdV C)) (s : ByteArray) (hs : s.size ≤ maxLen) :
    (Instr.lookup 95 (.map (some b)) (.string s) false).run Try.prog w = .ok (.int .i64 (gdF C s)) w := by
  rw [h.look Try.underlying95 (zero_int w) s hs false]
  unfold gdV gdF
  cases C.find? (hasN s) with
  | none => rfl
  | some c => rfl
theorem look_gd_ok {w : World} {b n : Nat} {C : List Cl} (h : MapV w b n (gdV C)) (s : ByteArray) (hs : s.size ≤ maxLen) :
    (Instr.lookup 95 (.map (some b)) (.string s) true).run Try.prog w = .ok (.tuple #[.int .i64 (gdF C s), .bool (C.find? (hasN s)).isSome]) w := by
  rw [h.look Try.underlying95 (zero_int w) s hs true]
  unfold gdV gdF
  cases C.find? (hasN s) with
  | none => rfl
  | some c => rfl

set_option maxRecDepth 100000 in
set_option maxHeartbeats 800000 in
theorem widthM_named (kind p n : Int) (s : ByteArray) (bm : Nat) (w : World) (hs : ¬ s.toList = []) (hk : ¬ kind = 4) :
    Calls Try.prog 95 #[.agg #[.int .i64 kind, .int .i64 p, .int .i64 n, .string s], .map (some bm)] w fun e w' => e = .returned (.int .i64 0) ∧ Grew w w' := by
  have e1 : (kind == 4) = false := by simpa using hk
  have e2 : (kind != 4) = true := by simpa using hk
  clear hk
  go_enter Try.func95, Try.ntmps95
  go_wp2_with fail
  go_ret
  exact ⟨rfl, (by repeat (first | exact Grew.refl _ | refine Grew.drewN ?_ _ | refine Grew.grow ?_ _ | refine Grew.alloc ?_ _ | refine Grew.drew ?_))⟩

set_option maxRecDepth 100000 in
set_option maxHeartbeats 800000 in
theorem widthM_cellN (p n : Int) (s : ByteArray) (bm : Nat) (w : World) (hn : ¬ n = 0) :
    Calls Try.prog 95 #[.agg #[.int .i64 4, .int .i64 p, .int .i64 n, .string s], .map (some bm)] w fun e w' => e = .returned (.int .i64 0) ∧ Grew w w' := by
  have e1 : (n == 0) = false := by simpa using hn
  have e2 : (n != 0) = true := by simpa using hn
  clear hn
  go_enter Try.func95, Try.ntmps95
  go_wp2_with fail
  go_ret
  exact ⟨rfl, (by repeat (first | exact Grew.refl _ | refine Grew.drewN ?_ _ | refine Grew.grow ?_ _ | refine Grew.alloc ?_ _ | refine Grew.drew ?_))⟩

set_option maxRecDepth 100000 in
set_option maxHeartbeats 800000 in
theorem widthM_phase (p n : Int) (s : ByteArray) (bm : Nat) (w : World) (hs : s.toList = []) (h1 : 1 ≤ n) (h2 : n ≤ 7) :
    Calls Try.prog 95 #[.agg #[.int .i64 1, .int .i64 p, .int .i64 n, .string s], .map (some bm)] w fun e w' => e = .returned (.int .i64 1) ∧ Grew w w' := by
  go_enter Try.func95, Try.ntmps95
  go_wp2_with fail
  refine (mbtw_yes _ _ _ _ h1 h2).mono ?_
  rintro e w' ⟨rfl, g, n', rfl⟩
  go_wp2_with fail
  go_ret
  exact ⟨rfl, (by repeat (first | exact Grew.refl _ | refine Grew.drewN ?_ _ | refine Grew.grow ?_ _ | refine Grew.alloc ?_ _ | refine Grew.drew ?_))⟩

set_option maxRecDepth 100000 in
set_option maxHeartbeats 800000 in
theorem widthM_phaseL (p n : Int) (s : ByteArray) (bm : Nat) (w : World) (hs : s.toList = []) (h1 : n < 1) :
    Calls Try.prog 95 #[.agg #[.int .i64 1, .int .i64 p, .int .i64 n, .string s], .map (some bm)] w fun e w' => e = .returned (.int .i64 0) ∧ Grew w w' := by
  go_enter Try.func95, Try.ntmps95
  go_wp2_with fail
  refine (mbtw_low _ _ _ _ h1).mono ?_
  rintro e w' ⟨rfl, g, n', rfl⟩
  go_wp2_with fail
  go_ret
  exact ⟨rfl, (by repeat (first | exact Grew.refl _ | refine Grew.drewN ?_ _ | refine Grew.grow ?_ _ | refine Grew.alloc ?_ _ | refine Grew.drew ?_))⟩

set_option maxRecDepth 100000 in
set_option maxHeartbeats 800000 in
theorem widthM_phaseH (p n : Int) (s : ByteArray) (bm : Nat) (w : World) (hs : s.toList = []) (h1 : 7 < n) :
    Calls Try.prog 95 #[.agg #[.int .i64 1, .int .i64 p, .int .i64 n, .string s], .map (some bm)] w fun e w' => e = .returned (.int .i64 0) ∧ Grew w w' := by
  go_enter Try.func95, Try.ntmps95
  go_wp2_with fail
  refine (mbtw_high _ _ _ _ h1).mono ?_
  rintro e w' ⟨rfl, g, n', rfl⟩
  go_wp2_with fail
  go_ret
  exact ⟨rfl, (by repeat (first | exact Grew.refl _ | refine Grew.drewN ?_ _ | refine Grew.grow ?_ _ | refine Grew.alloc ?_ _ | refine Grew.drew ?_))⟩

set_option maxRecDepth 100000 in
set_option maxHeartbeats 800000 in
theorem widthM_two2 (p : Int) (s : ByteArray) (bm : Nat) (w : World) (hs : s.toList = []) :
    Calls Try.prog 95 #[.agg #[.int .i64 2, .int .i64 p, .int .i64 0, .string s], .map (some bm)] w fun e w' => e = .returned (.int .i64 2) ∧ Grew w w' := by
  go_enter Try.func95, Try.ntmps95
  go_wp2_with fail
  go_ret
  exact ⟨rfl, (by repeat (first | exact Grew.refl _ | refine Grew.drewN ?_ _ | refine Grew.grow ?_ _ | refine Grew.alloc ?_ _ | refine Grew.drew ?_))⟩

set_option maxRecDepth 100000 in
set_option maxHeartbeats 800000 in
theorem widthM_two3 (p : Int) (s : ByteArray) (bm : Nat) (w : World) (hs : s.toList = []) :
    Calls Try.prog 95 #[.agg #[.int .i64 3, .int .i64 p, .int .i64 0, .string s], .map (some bm)] w fun e w' => e = .returned (.int .i64 2) ∧ Grew w w' := by
  go_enter Try.func95, Try.ntmps95
  go_wp2_with fail
  go_ret
  exact ⟨rfl, (by repeat (first | exact Grew.refl _ | refine Grew.drewN ?_ _ | refine Grew.grow ?_ _ | refine Grew.alloc ?_ _ | refine Grew.drew ?_))⟩

set_option maxRecDepth 100000 in
set_option maxHeartbeats 800000 in
theorem widthM_noneN (kind p n : Int) (s : ByteArray) (bm : Nat) (w : World) (hs : s.toList = []) (hk : ¬ kind = 1) (h4 : ¬ kind = 4) (hn : ¬ n = 0) :
    Calls Try.prog 95 #[.agg #[.int .i64 kind, .int .i64 p, .int .i64 n, .string s], .map (some bm)] w fun e w' => e = .returned (.int .i64 0) ∧ Grew w w' := by
  have e1 : (n == 0) = false := by simpa using hn
  have e2 : (n != 0) = true := by simpa using hn
  clear hn
  have k1 : (kind == 1) = false := by simpa using hk
  have m1 : (kind != 1) = true := by simpa using hk
  have k4 : (kind == 4) = false := by simpa using h4
  have m4 : (kind != 4) = true := by simpa using h4
  clear hk h4
  go_enter Try.func95, Try.ntmps95
  go_wp2_with fail
  go_ret
  exact ⟨rfl, (by repeat (first | exact Grew.refl _ | refine Grew.drewN ?_ _ | refine Grew.grow ?_ _ | refine Grew.alloc ?_ _ | refine Grew.drew ?_))⟩

set_option maxRecDepth 100000 in
set_option maxHeartbeats 800000 in
theorem widthM_none0 (kind p : Int) (s : ByteArray) (bm : Nat) (w : World) (hs : s.toList = []) (h1 : ¬ kind = 1) (h2 : ¬ kind = 2) (h3 : ¬ kind = 3) (h4 : ¬ kind = 4) :
    Calls Try.prog 95 #[.agg #[.int .i64 kind, .int .i64 p, .int .i64 0, .string s], .map (some bm)] w fun e w' => e = .returned (.int .i64 0) ∧ Grew w w' := by
  have k1 : (kind == 1) = false := by simpa using h1
  have m1 : (kind != 1) = true := by simpa using h1
  have k2 : (kind == 2) = false := by simpa using h2
  have m2 : (kind != 2) = true := by simpa using h2
  have k3 : (kind == 3) = false := by simpa using h3
  have m3 : (kind != 3) = true := by simpa using h3
  have k4 : (kind == 4) = false := by simpa using h4
  have m4 : (kind != 4) = true := by simpa using h4
  clear h1 h2 h3 h4
  go_enter Try.func95, Try.ntmps95
  go_wp2_with fail
  go_ret
  exact ⟨rfl, (by repeat (first | exact Grew.refl _ | refine Grew.drewN ?_ _ | refine Grew.grow ?_ _ | refine Grew.alloc ?_ _ | refine Grew.drew ?_))⟩

set_option maxRecDepth 100000 in
set_option maxHeartbeats 800000 in
theorem widthM_cell0 (p : Int) (s : ByteArray) (bm nn : Nat) (C : List Cl) (w : World) (hs : s.size ≤ maxLen) (hM : MapV w bm nn (gdV C)) :
    Calls Try.prog 95 #[.agg #[.int .i64 4, .int .i64 p, .int .i64 0, .string s], .map (some bm)] w fun e w' => e = .returned (.int .i64 (gdF C s)) ∧ Grew w w' := by
  have hrun := look_gd (hM.grew ((Grew.refl w).alloc (.cells #[.int .i64 4, .int .i64 p, .int .i64 0, .string s] 51))) s hs
  clear hM hs
  go_enter Try.func95, Try.ntmps95
  go_wp2_with fail
  go_ret
  exact ⟨rfl, (by repeat (first | exact Grew.refl _ | refine Grew.drewN ?_ _ | refine Grew.grow ?_ _ | refine Grew.alloc ?_ _ | refine Grew.drew ?_))⟩

theorem widthM_any (x : It) (bm nn : Nat) (C : List Cl) (w : World) (hs : x.name.size ≤ maxLen) (hM : MapV w bm nn (gdV C)) :
    Calls Try.prog 95 #[.agg #[.int .i64 x.kind, .int .i64 x.pos, .int .i64 x.n, .string x.name], .map (some bm)] w fun e w' => e = .returned (.int .i64 (wdE (gdF C) x)) ∧ Grew w w' := by
  obtain ⟨kind, p, n, s⟩ := x
  unfold wdE
  dsimp only at hs ⊢
  by_cases h4 : kind = 4
  · subst h4
    rw [if_pos rfl]
    by_cases hn : n = 0
    · subst hn; rw [if_pos rfl]; exact widthM_cell0 p s bm nn C w hs hM
    · rw [if_neg hn]; exact widthM_cellN p n s bm w hn
  rw [if_neg h4]
  unfold wid
  by_cases hs : s.toList = []
  case neg => rw [if_neg hs]; exact widthM_named kind p n s bm w hs h4
  rw [if_pos hs]
  by_cases h1 : kind = 1
  · subst h1
    by_cases hl : n < 1
    · rw [if_neg (by omega), if_neg (by omega)]; exact widthM_phaseL p n s bm w hs hl
    by_cases hh : 7 < n
    · rw [if_neg (by omega), if_neg (by omega)]; exact widthM_phaseH p n s bm w hs hh
    rw [if_pos (by omega)]; exact widthM_phase p n s bm w hs (by omega) (by omega)
  rw [if_neg (by omega)]
  by_cases hn : n = 0
  · subst hn
    by_cases h2 : kind = 2
    · subst h2; rw [if_pos (by omega)]; exact widthM_two2 p s bm w hs
    by_cases h3 : kind = 3
    · subst h3; rw [if_pos (by omega)]; exact widthM_two3 p s bm w hs
    rw [if_neg (by omega)]; exact widthM_none0 kind p s bm w hs h1 h2 h3 h4
  · rw [if_neg (by omega)]; exact widthM_noneN kind p n s bm w hs h1 h4 hn

set_option maxHeartbeats 800000 in
theorem fitM_any (g : Int) (x : It) (bc bn : Nat) (w : World) (bm nn : Nat) (C : List Cl) (hbc : bc < w.heap.size) (hbn : bn < w.heap.size) (hcc : w.cell? ⟨bc, 0, none⟩ = some (.map (some bm))) (hcn : w.cell? ⟨bn, 0, none⟩ = some (.int .i64 g)) (hM : MapV w bm nn (gdV C)) (hC : Gds C) (g1 : 1 ≤ g) (g2 : g ≤ 6) (hs : x.name.size ≤ maxLen) :
    Calls Try.prog 94 #[.agg #[.int .i64 x.kind, .int .i64 x.pos, .int .i64 x.n, .string x.name], .pointer (some ⟨bc, 0, none⟩), .pointer (some ⟨bn, 0, none⟩)] w fun e w' => e = .returned (.bool (!okE (gdF C) g x)) ∧ Grew w w' := by
  have HV := hid fun w' (hg : Grew w w') => widthM_any x bm nn C w' hs (hM.grew hg)
  have hr := wdE_range (gdF_range hC) x
  have HO : Hid (okE (gdF C) g x = (decide (wdE (gdF C) x ≠ 0) && decide (1 ≤ x.pos ∧ x.pos ≤ g - wdE (gdF C) x + 1))) := rfl
  obtain ⟨R, hR⟩ : ∃ R, okE (gdF C) g x = R := ⟨_, rfl⟩
  obtain ⟨W, hW⟩ : ∃ W, wdE (gdF C) x = W := ⟨_, rfl⟩
  rw [hW] at HV hr HO
  rw [hR] at HO ⊢
  obtain ⟨r1, r2⟩ := hr
  clear hR hW hM hC hs
  by_cases h0 : W = 0
  · subst h0
    have HR := hid (show R = false by rw [HO.out]; simp)
    clear r1 r2 hcn hbn g1 g2
    have hbc1 := fun m0 : Nat => Nat.lt_add_right m0 (hbc)
    have hbc2 := fun m0 m1 : Nat => Nat.lt_add_right m1 (hbc1 m0)
    have hbc3 := fun m0 m1 m2 : Nat => Nat.lt_add_right m2 (hbc2 m0 m1)
    go_enter Try.func94, Try.ntmps94
    go_wp2_with fail
    refine (HV.out _ (by repeat (first | exact Grew.refl _ | refine Grew.drewN ?_ _ | refine Grew.grow ?_ _ | refine Grew.alloc ?_ _ | refine Grew.drew ?_))).mono ?_
    rintro e w' ⟨rfl, g', n, rfl⟩
    go_wp2_with fail
    go_ret
    exact ⟨by rw [HR.out]; rfl, (by repeat (first | exact Grew.refl _ | refine Grew.drewN ?_ _ | refine Grew.grow ?_ _ | refine Grew.alloc ?_ _ | refine Grew.drew ?_))⟩
  · have e0 : (W == 0) = false := by simpa using h0
    have HR := hid (show R = decide (1 ≤ x.pos ∧ x.pos ≤ g - W + 1) by rw [HO.out, decide_eq_true h0, Bool.true_and])
    have HM := hid fun w => mbtw_any 1 x.pos (g - W + 1) w
    clear h0 HO
    have hbc1 := fun m0 : Nat => Nat.lt_add_right m0 (hbc)
    have hbc2 := fun m0 m1 : Nat => Nat.lt_add_right m1 (hbc1 m0)
    have hbc3 := fun m0 m1 m2 : Nat => Nat.lt_add_right m2 (hbc2 m0 m1)
    have hbn1 := fun m0 : Nat => Nat.lt_add_right m0 (hbn)
    have hbn2 := fun m0 m1 : Nat => Nat.lt_add_right m1 (hbn1 m0)
    have hbn3 := fun m0 m1 m2 : Nat => Nat.lt_add_right m2 (hbn2 m0 m1)
    go_enter Try.func94, Try.ntmps94
    go_wp2_with fail
    refine (HV.out _ (by repeat (first | exact Grew.refl _ | refine Grew.drewN ?_ _ | refine Grew.grow ?_ _ | refine Grew.alloc ?_ _ | refine Grew.drew ?_))).mono ?_
    rintro e w' ⟨rfl, g', n, rfl⟩
    go_wp2_with fail
    refine (HM.out _).mono ?_
    rintro e w' ⟨rfl, g3, n3, rfl⟩
    go_wp2_with fail
    go_ret
    exact ⟨by rw [HR.out, Bool.decide_and, Bool.not_and]; rfl, (by repeat (first | exact Grew.refl _ | refine Grew.drewN ?_ _ | refine Grew.grow ?_ _ | refine Grew.alloc ?_ _ | refine Grew.drew ?_))⟩

set_option maxHeartbeats 800000 in
theorem idxM_any (g : Int) (a0 : Option Addr) (cap : Nat) (l : List It) (bc bn : Nat) (w : World) (hl : l.length ≤ 9223372036854775807) (hc : Its w a0 l) (bm nn : Nat) (C : List Cl) (hbc : bc < w.heap.size) (hbn : bn < w.heap.size) (hcc : w.cell? ⟨bc, 0, none⟩ = some (.map (some bm))) (hcn : w.cell? ⟨bn, 0, none⟩ = some (.int .i64 g)) (hM : MapV w bm nn (gdV C)) (hC : Gds C) (g1 : 1 ≤ g) (g2 : g ≤ 6) (hs : ∀ x ∈ l, x.name.size ≤ maxLen) :
    Calls Try.prog 117 #[.slice a0 l.length cap, .func (.func 94) #[] #[.pointer (some ⟨bc, 0, none⟩), .pointer (some ⟨bn, 0, none⟩)]] w (IdxI (okEs (gdF C) g l) w) := by
  have HC := hid hc
  have HP := hid fun (x : It) (w' : World) (hg : Grew w w') (hx : x ∈ l) => fitM_any g x bc bn w' bm nn C (Nat.lt_of_lt_of_le hbc hg.size) (Nat.lt_of_lt_of_le hbn hg.size) ((hg.cell hbc _).trans hcc) ((hg.cell hbn _).trans hcn) (hM.grew hg) hC g1 g2 (hs x hx)
  obtain ⟨Fn, hF⟩ : ∃ F, gdF C = F := ⟨_, rfl⟩
  rw [hF] at HP ⊢
  clear hc hbc hbn hcc hcn g1 g2 hM hC hs hF
  go_enter Try.func117, Try.ntmps117
  go_wp2_with fail
  go_loopw [8] (fun n wr => ∃ i : Nat, i ≤ l.length ∧ n = .int .i64 i ∧ Hid (okEs Fn g (l.take i) = true) ∧ Grew w wr) (fun n _ => l.length - (intOf n).toNat)
  case atStart => exact ⟨0, Nat.zero_le _, rfl, rfl, Grew.refl _⟩
  case round =>
    obtain ⟨i, hi, rfl, hp, g', n, rfl⟩ := hrel
    by_cases hlt : i < l.length
    · obtain ⟨z, hz⟩ : ∃ z, l[i]? = some z := ⟨l[i], List.getElem?_eq_getElem hlt⟩
      obtain ⟨b, off, rfl, hb, c0, c1, c2, c3⟩ := HC.out.cells hz
      have hb1 := fun m0 : Nat => Nat.lt_add_right m0 (hb)
      have hb2 := fun m0 m1 : Nat => Nat.lt_add_right m1 (hb1 m0)
      have hb3 := fun m0 m1 m2 : Nat => Nat.lt_add_right m2 (hb2 m0 m1)
      have hb4 := fun m0 m1 m2 m3 : Nat => Nat.lt_add_right m3 (hb3 m0 m1 m2)
      have hb5 := fun m0 m1 m2 m3 m4 : Nat => Nat.lt_add_right m4 (hb4 m0 m1 m2 m3)
      have Hz := hid hz
      clear hz
      go_wp2_with fail
      refine (HP.out z _ (by repeat (first | exact Grew.refl _ | refine Grew.drewN ?_ _ | refine Grew.grow ?_ _ | refine Grew.alloc ?_ _ | refine Grew.drew ?_)) (List.mem_of_getElem? Hz.out)).mono ?_
      rintro e w' ⟨rfl, g1, n1, rfl⟩
      by_cases hv : okE Fn g z = true
      · rw [hv]
        have Hv := hid hv
        clear hv
        go_wp2_with fail
        go_roundw
        case rel => exact ⟨i + 1, by omega, by go_num, okEs_step Hz.out Hv.out hp.out, (by repeat (first | exact Grew.refl _ | refine Grew.drewN ?_ _ | refine Grew.grow ?_ _ | refine Grew.alloc ?_ _ | refine Grew.drew ?_))⟩
        case measure => simp [intOf]; omega
      · have Hv : Hid (okEs Fn g l = false) := okEs_cut Hz.out (by simpa using hv)
        rw [show okE Fn g z = false by simpa using hv]
        clear hv
        go_wp2_with fail
        go_ret
        exact ⟨⟨i, rfl, by rw [Hv.out]; simp⟩, (by repeat (first | exact Grew.refl _ | refine Grew.drewN ?_ _ | refine Grew.grow ?_ _ | refine Grew.alloc ?_ _ | refine Grew.drew ?_))⟩
    · obtain rfl : i = l.length := by omega
      have hp' : Hid (okEs Fn g l = true) := by have := hp.out; rw [List.take_length] at this; exact this
      clear hp
      go_wp2_with fail
      go_ret
      exact ⟨⟨-1, rfl, by rw [hp'.out]; rfl⟩, (by repeat (first | exact Grew.refl _ | refine Grew.drewN ?_ _ | refine Grew.grow ?_ _ | refine Grew.alloc ?_ _ | refine Grew.drew ?_))⟩

set_option maxHeartbeats 800000 in
theorem hasM_any (g : Int) (a0 : Option Addr) (cap : Nat) (l : List It) (bc bn : Nat) (w : World) (hl : l.length ≤ 9223372036854775807) (hc : Its w a0 l) (bm nn : Nat) (C : List Cl) (hbc : bc < w.heap.size) (hbn : bn < w.heap.size) (hcc : w.cell? ⟨bc, 0, none⟩ = some (.map (some bm))) (hcn : w.cell? ⟨bn, 0, none⟩ = some (.int .i64 g)) (hM : MapV w bm nn (gdV C)) (hC : Gds C) (g1 : 1 ≤ g) (g2 : g ≤ 6) (hs : ∀ x ∈ l, x.name.size ≤ maxLen) :
    Calls Try.prog 93 #[.slice a0 l.length cap, .func (.func 94) #[] #[.pointer (some ⟨bc, 0, none⟩), .pointer (some ⟨bn, 0, none⟩)]] w fun e w' => e = .returned (.bool (!okEs (gdF C) g l)) ∧ Grew w w' := by
  have HI := hid fun w' (hg : Grew w w') => idxM_any g a0 cap l bc bn w' hl (hc.grew hg) bm nn C (Nat.lt_of_lt_of_le hbc hg.size) (Nat.lt_of_lt_of_le hbn hg.size) ((hg.cell hbc _).trans hcc) ((hg.cell hbn _).trans hcn) (hM.grew hg) hC g1 g2 hs
  clear hc hbc hbn hcc hcn g1 g2 hM hC hs
  go_enter Try.func93, Try.ntmps93
  go_wp2_with fail
  refine (HI.out _ (by repeat (first | exact Grew.refl _ | refine Grew.drewN ?_ _ | refine Grew.grow ?_ _ | refine Grew.alloc ?_ _ | refine Grew.drew ?_))).mono ?_
  rintro e w' ⟨⟨r, rfl, hr⟩, g', n, rfl⟩
  have HR := hid hr
  clear hr
  go_wp2_with fail
  go_ret
  exact ⟨by rw [← HR.out]; rfl, (by repeat (first | exact Grew.refl _ | refine Grew.drewN ?_ _ | refine Grew.grow ?_ _ | refine Grew.alloc ?_ _ | refine Grew.drew ?_))⟩

set_option maxHeartbeats 800000 in
theorem fitsM_any (g : Int) (a0 : Option Addr) (cap : Nat) (l : List It) (bm nn : Nat) (C : List Cl) (w : World) (hl : l.length ≤ 9223372036854775807) (hc : Its w a0 l) (hM : MapV w bm nn (gdV C)) (hC : Gds C) (g1 : 1 ≤ g) (g2 : g ≤ 6) (hs : ∀ x ∈ l, x.name.size ≤ maxLen) :
    Calls Try.prog 62 #[.int .i64 g, .slice a0 l.length cap, .map (some bm)] w fun e w' => e = .returned (.bool (okEs (gdF C) g l)) ∧ Grew w w' := by
  have HI := hid fun (bc bn : Nat) w' (hg : Grew w w') h1 h2 h3 h4 => hasM_any g a0 cap l bc bn w' hl (hc.grew hg) bm nn C h1 h2 h3 h4 (hM.grew hg) hC g1 g2 hs
  clear hc hM hC hs
  go_enter Try.func62, Try.ntmps62
  go_wp2_with fail
  refine (HI.out _ _ _ (by repeat (first | exact Grew.refl _ | refine Grew.drewN ?_ _ | refine Grew.grow ?_ _ | refine Grew.alloc ?_ _ | refine Grew.drew ?_)) (by simp <;> omega) (by simp <;> omega) (by simp [go_sem]) (by simp [go_sem])).mono ?_
  rintro e w' ⟨rfl, g', n, rfl⟩
  go_wp2_with fail
  go_ret
  exact ⟨by simp, (by repeat (first | exact Grew.refl _ | refine Grew.drewN ?_ _ | refine Grew.grow ?_ _ | refine Grew.alloc ?_ _ | refine Grew.drew ?_))⟩

end Go.Proofs.Ytkglnnkghillpaa
