/- Layer 3, the statements' side: which flat items are valid. Condition: the list lies in memory. -/
import Derived.Test.YtdomlnhgafielaaGreatDoorMshA
import Derived.Test.YtdomlnhgafielaaGreatDoorMshPlain
namespace Go.Proofs.YtdomlnhgafielaaGreatDoor
open Go Go.RowKit Msh

set_option maxHeartbeats 800000 in
theorem named_nil (s : ByteArray) (w : World) :
    Calls Tryz.prog 20 #[.slice none 0 0, .string s] w fun e w' => e = .returned (.int .i64 (-1)) ∧ Grew w w' := by
  go_enter Tryz.func20, Tryz.ntmps20
  go_wp2_with fail
  go_loopw [9] (fun n wr => n = .int .i64 0 ∧ Grew w wr) (fun _ _ => 0)
  case atStart => exact ⟨rfl, Grew.refl _⟩
  case round =>
    obtain ⟨rfl, g, n, rfl⟩ := hrel
    go_wp2_with fail
    go_ret
    exact ⟨rfl, (by repeat (first | exact Grew.refl _ | refine Grew.drewN ?_ _ | refine Grew.grow ?_ _ | refine Grew.alloc ?_ _ | refine Grew.drew ?_))⟩

set_option maxRecDepth 100000 in
set_option maxHeartbeats 800000 in
theorem rwide_phase (p n : Int) (s : ByteArray) (w : World) (hs : s.toList = []) (h1 : 1 ≤ n) (h2 : n ≤ 7) :
    Calls Tryz.prog 38 #[.slice none 0 0, .agg #[.int .i64 1, .int .i64 p, .int .i64 n, .string s]] w fun e w' => e = .returned (.int .i64 1) ∧ Grew w w' := by
  go_enter Tryz.func38, Tryz.ntmps38
  go_wp2_with fail
  go_ret
  exact ⟨rfl, (by repeat (first | exact Grew.refl _ | refine Grew.drewN ?_ _ | refine Grew.grow ?_ _ | refine Grew.alloc ?_ _ | refine Grew.drew ?_))⟩

set_option maxRecDepth 100000 in
set_option maxHeartbeats 800000 in
theorem rwide_phaseL (p n : Int) (s : ByteArray) (w : World) (h1 : n < 1) :
    Calls Tryz.prog 38 #[.slice none 0 0, .agg #[.int .i64 1, .int .i64 p, .int .i64 n, .string s]] w fun e w' => e = .returned (.int .i64 0) ∧ Grew w w' := by
  go_enter Tryz.func38, Tryz.ntmps38
  go_wp2_with fail
  go_ret
  exact ⟨rfl, (by repeat (first | exact Grew.refl _ | refine Grew.drewN ?_ _ | refine Grew.grow ?_ _ | refine Grew.alloc ?_ _ | refine Grew.drew ?_))⟩

set_option maxRecDepth 100000 in
set_option maxHeartbeats 800000 in
theorem rwide_phaseH (p n : Int) (s : ByteArray) (w : World) (h1 : 1 ≤ n) (h2 : 7 < n) :
    Calls Tryz.prog 38 #[.slice none 0 0, .agg #[.int .i64 1, .int .i64 p, .int .i64 n, .string s]] w fun e w' => e = .returned (.int .i64 0) ∧ Grew w w' := by
  go_enter Tryz.func38, Tryz.ntmps38
  go_wp2_with fail
  go_ret
  exact ⟨rfl, (by repeat (first | exact Grew.refl _ | refine Grew.drewN ?_ _ | refine Grew.grow ?_ _ | refine Grew.alloc ?_ _ | refine Grew.drew ?_))⟩

set_option maxRecDepth 100000 in
set_option maxHeartbeats 800000 in
theorem rwide_phaseN (p n : Int) (s : ByteArray) (w : World) (hs : ¬ s.toList = []) (h1 : 1 ≤ n) (h2 : n ≤ 7) :
    Calls Tryz.prog 38 #[.slice none 0 0, .agg #[.int .i64 1, .int .i64 p, .int .i64 n, .string s]] w fun e w' => e = .returned (.int .i64 0) ∧ Grew w w' := by
  have e1 : s.toList.isEmpty = false := by simpa using hs
  clear hs
  go_enter Tryz.func38, Tryz.ntmps38
  go_wp2_with fail
  go_ret
  exact ⟨rfl, (by repeat (first | exact Grew.refl _ | refine Grew.drewN ?_ _ | refine Grew.grow ?_ _ | refine Grew.alloc ?_ _ | refine Grew.drew ?_))⟩

set_option maxRecDepth 100000 in
set_option maxHeartbeats 800000 in
theorem rwide_two2 (p : Int) (s : ByteArray) (w : World) (hs : s.toList = []) :
    Calls Tryz.prog 38 #[.slice none 0 0, .agg #[.int .i64 2, .int .i64 p, .int .i64 0, .string s]] w fun e w' => e = .returned (.int .i64 2) ∧ Grew w w' := by
  go_enter Tryz.func38, Tryz.ntmps38
  go_wp2_with fail
  go_ret
  exact ⟨rfl, (by repeat (first | exact Grew.refl _ | refine Grew.drewN ?_ _ | refine Grew.grow ?_ _ | refine Grew.alloc ?_ _ | refine Grew.drew ?_))⟩

set_option maxRecDepth 100000 in
set_option maxHeartbeats 800000 in
theorem rwide_twoS2 (p : Int) (s : ByteArray) (w : World) (hs : ¬ s.toList = []) :
    Calls Tryz.prog 38 #[.slice none 0 0, .agg #[.int .i64 2, .int .i64 p, .int .i64 0, .string s]] w fun e w' => e = .returned (.int .i64 0) ∧ Grew w w' := by
  have e1 : s.toList.isEmpty = false := by simpa using hs
  clear hs
  go_enter Tryz.func38, Tryz.ntmps38
  go_wp2_with fail
  go_ret
  exact ⟨rfl, (by repeat (first | exact Grew.refl _ | refine Grew.drewN ?_ _ | refine Grew.grow ?_ _ | refine Grew.alloc ?_ _ | refine Grew.drew ?_))⟩

set_option maxRecDepth 100000 in
set_option maxHeartbeats 800000 in
theorem rwide_twoN2 (p n : Int) (s : ByteArray) (w : World) (hn : ¬ n = 0) :
    Calls Tryz.prog 38 #[.slice none 0 0, .agg #[.int .i64 2, .int .i64 p, .int .i64 n, .string s]] w fun e w' => e = .returned (.int .i64 0) ∧ Grew w w' := by
  have e1 : (n == 0) = false := by simpa using hn
  clear hn
  go_enter Tryz.func38, Tryz.ntmps38
  go_wp2_with fail
  go_ret
  exact ⟨rfl, (by repeat (first | exact Grew.refl _ | refine Grew.drewN ?_ _ | refine Grew.grow ?_ _ | refine Grew.alloc ?_ _ | refine Grew.drew ?_))⟩

set_option maxRecDepth 100000 in
set_option maxHeartbeats 800000 in
theorem rwide_two3 (p : Int) (s : ByteArray) (w : World) (hs : s.toList = []) :
    Calls Tryz.prog 38 #[.slice none 0 0, .agg #[.int .i64 3, .int .i64 p, .int .i64 0, .string s]] w fun e w' => e = .returned (.int .i64 2) ∧ Grew w w' := by
  go_enter Tryz.func38, Tryz.ntmps38
  go_wp2_with fail
  go_ret
  exact ⟨rfl, (by repeat (first | exact Grew.refl _ | refine Grew.drewN ?_ _ | refine Grew.grow ?_ _ | refine Grew.alloc ?_ _ | refine Grew.drew ?_))⟩

set_option maxRecDepth 100000 in
set_option maxHeartbeats 800000 in
theorem rwide_twoS3 (p : Int) (s : ByteArray) (w : World) (hs : ¬ s.toList = []) :
    Calls Tryz.prog 38 #[.slice none 0 0, .agg #[.int .i64 3, .int .i64 p, .int .i64 0, .string s]] w fun e w' => e = .returned (.int .i64 0) ∧ Grew w w' := by
  have e1 : s.toList.isEmpty = false := by simpa using hs
  clear hs
  go_enter Tryz.func38, Tryz.ntmps38
  go_wp2_with fail
  go_ret
  exact ⟨rfl, (by repeat (first | exact Grew.refl _ | refine Grew.drewN ?_ _ | refine Grew.grow ?_ _ | refine Grew.alloc ?_ _ | refine Grew.drew ?_))⟩

set_option maxRecDepth 100000 in
set_option maxHeartbeats 800000 in
theorem rwide_twoN3 (p n : Int) (s : ByteArray) (w : World) (hn : ¬ n = 0) :
    Calls Tryz.prog 38 #[.slice none 0 0, .agg #[.int .i64 3, .int .i64 p, .int .i64 n, .string s]] w fun e w' => e = .returned (.int .i64 0) ∧ Grew w w' := by
  have e1 : (n == 0) = false := by simpa using hn
  clear hn
  go_enter Tryz.func38, Tryz.ntmps38
  go_wp2_with fail
  go_ret
  exact ⟨rfl, (by repeat (first | exact Grew.refl _ | refine Grew.drewN ?_ _ | refine Grew.grow ?_ _ | refine Grew.alloc ?_ _ | refine Grew.drew ?_))⟩

set_option maxRecDepth 100000 in
set_option maxHeartbeats 800000 in
theorem rwide_cell (p n : Int) (s : ByteArray) (w : World)  :
    Calls Tryz.prog 38 #[.slice none 0 0, .agg #[.int .i64 4, .int .i64 p, .int .i64 n, .string s]] w fun e w' => e = .returned (.int .i64 0) ∧ Grew w w' := by
  go_enter Tryz.func38, Tryz.ntmps38
  go_wp2_with fail
  refine (named_nil _ _).mono ?_
  rintro e w' ⟨rfl, g, n', rfl⟩
  go_wp2_with fail
  go_ret
  exact ⟨rfl, (by repeat (first | exact Grew.refl _ | refine Grew.drewN ?_ _ | refine Grew.grow ?_ _ | refine Grew.alloc ?_ _ | refine Grew.drew ?_))⟩

set_option maxRecDepth 100000 in
set_option maxHeartbeats 800000 in
theorem rwide_none (kind p n : Int) (s : ByteArray) (w : World) (h1 : ¬ kind = 1) (h2 : ¬ kind = 2) (h3 : ¬ kind = 3) (h4 : ¬ kind = 4) :
    Calls Tryz.prog 38 #[.slice none 0 0, .agg #[.int .i64 kind, .int .i64 p, .int .i64 n, .string s]] w fun e w' => e = .returned (.int .i64 0) ∧ Grew w w' := by
  have k1 : (kind == 1) = false := by simpa using h1
  have k2 : (kind == 2) = false := by simpa using h2
  have k3 : (kind == 3) = false := by simpa using h3
  have k4 : (kind == 4) = false := by simpa using h4
  clear h1 h2 h3 h4
  go_enter Tryz.func38, Tryz.ntmps38
  go_wp2_with fail
  go_ret
  exact ⟨rfl, (by repeat (first | exact Grew.refl _ | refine Grew.drewN ?_ _ | refine Grew.grow ?_ _ | refine Grew.alloc ?_ _ | refine Grew.drew ?_))⟩

theorem rwide_any (kind p n : Int) (s : ByteArray) (w : World) :
    Calls Tryz.prog 38 #[.slice none 0 0, .agg #[.int .i64 kind, .int .i64 p, .int .i64 n, .string s]] w fun e w' => e = .returned (.int .i64 (wid kind n s)) ∧ Grew w w' := by
  by_cases h1 : kind = 1
  · subst h1
    by_cases hl : n < 1
    · rw [show wid 1 n s = 0 by unfold wid; split <;> first | rfl | rw [if_neg (by omega), if_neg (by omega)]]; exact rwide_phaseL p n s w hl
    by_cases hh : 7 < n
    · rw [show wid 1 n s = 0 by unfold wid; split <;> first | rfl | rw [if_neg (by omega), if_neg (by omega)]]; exact rwide_phaseH p n s w (by omega) hh
    by_cases hs : s.toList = []
    · rw [show wid 1 n s = 1 by unfold wid; rw [if_pos hs, if_pos (by omega)]]; exact rwide_phase p n s w hs (by omega) (by omega)
    · rw [show wid 1 n s = 0 by unfold wid; rw [if_neg hs]]; exact rwide_phaseN p n s w hs (by omega) (by omega)
  by_cases h2 : kind = 2
  · subst h2
    by_cases hn : n = 0
    case neg => rw [show wid 2 n s = 0 by unfold wid; split <;> first | rfl | rw [if_neg (by omega), if_neg (by omega)]]; exact rwide_twoN2 p n s w hn
    subst hn
    by_cases hs : s.toList = []
    · rw [show wid 2 0 s = 2 by unfold wid; rw [if_pos hs, if_neg (by omega), if_pos (by omega)]]; exact rwide_two2 p s w hs
    · rw [show wid 2 0 s = 0 by unfold wid; rw [if_neg hs]]; exact rwide_twoS2 p s w hs
  by_cases h3 : kind = 3
  · subst h3
    by_cases hn : n = 0
    case neg => rw [show wid 3 n s = 0 by unfold wid; split <;> first | rfl | rw [if_neg (by omega), if_neg (by omega)]]; exact rwide_twoN3 p n s w hn
    subst hn
    by_cases hs : s.toList = []
    · rw [show wid 3 0 s = 2 by unfold wid; rw [if_pos hs, if_neg (by omega), if_pos (by omega)]]; exact rwide_two3 p s w hs
    · rw [show wid 3 0 s = 0 by unfold wid; rw [if_neg hs]]; exact rwide_twoS3 p s w hs
  rw [show wid kind n s = 0 by unfold wid; split <;> first | rfl | rw [if_neg (by omega), if_neg (by omega)]]
  by_cases h4 : kind = 4
  · subst h4; exact rwide_cell p n s w
  · exact rwide_none kind p n s w h1 h2 h3 h4

set_option maxHeartbeats 800000 in
theorem placed_zero (g : Int) (x : It) (w : World)  (hW : wid x.kind x.n x.name = 0)  :
    Calls Tryz.prog 21 #[.slice none 0 0, .int .i64 g, .agg #[.int .i64 x.kind, .int .i64 x.pos, .int .i64 x.n, .string x.name]] w fun e w' => e = .returned (.bool false) ∧ Grew w w' := by
  have HV := hid fun w => rwide_any x.kind x.pos x.n x.name w
  rw [hW] at HV
  clear hW
  go_enter Tryz.func21, Tryz.ntmps21
  go_wp2_with fail
  refine (HV.out _).mono ?_
  rintro e w' ⟨rfl, g', n, rfl⟩
  go_wp2_with fail
  go_ret
  exact ⟨rfl, (by repeat (first | exact Grew.refl _ | refine Grew.drewN ?_ _ | refine Grew.grow ?_ _ | refine Grew.alloc ?_ _ | refine Grew.drew ?_))⟩

set_option maxHeartbeats 800000 in
theorem placed_one (g : Int) (x : It) (w : World) (g1 : 1 ≤ g) (g2 : g ≤ 6) (hW : wid x.kind x.n x.name = 1) (h1 : 1 ≤ x.pos) (h2 : x.pos ≤ g) :
    Calls Tryz.prog 21 #[.slice none 0 0, .int .i64 g, .agg #[.int .i64 x.kind, .int .i64 x.pos, .int .i64 x.n, .string x.name]] w fun e w' => e = .returned (.bool true) ∧ Grew w w' := by
  have HV := hid fun w => rwide_any x.kind x.pos x.n x.name w
  rw [hW] at HV
  clear hW
  go_enter Tryz.func21, Tryz.ntmps21
  go_wp2_with fail
  refine (HV.out _).mono ?_
  rintro e w' ⟨rfl, g', n, rfl⟩
  go_wp2_with fail
  go_ret
  exact ⟨rfl, (by repeat (first | exact Grew.refl _ | refine Grew.drewN ?_ _ | refine Grew.grow ?_ _ | refine Grew.alloc ?_ _ | refine Grew.drew ?_))⟩

set_option maxHeartbeats 800000 in
theorem placed_oneL (g : Int) (x : It) (w : World)  (hW : wid x.kind x.n x.name = 1) (h1 : x.pos < 1) :
    Calls Tryz.prog 21 #[.slice none 0 0, .int .i64 g, .agg #[.int .i64 x.kind, .int .i64 x.pos, .int .i64 x.n, .string x.name]] w fun e w' => e = .returned (.bool false) ∧ Grew w w' := by
  have HV := hid fun w => rwide_any x.kind x.pos x.n x.name w
  rw [hW] at HV
  clear hW
  go_enter Tryz.func21, Tryz.ntmps21
  go_wp2_with fail
  refine (HV.out _).mono ?_
  rintro e w' ⟨rfl, g', n, rfl⟩
  go_wp2_with fail
  go_ret
  exact ⟨rfl, (by repeat (first | exact Grew.refl _ | refine Grew.drewN ?_ _ | refine Grew.grow ?_ _ | refine Grew.alloc ?_ _ | refine Grew.drew ?_))⟩

set_option maxHeartbeats 800000 in
theorem placed_oneH (g : Int) (x : It) (w : World)  (hW : wid x.kind x.n x.name = 1) (h1 : 1 ≤ x.pos) (h2 : g < x.pos) :
    Calls Tryz.prog 21 #[.slice none 0 0, .int .i64 g, .agg #[.int .i64 x.kind, .int .i64 x.pos, .int .i64 x.n, .string x.name]] w fun e w' => e = .returned (.bool false) ∧ Grew w w' := by
  have HV := hid fun w => rwide_any x.kind x.pos x.n x.name w
  rw [hW] at HV
  clear hW
  go_enter Tryz.func21, Tryz.ntmps21
  go_wp2_with fail
  refine (HV.out _).mono ?_
  rintro e w' ⟨rfl, g', n, rfl⟩
  go_wp2_with fail
  go_ret
  exact ⟨rfl, (by repeat (first | exact Grew.refl _ | refine Grew.drewN ?_ _ | refine Grew.grow ?_ _ | refine Grew.alloc ?_ _ | refine Grew.drew ?_))⟩

set_option maxHeartbeats 800000 in
theorem placed_two (g : Int) (x : It) (w : World) (g1 : 1 ≤ g) (g2 : g ≤ 6) (hW : wid x.kind x.n x.name = 2) (h1 : 1 ≤ x.pos) (h2 : x.pos ≤ g) :
    Calls Tryz.prog 21 #[.slice none 0 0, .int .i64 g, .agg #[.int .i64 x.kind, .int .i64 x.pos, .int .i64 x.n, .string x.name]] w fun e w' => e = .returned (.bool (decide (x.pos ≤ g - 2 + 1))) ∧ Grew w w' := by
  have HV := hid fun w => rwide_any x.kind x.pos x.n x.name w
  rw [hW] at HV
  clear hW
  go_enter Tryz.func21, Tryz.ntmps21
  go_wp2_with fail
  refine (HV.out _).mono ?_
  rintro e w' ⟨rfl, g', n, rfl⟩
  go_wp2_with fail
  go_ret
  exact ⟨rfl, (by repeat (first | exact Grew.refl _ | refine Grew.drewN ?_ _ | refine Grew.grow ?_ _ | refine Grew.alloc ?_ _ | refine Grew.drew ?_))⟩

set_option maxHeartbeats 800000 in
theorem placed_twoL (g : Int) (x : It) (w : World)  (hW : wid x.kind x.n x.name = 2) (h1 : x.pos < 1) :
    Calls Tryz.prog 21 #[.slice none 0 0, .int .i64 g, .agg #[.int .i64 x.kind, .int .i64 x.pos, .int .i64 x.n, .string x.name]] w fun e w' => e = .returned (.bool false) ∧ Grew w w' := by
  have HV := hid fun w => rwide_any x.kind x.pos x.n x.name w
  rw [hW] at HV
  clear hW
  go_enter Tryz.func21, Tryz.ntmps21
  go_wp2_with fail
  refine (HV.out _).mono ?_
  rintro e w' ⟨rfl, g', n, rfl⟩
  go_wp2_with fail
  go_ret
  exact ⟨rfl, (by repeat (first | exact Grew.refl _ | refine Grew.drewN ?_ _ | refine Grew.grow ?_ _ | refine Grew.alloc ?_ _ | refine Grew.drew ?_))⟩

set_option maxHeartbeats 800000 in
theorem placed_twoH (g : Int) (x : It) (w : World)  (hW : wid x.kind x.n x.name = 2) (h1 : 1 ≤ x.pos) (h2 : g < x.pos) :
    Calls Tryz.prog 21 #[.slice none 0 0, .int .i64 g, .agg #[.int .i64 x.kind, .int .i64 x.pos, .int .i64 x.n, .string x.name]] w fun e w' => e = .returned (.bool false) ∧ Grew w w' := by
  have HV := hid fun w => rwide_any x.kind x.pos x.n x.name w
  rw [hW] at HV
  clear hW
  go_enter Tryz.func21, Tryz.ntmps21
  go_wp2_with fail
  refine (HV.out _).mono ?_
  rintro e w' ⟨rfl, g', n, rfl⟩
  go_wp2_with fail
  go_ret
  exact ⟨rfl, (by repeat (first | exact Grew.refl _ | refine Grew.drewN ?_ _ | refine Grew.grow ?_ _ | refine Grew.alloc ?_ _ | refine Grew.drew ?_))⟩

theorem placed_any (g : Int) (x : It) (w : World) (g1 : 1 ≤ g) (g2 : g ≤ 6) :
    Calls Tryz.prog 21 #[.slice none 0 0, .int .i64 g, .agg #[.int .i64 x.kind, .int .i64 x.pos, .int .i64 x.n, .string x.name]] w fun e w' => e = .returned (.bool (okIt g x)) ∧ Grew w w' := by
  rcases wid_cases x.kind x.n x.name with h | h | h
  · rw [show okIt g x = false by unfold okIt; rw [h]; rfl]; exact placed_zero g x w h
  · rw [show okIt g x = decide (1 ≤ x.pos ∧ x.pos ≤ g - 1 + 1) by unfold okIt; rw [h]; rfl]
    by_cases h1 : x.pos < 1
    · rw [decide_eq_false (by omega)]; exact placed_oneL g x w h h1
    by_cases h2 : g < x.pos
    · rw [decide_eq_false (by omega)]; exact placed_oneH g x w h (by omega) h2
    rw [show decide (1 ≤ x.pos ∧ x.pos ≤ g - 1 + 1) = true by rw [decide_eq_true (by omega)]]; exact placed_one g x w g1 g2 h (by omega) (by omega)
  · rw [show okIt g x = decide (1 ≤ x.pos ∧ x.pos ≤ g - 2 + 1) by unfold okIt; rw [h]; rfl]
    by_cases h1 : x.pos < 1
    · rw [decide_eq_false (by omega)]; exact placed_twoL g x w h h1
    by_cases h2 : g < x.pos
    · rw [decide_eq_false (by omega)]; exact placed_twoH g x w h (by omega) h2
    rw [show decide (1 ≤ x.pos ∧ x.pos ≤ g - 2 + 1) = decide (x.pos ≤ g - 2 + 1) by simp; omega]; exact placed_two g x w g1 g2 h (by omega) (by omega)

end Go.Proofs.YtdomlnhgafielaaGreatDoor

/- Layer 3, the statements' side: ValidItems, Asked. Condition: the list lies in memory. -/

namespace Go.Proofs.YtdomlnhgafielaaGreatDoor
open Go Go.RowKit Msh

end Go.Proofs.YtdomlnhgafielaaGreatDoor
