/- Layer 3: cells by their names, the width of an item among cells, which items are placed: the reference. Condition: the cells lie in memory. -/
import Derived.Test.YtdomlnhgafielaaGreatDoorMshC
import Derived.Test.YtdomlnhgafielaaGreatDoorMshCls
import Derived.Test.YtdomlnhgafielaaGreatDoorNetA
import Derived.Test.YtdomlnhgafielaaGreatDoorNetC

namespace Go.Proofs.YtdomlnhgafielaaGreatDoor
open Go Go.RowKit Amp Msh

/-- The place of the first cell with a name, from o on; -1: there is none. -/
def nmO (q : ByteArray) : Nat → List Cl → Int
  | _, [] => -1
  | o, c :: t => if hasN q c = true then (o : Int) else nmO q (o + 1) t
theorem nmO_step {q : ByteArray} {L : List Cl} {i : Nat} {c : Cl} (h : L[i]? = some c) (o : Nat) : nmO q o (L.drop i) = if hasN q c = true then (o : Int) else nmO q (o + 1) (L.drop (i + 1)) := by
  obtain ⟨hlt, rfl⟩ := List.getElem?_eq_some_iff.1 h
  rw [List.drop_eq_getElem_cons hlt]
  rfl
theorem nmO_find {q : ByteArray} : ∀ (C : List Cl) (o : Nat), (C.find? (hasN q) = none ∧ nmO q o C = -1) ∨ ∃ (c : Cl) (j : Nat), C.find? (hasN q) = some c ∧ nmO q o C = ((o + j : Nat) : Int) ∧ C[j]? = some c
  | [], o => .inl ⟨rfl, rfl⟩
  | c :: t, o => by
    unfold nmO
    rw [List.find?_cons]
    by_cases h : hasN q c = true
    · rw [h, if_pos rfl]
      exact .inr ⟨c, 0, rfl, rfl, rfl⟩
    · rw [if_neg h, show hasN q c = false by simpa using h]
      rcases nmO_find t (o + 1) with ⟨h1, h2⟩ | ⟨d, j, h1, h2, h3⟩
      · exact .inl ⟨h1, h2⟩
      · exact .inr ⟨d, j + 1, h1, by rw [h2]; congr 1; omega, by simpa using h3⟩
theorem hasN_toList (q : ByteArray) (c : Cl) : (c.name.toList == q.toList) = hasN q c := by
  unfold hasN
  by_cases h : c.name = q
  · rw [h]; simp
  · rw [decide_eq_false h]
    cases hb : c.name.toList == q.toList with
    | false => rfl
    | true =>
      refine absurd ?_ h
      have h1 := eq_of_beq hb
      rw [ByteArray.toList_eq, ByteArray.toList_eq] at h1
      have h2 := Array.toList_inj.1 h1
      obtain ⟨x⟩ := q
      obtain ⟨⟨y⟩, _, _⟩ := c
      dsimp only at h2 ⊢
      rw [h2]

set_option maxHeartbeats 800000 in
theorem named_any (a0 : Option Addr) (cap : Nat) (C : List Cl) (q : ByteArray) (w : World) (hl : C.length ≤ 9223372036854775807) (hN : Net w a0 C) :
    Calls Tryz.prog 20 #[.slice a0 C.length cap, .string q] w fun e w' => e = .returned (.int .i64 (nmO q 0 C)) ∧ Grew w w' := by
  have HN := hid hN
  obtain ⟨R, hR⟩ : ∃ R, nmO q 0 C = R := ⟨_, rfl⟩
  rw [hR]
  have HR := hid hR
  clear hN hR
  go_enter Tryz.func20, Tryz.ntmps20
  go_wp2_with fail
  go_loopw [9] (fun v wr => ∃ i : Nat, i ≤ C.length ∧ v = .int .i64 i ∧ Hid (R = nmO q i (C.drop i)) ∧ Grew w wr) (fun v _ => C.length - (intOf v).toNat)
  case atStart => exact ⟨0, Nat.zero_le _, rfl, HR.out.symm, (by repeat (first | exact Grew.refl _ | refine Grew.drewN ?_ _ | refine Grew.grow ?_ _ | refine Grew.alloc ?_ _ | refine Grew.drew ?_))⟩
  case round =>
    obtain ⟨i, hi, rfl, HV, hg⟩ := hrel
    by_cases hlt : i < C.length
    case neg =>
      obtain rfl : i = C.length := by omega
      have hv := HV.out
      rw [List.drop_length] at hv
      have HF := hid hv
      have HG := hid hg
      clear hv hg
      go_wp2_with fail
      go_ret
      exact ⟨by rw [HF.out]; rfl, HG.out.trans (by repeat (first | exact Grew.refl _ | refine Grew.drewN ?_ _ | refine Grew.grow ?_ _ | refine Grew.alloc ?_ _ | refine Grew.drew ?_))⟩
    case pos =>
      obtain ⟨c, hc⟩ : ∃ c, C[i]? = some c := ⟨C[i], List.getElem?_eq_getElem hlt⟩
      obtain ⟨b, off, rfl, hb, c0, c1, a2, k2, c2, _⟩ := (HN.out.grew hg).cells hc
      have hv := HV.out
      rw [nmO_step hc] at hv
      have hb1' := hasN_toList q c
      have HG := hid hg
      have hb1 := fun m0 : Nat => Nat.lt_add_right m0 (hb)
      have hb2 := fun m0 m1 : Nat => Nat.lt_add_right m1 (hb1 m0)
      have hb3 := fun m0 m1 m2 : Nat => Nat.lt_add_right m2 (hb2 m0 m1)
      clear hc hg HV
      cases hh : hasN q c with
      | true =>
        rw [hh] at hb1' hv
        have HF := hid hv
        clear hv hh
        go_wp2_with fail
        go_ret
        exact ⟨by rw [HF.out]; rfl, HG.out.trans (by repeat (first | exact Grew.refl _ | refine Grew.drewN ?_ _ | refine Grew.grow ?_ _ | refine Grew.alloc ?_ _ | refine Grew.drew ?_))⟩
      | false =>
        rw [hh] at hb1' hv
        have HF := hid hv
        clear hv hh
        go_wp2_with fail
        go_roundw
        case rel => exact ⟨i + 1, by omega, by go_num, HF.out, HG.out.trans (by repeat (first | exact Grew.refl _ | refine Grew.drewN ?_ _ | refine Grew.grow ?_ _ | refine Grew.alloc ?_ _ | refine Grew.drew ?_))⟩
        case measure => simp [intOf]; omega

set_option maxRecDepth 100000 in
set_option maxHeartbeats 800000 in
theorem rwideM_phase (p n : Int) (s : ByteArray) (a0 : Option Addr) (len cap : Nat) (w : World) (hs : s.toList = []) (h1 : 1 ≤ n) (h2 : n ≤ 7) :
    Calls Tryz.prog 38 #[.slice a0 len cap, .agg #[.int .i64 1, .int .i64 p, .int .i64 n, .string s]] w fun e w' => e = .returned (.int .i64 1) ∧ Grew w w' := by
  go_enter Tryz.func38, Tryz.ntmps38
  go_wp2_with fail
  go_ret
  exact ⟨rfl, (by repeat (first | exact Grew.refl _ | refine Grew.drewN ?_ _ | refine Grew.grow ?_ _ | refine Grew.alloc ?_ _ | refine Grew.drew ?_))⟩

set_option maxRecDepth 100000 in
set_option maxHeartbeats 800000 in
theorem rwideM_phaseL (p n : Int) (s : ByteArray) (a0 : Option Addr) (len cap : Nat) (w : World) (h1 : n < 1) :
    Calls Tryz.prog 38 #[.slice a0 len cap, .agg #[.int .i64 1, .int .i64 p, .int .i64 n, .string s]] w fun e w' => e = .returned (.int .i64 0) ∧ Grew w w' := by
  go_enter Tryz.func38, Tryz.ntmps38
  go_wp2_with fail
  go_ret
  exact ⟨rfl, (by repeat (first | exact Grew.refl _ | refine Grew.drewN ?_ _ | refine Grew.grow ?_ _ | refine Grew.alloc ?_ _ | refine Grew.drew ?_))⟩

set_option maxRecDepth 100000 in
set_option maxHeartbeats 800000 in
theorem rwideM_phaseH (p n : Int) (s : ByteArray) (a0 : Option Addr) (len cap : Nat) (w : World) (h1 : 1 ≤ n) (h2 : 7 < n) :
    Calls Tryz.prog 38 #[.slice a0 len cap, .agg #[.int .i64 1, .int .i64 p, .int .i64 n, .string s]] w fun e w' => e = .returned (.int .i64 0) ∧ Grew w w' := by
  go_enter Tryz.func38, Tryz.ntmps38
  go_wp2_with fail
  go_ret
  exact ⟨rfl, (by repeat (first | exact Grew.refl _ | refine Grew.drewN ?_ _ | refine Grew.grow ?_ _ | refine Grew.alloc ?_ _ | refine Grew.drew ?_))⟩

set_option maxRecDepth 100000 in
set_option maxHeartbeats 800000 in
theorem rwideM_phaseN (p n : Int) (s : ByteArray) (a0 : Option Addr) (len cap : Nat) (w : World) (hs : ¬ s.toList = []) (h1 : 1 ≤ n) (h2 : n ≤ 7) :
    Calls Tryz.prog 38 #[.slice a0 len cap, .agg #[.int .i64 1, .int .i64 p, .int .i64 n, .string s]] w fun e w' => e = .returned (.int .i64 0) ∧ Grew w w' := by
  have e1 : s.toList.isEmpty = false := by simpa using hs
  clear hs
  go_enter Tryz.func38, Tryz.ntmps38
  go_wp2_with fail
  go_ret
  exact ⟨rfl, (by repeat (first | exact Grew.refl _ | refine Grew.drewN ?_ _ | refine Grew.grow ?_ _ | refine Grew.alloc ?_ _ | refine Grew.drew ?_))⟩

set_option maxRecDepth 100000 in
set_option maxHeartbeats 800000 in
theorem rwideM_two2 (p : Int) (s : ByteArray) (a0 : Option Addr) (len cap : Nat) (w : World) (hs : s.toList = []) :
    Calls Tryz.prog 38 #[.slice a0 len cap, .agg #[.int .i64 2, .int .i64 p, .int .i64 0, .string s]] w fun e w' => e = .returned (.int .i64 2) ∧ Grew w w' := by
  go_enter Tryz.func38, Tryz.ntmps38
  go_wp2_with fail
  go_ret
  exact ⟨rfl, (by repeat (first | exact Grew.refl _ | refine Grew.drewN ?_ _ | refine Grew.grow ?_ _ | refine Grew.alloc ?_ _ | refine Grew.drew ?_))⟩

set_option maxRecDepth 100000 in
set_option maxHeartbeats 800000 in
theorem rwideM_twoS2 (p : Int) (s : ByteArray) (a0 : Option Addr) (len cap : Nat) (w : World) (hs : ¬ s.toList = []) :
    Calls Tryz.prog 38 #[.slice a0 len cap, .agg #[.int .i64 2, .int .i64 p, .int .i64 0, .string s]] w fun e w' => e = .returned (.int .i64 0) ∧ Grew w w' := by
  have e1 : s.toList.isEmpty = false := by simpa using hs
  clear hs
  go_enter Tryz.func38, Tryz.ntmps38
  go_wp2_with fail
  go_ret
  exact ⟨rfl, (by repeat (first | exact Grew.refl _ | refine Grew.drewN ?_ _ | refine Grew.grow ?_ _ | refine Grew.alloc ?_ _ | refine Grew.drew ?_))⟩

set_option maxRecDepth 100000 in
set_option maxHeartbeats 800000 in
theorem rwideM_twoN2 (p n : Int) (s : ByteArray) (a0 : Option Addr) (len cap : Nat) (w : World) (hn : ¬ n = 0) :
    Calls Tryz.prog 38 #[.slice a0 len cap, .agg #[.int .i64 2, .int .i64 p, .int .i64 n, .string s]] w fun e w' => e = .returned (.int .i64 0) ∧ Grew w w' := by
  have e1 : (n == 0) = false := by simpa using hn
  clear hn
  go_enter Tryz.func38, Tryz.ntmps38
  go_wp2_with fail
  go_ret
  exact ⟨rfl, (by repeat (first | exact Grew.refl _ | refine Grew.drewN ?_ _ | refine Grew.grow ?_ _ | refine Grew.alloc ?_ _ | refine Grew.drew ?_))⟩

set_option maxRecDepth 100000 in
set_option maxHeartbeats 800000 in
theorem rwideM_two3 (p : Int) (s : ByteArray) (a0 : Option Addr) (len cap : Nat) (w : World) (hs : s.toList = []) :
    Calls Tryz.prog 38 #[.slice a0 len cap, .agg #[.int .i64 3, .int .i64 p, .int .i64 0, .string s]] w fun e w' => e = .returned (.int .i64 2) ∧ Grew w w' := by
  go_enter Tryz.func38, Tryz.ntmps38
  go_wp2_with fail
  go_ret
  exact ⟨rfl, (by repeat (first | exact Grew.refl _ | refine Grew.drewN ?_ _ | refine Grew.grow ?_ _ | refine Grew.alloc ?_ _ | refine Grew.drew ?_))⟩

set_option maxRecDepth 100000 in
set_option maxHeartbeats 800000 in
theorem rwideM_twoS3 (p : Int) (s : ByteArray) (a0 : Option Addr) (len cap : Nat) (w : World) (hs : ¬ s.toList = []) :
    Calls Tryz.prog 38 #[.slice a0 len cap, .agg #[.int .i64 3, .int .i64 p, .int .i64 0, .string s]] w fun e w' => e = .returned (.int .i64 0) ∧ Grew w w' := by
  have e1 : s.toList.isEmpty = false := by simpa using hs
  clear hs
  go_enter Tryz.func38, Tryz.ntmps38
  go_wp2_with fail
  go_ret
  exact ⟨rfl, (by repeat (first | exact Grew.refl _ | refine Grew.drewN ?_ _ | refine Grew.grow ?_ _ | refine Grew.alloc ?_ _ | refine Grew.drew ?_))⟩

set_option maxRecDepth 100000 in
set_option maxHeartbeats 800000 in
theorem rwideM_twoN3 (p n : Int) (s : ByteArray) (a0 : Option Addr) (len cap : Nat) (w : World) (hn : ¬ n = 0) :
    Calls Tryz.prog 38 #[.slice a0 len cap, .agg #[.int .i64 3, .int .i64 p, .int .i64 n, .string s]] w fun e w' => e = .returned (.int .i64 0) ∧ Grew w w' := by
  have e1 : (n == 0) = false := by simpa using hn
  clear hn
  go_enter Tryz.func38, Tryz.ntmps38
  go_wp2_with fail
  go_ret
  exact ⟨rfl, (by repeat (first | exact Grew.refl _ | refine Grew.drewN ?_ _ | refine Grew.grow ?_ _ | refine Grew.alloc ?_ _ | refine Grew.drew ?_))⟩

set_option maxRecDepth 100000 in
set_option maxHeartbeats 800000 in
theorem rwideM_none (kind p n : Int) (s : ByteArray) (a0 : Option Addr) (len cap : Nat) (w : World) (h1 : ¬ kind = 1) (h2 : ¬ kind = 2) (h3 : ¬ kind = 3) (h4 : ¬ kind = 4) :
    Calls Tryz.prog 38 #[.slice a0 len cap, .agg #[.int .i64 kind, .int .i64 p, .int .i64 n, .string s]] w fun e w' => e = .returned (.int .i64 0) ∧ Grew w w' := by
  have k1 : (kind == 1) = false := by simpa using h1
  have k2 : (kind == 2) = false := by simpa using h2
  have k3 : (kind == 3) = false := by simpa using h3
  have k4 : (kind == 4) = false := by simpa using h4
  clear h1 h2 h3 h4
  go_enter Tryz.func38, Tryz.ntmps38
  go_wp2_with fail
  go_ret
  exact ⟨rfl, (by repeat (first | exact Grew.refl _ | refine Grew.drewN ?_ _ | refine Grew.grow ?_ _ | refine Grew.alloc ?_ _ | refine Grew.drew ?_))⟩

set_option maxRecDepth 100000 in
set_option maxHeartbeats 800000 in
theorem rwideM_none4 (a0 : Option Addr) (cap : Nat) (C : List Cl) (w : World) (hl : C.length ≤ 9223372036854775807) (hN : Net w a0 C) (p n : Int) (s : ByteArray) (hf : C.find? (hasN s) = none) :
    Calls Tryz.prog 38 #[.slice a0 C.length cap, .agg #[.int .i64 4, .int .i64 p, .int .i64 n, .string s]] w fun e w' => e = .returned (.int .i64 0) ∧ Grew w w' := by
  have HNM := hid fun w' (hg : Grew w w') => named_any a0 cap C s w' hl (hN.grew hg)
  rw [show nmO s 0 C = -1 by rcases nmO_find (q := s) C 0 with ⟨_, h⟩ | ⟨c, j, h, _⟩; exact h; rw [hf] at h; cases h] at HNM
  clear hN hf
  go_enter Tryz.func38, Tryz.ntmps38
  go_wp2_with fail
  refine (HNM.out _ (by repeat (first | exact Grew.refl _ | refine Grew.drewN ?_ _ | refine Grew.grow ?_ _ | refine Grew.alloc ?_ _ | refine Grew.drew ?_))).mono ?_
  rintro e w' ⟨rfl, g1, n1, rfl⟩
  go_wp2_with fail
  go_ret
  exact ⟨rfl, (by repeat (first | exact Grew.refl _ | refine Grew.drewN ?_ _ | refine Grew.grow ?_ _ | refine Grew.alloc ?_ _ | refine Grew.drew ?_))⟩

set_option maxRecDepth 100000 in
set_option maxHeartbeats 800000 in
theorem rwideM_n4 (a0 : Option Addr) (cap : Nat) (C : List Cl) (w : World) (hl : C.length ≤ 9223372036854775807) (hN : Net w a0 C) (p n : Int) (s : ByteArray) (c : Cl) (hf : C.find? (hasN s) = some c) (hn : ¬ n = 0) :
    Calls Tryz.prog 38 #[.slice a0 C.length cap, .agg #[.int .i64 4, .int .i64 p, .int .i64 n, .string s]] w fun e w' => e = .returned (.int .i64 0) ∧ Grew w w' := by
  have HNM := hid fun w' (hg : Grew w w') => named_any a0 cap C s w' hl (hN.grew hg)
  obtain ⟨j, hj, hjc⟩ : ∃ j : Nat, nmO s 0 C = j ∧ C[j]? = some c := by
    rcases nmO_find (q := s) C 0 with ⟨h, _⟩ | ⟨d, j, h, h2, h3⟩
    · rw [hf] at h; cases h
    · rw [hf] at h
      obtain rfl := Option.some.inj h
      exact ⟨j, by rw [h2, Nat.zero_add], h3⟩
  rw [hj] at HNM
  have e1 : (n == 0) = false := by simpa using hn
  clear hN hf hj hjc hn
  go_enter Tryz.func38, Tryz.ntmps38
  go_wp2_with fail
  refine (HNM.out _ (by repeat (first | exact Grew.refl _ | refine Grew.drewN ?_ _ | refine Grew.grow ?_ _ | refine Grew.alloc ?_ _ | refine Grew.drew ?_))).mono ?_
  rintro e w' ⟨rfl, g1, n1, rfl⟩
  go_wp2_with fail
  go_ret
  exact ⟨rfl, (by repeat (first | exact Grew.refl _ | refine Grew.drewN ?_ _ | refine Grew.grow ?_ _ | refine Grew.alloc ?_ _ | refine Grew.drew ?_))⟩

set_option maxRecDepth 100000 in
set_option maxHeartbeats 800000 in
theorem rwideM_cell (a0 : Option Addr) (cap : Nat) (C : List Cl) (w : World) (hl : C.length ≤ 9223372036854775807) (hN : Net w a0 C) (p : Int) (s : ByteArray) (c : Cl) (hf : C.find? (hasN s) = some c) :
    Calls Tryz.prog 38 #[.slice a0 C.length cap, .agg #[.int .i64 4, .int .i64 p, .int .i64 0, .string s]] w fun e w' => e = .returned (.int .i64 c.gd) ∧ Grew w w' := by
  have HNM := hid fun w' (hg : Grew w w') => named_any a0 cap C s w' hl (hN.grew hg)
  obtain ⟨j, hj, hjc⟩ : ∃ j : Nat, nmO s 0 C = j ∧ C[j]? = some c := by
    rcases nmO_find (q := s) C 0 with ⟨h, _⟩ | ⟨d, j, h, h2, h3⟩
    · rw [hf] at h; cases h
    · rw [hf] at h
      obtain rfl := Option.some.inj h
      exact ⟨j, by rw [h2, Nat.zero_add], h3⟩
  rw [hj] at HNM
  obtain ⟨b, off, rfl, hb, c0, c1, a2, k2, c2, _⟩ := hN.cells hjc
  have hjl := (List.getElem?_eq_some_iff.1 hjc).1
  have hb1 := fun m0 : Nat => Nat.lt_add_right m0 (hb)
  have hb2 := fun m0 m1 : Nat => Nat.lt_add_right m1 (hb1 m0)
  have hb3 := fun m0 m1 m2 : Nat => Nat.lt_add_right m2 (hb2 m0 m1)
  clear hN hf hj hjc
  go_enter Tryz.func38, Tryz.ntmps38
  go_wp2_with fail
  refine (HNM.out _ (by repeat (first | exact Grew.refl _ | refine Grew.drewN ?_ _ | refine Grew.grow ?_ _ | refine Grew.alloc ?_ _ | refine Grew.drew ?_))).mono ?_
  rintro e w' ⟨rfl, g1, n1, rfl⟩
  go_wp2_with fail
  go_ret
  exact ⟨rfl, (by repeat (first | exact Grew.refl _ | refine Grew.drewN ?_ _ | refine Grew.grow ?_ _ | refine Grew.alloc ?_ _ | refine Grew.drew ?_))⟩

theorem rwideM_any (a0 : Option Addr) (cap : Nat) (C : List Cl) (w : World) (hl : C.length ≤ 9223372036854775807) (hN : Net w a0 C) (x : It) :
    Calls Tryz.prog 38 #[.slice a0 C.length cap, .agg #[.int .i64 x.kind, .int .i64 x.pos, .int .i64 x.n, .string x.name]] w fun e w' => e = .returned (.int .i64 (wdE (gdF C) x)) ∧ Grew w w' := by
  obtain ⟨kind, p, n, s⟩ := x
  unfold wdE
  dsimp only
  by_cases h4 : kind = 4
  · subst h4
    rw [if_pos rfl]
    cases hf : C.find? (hasN s) with
    | none =>
      rw [show (if n = 0 then gdF C s else 0) = 0 by unfold gdF; rw [hf]; simp]
      exact rwideM_none4 a0 cap C w hl hN p n s hf
    | some c =>
      by_cases hn : n = 0
      · subst hn
        rw [if_pos rfl, show gdF C s = c.gd by unfold gdF; rw [hf]]
        exact rwideM_cell a0 cap C w hl hN p s c hf
      · rw [if_neg hn]
        exact rwideM_n4 a0 cap C w hl hN p n s c hf hn
  rw [if_neg h4]
  by_cases h1 : kind = 1
  · subst h1
    by_cases hl : n < 1
    · rw [show wid 1 n s = 0 by unfold wid; split <;> first | rfl | rw [if_neg (by omega), if_neg (by omega)]]; exact rwideM_phaseL p n s a0 C.length cap w hl
    by_cases hh : 7 < n
    · rw [show wid 1 n s = 0 by unfold wid; split <;> first | rfl | rw [if_neg (by omega), if_neg (by omega)]]; exact rwideM_phaseH p n s a0 C.length cap w (by omega) hh
    by_cases hs : s.toList = []
    · rw [show wid 1 n s = 1 by unfold wid; rw [if_pos hs, if_pos (by omega)]]; exact rwideM_phase p n s a0 C.length cap w hs (by omega) (by omega)
    · rw [show wid 1 n s = 0 by unfold wid; rw [if_neg hs]]; exact rwideM_phaseN p n s a0 C.length cap w hs (by omega) (by omega)
  by_cases h2 : kind = 2
  · subst h2
    by_cases hn : n = 0
    case neg => rw [show wid 2 n s = 0 by unfold wid; split <;> first | rfl | rw [if_neg (by omega), if_neg (by omega)]]; exact rwideM_twoN2 p n s a0 C.length cap w hn
    subst hn
    by_cases hs : s.toList = []
    · rw [show wid 2 0 s = 2 by unfold wid; rw [if_pos hs, if_neg (by omega), if_pos (by omega)]]; exact rwideM_two2 p s a0 C.length cap w hs
    · rw [show wid 2 0 s = 0 by unfold wid; rw [if_neg hs]]; exact rwideM_twoS2 p s a0 C.length cap w hs
  by_cases h3 : kind = 3
  · subst h3
    by_cases hn : n = 0
    case neg => rw [show wid 3 n s = 0 by unfold wid; split <;> first | rfl | rw [if_neg (by omega), if_neg (by omega)]]; exact rwideM_twoN3 p n s a0 C.length cap w hn
    subst hn
    by_cases hs : s.toList = []
    · rw [show wid 3 0 s = 2 by unfold wid; rw [if_pos hs, if_neg (by omega), if_pos (by omega)]]; exact rwideM_two3 p s a0 C.length cap w hs
    · rw [show wid 3 0 s = 0 by unfold wid; rw [if_neg hs]]; exact rwideM_twoS3 p s a0 C.length cap w hs
  rw [show wid kind n s = 0 by unfold wid; split <;> first | rfl | rw [if_neg (by omega), if_neg (by omega)]]
  exact rwideM_none kind p n s a0 C.length cap w h1 h2 h3 h4

set_option maxHeartbeats 800000 in
theorem placedM_zero (a0 : Option Addr) (cap : Nat) (C : List Cl) (w : World) (hl : C.length ≤ 9223372036854775807) (hN : Net w a0 C) (g : Int) (x : It) (W : Int) (_g1 : 1 ≤ g) (_g2 : g ≤ 6) (hW : wdE (gdF C) x = W) (r1 : 0 ≤ W) (r2 : W ≤ 6) (h0 : W = 0) :
    Calls Tryz.prog 21 #[.slice a0 C.length cap, .int .i64 g, .agg #[.int .i64 x.kind, .int .i64 x.pos, .int .i64 x.n, .string x.name]] w fun e w' => e = .returned (.bool false) ∧ Grew w w' := by
  have HV := hid fun w' (hg : Grew w w') => rwideM_any a0 cap C w' hl (hN.grew hg) x
  rw [hW] at HV
  subst h0
  clear hW hN
  go_enter Tryz.func21, Tryz.ntmps21
  go_wp2_with fail
  refine (HV.out _ (by repeat (first | exact Grew.refl _ | refine Grew.drewN ?_ _ | refine Grew.grow ?_ _ | refine Grew.alloc ?_ _ | refine Grew.drew ?_))).mono ?_
  rintro e w' ⟨rfl, g', n, rfl⟩
  go_wp2_with fail
  go_ret
  exact ⟨rfl, (by repeat (first | exact Grew.refl _ | refine Grew.drewN ?_ _ | refine Grew.grow ?_ _ | refine Grew.alloc ?_ _ | refine Grew.drew ?_))⟩

set_option maxHeartbeats 800000 in
theorem placedM_low (a0 : Option Addr) (cap : Nat) (C : List Cl) (w : World) (hl : C.length ≤ 9223372036854775807) (hN : Net w a0 C) (g : Int) (x : It) (W : Int) (_g1 : 1 ≤ g) (_g2 : g ≤ 6) (hW : wdE (gdF C) x = W) (_r1 : 0 ≤ W) (_r2 : W ≤ 6) (h0 : 0 < W) (h1 : x.pos < 1) :
    Calls Tryz.prog 21 #[.slice a0 C.length cap, .int .i64 g, .agg #[.int .i64 x.kind, .int .i64 x.pos, .int .i64 x.n, .string x.name]] w fun e w' => e = .returned (.bool false) ∧ Grew w w' := by
  have HV := hid fun w' (hg : Grew w w') => rwideM_any a0 cap C w' hl (hN.grew hg) x
  rw [hW] at HV
  have f0 : decide ((0 : Int) < W) = true := decide_eq_true (by omega)
  have f1 : decide ((1 : Int) ≤ x.pos) = false := decide_eq_false (by omega)
  clear hW hN
  go_enter Tryz.func21, Tryz.ntmps21
  go_wp2_with fail
  refine (HV.out _ (by repeat (first | exact Grew.refl _ | refine Grew.drewN ?_ _ | refine Grew.grow ?_ _ | refine Grew.alloc ?_ _ | refine Grew.drew ?_))).mono ?_
  rintro e w' ⟨rfl, g', n, rfl⟩
  go_wp2_with fail
  go_ret
  exact ⟨rfl, (by repeat (first | exact Grew.refl _ | refine Grew.drewN ?_ _ | refine Grew.grow ?_ _ | refine Grew.alloc ?_ _ | refine Grew.drew ?_))⟩

set_option maxHeartbeats 800000 in
theorem placedM_high (a0 : Option Addr) (cap : Nat) (C : List Cl) (w : World) (hl : C.length ≤ 9223372036854775807) (hN : Net w a0 C) (g : Int) (x : It) (W : Int) (_g1 : 1 ≤ g) (_g2 : g ≤ 6) (hW : wdE (gdF C) x = W) (_r1 : 0 ≤ W) (_r2 : W ≤ 6) (h0 : 0 < W) (h1 : 1 ≤ x.pos) (h2 : g < x.pos) :
    Calls Tryz.prog 21 #[.slice a0 C.length cap, .int .i64 g, .agg #[.int .i64 x.kind, .int .i64 x.pos, .int .i64 x.n, .string x.name]] w fun e w' => e = .returned (.bool false) ∧ Grew w w' := by
  have HV := hid fun w' (hg : Grew w w') => rwideM_any a0 cap C w' hl (hN.grew hg) x
  rw [hW] at HV
  have f0 : decide ((0 : Int) < W) = true := decide_eq_true (by omega)
  have f1 : decide ((1 : Int) ≤ x.pos) = true := decide_eq_true (by omega)
  have f2 : decide (x.pos ≤ g) = false := decide_eq_false (by omega)
  clear hW hN
  go_enter Tryz.func21, Tryz.ntmps21
  go_wp2_with fail
  refine (HV.out _ (by repeat (first | exact Grew.refl _ | refine Grew.drewN ?_ _ | refine Grew.grow ?_ _ | refine Grew.alloc ?_ _ | refine Grew.drew ?_))).mono ?_
  rintro e w' ⟨rfl, g', n, rfl⟩
  go_wp2_with fail
  go_ret
  exact ⟨rfl, (by repeat (first | exact Grew.refl _ | refine Grew.drewN ?_ _ | refine Grew.grow ?_ _ | refine Grew.alloc ?_ _ | refine Grew.drew ?_))⟩

set_option maxHeartbeats 800000 in
theorem placedM_in (a0 : Option Addr) (cap : Nat) (C : List Cl) (w : World) (hl : C.length ≤ 9223372036854775807) (hN : Net w a0 C) (g : Int) (x : It) (W : Int) (g1 : 1 ≤ g) (g2 : g ≤ 6) (hW : wdE (gdF C) x = W) (r1 : 0 ≤ W) (r2 : W ≤ 6) (h0 : 0 < W) (h1 : 1 ≤ x.pos) (h2 : x.pos ≤ g) :
    Calls Tryz.prog 21 #[.slice a0 C.length cap, .int .i64 g, .agg #[.int .i64 x.kind, .int .i64 x.pos, .int .i64 x.n, .string x.name]] w fun e w' => e = .returned (.bool (decide (x.pos ≤ g - W + 1))) ∧ Grew w w' := by
  have HV := hid fun w' (hg : Grew w w') => rwideM_any a0 cap C w' hl (hN.grew hg) x
  rw [hW] at HV
  have f0 : decide ((0 : Int) < W) = true := decide_eq_true (by omega)
  have f1 : decide ((1 : Int) ≤ x.pos) = true := decide_eq_true (by omega)
  have f2 : decide (x.pos ≤ g) = true := decide_eq_true (by omega)
  clear hW hN
  go_enter Tryz.func21, Tryz.ntmps21
  go_wp2_with fail
  refine (HV.out _ (by repeat (first | exact Grew.refl _ | refine Grew.drewN ?_ _ | refine Grew.grow ?_ _ | refine Grew.alloc ?_ _ | refine Grew.drew ?_))).mono ?_
  rintro e w' ⟨rfl, g', n, rfl⟩
  go_wp2_with fail
  go_ret
  exact ⟨rfl, (by repeat (first | exact Grew.refl _ | refine Grew.drewN ?_ _ | refine Grew.grow ?_ _ | refine Grew.alloc ?_ _ | refine Grew.drew ?_))⟩

theorem placedM_any (a0 : Option Addr) (cap : Nat) (C : List Cl) (w : World) (hl : C.length ≤ 9223372036854775807) (hN : Net w a0 C) (hC : Gds C) (g : Int) (x : It) (g1 : 1 ≤ g) (g2 : g ≤ 6) :
    Calls Tryz.prog 21 #[.slice a0 C.length cap, .int .i64 g, .agg #[.int .i64 x.kind, .int .i64 x.pos, .int .i64 x.n, .string x.name]] w fun e w' => e = .returned (.bool (okE (gdF C) g x)) ∧ Grew w w' := by
  obtain ⟨r1, r2⟩ := wdE_range (gdF_range hC) x
  obtain ⟨W, hW⟩ : ∃ W, wdE (gdF C) x = W := ⟨_, rfl⟩
  have hO : okE (gdF C) g x = (decide (W ≠ 0) && decide (1 ≤ x.pos ∧ x.pos ≤ g - W + 1)) := by unfold okE; rw [hW]
  rw [hO]
  rw [hW] at r1 r2
  by_cases h0 : W = 0
  · rw [decide_eq_false (fun h => h h0), Bool.false_and]
    exact placedM_zero a0 cap C w hl hN g x W g1 g2 hW r1 r2 h0
  rw [decide_eq_true h0, Bool.true_and]
  by_cases h1 : x.pos < 1
  · rw [decide_eq_false (by omega)]
    exact placedM_low a0 cap C w hl hN g x W g1 g2 hW r1 r2 (by omega) h1
  by_cases h2 : g < x.pos
  · rw [decide_eq_false (by omega)]
    exact placedM_high a0 cap C w hl hN g x W g1 g2 hW r1 r2 (by omega) (by omega) h2
  rw [show decide (1 ≤ x.pos ∧ x.pos ≤ g - W + 1) = decide (x.pos ≤ g - W + 1) by rw [Bool.decide_and, decide_eq_true (by omega), Bool.true_and]]
  exact placedM_in a0 cap C w hl hN g x W g1 g2 hW r1 r2 (by omega) (by omega) (by omega)

end Go.Proofs.YtdomlnhgafielaaGreatDoor

/- Layer 3: which netlists are valid: the reference. Condition: the netlist lies in memory. -/

namespace Go.Proofs.YtdomlnhgafielaaGreatDoor
open Go Go.RowKit Amp Msh

theorem any_worldN {P : Program} {c : Code} {Q : Exit → Act → World → Prop} {a : Act} {W w : World} (g : Grew W w) (h : ∀ wL, Grew W wL → c.wp P Q a wL) : c.wp P Q a w := h _ g

set_option maxRecDepth 100000 in
set_option maxHeartbeats 4000000 in
theorem rvnet_main (a0 : Option Addr) (cap : Nat) (L : List Cl) (w : World) (hl : L.length ≤ 9223372036854775807) (hN : Net w a0 L) (hk : CsOk L) (hcap : L.length ≤ cap) (hlen : 1 ≤ L.length ∧ L.length ≤ 20) :
    Calls Tryz.prog 8 #[.slice a0 L.length cap] w fun e w' => e = .returned (.bool (vfrom [] L)) ∧ Grew w w' := by
  have HN := hid hN
  have HK := hid hk
  obtain ⟨R, hR⟩ : ∃ R, vfrom [] L = R := ⟨_, rfl⟩
  have HR := hid hR
  rw [hR]
  have hl20 : L.length ≤ 20 := hlen.2
  have d1 : decide ((L.length : Int) < 1) = false := decide_eq_false (by omega)
  have d2 : decide ((20 : Int) < L.length) = false := decide_eq_false (by omega)
  have hc0 : cap ≠ 0 := by omega
  clear hN hk hR hlen hl
  go_enter Tryz.func8, Tryz.ntmps8
  go_wp2_with fail
  go_loopw [17] (fun v wr => ∃ i : Nat, i ≤ L.length ∧ v = .int .i64 i ∧ Hid (R = vfrom (L.take i) (L.drop i)) ∧ Hid (Gds (L.take i)) ∧ Grew w wr) (fun v _ => L.length - (intOf v).toNat)
  case atStart => exact ⟨0, Nat.zero_le _, rfl, HR.out.symm, fun c hc => absurd hc (by simp), (by repeat (first | exact Grew.refl _ | refine Grew.drewN ?_ _ | refine Grew.grow ?_ _ | refine Grew.alloc ?_ _ | refine Grew.drew ?_))⟩
  case round =>
    obtain ⟨i, hi, rfl, HV, HGD, hg⟩ := hrel
    by_cases hlt : i < L.length
    case neg =>
      obtain rfl : i = L.length := by omega
      have hv := HV.out
      rw [List.drop_length] at hv
      have HF := hid hv
      have HG := hid hg
      clear hv hg
      go_wp2_with fail
      go_ret
      exact ⟨by rw [HF.out]; rfl, HG.out.trans (by repeat (first | exact Grew.refl _ | refine Grew.drewN ?_ _ | refine Grew.grow ?_ _ | refine Grew.alloc ?_ _ | refine Grew.drew ?_))⟩
    case pos =>
      obtain ⟨c, hc⟩ : ∃ c, L[i]? = some c := ⟨L[i], List.getElem?_eq_getElem hlt⟩
      obtain ⟨b, off, rfl, hb, c0, c1, a2, k2, c2, hits⟩ := (HN.out.grew hg).cells hc
      obtain ⟨k3, k4, k5⟩ := HK.out.at hc
      have hv := HV.out
      rw [vfrom_step hc] at hv
      have hvc : vcell (L.take i) c = (nameB c.name && (L.take i |>.find? (hasN c.name)).isNone && decide (1 ≤ c.gd ∧ c.gd ≤ 6) && decide (c.items.length ≤ 200) && okEs (gdF (L.take i)) c.gd c.items) := rfl
      have hti : (L.take i).length = i := by rw [List.length_take]; omega
      have HNT := hid ((HN.out.grew hg).take i)
      have HNM := hid fun w' => isName_any c.name w' k3
      have HNA := hid fun w' (hg2 : Grew wr w') => named_any (some ⟨b, off, none⟩) cap (L.take i) c.name w' (by omega) (HNT.out.grew hg2)
      have HPL := hid fun w' (x : It) (hg2 : Grew wr w') (g1 : 1 ≤ c.gd) (g2 : c.gd ≤ 6) => placedM_any (some ⟨b, off, none⟩) cap (L.take i) w' (by omega) (HNT.out.grew hg2) HGD.out c.gd x g1 g2
      rw [hti] at HNA HPL
      have hik : (i : Int) ≤ cap := by omega
      have hnm2 := nmO_find (q := c.name) (L.take i) 0
      obtain ⟨n5, hn5⟩ : ∃ n, c.items.length = n := ⟨_, rfl⟩
      obtain ⟨q, hq⟩ : ∃ q, c.name = q := ⟨_, rfl⟩
      obtain ⟨gd, hgd⟩ : ∃ q, c.gd = q := ⟨_, rfl⟩
      obtain ⟨NR, hNR⟩ : ∃ q, nmO c.name 0 (L.take i) = q := ⟨_, rfl⟩
      obtain ⟨its, hits0⟩ : ∃ l, c.items = l := ⟨_, rfl⟩
      have hC := hid (And.intro hc (And.intro hq hgd))
      rw [hNR] at HNA hnm2
      rw [hn5] at c2 hvc
      rw [hq] at HNM HNA c0 hvc hnm2
      rw [hgd] at HPL c1 hvc
      rw [hits0] at hn5 hits hvc
      have HIT := hid hits
      have HN5 := hid hn5
      have HG := hid hg
      obtain ⟨vc, hvcq⟩ : ∃ v, vcell (L.take i) c = v := ⟨_, rfl⟩
      rw [hvcq] at hv hvc
      have hF : vc = false → R = false := fun h => by rw [hv, h, Bool.false_and]
      have HFF := hid hF
      have HVV := hid hv
      obtain ⟨Fn, hFn⟩ : ∃ F, gdF (L.take i) = F := ⟨_, rfl⟩
      rw [hFn] at HPL hvc
      have HVC := hid hvc
      have hn5b : n5 ≤ 9223372036854775807 := by rw [← hn5, ← hits0]; exact k4
      have HHI := hid hi
      have hb1 := fun m0 : Nat => Nat.lt_add_right m0 (hb)
      have hb2 := fun m0 m1 : Nat => Nat.lt_add_right m1 (hb1 m0)
      have hb3 := fun m0 m1 m2 : Nat => Nat.lt_add_right m2 (hb2 m0 m1)
      clear hc hits hv hF hq hgd hFn HV hvcq hg hvc hNR hits0 hn5 hti k3 k4 k5 HK HNT HR
      cases hnm : nameB q with
      | false =>
        rw [hnm] at HNM
        have HF := hid (HFF.out (by rw [HVC.out, hnm]; rfl))
        clear hnm hnm2 HNA HPL HVC
        go_wp2_with fail
        refine wp_region_gentle_lit (by kernel_rfl) (by kernel_rfl) ?_
        repeat (first | go_big_quiet_skip | (go_big_quiet_want; go_big_quiet_op; first | go_big_quiet_on | (apply Exists.intro; refine ⟨fun qq => ?_, ?_⟩; (focus ((first | (go_at_call 19; refine Calls.gentle_of (HNM.out _) ?_)); rintro _ ⟨g', n', rfl⟩; exact ⟨⟨qq.g ++ g', qq.n + n'⟩, by rw [World.grow_drewN, World.grow_grow, World.drewN_drewN]; repeat (first | rw [List.append_assoc] | rw [Nat.add_assoc])⟩)); go_big_quiet_on)))
        refine wpQuiet_nil ?_
        rintro _ ⟨gg, ng, rfl⟩
        go_wp2_with fail
        go_ret
        exact ⟨by rw [HF.out]; rfl, HG.out.trans (by repeat (first | exact Grew.refl _ | refine Grew.drewN ?_ _ | refine Grew.grow ?_ _ | refine Grew.alloc ?_ _ | refine Grew.drew ?_))⟩
      | true =>
        have HNMB := hid hnm
        rw [hnm] at HNM
        clear hnm
        rcases hnm2 with ⟨hf1, rfl⟩ | ⟨d, j, hf1, rfl, _⟩
        case inr =>
          have HF := hid (HFF.out (by rw [HVC.out, HNMB.out, hf1]; rfl))
          clear hf1 HPL HVC
          go_wp2_with fail
          refine wp_region_gentle_lit (by kernel_rfl) (by kernel_rfl) ?_
          repeat (first | go_big_quiet_skip | (go_big_quiet_want; go_big_quiet_op; first | go_big_quiet_on | (apply Exists.intro; refine ⟨fun qq => ?_, ?_⟩; (focus ((first | (go_at_call 19; refine Calls.gentle_of (HNM.out _) ?_) | (go_at_call 20; refine Calls.gentle_of (HNA.out _ (by repeat (first | exact Grew.refl _ | refine Grew.drewN ?_ _ | refine Grew.grow ?_ _ | refine Grew.alloc ?_ _ | refine Grew.drew ?_))) ?_)); rintro _ ⟨g', n', rfl⟩; exact ⟨⟨qq.g ++ g', qq.n + n'⟩, by rw [World.grow_drewN, World.grow_grow, World.drewN_drewN]; repeat (first | rw [List.append_assoc] | rw [Nat.add_assoc])⟩)); go_big_quiet_on)))
          refine wpQuiet_nil ?_
          rintro _ ⟨gg, ng, rfl⟩
          go_wp2_with fail
          go_ret
          exact ⟨by rw [HF.out]; rfl, HG.out.trans (by repeat (first | exact Grew.refl _ | refine Grew.drewN ?_ _ | refine Grew.grow ?_ _ | refine Grew.alloc ?_ _ | refine Grew.drew ?_))⟩
        case inl =>
          have HFD := hid hf1
          clear hf1
          by_cases hg1 : gd < 1
          · have HF := hid (HFF.out (by rw [HVC.out, decide_eq_false (show ¬ (1 ≤ gd ∧ gd ≤ 6) by omega)]; simp))
            have f1 : decide (gd < 1) = true := decide_eq_true hg1
            clear hg1 HPL HVC
            go_wp2_with fail
            refine wp_region_gentle_lit (by kernel_rfl) (by kernel_rfl) ?_
            repeat (first | go_big_quiet_skip | (go_big_quiet_want; go_big_quiet_op; first | go_big_quiet_on | (apply Exists.intro; refine ⟨fun qq => ?_, ?_⟩; (focus ((first | (go_at_call 19; refine Calls.gentle_of (HNM.out _) ?_) | (go_at_call 20; refine Calls.gentle_of (HNA.out _ (by repeat (first | exact Grew.refl _ | refine Grew.drewN ?_ _ | refine Grew.grow ?_ _ | refine Grew.alloc ?_ _ | refine Grew.drew ?_))) ?_)); rintro _ ⟨g', n', rfl⟩; exact ⟨⟨qq.g ++ g', qq.n + n'⟩, by rw [World.grow_drewN, World.grow_grow, World.drewN_drewN]; repeat (first | rw [List.append_assoc] | rw [Nat.add_assoc])⟩)); go_big_quiet_on)))
            refine wpQuiet_nil ?_
            rintro _ ⟨gg, ng, rfl⟩
            go_wp2_with fail
            go_ret
            exact ⟨by rw [HF.out]; rfl, HG.out.trans (by repeat (first | exact Grew.refl _ | refine Grew.drewN ?_ _ | refine Grew.grow ?_ _ | refine Grew.alloc ?_ _ | refine Grew.drew ?_))⟩
          by_cases hg2 : 6 < gd
          · have HF := hid (HFF.out (by rw [HVC.out, decide_eq_false (show ¬ (1 ≤ gd ∧ gd ≤ 6) by omega)]; simp))
            have f1 : decide (gd < 1) = false := decide_eq_false hg1
            have f2 : decide ((6 : Int) < gd) = true := decide_eq_true hg2
            clear hg1 hg2 HPL HVC
            go_wp2_with fail
            refine wp_region_gentle_lit (by kernel_rfl) (by kernel_rfl) ?_
            repeat (first | go_big_quiet_skip | (go_big_quiet_want; go_big_quiet_op; first | go_big_quiet_on | (apply Exists.intro; refine ⟨fun qq => ?_, ?_⟩; (focus ((first | (go_at_call 19; refine Calls.gentle_of (HNM.out _) ?_) | (go_at_call 20; refine Calls.gentle_of (HNA.out _ (by repeat (first | exact Grew.refl _ | refine Grew.drewN ?_ _ | refine Grew.grow ?_ _ | refine Grew.alloc ?_ _ | refine Grew.drew ?_))) ?_)); rintro _ ⟨g', n', rfl⟩; exact ⟨⟨qq.g ++ g', qq.n + n'⟩, by rw [World.grow_drewN, World.grow_grow, World.drewN_drewN]; repeat (first | rw [List.append_assoc] | rw [Nat.add_assoc])⟩)); go_big_quiet_on)))
            refine wpQuiet_nil ?_
            rintro _ ⟨gg, ng, rfl⟩
            go_wp2_with fail
            go_ret
            exact ⟨by rw [HF.out]; rfl, HG.out.trans (by repeat (first | exact Grew.refl _ | refine Grew.drewN ?_ _ | refine Grew.grow ?_ _ | refine Grew.alloc ?_ _ | refine Grew.drew ?_))⟩
          by_cases h200 : 200 < n5
          · have HF := hid (HFF.out (by rw [HVC.out, decide_eq_false (show ¬ (n5 ≤ 200) by omega)]; simp))
            have f1 : decide (gd < 1) = false := decide_eq_false hg1
            have f2 : decide ((6 : Int) < gd) = false := decide_eq_false hg2
            have f3 : decide ((200 : Int) < n5) = true := decide_eq_true (by omega)
            clear hg1 hg2 h200 HPL HVC
            go_wp2_with fail
            refine wp_region_gentle_lit (by kernel_rfl) (by kernel_rfl) ?_
            repeat (first | go_big_quiet_skip | (go_big_quiet_want; go_big_quiet_op; first | go_big_quiet_on | (apply Exists.intro; refine ⟨fun qq => ?_, ?_⟩; (focus ((first | (go_at_call 19; refine Calls.gentle_of (HNM.out _) ?_) | (go_at_call 20; refine Calls.gentle_of (HNA.out _ (by repeat (first | exact Grew.refl _ | refine Grew.drewN ?_ _ | refine Grew.grow ?_ _ | refine Grew.alloc ?_ _ | refine Grew.drew ?_))) ?_)); rintro _ ⟨g', n', rfl⟩; exact ⟨⟨qq.g ++ g', qq.n + n'⟩, by rw [World.grow_drewN, World.grow_grow, World.drewN_drewN]; repeat (first | rw [List.append_assoc] | rw [Nat.add_assoc])⟩)); go_big_quiet_on)))
            refine wpQuiet_nil ?_
            rintro _ ⟨gg, ng, rfl⟩
            go_wp2_with fail
            go_ret
            exact ⟨by rw [HF.out]; rfl, HG.out.trans (by repeat (first | exact Grew.refl _ | refine Grew.drewN ?_ _ | refine Grew.grow ?_ _ | refine Grew.alloc ?_ _ | refine Grew.drew ?_))⟩
          have HGG := hid (show 1 ≤ gd ∧ gd ≤ 6 by omega)
          have hn200 : n5 ≤ 200 := by omega
          have HVC2 := hid (show vc = okEs Fn gd its by rw [HVC.out, HNMB.out, HFD.out, decide_eq_true HGG.out, decide_eq_true hn200]; simp)
          have HPL := hid fun w' (x : It) (hg2 : Grew wr w') => HPL.out w' x hg2 HGG.out.1 HGG.out.2
          have f1 : decide (gd < 1) = false := decide_eq_false hg1
          have f2 : decide ((6 : Int) < gd) = false := decide_eq_false hg2
          have f3 : decide ((200 : Int) < n5) = false := decide_eq_false (by omega)
          obtain ⟨wM, hwM⟩ : ∃ wM, wM = wr := ⟨_, rfl⟩
          subst wr
          clear hg1 hg2 h200 HVC
          go_wp2_with fail
          refine wp_region_gentle_lit (by kernel_rfl) (by kernel_rfl) ?_
          repeat (first | go_big_quiet_skip | (go_big_quiet_want; go_big_quiet_op; first | go_big_quiet_on | (apply Exists.intro; refine ⟨fun qq => ?_, ?_⟩; (focus ((first | (go_at_call 19; refine Calls.gentle_of (HNM.out _) ?_) | (go_at_call 20; refine Calls.gentle_of (HNA.out _ (by repeat (first | exact Grew.refl _ | refine Grew.drewN ?_ _ | refine Grew.grow ?_ _ | refine Grew.alloc ?_ _ | refine Grew.drew ?_))) ?_)); rintro _ ⟨g', n', rfl⟩; exact ⟨⟨qq.g ++ g', qq.n + n'⟩, by rw [World.grow_drewN, World.grow_grow, World.drewN_drewN]; repeat (first | rw [List.append_assoc] | rw [Nat.add_assoc])⟩)); go_big_quiet_on)))
          refine wpQuiet_nil ?_
          rintro _ ⟨gg, ng, rfl⟩
          go_wp2_with fail
          refine any_worldN (W := wM.alloc (.cells #[.string q, .int .i64 gd, .slice a2 n5 k2] 35)) (by repeat (first | exact Grew.refl _ | refine Grew.drewN ?_ _ | refine Grew.grow ?_ _ | refine Grew.alloc ?_ _ | refine Grew.drew ?_)) ?_
          intro wL hgL
          obtain ⟨b4, hb4⟩ : ∃ b4, b4 = wM.heap.size := ⟨_, rfl⟩
          rw [← hb4]
          have h4 : wL.heap[b4]? = some (.cells #[.string q, .int .i64 gd, .slice a2 n5 k2] 35) := by
            rw [hb4]
            refine (hgL.block _ (by simp)).trans ?_
            show (wM.heap.push _)[wM.heap.size]? = _
            simp
          have z4 := (Array.getElem?_eq_some_iff.1 h4).1
          have y1 : wL.cell? ⟨b4, 1, none⟩ = some (.int .i64 gd) := by simp [World.cell?, h4]
          have hgM : Grew wM wL := Grew.trans (by repeat (first | exact Grew.refl _ | refine Grew.drewN ?_ _ | refine Grew.grow ?_ _ | refine Grew.alloc ?_ _ | refine Grew.drew ?_)) hgL
          have HITL := hid (HIT.out.grew hgM)
          have HGL := hid (HG.out.trans hgM)
          have HGM := hid hgM
          have hln := HN5.out
          subst hln
          clear hgL hb4 h4 hgM HIT HG HNM HNA c0 c1 c2 hb hb1 hb2 hb3 f1 f2 f3
          go_loopw [54] (fun v wr => ∃ j : Nat, j ≤ its.length ∧ v = .int .i64 j ∧ Hid (okEs Fn gd (its.take j) = true) ∧ Grew wL wr) (fun v _ => its.length - (intOf v).toNat)
          case atStart => exact ⟨0, Nat.zero_le _, rfl, rfl, (by repeat (first | exact Grew.refl _ | refine Grew.drewN ?_ _ | refine Grew.grow ?_ _ | refine Grew.alloc ?_ _ | refine Grew.drew ?_))⟩
          case round =>
            obtain ⟨j, hj, rfl, HJ, hgj⟩ := hrel
            by_cases hltj : j < its.length
            case neg =>
              obtain rfl : j = its.length := by omega
              have hj2 := HJ.out
              rw [List.take_length] at hj2
              have HN2 := hid (show R = vfrom (L.take (i + 1)) (L.drop (i + 1)) by rw [HVV.out, HVC2.out, hj2]; rfl)
              have HGN := hid (gds_snoc hC.out.1 HGD.out (by rw [hC.out.2.2]; exact HGG.out))
              have HGJ := hid hgj
              clear hj2 hgj HJ
              go_wp2_with fail
              go_roundw
              case rel => exact ⟨i + 1, by omega, by go_num, HN2.out, HGN.out, HGL.out.trans (HGJ.out.trans (by repeat (first | exact Grew.refl _ | refine Grew.drewN ?_ _ | refine Grew.grow ?_ _ | refine Grew.alloc ?_ _ | refine Grew.drew ?_)))⟩
              case measure => simp [intOf]; omega
            case pos =>
              obtain ⟨z, hz⟩ : ∃ z, its[j]? = some z := ⟨its[j], List.getElem?_eq_getElem hltj⟩
              obtain ⟨bi, oi, rfl, hbi, e0, e1, e2, e3⟩ := (HITL.out.grew hgj).cells hz
              have y1 := (hgj.cell (i := 1) z4).trans y1
              have z4 := Nat.lt_of_lt_of_le z4 hgj.size
              have HZ := hid hz
              have HGJ := hid hgj
              have hbi1 := fun m0 : Nat => Nat.lt_add_right m0 (hbi)
              have hbi2 := fun m0 m1 : Nat => Nat.lt_add_right m1 (hbi1 m0)
              have hbi3 := fun m0 m1 m2 : Nat => Nat.lt_add_right m2 (hbi2 m0 m1)
              have z41 := fun m0 : Nat => Nat.lt_add_right m0 (z4)
              have z42 := fun m0 m1 : Nat => Nat.lt_add_right m1 (z41 m0)
              have z43 := fun m0 m1 m2 : Nat => Nat.lt_add_right m2 (z42 m0 m1)
              clear hz hgj
              have HPZ := hid fun w' (hg2 : Grew wr w') => HPL.out w' z (HGM.out.trans (HGJ.out.trans hg2))
              cases hok : okE Fn gd z with
              | true =>
                rw [hok] at HPZ
                have HOK := hid (okEs_step HZ.out hok HJ.out)
                clear hok
                go_wp2_with fail
                refine wp_region_gentle_lit (by kernel_rfl) (by kernel_rfl) ?_
                repeat (first | go_big_quiet_skip | (go_big_quiet_want; go_big_quiet_op; first | go_big_quiet_on | (apply Exists.intro; refine ⟨fun qq => ?_, ?_⟩; (focus ((first | (go_at_call 21; refine Calls.gentle_of (HPZ.out _ (by repeat (first | exact Grew.refl _ | refine Grew.drewN ?_ _ | refine Grew.grow ?_ _ | refine Grew.alloc ?_ _ | refine Grew.drew ?_))) ?_)); rintro _ ⟨g', n', rfl⟩; exact ⟨⟨qq.g ++ g', qq.n + n'⟩, by rw [World.grow_drewN, World.grow_grow, World.drewN_drewN]; repeat (first | rw [List.append_assoc] | rw [Nat.add_assoc])⟩)); go_big_quiet_on)))
                refine wpQuiet_nil ?_
                rintro _ ⟨gg, ng, rfl⟩
                go_wp2_with fail
                go_roundw
                case rel => exact ⟨j + 1, by omega, by go_num, HOK.out, HGJ.out.trans (by repeat (first | exact Grew.refl _ | refine Grew.drewN ?_ _ | refine Grew.grow ?_ _ | refine Grew.alloc ?_ _ | refine Grew.drew ?_))⟩
                case measure => simp [intOf]; omega
              | false =>
                rw [hok] at HPZ
                have HF := hid (HFF.out (by rw [HVC2.out]; exact okEs_cut HZ.out hok))
                clear hok
                go_wp2_with fail
                refine wp_region_gentle_lit (by kernel_rfl) (by kernel_rfl) ?_
                repeat (first | go_big_quiet_skip | (go_big_quiet_want; go_big_quiet_op; first | go_big_quiet_on | (apply Exists.intro; refine ⟨fun qq => ?_, ?_⟩; (focus ((first | (go_at_call 21; refine Calls.gentle_of (HPZ.out _ (by repeat (first | exact Grew.refl _ | refine Grew.drewN ?_ _ | refine Grew.grow ?_ _ | refine Grew.alloc ?_ _ | refine Grew.drew ?_))) ?_)); rintro _ ⟨g', n', rfl⟩; exact ⟨⟨qq.g ++ g', qq.n + n'⟩, by rw [World.grow_drewN, World.grow_grow, World.drewN_drewN]; repeat (first | rw [List.append_assoc] | rw [Nat.add_assoc])⟩)); go_big_quiet_on)))
                refine wpQuiet_nil ?_
                rintro _ ⟨gg, ng, rfl⟩
                go_wp2_with fail
                go_ret
                exact ⟨by rw [HF.out]; rfl, HGL.out.trans (HGJ.out.trans (by repeat (first | exact Grew.refl _ | refine Grew.drewN ?_ _ | refine Grew.grow ?_ _ | refine Grew.alloc ?_ _ | refine Grew.drew ?_)))⟩
theorem rvnet_any (a0 : Option Addr) (cap : Nat) (L : List Cl) (w : World) (hl : L.length ≤ 9223372036854775807) (hN : Net w a0 L) (hk : CsOk L) (hcap : L.length ≤ cap) :
    Calls Tryz.prog 8 #[.slice a0 L.length cap] w fun e w' => e = .returned (.bool (vnet L)) ∧ Grew w w' := by
  by_cases hlen : 1 ≤ L.length ∧ L.length ≤ 20
  · rw [show vnet L = vfrom [] L by unfold vnet; rw [decide_eq_true hlen, Bool.true_and]]
    exact rvnet_main a0 cap L w hl hN hk hcap hlen
  · rw [show vnet L = false by unfold vnet; rw [decide_eq_false hlen, Bool.false_and]]
    by_cases h1 : L.length < 1
    · have d1 : decide ((L.length : Int) < 1) = true := decide_eq_true (by omega)
      clear hN hk hlen h1
      go_enter Tryz.func8, Tryz.ntmps8
      go_wp2_with fail
      go_ret
      exact ⟨rfl, (by repeat (first | exact Grew.refl _ | refine Grew.drewN ?_ _ | refine Grew.grow ?_ _ | refine Grew.alloc ?_ _ | refine Grew.drew ?_))⟩
    · have d1 : decide ((L.length : Int) < 1) = false := decide_eq_false (by omega)
      have d2 : decide ((20 : Int) < L.length) = true := decide_eq_true (by omega)
      clear hN hk hlen h1
      go_enter Tryz.func8, Tryz.ntmps8
      go_wp2_with fail
      go_ret
      exact ⟨rfl, (by repeat (first | exact Grew.refl _ | refine Grew.drewN ?_ _ | refine Grew.grow ?_ _ | refine Grew.alloc ?_ _ | refine Grew.drew ?_))⟩

end Go.Proofs.YtdomlnhgafielaaGreatDoor
