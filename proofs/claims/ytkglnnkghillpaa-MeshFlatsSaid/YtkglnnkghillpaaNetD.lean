/- Layer 3: cells by their names, the width of an item among cells, which items are placed: the reference. Condition: the cells lie in memory. -/
import Derived.Test.YtkglnnkghillpaaMshC
import Derived.Test.YtkglnnkghillpaaMshCls
import Derived.Test.YtkglnnkghillpaaNetA
namespace Go.Proofs.Ytkglnnkghillpaa
open Go Go.RowKit Amp Msh

/-- The place of the first cell with a name, from o on; -1: there is none. -/
def nmO (q : ByteArray) : Nat → List Cl → Int
  | _, [] => -1
  | o, c :: t => if hasN q c = true then (o : Int) else nmO q (o + 1) t
theorem nmO_step {q : ByteArray} {L : List Cl} {i : Nat} {c : Cl} (h : L[i]? = some c) (o : Nat) : nmO q o (L.drop i) = if hasN q c = true then (o : Int) else nmO q (o + 1) (L.drop (i + 1)) := by
  obtain ⟨hlt, rfl⟩ := List.getElem?_eq_some_iff.1 h
  rw [List.drop_eq_getElem_cons hlt]
  rfl
theorem nmO_find {q : ByteArray} : ∀ (C : List Cl) (o : Nat), (C.find? (hasN q) = none ∧ nmO q o C = -1) ∨ ∃ (c : Cl) (j : Nat), C.find? (hasN q) = some c ∧ nmO q o C = ((o + j : Nat) : Int) ∧ C[j]? = some c
  | [], o => .inl ⟨rfl, rfl⟩
  | c :: t, o => by
    unfold nmO
    rw [List.find?_cons]
    by_cases h : hasN q c = true
    · rw [h, if_pos rfl]
      exact .inr ⟨c, 0, rfl, rfl, rfl⟩
    · rw [if_neg h, show hasN q c = false by simpa using h]
      rcases nmO_find t (o + 1) with ⟨h1, h2⟩ | ⟨d, j, h1, h2, h3⟩
      · exact .inl ⟨h1, h2⟩
      · exact .inr ⟨d, j + 1, h1, by rw [h2]; congr 1; omega, by simpa using h3⟩
theorem hasN_toList (q : ByteArray) (c : Cl) : (c.name.toList == q.toList) = hasN q c := by
  unfold hasN
  by_cases h : c.name = q
  · rw [h]; simp
  · rw [decide_eq_false h]
    cases hb : c.name.toList == q.toList with
    | false => rfl
    | true =>
      refine absurd ?_ h
      have h1 := eq_of_beq hb
      rw [ByteArray.toList_eq, ByteArray.toList_eq] at h1
      have h2 := Array.toList_inj.1 h1
      obtain ⟨x⟩ := q
      obtain ⟨⟨y⟩, _, _⟩ := c
      dsimp only at h2 ⊢
      rw [h2]

set_option maxHeartbeats 800000 in
theorem named_any (a0 : Option Addr) (cap : Nat) (C : List Cl) (q : ByteArray) (w : World) (hl : C.length ≤ 9223372036854775807) (hN : Net w a0 C) :
    Calls Try.prog 57 #[.slice a0 C.length cap, .string q] w fun e w' => e = .returned (.int .i64 (nmO q 0 C)) ∧ Grew w w' := by
  have HN := hid hN
  obtain ⟨R, hR⟩ : ∃ R, nmO q 0 C = R := ⟨_, rfl⟩
  rw [hR]
  have HR := hid hR
  clear hN hR
  go_enter Try.func57, Try.ntmps57
  go_wp2_with fail
  go_loopw [9] (fun v wr => ∃ i : Nat, i ≤ C.length ∧ v = .int .i64 i ∧ Hid (R = nmO q i (C.drop i)) ∧ Grew w wr) (fun v _ => C.length - (intOf v).toNat)
  case atStart => exact ⟨0, Nat.zero_le _, rfl, HR.out.symm, (by repeat (first | exact Grew.refl _ | refine Grew.drewN ?_ _ | refine Grew.grow ?_ _ | refine Grew.alloc ?_ _ | refine Grew.drew ?_))⟩
  case round =>
    obtain ⟨i, hi, rfl, HV, hg⟩ := hrel
    by_cases hlt : i < C.length
    case neg =>
      obtain rfl : i = C.length := by omega
      have hv := HV.out
      rw [List.drop_length] at hv
      have HF := hid hv
      have HG := hid hg
      clear hv hg
      go_wp2_with fail
      go_ret
      exact ⟨by rw [HF.out]; rfl, HG.out.trans (by repeat (first | exact Grew.refl _ | refine Grew.drewN ?_ _ | refine Grew.grow ?_ _ | refine Grew.alloc ?_ _ | refine Grew.drew ?_))⟩
    case pos =>
      obtain ⟨c, hc⟩ : ∃ c, C[i]? = some c := ⟨C[i], List.getElem?_eq_getElem hlt⟩
      obtain ⟨b, off, rfl, hb, c0, c1, a2, k2, c2, _⟩ := (HN.out.grew hg).cells hc
      have hv := HV.out
      rw [nmO_step hc] at hv
      have hb1' := hasN_toList q c
      have HG := hid hg
      have hb1 := fun m0 : Nat => Nat.lt_add_right m0 (hb)
      have hb2 := fun m0 m1 : Nat => Nat.lt_add_right m1 (hb1 m0)
      have hb3 := fun m0 m1 m2 : Nat => Nat.lt_add_right m2 (hb2 m0 m1)
      clear hc hg HV
      cases hh : hasN q c with
      | true =>
        rw [hh] at hb1' hv
        have HF := hid hv
        clear hv hh
        go_wp2_with fail
        go_ret
        exact ⟨by rw [HF.out]; rfl, HG.out.trans (by repeat (first | exact Grew.refl _ | refine Grew.drewN ?_ _ | refine Grew.grow ?_ _ | refine Grew.alloc ?_ _ | refine Grew.drew ?_))⟩
      | false =>
        rw [hh] at hb1' hv
        have HF := hid hv
        clear hv hh
        go_wp2_with fail
        go_roundw
        case rel => exact ⟨i + 1, by omega, by go_num, HF.out, HG.out.trans (by repeat (first | exact Grew.refl _ | refine Grew.drewN ?_ _ | refine Grew.grow ?_ _ | refine Grew.alloc ?_ _ | refine Grew.drew ?_))⟩
        case measure => simp [intOf]; omega

set_option maxRecDepth 100000 in
set_option maxHeartbeats 800000 in
theorem rwideM_phase (p n : Int) (s : ByteArray) (a0 : Option Addr) (len cap : Nat) (w : World) (hs : s.toList = []) (h1 : 1 ≤ n) (h2 : n ≤ 7) :
    Calls Try.prog 96 #[.slice a0 len cap, .agg #[.int .i64 1, .int .i64 p, .int .i64 n, .string s]] w fun e w' => e = .returned (.int .i64 1) ∧ Grew w w' := by
  go_enter Try.func96, Try.ntmps96
  go_wp2_with fail
  go_ret
  exact ⟨rfl, (by repeat (first | exact Grew.refl _ | refine Grew.drewN ?_ _ | refine Grew.grow ?_ _ | refine Grew.alloc ?_ _ | refine Grew.drew ?_))⟩

set_option maxRecDepth 100000 in
set_option maxHeartbeats 800000 in
theorem rwideM_phaseL (p n : Int) (s : ByteArray) (a0 : Option Addr) (len cap : Nat) (w : World) (h1 : n < 1) :
    Calls Try.prog 96 #[.slice a0 len cap, .agg #[.int .i64 1, .int .i64 p, .int .i64 n, .string s]] w fun e w' => e = .returned (.int .i64 0) ∧ Grew w w' := by
  go_enter Try.func96, Try.ntmps96
  go_wp2_with fail
  go_ret
  exact ⟨rfl, (by repeat (first | exact Grew.refl _ | refine Grew.drewN ?_ _ | refine Grew.grow ?_ _ | refine Grew.alloc ?_ _ | refine Grew.drew ?_))⟩

set_option maxRecDepth 100000 in
set_option maxHeartbeats 800000 in
theorem rwideM_phaseH (p n : Int) (s : ByteArray) (a0 : Option Addr) (len cap : Nat) (w : World) (h1 : 1 ≤ n) (h2 : 7 < n) :
    Calls Try.prog 96 #[.slice a0 len cap, .agg #[.int .i64 1, .int .i64 p, .int .i64 n, .string s]] w fun e w' => e = .returned (.int .i64 0) ∧ Grew w w' := by
  go_enter Try.func96, Try.ntmps96
  go_wp2_with fail
  go_ret
  exact ⟨rfl, (by repeat (first | exact Grew.refl _ | refine Grew.drewN ?_ _ | refine Grew.grow ?_ _ | refine Grew.alloc ?_ _ | refine Grew.drew ?_))⟩

set_option maxRecDepth 100000 in
set_option maxHeartbeats 800000 in
theorem rwideM_phaseN (p n : Int) (s : ByteArray) (a0 : Option Addr) (len cap : Nat) (w : World) (hs : ¬ s.toList = []) (h1 : 1 ≤ n) (h2 : n ≤ 7) :
    Calls Try.prog 96 #[.slice a0 len cap, .agg #[.int .i64 1, .int .i64 p, .int .i64 n, .string s]] w fun e w' => e = .returned (.int .i64 0) ∧ Grew w w' := by
  have e1 : s.toList.isEmpty = false := by simpa using hs
  clear hs
  go_enter Try.func96, Try.ntmps96
  go_wp2_with fail
  go_ret
  exact ⟨rfl, (by repeat (first | exact Grew.refl _ | refine Grew.drewN ?_ _ | refine Grew.grow ?_ _ | refine Grew.alloc ?_ _ | refine Grew.drew ?_))⟩

set_option maxRecDepth 100000 in
set_option maxHeartbeats 800000 in
theorem rwideM_two2 (p : Int) (s : ByteArray) (a0 : Option Addr) (len cap : Nat) (w : World) (hs : s.toList = []) :
    Calls Try.prog 96 #[.slice a0 len cap, .agg #[.int .i64 2, .int .i64 p, .int .i64 0, .string s]] w fun e w' => e = .returned (.int .i64 2) ∧ Grew w w' := by
  go_enter Try.func96, Try.ntmps96
  go_wp2_with fail
  go_ret
  exact ⟨rfl, (by repeat (first | exact Grew.refl _ | refine Grew.drewN ?_ _ | refine Grew.grow ?_ _ | refine Grew.alloc ?_ _ | refine Grew.drew ?_))⟩

set_option maxRecDepth 100000 in
set_option maxHeartbeats 800000 in
theorem rwideM_twoS2 (p : Int) (s : ByteArray) (a0 : Option Addr) (len cap : Nat) (w : World) (hs : ¬ s.toList = []) :
    Calls Try.prog 96 #[.slice a0 len cap, .agg #[.int .i64 2, .int .i64 p, .int .i64 0, .string s]] w fun e w' => e = .returned (.int .i64 0) ∧ Grew w w' := by
  have e1 : s.toList.isEmpty = false := by simpa using hs
  clear hs
  go_enter Try.func96, Try.ntmps96
  go_wp2_with fail
  go_ret
  exact ⟨rfl, (by repeat (first | exact Grew.refl _ | refine Grew.drewN ?_ _ | refine Grew.grow ?_ _ | refine Grew.alloc ?_ _ | refine Grew.drew ?_))⟩

set_option maxRecDepth 100000 in
set_option maxHeartbeats 800000 in
theorem rwideM_twoN2 (p n : Int) (s : ByteArray) (a0 : Option Addr) (len cap : Nat) (w : World) (hn : ¬ n = 0) :
    Calls Try.prog 96 #[.slice a0 len cap, .agg #[.int .i64 2, .int .i64 p, .int .i64 n, .string s]] w fun e w' => e = .returned (.int .i64 0) ∧ Grew w w' := by
  have e1 : (n == 0) = false := by simpa using hn
  clear hn
  go_enter Try.func96, Try.ntmps96
  go_wp2_with fail
  go_ret
  exact ⟨rfl, (by repeat (first | exact Grew.refl _ | refine Grew.drewN ?_ _ | refine Grew.grow ?_ _ | refine Grew.alloc ?_ _ | refine Grew.drew ?_))⟩

set_option maxRecDepth 100000 in
set_option maxHeartbeats 800000 in
theorem rwideM_two3 (p : Int) (s : ByteArray) (a0 : Option Addr) (len cap : Nat) (w : World) (hs : s.toList = []) :
    Calls Try.prog 96 #[.slice a0 len cap, .agg #[.int .i64 3, .int .i64 p, .int .i64 0, .string s]] w fun e w' => e = .returned (.int .i64 2) ∧ Grew w w' := by
  go_enter Try.func96, Try.ntmps96
  go_wp2_with fail
  go_ret
  exact ⟨rfl, (by repeat (first | exact Grew.refl _ | refine Grew.drewN ?_ _ | refine Grew.grow ?_ _ | refine Grew.alloc ?_ _ | refine Grew.drew ?_))⟩

set_option maxRecDepth 100000 in
set_option maxHeartbeats 800000 in
theorem rwideM_twoS3 (p : Int) (s : ByteArray) (a0 : Option Addr) (len cap : Nat) (w : World) (hs : ¬ s.toList = []) :
    Calls Try.prog 96 #[.slice a0 len cap, .agg #[.int .i64 3, .int .i64 p, .int .i64 0, .string s]] w fun e w' => e = .returned (.int .i64 0) ∧ Grew w w' := by
  have e1 : s.toList.isEmpty = false := by simpa using hs
  clear hs
  go_enter Try.func96, Try.ntmps96
  go_wp2_with fail
  go_ret
  exact ⟨rfl, (by repeat (first | exact Grew.refl _ | refine Grew.drewN ?_ _ | refine Grew.grow ?_ _ | refine Grew.alloc ?_ _ | refine Grew.drew ?_))⟩

set_option maxRecDepth 100000 in
set_option maxHeartbeats 800000 in
theorem rwideM_twoN3 (p n : Int) (s : ByteArray) (a0 : Option Addr) (len cap : Nat) (w : World) (hn : ¬ n = 0) :
    Calls Try.prog 96 #[.slice a0 len cap, .agg #[.int .i64 3, .int .i64 p, .int .i64 n, .string s]] w fun e w' => e = .returned (.int .i64 0) ∧ Grew w w' := by
  have e1 : (n == 0) = false := by simpa using hn
  clear hn
  go_enter Try.func96, Try.ntmps96
  go_wp2_with fail
  go_ret
  exact ⟨rfl, (by repeat (first | exact Grew.refl _ | refine Grew.drewN ?_ _ | refine Grew.grow ?_ _ | refine Grew.alloc ?_ _ | refine Grew.drew ?_))⟩

set_option maxRecDepth 100000 in
set_option maxHeartbeats 800000 in
theorem rwideM_none (kind p n : Int) (s : ByteArray) (a0 : Option Addr) (len cap : Nat) (w : World) (h1 : ¬ kind = 1) (h2 : ¬ kind = 2) (h3 : ¬ kind = 3) (h4 : ¬ kind = 4) :
    Calls Try.prog 96 #[.slice a0 len cap, .agg #[.int .i64 kind, .int .i64 p, .int .i64 n, .string s]] w fun e w' => e = .returned (.int .i64 0) ∧ Grew w w' := by
  have k1 : (kind == 1) = false := by simpa using h1
  have k2 : (kind == 2) = false := by simpa using h2
  have k3 : (kind == 3) = false := by simpa using h3
  have k4 : (kind == 4) = false := by simpa using h4
  clear h1 h2 h3 h4
  go_enter Try.func96, Try.ntmps96
  go_wp2_with fail
  go_ret
  exact ⟨rfl, (by repeat (first | exact Grew.refl _ | refine Grew.drewN ?_ _ | refine Grew.grow ?_ _ | refine Grew.alloc ?_ _ | refine Grew.drew ?_))⟩

set_option maxRecDepth 100000 in
set_option maxHeartbeats 800000 in
theorem rwideM_none4 (a0 : Option Addr) (cap : Nat) (C : List Cl) (w : World) (hl : C.length ≤ 9223372036854775807) (hN : Net w a0 C) (p n : Int) (s : ByteArray) (hf : C.find? (hasN s) = none) :
    Calls Try.prog 96 #[.slice a0 C.length cap, .agg #[.int .i64 4, .int .i64 p, .int .i64 n, .string s]] w fun e w' => e = .returned (.int .i64 0) ∧ Grew w w' := by
  have HNM := hid fun w' (hg : Grew w w') => named_any a0 cap C s w' hl (hN.grew hg)
  rw [show nmO s 0 C = -1 by rcases nmO_find (q := s) C 0 with ⟨_, h⟩ | ⟨c, j, h, _⟩; exact h; rw [hf] at h; cases h] at HNM
  clear hN hf
  go_enter Try.func96, Try.ntmps96
  go_wp2_with fail
  refine (HNM.out _ (by repeat (first | exact Grew.refl _ | refine Grew.drewN ?_ _ | refine Grew.grow ?_ _ | refine Grew.alloc ?_ _ | refine Grew.drew ?_))).mono ?_
  rintro e w' ⟨rfl, g1, n1, rfl⟩
  go_wp2_with fail
  go_ret
  exact ⟨rfl, (by repeat (first | exact Grew.refl _ | refine Grew.drewN ?_ _ | refine Grew.grow ?_ _ | refine Grew.alloc ?_ _ | refine Grew.drew ?_))⟩

set_option maxRecDepth 100000 in
set_option maxHeartbeats 800000 in
theorem rwideM_n4 (a0 : Option Addr) (cap : Nat) (C : List Cl) (w : World) (hl : C.length ≤ 9223372036854775807) (hN : Net w a0 C) (p n : Int) (s : ByteArray) (c : Cl) (hf : C.find? (hasN s) = some c) (hn : ¬ n = 0) :
    Calls Try.prog 96 #[.slice a0 C.length cap, .agg #[.int .i64 4, .int .i64 p, .int .i64 n, .string s]] w fun e w' => e = .returned (.int .i64 0) ∧ Grew w w' := by
  have HNM := hid fun w' (hg : Grew w w') => named_any a0 cap C s w' hl (hN.grew hg)
  obtain ⟨j, hj, hjc⟩ : ∃ j : Nat, nmO s 0 C = j ∧ C[j]? = some c := by
    rcases nmO_find (q := s) C 0 with ⟨h, _⟩ | ⟨d, j, h, h2, h3⟩
    · rw [hf] at h; cases h
    · rw [hf] at h
      obtain rfl := Option.some.inj h
      exact ⟨j, by rw [h2, Nat.zero_add], h3⟩
  rw [hj] at HNM
  have e1 : (n == 0) = false := by simpa using hn
  clear hN hf hj hjc hn
  go_enter Try.func96, Try.ntmps96
  go_wp2_with fail
  refine (HNM.out _ (by repeat (first | exact Grew.refl _ | refine Grew.drewN ?_ _ | refine Grew.grow ?_ _ | refine Grew.alloc ?_ _ | refine Grew.drew ?_))).mono ?_
  rintro e w' ⟨rfl, g1, n1, rfl⟩
  go_wp2_with fail
  go_ret
  exact ⟨rfl, (by repeat (first | exact Grew.refl _ | refine Grew.drewN ?_ _ | refine Grew.grow ?_ _ | refine Grew.alloc ?_ _ | refine Grew.drew ?_))⟩

set_option maxRecDepth 100000 in
set_option maxHeartbeats 800000 in
theorem rwideM_cell (a0 : Option Addr) (cap : Nat) (C : List Cl) (w : World) (hl : C.length ≤ 9223372036854775807) (hN : Net w a0 C) (p : Int) (s : ByteArray) (c : Cl) (hf : C.find? (hasN s) = some c) :
    Calls Try.prog 96 #[.slice a0 C.length cap, .agg #[.int .i64 4, .int .i64 p, .int .i64 0, .string s]] w fun e w' => e = .returned (.int .i64 c.gd) ∧ Grew w w' := by
  have HNM := hid fun w' (hg : Grew w w') => named_any a0 cap C s w' hl (hN.grew hg)
  obtain ⟨j, hj, hjc⟩ : ∃ j : Nat, nmO s 0 C = j ∧ C[j]? = some c := by
    rcases nmO_find (q := s) C 0 with ⟨h, _⟩ | ⟨d, j, h, h2, h3⟩
    · rw [hf] at h; cases h
    · rw [hf] at h
      obtain rfl := Option.some.inj h
      exact ⟨j, by rw [h2, Nat.zero_add], h3⟩
  rw [hj] at HNM
  obtain ⟨b, off, rfl, hb, c0, c1, a2, k2, c2, _⟩ := hN.cells hjc
  have hjl := (List.getElem?_eq_some_iff.1 hjc).1
  have hb1 := fun m0 : Nat => Nat.lt_add_right m0 (hb)
  have hb2 := fun m0 m1 : Nat => Nat.lt_add_right m1 (hb1 m0)
  have hb3 := fun m0 m1 m2 : Nat => Nat.lt_add_right m2 (hb2 m0 m1)
  clear hN hf hj hjc
  go_enter Try.func96, Try.ntmps96
  go_wp2_with fail
  refine (HNM.out _ (by repeat (first | exact Grew.refl _ | refine Grew.drewN ?_ _ | refine Grew.grow ?_ _ | refine Grew.alloc ?_ _ | refine Grew.drew ?_))).mono ?_
  rintro e w' ⟨rfl, g1, n1, rfl⟩
  go_wp2_with fail
  go_ret
  exact ⟨rfl, (by repeat (first | exact Grew.refl _ | refine Grew.drewN ?_ _ | refine Grew.grow ?_ _ | refine Grew.alloc ?_ _ | refine Grew.drew ?_))⟩

theorem rwideM_any (a0 : Option Addr) (cap : Nat) (C : List Cl) (w : World) (hl : C.length ≤ 9223372036854775807) (hN : Net w a0 C) (x : It) :
    Calls Try.prog 96 #[.slice a0 C.length cap, .agg #[.int .i64 x.kind, .int .i64 x.pos, .int .i64 x.n, .string x.name]] w fun e w' => e = .returned (.int .i64 (wdE (gdF C) x)) ∧ Grew w w' := by
  obtain ⟨kind, p, n, s⟩ := x
  unfold wdE
  dsimp only
  by_cases h4 : kind = 4
  · subst h4
    rw [if_pos rfl]
    cases hf : C.find? (hasN s) with
    | none =>
      rw [show (if n = 0 then gdF C s else 0) = 0 by unfold gdF; rw [hf]; simp]
      exact rwideM_none4 a0 cap C w hl hN p n s hf
    | some c =>
      by_cases hn : n = 0
      · subst hn
        rw [if_pos rfl, show gdF C s = c.gd by unfold gdF; rw [hf]]
        exact rwideM_cell a0 cap C w hl hN p s c hf
      · rw [if_neg hn]
        exact rwideM_n4 a0 cap C w hl hN p n s c hf hn
  rw [if_neg h4]
  by_cases h1 : kind = 1
  · subst h1
    by_cases hl : n < 1
    · rw [show wid 1 n s = 0 by unfold wid; split <;> first | rfl | rw [if_neg (by omega), if_neg (by omega)]]; exact rwideM_phaseL p n s a0 C.length cap w hl
    by_cases hh : 7 < n
    · rw [show wid 1 n s = 0 by unfold wid; split <;> first | rfl | rw [if_neg (by omega), if_neg (by omega)]]; exact rwideM_phaseH p n s a0 C.length cap w (by omega) hh
    by_cases hs : s.toList = []
    · rw [show wid 1 n s = 1 by unfold wid; rw [if_pos hs, if_pos (by omega)]]; exact rwideM_phase p n s a0 C.length cap w hs (by omega) (by omega)
    · rw [show wid 1 n s = 0 by unfold wid; rw [if_neg hs]]; exact rwideM_phaseN p n s a0 C.length cap w hs (by omega) (by omega)
  by_cases h2 : kind = 2
  · subst h2
    by_cases hn : n = 0
    case neg => rw [show wid 2 n s = 0 by unfold wid; split <;> first | rfl | rw [if_neg (by omega), if_neg (by omega)]]; exact rwideM_twoN2 p n s a0 C.length cap w hn
    subst hn
    by_cases hs : s.toList = []
    · rw [show wid 2 0 s = 2 by unfold wid; rw [if_pos hs, if_neg (by omega), if_pos (by omega)]]; exact rwideM_two2 p s a0 C.length cap w hs
    · rw [show wid 2 0 s = 0 by unfold wid; rw [if_neg hs]]; exact rwideM_twoS2 p s a0 C.length cap w hs
  by_cases h3 : kind = 3
  · subst h3
    by_cases hn : n = 0
    case neg => rw [show wid 3 n s = 0 by unfold wid; split <;> first | rfl | rw [if_neg (by omega), if_neg (by omega)]]; exact rwideM_twoN3 p n s a0 C.length cap w hn
    subst hn
    by_cases hs : s.toList = []
    · rw [show wid 3 0 s = 2 by unfold wid; rw [if_pos hs, if_neg (by omega), if_pos (by omega)]]; exact rwideM_two3 p s a0 C.length cap w hs
    · rw [show wid 3 0 s = 0 by unfold wid; rw [if_neg hs]]; exact rwideM_twoS3 p s a0 C.length cap w hs
  rw [show wid kind n s = 0 by unfold wid; split <;> first | rfl | rw [if_neg (by omega), if_neg (by omega)]]
  exact rwideM_none kind p n s a0 C.length cap w h1 h2 h3 h4

set_option maxHeartbeats 800000 in
theorem placedM_zero (a0 : Option Addr) (cap : Nat) (C : List Cl) (w : World) (hl : C.length ≤ 9223372036854775807) (hN : Net w a0 C) (g : Int) (x : It) (W : Int) (_g1 : 1 ≤ g) (_g2 : g ≤ 6) (hW : wdE (gdF C) x = W) (r1 : 0 ≤ W) (r2 : W ≤ 6) (h0 : W = 0) :
    Calls Try.prog 63 #[.slice a0 C.length cap, .int .i64 g, .agg #[.int .i64 x.kind, .int .i64 x.pos, .int .i64 x.n, .string x.name]] w fun e w' => e = .returned (.bool false) ∧ Grew w w' := by
  have HV := hid fun w' (hg : Grew w w') => rwideM_any a0 cap C w' hl (hN.grew hg) x
  rw [hW] at HV
  subst h0
  clear hW hN
  go_enter Try.func63, Try.ntmps63
  go_wp2_with fail
  refine (HV.out _ (by repeat (first | exact Grew.refl _ | refine Grew.drewN ?_ _ | refine Grew.grow ?_ _ | refine Grew.alloc ?_ _ | refine Grew.drew ?_))).mono ?_
  rintro e w' ⟨rfl, g', n, rfl⟩
  go_wp2_with fail
  go_ret
  exact ⟨rfl, (by repeat (first | exact Grew.refl _ | refine Grew.drewN ?_ _ | refine Grew.grow ?_ _ | refine Grew.alloc ?_ _ | refine Grew.drew ?_))⟩

set_option maxHeartbeats 800000 in
theorem placedM_low (a0 : Option Addr) (cap : Nat) (C : List Cl) (w : World) (hl : C.length ≤ 9223372036854775807) (hN : Net w a0 C) (g : Int) (x : It) (W : Int) (_g1 : 1 ≤ g) (_g2 : g ≤ 6) (hW : wdE (gdF C) x = W) (_r1 : 0 ≤ W) (_r2 : W ≤ 6) (h0 : 0 < W) (h1 : x.pos < 1) :
    Calls Try.prog 63 #[.slice a0 C.length cap, .int .i64 g, .agg #[.int .i64 x.kind, .int .i64 x.pos, .int .i64 x.n, .string x.name]] w fun e w' => e = .returned (.bool false) ∧ Grew w w' := by
  have HV := hid fun w' (hg : Grew w w') => rwideM_any a0 cap C w' hl (hN.grew hg) x
  rw [hW] at HV
  have f0 : decide ((0 : Int) < W) = true := decide_eq_true (by omega)
  have f1 : decide ((1 : Int) ≤ x.pos) = false := decide_eq_false (by omega)
  clear hW hN
  go_enter Try.func63, Try.ntmps63
  go_wp2_with fail
  refine (HV.out _ (by repeat (first | exact Grew.refl _ | refine Grew.drewN ?_ _ | refine Grew.grow ?_ _ | refine Grew.alloc ?_ _ | refine Grew.drew ?_))).mono ?_
  rintro e w' ⟨rfl, g', n, rfl⟩
  go_wp2_with fail
  go_ret
  exact ⟨rfl, (by repeat (first | exact Grew.refl _ | refine Grew.drewN ?_ _ | refine Grew.grow ?_ _ | refine Grew.alloc ?_ _ | refine Grew.drew ?_))⟩

set_option maxHeartbeats 800000 in
theorem placedM_high (a0 : Option Addr) (cap : Nat) (C : List Cl) (w : World) (hl : C.length ≤ 9223372036854775807) (hN : Net w a0 C) (g : Int) (x : It) (W : Int) (_g1 : 1 ≤ g) (_g2 : g ≤ 6) (hW : wdE (gdF C) x = W) (_r1 : 0 ≤ W) (_r2 : W ≤ 6) (h0 : 0 < W) (h1 : 1 ≤ x.pos) (h2 : g < x.pos) :
    Calls Try.prog 63 #[.slice a0 C.length cap, .int .i64 g, .agg #[.int .i64 x.kind, .int .i64 x.pos, .int .i64 x.n, .string x.name]] w fun e w' => e = .returned (.bool false) ∧ Grew w w' := by
  have HV := hid fun w' (hg : Grew w w') => rwideM_any a0 cap C w' hl (hN.grew hg) x
  rw [hW] at HV
  have f0 : decide ((0 : Int) < W) = true := decide_eq_true (by omega)
  have f1 : decide ((1 : Int) ≤ x.pos) = true := decide_eq_true (by omega)
  have f2 : decide (x.pos ≤ g) = false := decide_eq_false (by omega)
  clear hW hN
  go_enter Try.func63, Try.ntmps63
  go_wp2_with fail
  refine (HV.out _ (by repeat (first | exact Grew.refl _ | refine Grew.drewN ?_ _ | refine Grew.grow ?_ _ | refine Grew.alloc ?_ _ | refine Grew.drew ?_))).mono ?_
  rintro e w' ⟨rfl, g', n, rfl⟩
  go_wp2_with fail
  go_ret
  exact ⟨rfl, (by repeat (first | exact Grew.refl _ | refine Grew.drewN ?_ _ | refine Grew.grow ?_ _ | refine Grew.alloc ?_ _ | refine Grew.drew ?_))⟩

set_option maxHeartbeats 800000 in
theorem placedM_in (a0 : Option Addr) (cap : Nat) (C : List Cl) (w : World) (hl : C.length ≤ 9223372036854775807) (hN : Net w a0 C) (g : Int) (x : It) (W : Int) (g1 : 1 ≤ g) (g2 : g ≤ 6) (hW : wdE (gdF C) x = W) (r1 : 0 ≤ W) (r2 : W ≤ 6) (h0 : 0 < W) (h1 : 1 ≤ x.pos) (h2 : x.pos ≤ g) :
    Calls Try.prog 63 #[.slice a0 C.length cap, .int .i64 g, .agg #[.int .i64 x.kind, .int .i64 x.pos, .int .i64 x.n, .string x.name]] w fun e w' => e = .returned (.bool (decide (x.pos ≤ g - W + 1))) ∧ Grew w w' := by
  have HV := hid fun w' (hg : Grew w w') => rwideM_any a0 cap C w' hl (hN.grew hg) x
  rw [hW] at HV
  have f0 : decide ((0 : Int) < W) = true := decide_eq_true (by omega)
  have f1 : decide ((1 : Int) ≤ x.pos) = true := decide_eq_true (by omega)
  have f2 : decide (x.pos ≤ g) = true := decide_eq_true (by omega)
  clear hW hN
  go_enter Try.func63, Try.ntmps63
  go_wp2_with fail
  refine (HV.out _ (by repeat (first | exact Grew.refl _ | refine Grew.drewN ?_ _ | refine Grew.grow ?_ _ | refine Grew.alloc ?_ _ | refine Grew.drew ?_))).mono ?_
  rintro e w' ⟨rfl, g', n, rfl⟩
  go_wp2_with fail
  go_ret
  exact ⟨rfl, (by repeat (first | exact Grew.refl _ | refine Grew.drewN ?_ _ | refine Grew.grow ?_ _ | refine Grew.alloc ?_ _ | refine Grew.drew ?_))⟩

theorem placedM_any (a0 : Option Addr) (cap : Nat) (C : List Cl) (w : World) (hl : C.length ≤ 9223372036854775807) (hN : Net w a0 C) (hC : Gds C) (g : Int) (x : It) (g1 : 1 ≤ g) (g2 : g ≤ 6) :
    Calls Try.prog 63 #[.slice a0 C.length cap, .int .i64 g, .agg #[.int .i64 x.kind, .int .i64 x.pos, .int .i64 x.n, .string x.name]] w fun e w' => e = .returned (.bool (okE (gdF C) g x)) ∧ Grew w w' := by
  obtain ⟨r1, r2⟩ := wdE_range (gdF_range hC) x
  obtain ⟨W, hW⟩ : ∃ W, wdE (gdF C) x = W := ⟨_, rfl⟩
  have hO : okE (gdF C) g x = (decide (W ≠ 0) && decide (1 ≤ x.pos ∧ x.pos ≤ g - W + 1)) := by unfold okE; rw [hW]
  rw [hO]
  rw [hW] at r1 r2
  by_cases h0 : W = 0
  · rw [decide_eq_false (fun h => h h0), Bool.false_and]
    exact placedM_zero a0 cap C w hl hN g x W g1 g2 hW r1 r2 h0
  rw [decide_eq_true h0, Bool.true_and]
  by_cases h1 : x.pos < 1
  · rw [decide_eq_false (by omega)]
    exact placedM_low a0 cap C w hl hN g x W g1 g2 hW r1 r2 (by omega) h1
  by_cases h2 : g < x.pos
  · rw [decide_eq_false (by omega)]
    exact placedM_high a0 cap C w hl hN g x W g1 g2 hW r1 r2 (by omega) (by omega) h2
  rw [show decide (1 ≤ x.pos ∧ x.pos ≤ g - W + 1) = decide (x.pos ≤ g - W + 1) by rw [Bool.decide_and, decide_eq_true (by omega), Bool.true_and]]
  exact placedM_in a0 cap C w hl hN g x W g1 g2 hW r1 r2 (by omega) (by omega) (by omega)

end Go.Proofs.Ytkglnnkghillpaa
