/- Layer 1, plainly: bytes by their places. No condition. -/
import Derived.Test.YtdomlnhgafielaaGreatDoorAmpTxtC
import Derived.Lib.Bytealg
namespace Go.Proofs.YtdomlnhgafielaaGreatDoor
open Go Go.RowKit Amp

theorem tw_take {p : UInt8 → Bool} : ∀ l : List UInt8, (l.takeWhile p).length ≤ l.length ∧ l.take (l.takeWhile p).length = l.takeWhile p ∧ l.drop (l.takeWhile p).length = l.dropWhile p
  | [] => ⟨Nat.le_refl _, rfl, rfl⟩
  | c :: l => by
    obtain ⟨h1, h2, h3⟩ := tw_take (p := p) l
    by_cases hc : p c = true
    · rw [List.takeWhile_cons, List.dropWhile_cons, if_pos hc, if_pos hc]
      refine ⟨?_, ?_, ?_⟩
      · rw [List.length_cons, List.length_cons]; omega
      · rw [List.length_cons, List.take_succ_cons, h2]
      · rw [List.length_cons, List.drop_succ_cons, h3]
    · rw [List.takeWhile_cons, List.dropWhile_cons, if_neg hc, if_neg hc]
      exact ⟨Nat.zero_le _, rfl, rfl⟩
theorem tw_in {p : UInt8 → Bool} : ∀ (l : List UInt8) (j : Nat), j < (l.takeWhile p).length → p (l.getD j 0) = true
  | [], j, h => absurd h (Nat.not_lt_zero j)
  | c :: l, j, h => by
    by_cases hc : p c = true
    · rw [List.takeWhile_cons, if_pos hc, List.length_cons] at h
      match j, h with
      | 0, _ => exact hc
      | j + 1, h => exact tw_in l j (by omega)
    · rw [List.takeWhile_cons, if_neg hc] at h
      exact absurd h (Nat.not_lt_zero j)
theorem tw_out {p : UInt8 → Bool} : ∀ l : List UInt8, (l.takeWhile p).length < l.length → p (l.getD (l.takeWhile p).length 0) = false
  | [], h => absurd h (Nat.lt_irrefl 0)
  | c :: l, h => by
    by_cases hc : p c = true
    · rw [List.takeWhile_cons, if_pos hc, List.length_cons] at h ⊢
      exact tw_out l (by rw [List.length_cons] at h; omega)
    · rw [List.takeWhile_cons, if_neg hc]
      simpa using hc
theorem getD_drop (l : List UInt8) (i j : Nat) : (l.drop i).getD j 0 = l.getD (i + j) 0 := by
  rw [List.getD_eq_getElem?_getD, List.getD_eq_getElem?_getD, List.getElem?_drop]
/-- Where the signs end. -/
def sgN (l : List UInt8) : Nat := (l.takeWhile sgB).length
theorem sgN_le (l : List UInt8) : sgN l ≤ l.length := (tw_take l).1
theorem sgN_in {l : List UInt8} {j : Nat} (h : j < sgN l) : sgB (l.getD j 0) = true := tw_in l j h
theorem sgN_out {l : List UInt8} (h : sgN l < l.length) : sgB (l.getD (sgN l) 0) = false := tw_out l h
theorem headN_eq (l : List UInt8) : headN l = sgN l + ((l.drop (sgN l)).takeWhile dgB).length := by
  unfold headN sgN
  rw [(tw_take l).2.2]
theorem headN_ge (l : List UInt8) : sgN l ≤ headN l := by rw [headN_eq]; omega
theorem headN_le (l : List UInt8) : headN l ≤ l.length := by
  rw [headN_eq]
  have h1 := (tw_take (p := dgB) (l.drop (sgN l))).1
  have h2 := sgN_le l
  rw [List.length_drop] at h1
  omega
theorem headN_in {l : List UInt8} {j : Nat} (h0 : sgN l ≤ j) (h : j < headN l) : dgB (l.getD j 0) = true := by
  rw [headN_eq] at h
  have := tw_in (p := dgB) (l.drop (sgN l)) (j - sgN l) (by omega)
  rw [getD_drop, show sgN l + (j - sgN l) = j by omega] at this
  exact this
theorem headN_out {l : List UInt8} (h : headN l < l.length) : dgB (l.getD (headN l) 0) = false := by
  rw [headN_eq] at h ⊢
  have := tw_out (p := dgB) (l.drop (sgN l)) (by rw [List.length_drop]; omega)
  rw [getD_drop] at this
  exact this
theorem sg_num {c : UInt8} {m : Int} (hm : (c.toNat : Int) = m) : sgB c = (decide (m = 45) || decide (m = 43)) := by
  subst hm
  unfold sgB
  have h45 : (c == 45) = decide ((c.toNat : Int) = 45) := by
    rw [Bool.eq_iff_iff, beq_iff_eq, decide_eq_true_iff]
    constructor
    · rintro rfl; rfl
    · intro h; exact UInt8.toNat_inj.1 (by show c.toNat = 45; omega)
  have h43 : (c == 43) = decide ((c.toNat : Int) = 43) := by
    rw [Bool.eq_iff_iff, beq_iff_eq, decide_eq_true_iff]
    constructor
    · rintro rfl; rfl
    · intro h; exact UInt8.toNat_inj.1 (by show c.toNat = 43; omega)
  rw [h45, h43]
theorem dg_num {c : UInt8} {m : Int} (hm : (c.toNat : Int) = m) : dgB c = (decide (48 ≤ m) && decide (m ≤ 57)) := by
  subst hm
  unfold dgB
  rw [Bool.eq_iff_iff, Bool.and_eq_true, decide_eq_true_iff, decide_eq_true_iff, decide_eq_true_iff]
  omega
/-! ### The first '/' -/
theorem idx_bef : ∀ l : List UInt8, (has47 l = true → Lib.indexByte l 47 = (bef l).length ∧ (bef l).length + 1 ≤ l.length) ∧ (has47 l = false → Lib.indexByte l 47 = -1 ∧ bef l = l ∧ aft l = [])
  | [] => ⟨fun h => (by cases h), fun _ => ⟨rfl, rfl, rfl⟩⟩
  | c :: l => by
    obtain ⟨h1, h2⟩ := idx_bef l
    by_cases hc : c = 47
    · subst hc
      refine ⟨fun _ => ⟨rfl, ?_⟩, fun h => (by cases h)⟩
      rw [List.length_cons]
      exact Nat.le_add_left _ _
    · have e1 : (c == 47) = false := beq_eq_false_iff_ne.2 hc
      have e2 : (c != 47) = true := by rw [bne, e1]; rfl
      have eh : has47 (c :: l) = has47 l := by unfold has47; rw [List.any_cons, e1, Bool.false_or]
      have eb : bef (c :: l) = c :: bef l := by unfold bef; rw [List.takeWhile_cons, if_pos e2]
      have ea : aft (c :: l) = aft l := by unfold aft; rw [List.dropWhile_cons, if_pos e2]
      have ei : Lib.indexByte (c :: l) 47 = if Lib.indexByte l 47 == -1 then -1 else Lib.indexByte l 47 + 1 := by
        show (if c == 47 then 0 else if Lib.indexByte l 47 == -1 then -1 else Lib.indexByte l 47 + 1) = _
        rw [e1]
        rfl
      rw [eh, eb, ea, ei]
      refine ⟨fun h => ?_, fun h => ?_⟩
      · obtain ⟨a1, a2⟩ := h1 h
        rw [a1, if_neg (by simp), List.length_cons, List.length_cons]
        exact ⟨rfl, by omega⟩
      · obtain ⟨a1, a2, a3⟩ := h2 h
        rw [a1, a2, a3]
        exact ⟨rfl, rfl, rfl⟩
theorem bef_take {l : List UInt8} : l.take (bef l).length = bef l := (tw_take l).2.1
theorem aft_drop {l : List UInt8} : l.drop ((bef l).length + 1) = aft l := by
  unfold aft
  rw [← (tw_take (p := fun c => c != 47) l).2.2]
  show l.drop ((l.takeWhile fun c => c != 47).length + 1) = _
  rw [List.tail_drop]
end Go.Proofs.YtdomlnhgafielaaGreatDoor
