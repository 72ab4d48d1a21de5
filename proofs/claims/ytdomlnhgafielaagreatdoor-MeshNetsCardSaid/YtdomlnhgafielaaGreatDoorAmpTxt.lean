/- Layer 1, plainly: the text of a number. No condition. -/
import Derived.Test.YtdomlnhgafielaaGreatDoorAmpPlain
import Derived.Lib.ItoaNum
import Derived.Lib.AtoiAll
import Derived.RowKit
namespace Go.Proofs.YtdomlnhgafielaaGreatDoor
open Go Go.RowKit Amp

/-- The name of a term. -/
def nameT : Nat → List UInt8
  | 0 => []
  | 1 => [119]
  | 2 => [119, 50]
  | _ => [119, 51]
/-- A term that is not 0. -/
def termT (i : Nat) (x : Int) : List UInt8 := (if 0 < i ∧ x = 1 then [] else if 0 < i ∧ x = -1 then [45] else Lib.itoa x) ++ nameT i
def plusT (x : Int) (acc : List UInt8) : List UInt8 := if 0 < x ∧ acc ≠ [] then [43] else []
def addT (i : Nat) (x : Int) (acc : List UInt8) : List UInt8 := if x = 0 then acc else acc ++ (plusT x acc ++ termT i x)
def bodyT (x : C4) : List UInt8 := addT 3 x.d (addT 2 x.c (addT 1 x.b (addT 0 x.a [])))
def expT (k : Int) : List UInt8 := if 0 < k then 47 :: Lib.itoa k else []
/-- The text of a number. -/
def textT (x : C4) (k : Int) : List UInt8 := if bodyT x = [] then [48] else bodyT x ++ expT k

/-! ### Digits -/
def dgB (c : UInt8) : Bool := decide (48 ≤ c.toNat ∧ c.toNat ≤ 57)
def sgB (c : UInt8) : Bool := c == 45 || c == 43
theorem dg_small {n : Nat} (h : n < 10) : dgB (UInt8.ofNat (48 + n)) = true ∧ (UInt8.ofNat (48 + n)).toNat = 48 + n := by
  have e : (UInt8.ofNat (48 + n)).toNat = 48 + n := by
    rw [UInt8.toNat_ofNat']
    omega
  refine ⟨?_, e⟩
  unfold dgB
  rw [e]
  exact decide_eq_true ⟨by omega, by omega⟩
theorem dec_digits (u : Nat) : ∀ c ∈ Lib.decDigits u, dgB c = true := by
  induction u using Nat.strongRecOn with
  | _ u ih =>
    intro c hc
    rw [Lib.decDigits] at hc
    split at hc
    · rename_i h
      rw [List.mem_singleton] at hc
      subst hc
      exact (dg_small h).1
    · rename_i h
      rcases List.mem_append.1 hc with hc | hc
      · exact ih (u / 10) (by omega) c hc
      · rw [List.mem_singleton] at hc
        subst hc
        exact (dg_small (Nat.mod_lt _ (by decide))).1
theorem dec_ne (u : Nat) : Lib.decDigits u ≠ [] := by
  rw [Lib.decDigits]
  split
  · exact List.cons_ne_nil _ _
  · exact List.append_ne_nil_of_right_ne_nil _ (List.cons_ne_nil _ _)
theorem dec_len : ∀ (m u : Nat), u < 10 ^ (m + 1) → (Lib.decDigits u).length ≤ m + 1
  | 0, u, h => by
    rw [Lib.decDigits, dif_pos (by simpa using h)]
    exact Nat.le_refl _
  | m + 1, u, h => by
    rw [Lib.decDigits]
    split
    · simp
    · rw [List.length_append]
      have := dec_len m (u / 10) (by rw [Nat.pow_succ] at h; omega)
      simp
      omega
/-- The number that digits spell, behind one that stands already. -/
def valD (acc : Nat) (l : List UInt8) : Nat := l.foldl (fun n c => 10 * n + (c.toNat - 48)) acc
theorem val_dec (u : Nat) : ∀ acc, valD acc (Lib.decDigits u) = acc * 10 ^ (Lib.decDigits u).length + u := by
  induction u using Nat.strongRecOn with
  | _ u ih =>
    intro acc
    rw [Lib.decDigits]
    split
    · rename_i h
      show 10 * acc + ((UInt8.ofNat (48 + u)).toNat - 48) = acc * 10 ^ 1 + u
      rw [(dg_small h).2]
      omega
    · rename_i h
      unfold valD at *
      rw [List.foldl_append, ih (u / 10) (by omega), List.length_append, List.length_singleton]
      show 10 * (acc * 10 ^ (Lib.decDigits (u / 10)).length + u / 10) + ((UInt8.ofNat (48 + u % 10)).toNat - 48) = _
      rw [(dg_small (Nat.mod_lt _ (by decide))).2, Nat.pow_succ]
      have e : acc * (10 ^ (Lib.decDigits (u / 10)).length * 10) = 10 * (acc * 10 ^ (Lib.decDigits (u / 10)).length) := by
        rw [← Nat.mul_assoc, Nat.mul_comm]
      rw [e]
      omega
/-! ### What Atoi reads -/
theorem parse_digits : ∀ (l : List UInt8) (acc : Nat), (∀ c ∈ l, dgB c = true) → l.length ≤ 18 → acc * 10 ^ l.length + 10 ^ l.length ≤ 10 ^ 18 + 10 ^ 18 * 0 → Lib.parseUint10 acc l = .ok (valD acc l)
  | [], acc, _, _, _ => rfl
  | c :: l, acc, hc, hl, hb => by
    have h1 := of_decide_eq_true (hc c List.mem_cons_self)
    have hp : 1 ≤ 10 ^ l.length := Nat.one_le_pow _ _ (by decide)
    rw [List.length_cons, Nat.pow_succ] at hb
    have h2 : acc * 10 * 10 ^ l.length + 10 * 10 ^ l.length ≤ 10 ^ 18 := by
      have e : acc * (10 ^ l.length * 10) = acc * 10 * 10 ^ l.length := by rw [Nat.mul_assoc, Nat.mul_comm 10]
      omega
    have h3 : (acc * 10 + 10) * 10 ^ l.length ≤ 10 ^ 18 := by rw [Nat.add_mul]; exact h2
    have h4 : acc * 10 + 10 ≤ 10 ^ 18 := Nat.le_trans (Nat.le_mul_of_pos_right _ hp) h3
    unfold Lib.parseUint10
    rw [if_pos h1, if_neg (by omega), if_neg (by omega)]
    have h5 := parse_digits l (acc * 10 + (c.toNat - 48)) (fun d hd => hc d (List.mem_cons_of_mem _ hd)) (by rw [List.length_cons] at hl; omega) (by
      have h6 : (acc * 10 + (c.toNat - 48)) * 10 ^ l.length + 10 ^ l.length = (acc * 10 + (c.toNat - 48) + 1) * 10 ^ l.length := by rw [Nat.add_mul (acc * 10 + (c.toNat - 48)), Nat.one_mul]
      rw [h6]
      refine Nat.le_trans (Nat.mul_le_mul_right _ (show acc * 10 + (c.toNat - 48) + 1 ≤ acc * 10 + 10 by omega)) ?_
      omega)
    rw [h5]
    show _ = Lib.NumEnd.ok (l.foldl _ (10 * acc + (c.toNat - 48)))
    unfold valD
    rw [Nat.mul_comm acc 10]
theorem parse_dec {u : Nat} (h : u < 10 ^ 18) : Lib.parseMag (Lib.decDigits u) = .ok u := by
  unfold Lib.parseMag
  rw [if_neg (dec_ne u)]
  have hl := dec_len 17 u h
  rw [parse_digits _ 0 (dec_digits u) hl (by rw [Nat.zero_mul, Nat.zero_add]; exact Nat.le_trans (Nat.pow_le_pow_right (by decide) hl) (by decide)), val_dec, Nat.zero_mul, Nat.zero_add]
theorem atoi_cons (c : UInt8) (r : List UInt8) : Lib.atoiAll (c :: r) = match Lib.parseMag (if c.toNat = 43 ∨ c.toNat = 45 then r else c :: r) with
    | .syntax => .syntax
    | .range => .range
    | .ok u => if ¬ c.toNat = 45 ∧ 9223372036854775808 ≤ u then .range else if c.toNat = 45 ∧ 9223372036854775808 < u then .range else .ok (if c.toNat = 45 then -(u : Int) else u) := rfl
theorem dg_not_sign {c : UInt8} (h : dgB c = true) : ¬ (c.toNat = 43 ∨ c.toNat = 45) ∧ ¬ c.toNat = 45 := by
  have := of_decide_eq_true h
  omega
theorem atoi_dec {u : Nat} (h : u < 10 ^ 18) : Lib.atoiAll (Lib.decDigits u) = .ok u := by
  have hm := parse_dec h
  have hd := dec_digits u
  have hn := dec_ne u
  generalize Lib.decDigits u = l at *
  match l, hn with
  | c :: r, _ =>
    obtain ⟨h1, h2⟩ := dg_not_sign (hd c List.mem_cons_self)
    rw [atoi_cons, if_neg h1, hm]
    dsimp only
    rw [if_neg (by omega), if_neg (fun h => h2 h.1), if_neg h2]
theorem atoi_signed {u : Nat} (h : u < 10 ^ 18) (c : UInt8) (hc : c = 43 ∨ c = 45) : Lib.atoiAll (c :: Lib.decDigits u) = .ok (if c = 45 then -(u : Int) else u) := by
  have hm := parse_dec h
  rcases hc with rfl | rfl
  · rw [atoi_cons, if_pos (.inl (by decide)), hm]
    dsimp only
    rw [if_neg (by omega), if_neg (fun h => absurd h.1 (by decide)), if_neg (by decide), if_neg (by decide)]
  · rw [atoi_cons, if_pos (.inr (by decide)), hm]
    dsimp only
    rw [if_neg (fun h => h.1 (by decide)), if_neg (by omega), if_pos (by decide), if_pos rfl]
theorem itoa_pos {x : Int} (h : 0 ≤ x) : Lib.itoa x = Lib.decDigits x.toNat := by unfold Lib.itoa; rw [if_neg (by omega)]
theorem itoa_neg {x : Int} (h : x < 0) : Lib.itoa x = 45 :: Lib.decDigits x.natAbs := by unfold Lib.itoa; rw [if_pos h]
end Go.Proofs.YtdomlnhgafielaaGreatDoor
