/- Layer 3, plainly: sums of products, one after the other. No condition. -/
import Derived.Test.YtdomlnhgafielaaGreatDoorAmpPlain
import Derived.Test.YtdomlnhgafielaaGreatDoorMshPlain
import Derived.Test.YtdomlnhgafielaaGreatDoorAmpAlg

namespace Msh
open Amp

/-- The products of a list, added one after the other onto s. -/
def rowA (s : C4) (k : Int) : List (Num × Num) → Res
  | [] => ⟨s, k, 0⟩
  | p :: t =>
    let m := mulN p.1.x p.1.k p.2.x p.2.k
    if m.e = 0 then
      let a := addN s k m.x m.k
      if a.e = 0 then rowA a.x a.k t else ⟨zero, 0, a.e⟩
    else ⟨zero, 0, m.e⟩
def rowN (l : List (Num × Num)) : Res := rowA zero 0 l
theorem rowA_mul {s : C4} {k : Int} {l : List (Num × Num)} {i : Nat} {p : Num × Num} (h : l[i]? = some p) {m : Res} (hm : mulN p.1.x p.1.k p.2.x p.2.k = m) (he : ¬ m.e = 0) : rowA s k (l.drop i) = ⟨zero, 0, m.e⟩ := by
  obtain ⟨hi, rfl⟩ := List.getElem?_eq_some_iff.1 h
  rw [List.drop_eq_getElem_cons hi]
  subst hm
  simp only [rowA]
  rw [if_neg he]
theorem rowA_add {s : C4} {k : Int} {l : List (Num × Num)} {i : Nat} {p : Num × Num} (h : l[i]? = some p) {m a : Res} (hm : mulN p.1.x p.1.k p.2.x p.2.k = m) (he : m.e = 0) (ha : addN s k m.x m.k = a) (hae : ¬ a.e = 0) : rowA s k (l.drop i) = ⟨zero, 0, a.e⟩ := by
  obtain ⟨hi, rfl⟩ := List.getElem?_eq_some_iff.1 h
  rw [List.drop_eq_getElem_cons hi]
  subst hm
  subst ha
  simp only [rowA]
  rw [if_pos he, if_neg hae]
theorem rowA_step {s : C4} {k : Int} {l : List (Num × Num)} {i : Nat} {p : Num × Num} (h : l[i]? = some p) {m a : Res} (hm : mulN p.1.x p.1.k p.2.x p.2.k = m) (he : m.e = 0) (ha : addN s k m.x m.k = a) (hae : a.e = 0) : rowA s k (l.drop i) = rowA a.x a.k (l.drop (i + 1)) := by
  obtain ⟨hi, rfl⟩ := List.getElem?_eq_some_iff.1 h
  rw [List.drop_eq_getElem_cons hi]
  subst hm
  subst ha
  simp only [rowA]
  rw [if_pos he, if_pos hae]
theorem rowA_end (s : C4) (k : Int) (l : List (Num × Num)) : rowA s k (l.drop l.length) = ⟨s, k, 0⟩ := by
  rw [List.drop_length]
  rfl
/-- The factors of the element in row i and column k of a product. -/
def prow (la lb : List Num) (n i k : Nat) : List (Num × Num) := (List.range n).map fun j => (la.getD (i * n + j) ⟨zero, 0⟩, lb.getD (j * n + k) ⟨zero, 0⟩)
theorem prow_length (la lb : List Num) (n i k : Nat) : (prow la lb n i k).length = n := by simp [prow]
theorem grid_lt {n i j : Nat} (hi : i < n) (hj : j < n) : i * n + j < n * n := by
  have h : (i + 1) * n ≤ n * n := Nat.mul_le_mul_right n hi
  rw [Nat.add_mul, Nat.one_mul] at h
  omega
theorem prow_at {la lb : List Num} {n i k j : Nat} {p : Num × Num} (hla : la.length = n * n) (hlb : lb.length = n * n) (hi : i < n) (hk : k < n) (h : (prow la lb n i k)[j]? = some p) :
    j < n ∧ la[i * n + j]? = some p.1 ∧ lb[j * n + k]? = some p.2 := by
  obtain ⟨hj, rfl⟩ := List.getElem?_eq_some_iff.1 h
  rw [prow_length] at hj
  have h1 : i * n + j < la.length := by rw [hla]; exact grid_lt hi hj
  have h2 : j * n + k < lb.length := by rw [hlb]; exact grid_lt hj hk
  refine ⟨hj, ?_, ?_⟩
  · simp [prow, List.getD, List.getElem?_eq_getElem h1]
  · simp [prow, List.getD, List.getElem?_eq_getElem h2]
theorem sq_le {i n : Nat} (hi : i < n) (hn : n ≤ 6) : i * n ≤ 36 := by
  have h := Nat.mul_le_mul (show i ≤ 6 by omega) hn
  omega
end Msh

/- Layer 3, plainly: lists of answers up to the first error; the identity, an item's matrix, placed; the matrix of items. No condition. -/

namespace Msh
open Amp

/-- The numbers of a list of answers, or the first error. -/
def seqR : List Res → List Num × Int
  | [] => ([], 0)
  | r :: t => if r.e = 0 then (if (seqR t).2 = 0 then (⟨r.x, r.k⟩ :: (seqR t).1, 0) else ([], (seqR t).2)) else ([], r.e)
theorem seqR_ok : ∀ (L : List Res), (∀ r ∈ L, r.e = 0) → seqR L = (L.map fun r => ⟨r.x, r.k⟩, 0)
  | [], _ => rfl
  | r :: t, h => by
    have h1 := seqR_ok t fun r hr => h r (List.mem_cons_of_mem _ hr)
    simp [seqR, h1, h r List.mem_cons_self]
theorem seqR_zero : ∀ (L : List Res), (seqR L).2 = 0 → ∀ r ∈ L, r.e = 0
  | [], _, r, hr => by simp at hr
  | q :: t, h, r, hr => by
    simp only [seqR] at h
    by_cases h1 : q.e = 0
    · rw [if_pos h1] at h
      by_cases h2 : (seqR t).2 = 0
      · rcases List.mem_cons.1 hr with rfl | hr
        · exact h1
        · exact seqR_zero t h2 r hr
      · rw [if_neg h2] at h; exact absurd h h2
    · rw [if_neg h1] at h; exact absurd h h1
theorem seqR_bad : ∀ (A : List Res) (r : Res) (B : List Res), (∀ q ∈ A, q.e = 0) → r.e ≠ 0 → seqR (A ++ r :: B) = ([], r.e)
  | [], r, B, _, hr => by simp [seqR, hr]
  | q :: A, r, B, hA, hr => by
    have h1 := seqR_bad A r B (fun q hq => hA q (List.mem_cons_of_mem _ hq)) hr
    simp [seqR, h1, hA q List.mem_cons_self, hr]
theorem seqR_err {L : List Res} (h : (seqR L).2 ≠ 0) : (seqR L).1 = [] := by
  cases L with
  | nil => rfl
  | cons r t =>
    simp only [seqR] at *
    by_cases h1 : r.e = 0
    · rw [if_pos h1] at *
      by_cases h2 : (seqR t).2 = 0
      · rw [if_pos h2] at h; simp at h
      · rw [if_neg h2]
    · rw [if_neg h1]
theorem seqR_step {L : List Res} {q : Nat} {l : List Num} {r : Res} (h : seqR (L.take q) = (l, 0)) (hr : L[q]? = some r) (he : r.e = 0) : seqR (L.take (q + 1)) = (l ++ [⟨r.x, r.k⟩], 0) := by
  have h0 : ∀ r ∈ L.take q, r.e = 0 := seqR_zero _ (by rw [h])
  have h1 := seqR_ok _ h0
  rw [h] at h1
  rw [seqR_ok]
  · rw [List.take_add_one, hr]
    simp at h1
    simp [h1]
  · intro r' hr'
    rw [List.take_add_one, hr] at hr'
    rcases List.mem_append.1 hr' with h2 | h2
    · exact h0 r' h2
    · simp at h2; rw [h2]; exact he
theorem seqR_stop {L : List Res} {q : Nat} {l : List Num} {r : Res} (h : seqR (L.take q) = (l, 0)) (hr : L[q]? = some r) (he : ¬ r.e = 0) : seqR L = ([], r.e) := by
  have h0 : ∀ r ∈ L.take q, r.e = 0 := seqR_zero _ (by rw [h])
  obtain ⟨hq, rfl⟩ := List.getElem?_eq_some_iff.1 hr
  have := seqR_bad (L.take q) L[q] (L.drop (q + 1)) h0 he
  rw [← List.drop_eq_getElem_cons hq, List.take_append_drop] at this
  exact this
theorem seqR_len {L : List Res} {q : Nat} {l : List Num} (h : seqR (L.take q) = (l, 0)) (hq : q ≤ L.length) : l.length = q := by
  have h0 : ∀ r ∈ L.take q, r.e = 0 := seqR_zero _ (by rw [h])
  have h1 := seqR_ok _ h0
  rw [h] at h1
  simp at h1
  rw [h1]
  simp
  omega

/-- The elements of a matrix, row by row. -/
def gridR {α : Type} (n : Nat) (F : Nat → Nat → α) : List α := (List.range (n * n)).map fun q => F (q / n) (q % n)
theorem gridR_length {α : Type} (n : Nat) (F : Nat → Nat → α) : (gridR n F).length = n * n := by simp [gridR]
theorem grid_div {n i k : Nat} (hk : k < n) : (i * n + k) / n = i ∧ (i * n + k) % n = k := by
  have hn : 0 < n := by omega
  constructor
  · rw [Nat.add_comm, Nat.add_mul_div_right _ _ hn, Nat.div_eq_of_lt hk]; omega
  · rw [Nat.add_comm, Nat.add_mul_mod_self_right, Nat.mod_eq_of_lt hk]
theorem gridR_at {α : Type} {n i k : Nat} (F : Nat → Nat → α) (hi : i < n) (hk : k < n) : (gridR n F)[i * n + k]? = some (F i k) := by
  have h := grid_lt hi hk
  obtain ⟨h1, h2⟩ := grid_div (i := i) hk
  simp [gridR, List.getElem?_range h, h1, h2]
theorem grid_spread {n q : Nat} (h : q < n * n) : q / n < n ∧ q % n < n ∧ q = q / n * n + q % n := by
  have hn : 0 < n := by
    rcases Nat.eq_zero_or_pos n with rfl | hn
    · simp at h
    · exact hn
  refine ⟨(Nat.div_lt_iff_lt_mul hn).2 h, Nat.mod_lt _ hn, ?_⟩
  rw [Nat.mul_comm]
  exact (Nat.div_add_mod q n).symm
/-- A matrix of answers: its rows, its elements, or the first error. -/
def matR (n : Nat) (F : Nat → Nat → Res) : List Num × Int := seqR (gridR n F)
/-- The rows of a matrix that is, or is not, one. -/
def rowsOf (n : Nat) (e : Int) : Int := if e = 0 then n else 0

def oneZ : Num := ⟨⟨1, 0, 0, 0⟩, 0⟩
def noneZ : Num := ⟨⟨0, 0, 0, 0⟩, 0⟩
def idN (n : Nat) : List Num := gridR n fun i k => if i = k then oneZ else noneZ
/-- The product of two matrices of n rows. -/
def mulM (n : Nat) (la lb : List Num) : List Num × Int := matR n fun i k => rowN (prow la lb n i k)
/-- An item's matrix on its own guides: its rows. -/
def ownW (kind : Int) : Nat := if kind = 1 then 1 else 2
def ownM (kind n : Int) : List Num :=
  if kind = 1 then [⟨turnC (n % 8).toNat ⟨1, 0, 0, 0⟩, 0⟩]
  else if kind = 3 then [noneZ, oneZ, oneZ, noneZ]
  else [⟨⟨1, 0, 0, 0⟩, 1⟩, ⟨⟨0, 0, 1, 0⟩, 1⟩, ⟨⟨0, 0, 1, 0⟩, 1⟩, ⟨⟨1, 0, 0, 0⟩, 1⟩]
end Msh

/- Layer 3, plainly: a matrix laid into the identity. No condition. -/

namespace Msh
open Amp
/-- Where the element q of the small matrix comes to lie. -/
def placeI (n p m q : Nat) : Nat := (p - 1 + q / m) * n + (p - 1) + q % m
def placeL (n p m : Nat) (lm : List Num) : Nat → List Num
  | 0 => idN n
  | q + 1 => (placeL n p m lm q).set (placeI n p m q) (lm.getD q noneZ)
/-- The matrix of n rows that has a small one from guide p on, and is the identity elsewhere. -/
def placeN (n p m : Nat) (lm : List Num) : List Num := placeL n p m lm (m * m)
theorem idN_length (n : Nat) : (idN n).length = n * n := gridR_length n _
theorem placeL_length (n p m : Nat) (lm : List Num) : ∀ q, (placeL n p m lm q).length = n * n
  | 0 => idN_length n
  | q + 1 => by rw [placeL, List.length_set, placeL_length n p m lm q]
theorem placeI_eq {n p m i k : Nat} (hk : k < m) : placeI n p m (i * m + k) = (p - 1 + i) * n + (p - 1) + k := by
  obtain ⟨h1, h2⟩ := grid_div (i := i) hk
  rw [placeI, h1, h2]
theorem placeI_lt {n p m i k : Nat} (hp1 : 1 ≤ p) (hp : p + m ≤ n + 1) (hi : i < m) (hk : k < m) : (p - 1 + i) * n + (p - 1) + k < n * n := by
  have := grid_lt (n := n) (i := p - 1 + i) (j := p - 1 + k) (by omega) (by omega)
  omega
end Msh

/- Layer 3, plainly: the matrix of items. No condition. -/

namespace Msh
open Amp
def VldL (l : List Num) : Prop := ∀ (i : Nat) (z : Num), l[i]? = some z → validB z.x z.k = true
theorem VldL.mem {l : List Num} (h : VldL l) {z : Num} (hz : z ∈ l) : validB z.x z.k = true := by
  obtain ⟨i, hi⟩ := List.getElem?_of_mem hz
  exact h i z hi
theorem VldL.of {l : List Num} (h : ∀ z ∈ l, validB z.x z.k = true) : VldL l := fun _ z hz => h z (List.mem_of_getElem? hz)
theorem idN_valid (n : Nat) : VldL (idN n) := VldL.of fun z hz => by
  unfold idN gridR at hz
  obtain ⟨q, _, rfl⟩ := List.mem_map.1 hz
  dsimp only
  split <;> decide
theorem ownM_valid (kind n : Int) : VldL (ownM kind n) := VldL.of fun z hz => by
  unfold ownM at hz
  split at hz
  · simp at hz
    subst hz
    have := small_turn (n % 8).toNat (x := ⟨1, 0, 0, 0⟩) (by decide)
    simp [validB, this]
  · split at hz
    · simp at hz
      rcases hz with rfl | rfl | rfl <;> decide
    · simp at hz
      rcases hz with rfl | rfl | rfl <;> decide
theorem ownM_length (kind n : Int) : (ownM kind n).length = ownW kind * ownW kind := by
  unfold ownM ownW
  split
  · rfl
  · split <;> rfl
theorem placeL_valid {n p m : Nat} {lm : List Num} (h : VldL lm) : ∀ q, VldL (placeL n p m lm q)
  | 0 => idN_valid n
  | q + 1 => VldL.of fun z hz => by
    unfold placeL at hz
    rcases List.mem_or_eq_of_mem_set hz with h1 | rfl
    · exact (placeL_valid h q).mem h1
    · rw [List.getD_eq_getElem?_getD]
      cases hq : lm[q]? with
      | none => decide
      | some y => exact h q y hq
theorem rowA_valid : ∀ (l : List (Num × Num)) (s : C4) (k : Int), validB s k = true → (rowA s k l).e = 0 → validB (rowA s k l).x (rowA s k l).k = true
  | [], s, k, h, _ => h
  | p :: t, s, k, h, he => by
    simp only [rowA] at *
    by_cases h1 : (mulN p.1.x p.1.k p.2.x p.2.k).e = 0
    · rw [if_pos h1] at *
      by_cases h2 : (addN s k (mulN p.1.x p.1.k p.2.x p.2.k).x (mulN p.1.x p.1.k p.2.x p.2.k).k).e = 0
      · rw [if_pos h2] at *
        refine rowA_valid t _ _ ?_ he
        rcases addN_cases s (mulN p.1.x p.1.k p.2.x p.2.k).x k (mulN p.1.x p.1.k p.2.x p.2.k).k with ⟨e, h3, h4⟩ | ⟨_, _, i, s', _, _, _, _, h4, h5, _⟩
        · rw [h4] at h2; exact absurd h2 h3
        · rw [h4]; exact h5
      · rw [if_neg h2] at he; exact absurd he h2
    · rw [if_neg h1] at he; exact absurd he h1
theorem matR_valid {n : Nat} {F : Nat → Nat → Res} (hF : ∀ i k, (F i k).e = 0 → validB (F i k).x (F i k).k = true) : VldL (matR n F).1 := VldL.of fun z hz => by
  by_cases h : (matR n F).2 = 0
  · have h1 := seqR_ok _ (seqR_zero _ h)
    unfold matR at hz
    rw [h1] at hz
    obtain ⟨r, hr, rfl⟩ := List.mem_map.1 hz
    have h2 := seqR_zero _ h r hr
    unfold gridR at hr
    obtain ⟨q, _, rfl⟩ := List.mem_map.1 hr
    exact hF _ _ h2
  · rw [show (matR n F).1 = [] from seqR_err h] at hz
    cases hz
theorem mulM_valid (n : Nat) (la lb : List Num) : VldL (mulM n la lb).1 := matR_valid fun _ _ h => rowA_valid _ _ _ (by decide) h
theorem matR_length {n : Nat} {F : Nat → Nat → Res} (h : (matR n F).2 = 0) : (matR n F).1.length = n * n := by
  have h1 := seqR_ok _ (seqR_zero _ h)
  unfold matR
  rw [h1, List.length_map, gridR_length]

/-- One more item. -/
def stepM (n : Nat) (x : It) (l : List Num) : List Num × Int := mulM n (placeN n x.pos.toNat (ownW x.kind) (ownM x.kind x.n)) l
/-- The matrix of items, from a matrix on; or the first error. -/
def itsM (n : Nat) : List It → List Num → List Num × Int
  | [], l => (l, 0)
  | x :: t, l => if (stepM n x l).2 = 0 then itsM n t (stepM n x l).1 else ([], (stepM n x l).2)
/-- The matrix of flat items, or the error. -/
def matOf (g : Int) (l : List It) : List Num × Int := if chkIts g l = 0 then itsM g.toNat l (idN g.toNat) else ([], chkIts g l)
theorem itsM_step {n : Nat} {L : List It} {i : Nat} {x : It} {l : List Num} (h : L[i]? = some x) (he : (stepM n x l).2 = 0) : itsM n (L.drop i) l = itsM n (L.drop (i + 1)) (stepM n x l).1 := by
  obtain ⟨hi, rfl⟩ := List.getElem?_eq_some_iff.1 h
  rw [List.drop_eq_getElem_cons hi]
  simp only [itsM]
  rw [if_pos he]
theorem itsM_stop {n : Nat} {L : List It} {i : Nat} {x : It} {l : List Num} (h : L[i]? = some x) (he : (stepM n x l).2 ≠ 0) : itsM n (L.drop i) l = ([], (stepM n x l).2) := by
  obtain ⟨hi, rfl⟩ := List.getElem?_eq_some_iff.1 h
  rw [List.drop_eq_getElem_cons hi]
  simp only [itsM]
  rw [if_neg he]
/-- What a valid item is. -/
theorem okIt_iff {g : Int} {x : It} (h : okIt g x = true) : wid x.kind x.n x.name ≠ 0 ∧ (x.kind = 1 ∨ x.kind = 2 ∨ x.kind = 3) ∧ 1 ≤ x.pos ∧ x.pos + (ownW x.kind : Int) ≤ g + 1 ∧ wid x.kind x.n x.name = ownW x.kind ∧ x.name.toList = [] := by
  unfold okIt at h
  simp only [Bool.and_eq_true, decide_eq_true_eq] at h
  obtain ⟨h1, h2, h3⟩ := h
  have h1' := h1
  unfold wid at h1 h3
  split at h1
  case isFalse => exact absurd rfl h1
  rename_i hn
  rw [if_pos hn] at h3
  split at h1
  · rename_i hk
    rw [if_pos hk] at h3
    refine ⟨h1', .inl hk.1, h2, ?_, ?_, hn⟩
    · unfold ownW; rw [if_pos hk.1]; omega
    · unfold wid ownW; rw [if_pos hn, if_pos hk, if_pos hk.1]; rfl
  · split at h1
    · rename_i hk hk2
      rw [if_neg hk, if_pos hk2] at h3
      have hk1 : x.kind ≠ 1 := by omega
      refine ⟨h1', .inr hk2.1, h2, ?_, ?_, hn⟩
      · unfold ownW; rw [if_neg hk1]; omega
      · unfold wid ownW; rw [if_pos hn, if_neg hk, if_pos hk2, if_neg hk1]; rfl
    · exact absurd rfl h1
theorem chkIts_zero {g : Int} {l : List It} (h : chkIts g l = 0) : 1 ≤ g ∧ g ≤ 6 ∧ l.length ≤ 5000 ∧ okIts g l = true := by
  unfold chkIts at h
  split at h
  · rename_i hg
    split at h
    · rename_i hv
      unfold vldIts at hv
      simp only [Bool.and_eq_true, decide_eq_true_eq] at hv
      exact ⟨hg.1, hg.2, hv.1.2, hv.2⟩
    · omega
  · omega
end Msh
