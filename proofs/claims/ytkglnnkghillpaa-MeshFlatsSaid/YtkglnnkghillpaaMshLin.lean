/- Layer 3, plainly: items as a linear map; items behind each other are the product; light is what the matrix makes of it. No condition. -/
import Derived.Test.YtkglnnkghillpaaMshLit
import Derived.Test.YtkglnnkghillpaaMshVal
import Derived.Test.YtkglnnkghillpaaMshMat
import Derived.RowKit
namespace Go.Proofs.Ytkglnnkghillpaa
open Go Amp Msh
/-- The values of an item's matrix on all guides. -/
def PV (n : Nat) (x : It) (i j : Nat) : C4 := MV (placeN n x.pos.toNat (ownW x.kind) (ownM x.kind x.n)) n i j
/-- The map of a list of items, times r^40 for each. -/
def LM (n : Nat) : List It → Nat → Nat → C4
  | [], i, j => if i = j then oneC else zero
  | x :: t, i, j => sumC n fun a => mulC (LM n t i a) (PV n x a j)
theorem sum_assoc (n : Nat) (f : Nat → C4) (P : Nat → Nat → C4) (v : Nat → C4) : sumC n (fun j => mulC (f j) (sumC n fun a => mulC (P j a) (v a))) = sumC n (fun a => mulC (sumC n fun j => mulC (f j) (P j a)) (v a)) := by
  have e : ∀ j, j < n → mulC (f j) (sumC n fun a => mulC (P j a) (v a)) = sumC n fun a => mulC (mulC (f j) (P j a)) (v a) := fun j _ => by
    rw [sum_mul_left]
    exact sum_congr fun a _ => (mulC_assoc _ _ _).symm
  rw [sum_congr e, sum_comm]
  exact sum_congr fun a _ => (sum_mul_right _ _ _).symm
theorem itsM_lin {n : Nat} : ∀ (its : List It) (l : List Num), (itsM n its l).2 = 0 → ∀ i k, i < n → k < n → rpow (40 * its.length) (MV (itsM n its l).1 n i k) = sumC n (fun j => mulC (LM n its i j) (MV l n j k))
  | [], l, _, i, k, hi, hk => by
    have e : ∀ j, j < n → mulC (LM n [] i j) (MV l n j k) = if i = j then MV l n j k else zero := fun j _ => by
      simp only [LM]
      split
      · exact one_mulC _
      · exact zero_mulC _
    rw [sum_congr e, sum_delta hi]
    rfl
  | x :: t, l, he, i, k, hi, hk => by
    simp only [itsM] at *
    by_cases h : (stepM n x l).2 = 0
    · rw [if_pos h] at *
      have ih := itsM_lin t _ he i k hi hk
      rw [show 40 * (x :: t).length = 40 + 40 * t.length by simp; omega, ← rpow_rpow, ih, sum_rpow]
      have e : ∀ j, j < n → rpow 40 (mulC (LM n t i j) (MV (stepM n x l).1 n j k)) = mulC (LM n t i j) (sumC n fun a => mulC (PV n x j a) (MV l n a k)) := fun j hj => by
        rw [← mul_rpow']
        congr 1
        exact mulM_val h hj hk
      rw [sum_congr e, sum_assoc]
      rfl
    · rw [if_neg h] at he; exact absurd he h
/-- The value of a number of a list. -/
def VV (v : List Num) (j : Nat) : C4 := val (v.getD j noneZ)
theorem appM_val {n : Nat} {la lv : List Num} (he : (appM n la lv).2 = 0) {i : Nat} (hi : i < n) : rpow 40 (VV (appM n la lv).1 i) = sumC n (fun j => mulC (MV la n i j) (VV lv j)) := by
  have h0 := seqR_zero _ he
  have h1 := seqR_ok _ h0
  have h2 := appR_at la lv hi
  have h3 := h0 _ (List.mem_of_getElem? h2)
  unfold VV
  have h4 : (appM n la lv).1[i]? = some ⟨(rowN (prowV la lv n i)).x, (rowN (prowV la lv n i)).k⟩ := by
    unfold appM
    rw [h1, List.getElem?_map, h2]
    rfl
  rw [List.getD_eq_getElem?_getD, h4]
  show rpow 40 (val ⟨_, _⟩) = _
  rw [rowN_val h3]
  exact lsum_range n _
theorem row_val {n i : Nat} {la lv : List Num} (he : (rowN (prowV la lv n i)).e = 0) : rpow 40 (val ⟨(rowN (prowV la lv n i)).x, (rowN (prowV la lv n i)).k⟩) = sumC n (fun j => mulC (MV la n i j) (VV lv j)) := by
  rw [rowN_val he]
  exact lsum_range n _
theorem litN_lin {n : Nat} : ∀ (its : List It) (v : List Num), (litN n its v).2 = 0 → ∀ i, i < n → rpow (40 * its.length) (VV (litN n its v).1 i) = sumC n (fun j => mulC (LM n its i j) (VV v j))
  | [], v, _, i, hi => by
    have e : ∀ j, j < n → mulC (LM n [] i j) (VV v j) = if i = j then VV v j else zero := fun j _ => by
      simp only [LM]
      split
      · exact one_mulC _
      · exact zero_mulC _
    rw [sum_congr e, sum_delta hi]
    rfl
  | x :: t, v, he, i, hi => by
    simp only [litN] at *
    by_cases h : (appM n (placeN n x.pos.toNat (ownW x.kind) (ownM x.kind x.n)) v).2 = 0
    · rw [if_pos h] at *
      have ih := litN_lin t _ he i hi
      rw [show 40 * (x :: t).length = 40 + 40 * t.length by simp; omega, ← rpow_rpow, ih, sum_rpow]
      have e : ∀ j, j < n → rpow 40 (mulC (LM n t i j) (VV (appM n (placeN n x.pos.toNat (ownW x.kind) (ownM x.kind x.n)) v).1 j)) = mulC (LM n t i j) (sumC n fun a => mulC (PV n x j a) (VV v a)) := fun j hj => by
        rw [← mul_rpow']
        congr 1
        exact appM_val h hj
      rw [sum_congr e, sum_assoc]
      rfl
    · rw [if_neg h] at he; exact absurd he h
theorem LM_append {n : Nat} : ∀ (l m : List It) (i j : Nat), i < n → j < n → LM n (l ++ m) i j = sumC n (fun a => mulC (LM n m i a) (LM n l a j))
  | [], m, i, j, _, hj => by
    have e : ∀ a, a < n → mulC (LM n m i a) (LM n [] a j) = if j = a then LM n m i a else zero := fun a _ => by
      simp only [LM]
      by_cases h : a = j
      · rw [if_pos h, if_pos h.symm, mulC_one]
      · rw [if_neg h, if_neg (fun e => h e.symm), mulC_zero]
    rw [sum_congr e, sum_delta hj]
    rfl
  | x :: t, m, i, j, hi, hj => by
    simp only [List.cons_append, LM]
    rw [sum_assoc n (fun a => LM n m i a) (fun a b => LM n t a b) (fun b => PV n x b j)]
    exact sum_congr fun a ha => by rw [LM_append t m i a hi ha]
theorem itsM_id {n : Nat} {its : List It} (he : (itsM n its (idN n)).2 = 0) {i k : Nat} (hi : i < n) (hk : k < n) : rpow (40 * its.length) (MV (itsM n its (idN n)).1 n i k) = rpow 40 (LM n its i k) := by
  rw [itsM_lin its _ he i k hi hk]
  have e : ∀ j, j < n → mulC (LM n its i j) (MV (idN n) n j k) = if k = j then rpow 40 (LM n its i j) else zero := fun j hj => by
    rw [MV_id hj hk]
    by_cases h : j = k
    · rw [if_pos h, if_pos h.symm, mul_rpow', mulC_one]
    · rw [if_neg h, if_neg (fun e => h e.symm), mulC_zero]
  rw [sum_congr e, sum_delta hk]
/-- The matrix of items behind each other is the product of both matrices. -/
theorem joins_law {n : Nat} {l m : List It} (hl : (itsM n l (idN n)).2 = 0) (hm : (itsM n m (idN n)).2 = 0) (hb : (itsM n (l ++ m) (idN n)).2 = 0)
    (hp : (mulM n (itsM n m (idN n)).1 (itsM n l (idN n)).1).2 = 0) : (mulM n (itsM n m (idN n)).1 (itsM n l (idN n)).1).1 = (itsM n (l ++ m) (idN n)).1 := by
  obtain ⟨v1, l1⟩ := itsM_shape (l ++ m) (idN n) (idN_valid n) (idN_length n) hb
  refine mat_ext (mulM_valid _ _ _) v1 (matR_length hp) l1 fun i k hi hk => ?_
  apply rpow_inj (40 * l.length + 40 * m.length + 40)
  have e1 : rpow (40 * l.length + 40 * m.length + 40) (MV (itsM n (l ++ m) (idN n)).1 n i k) = rpow 80 (LM n (l ++ m) i k) := by
    have h := itsM_id hb hi hk
    rw [show 40 * l.length + 40 * m.length + 40 = 40 + 40 * (l ++ m).length by simp; omega, ← rpow_rpow, h, rpow_rpow]
  have e2 : rpow (40 * l.length + 40 * m.length + 40) (MV (mulM n (itsM n m (idN n)).1 (itsM n l (idN n)).1).1 n i k) = rpow 80 (LM n (l ++ m) i k) := by
    rw [← rpow_rpow, mulM_val hp hi hk, LM_append l m i k hi hk, sum_rpow, sum_rpow]
    refine sum_congr fun j hj => ?_
    rw [Nat.add_comm (40 * l.length), ← rpow_rpow, ← mul_rpow', ← mul_rpow, itsM_id hl hj hk, itsM_id hm hi hj, mul_rpow, mul_rpow', rpow_rpow]
  rw [e1, e2]
/-- Light is what the matrix makes of a vector. -/
theorem light_law {n : Nat} {its : List It} {v : List Num} (hm : (itsM n its (idN n)).2 = 0) (hv : (litN n its v).2 = 0) {i : Nat} (hi : i < n) {x : Num} (hx : (litN n its v).1[i]? = some x) (vx : validB x.x x.k = true)
    (he : (rowN (prowV (itsM n its (idN n)).1 v n i)).e = 0) : (⟨(rowN (prowV (itsM n its (idN n)).1 v n i)).x, (rowN (prowV (itsM n its (idN n)).1 v n i)).k⟩ : Num) = x := by
  refine val_inj (rowA_valid _ _ _ (by decide) he) vx ?_
  apply rpow_inj (40 * its.length + 40)
  have e1 : rpow (40 * its.length + 40) (val x) = rpow 40 (sumC n (fun j => mulC (LM n its i j) (VV v j))) := by
    have h := litN_lin its v hv i hi
    unfold VV at h
    rw [List.getD_eq_getElem?_getD, hx] at h
    rw [Nat.add_comm, ← rpow_rpow]
    exact congrArg (rpow 40) h
  rw [e1, ← rpow_rpow, row_val he, sum_rpow, sum_rpow]
  refine sum_congr fun j hj => ?_
  rw [← mul_rpow, itsM_id hm hi hj, mul_rpow]
theorem litN_valid {n : Nat} : ∀ (its : List It) (v : List Num), VldL v → VldL (litN n its v).1
  | [], v, h => h
  | x :: t, v, _ => by
    simp only [litN]
    by_cases h : (appM n (placeN n x.pos.toNat (ownW x.kind) (ownM x.kind x.n)) v).2 = 0
    · rw [if_pos h]; exact litN_valid t _ (appM_valid _ _ _)
    · rw [if_neg h]; exact fun i z hz => by simp at hz
theorem litN_length {n : Nat} : ∀ (its : List It) (v : List Num), v.length = n → (litN n its v).2 = 0 → (litN n its v).1.length = n
  | [], v, h, _ => h
  | x :: t, v, _, he => by
    simp only [litN] at *
    by_cases h : (appM n (placeN n x.pos.toNat (ownW x.kind) (ownM x.kind x.n)) v).2 = 0
    · rw [if_pos h] at *; exact litN_length t _ (appM_length h) he
    · rw [if_neg h] at he; exact absurd he h
theorem litN_nil {n : Nat} : ∀ (its : List It) (v : List Num), (litN n its v).2 ≠ 0 → (litN n its v).1 = []
  | [], v, he => absurd rfl he
  | x :: t, v, he => by
    simp only [litN] at *
    by_cases h : (appM n (placeN n x.pos.toNat (ownW x.kind) (ownM x.kind x.n)) v).2 = 0
    · rw [if_pos h] at *; exact litN_nil t _ he
    · rw [if_neg h]
theorem matOf_zero {g : Int} {its : List It} {A : List Num} (h : matOf g its = (A, 0)) : chkIts g its = 0 ∧ itsM g.toNat its (idN g.toNat) = (A, 0) := by
  unfold matOf at h
  by_cases hc : chkIts g its = 0
  · rw [if_pos hc] at h; exact ⟨hc, h⟩
  · rw [if_neg hc] at h; exact absurd (congrArg Prod.snd h) hc
theorem joins_facts {n : Nat} {its itm : List It} {A B C : List Num} (hA : matOf n its = (A, 0)) (hB : matOf n itm = (B, 0)) (hC : matOf n (its ++ itm) = (C, 0)) :
    (A.length = n * n ∧ VldL A) ∧ (B.length = n * n ∧ VldL B) ∧ (C.length = n * n ∧ ((mulM n B A).2 = 0 → (mulM n B A).1 = C)) := by
  have h1 := (matOf_zero hA).2
  have h2 := (matOf_zero hB).2
  have h3 := (matOf_zero hC).2
  rw [Int.toNat_natCast] at h1 h2 h3
  have s1 := itsM_shape its (idN n) (idN_valid n) (idN_length n) (by rw [h1])
  have s2 := itsM_shape itm (idN n) (idN_valid n) (idN_length n) (by rw [h2])
  have s3 := itsM_shape (its ++ itm) (idN n) (idN_valid n) (idN_length n) (by rw [h3])
  rw [h1] at s1
  rw [h2] at s2
  rw [h3] at s3
  refine ⟨⟨s1.2, s1.1⟩, ⟨s2.2, s2.1⟩, s3.2, fun h => ?_⟩
  have := joins_law (n := n) (l := its) (m := itm) (by rw [h1]) (by rw [h2]) (by rw [h3]) (by rw [h1, h2]; exact h)
  rwa [h1, h2, h3] at this
theorem litOf_litN {n : Nat} {its : List It} {v : List Num} (hk : chkIts n its = 0) (hv : isVec v = true) (hn : v.length = n) : litOf n its v = litN n its v := by
  unfold litOf
  rw [if_pos hk, if_pos hv, if_pos (by rw [hn]), Int.toNat_natCast]
theorem light_facts {n : Nat} {its : List It} {A v X : List Num} {E : Int} (hA : matOf n its = (A, 0)) (hv : v.length = n) (hV : VldL v) (hX : litN n its v = (X, E)) :
    (E ≠ 0 → X = []) ∧ (E = 0 → X.length = n) ∧ (E = 0 → ∀ i, i < n → ∀ x, X[i]? = some x → (rowN (prowV A v n i)).e = 0 → (⟨(rowN (prowV A v n i)).x, (rowN (prowV A v n i)).k⟩ : Num) = x) := by
  have h1 := (matOf_zero hA).2
  rw [Int.toNat_natCast] at h1
  refine ⟨fun h => ?_, fun h => ?_, fun h i hi x hx he => ?_⟩
  · have := litN_nil its v (n := n) (by rw [hX]; exact h)
    rwa [hX] at this
  · have := litN_length its v hv (by rw [hX]; exact h)
    rwa [hX] at this
  · have hq := litN_valid (n := n) its v hV
    rw [hX] at hq
    have := light_law (n := n) (its := its) (v := v) (by rw [h1]) (by rw [hX]; exact h) hi (x := x) (by rw [hX]; exact hx) (hq i x hx) (by rw [h1]; exact he)
    rwa [h1] at this
end Go.Proofs.Ytkglnnkghillpaa

/- Layer 3, plainly: the inverse of a list of items. No condition. -/

namespace Go.Proofs.Ytkglnnkghillpaa
open Go Go.RowKit Amp Msh
/-- The items from the last one on, with their places: the first k of them. -/
def bk (l : List It) (k : Nat) : List (Int × It) := (List.range k).map fun j => (((l.length - 1 - j : Nat) : Int), (l[l.length - 1 - j]?).getD ⟨0, 0, 0, ⟨#[]⟩⟩)
theorem bk_length (l : List It) (k : Nat) : (bk l k).length = k := by simp [bk]
theorem bk_succ {l : List It} {k : Nat} {z : It} (h : l[l.length - 1 - k]? = some z) : bk l (k + 1) = bk l k ++ [(((l.length - 1 - k : Nat) : Int), z)] := by
  simp [bk, List.range_succ, h]
theorem bk_snd (l : List It) : (bk l l.length).map Prod.snd = l.reverse := by
  apply List.ext_getElem
  · simp [bk]
  · intro i h1 h2
    have h3 : i < l.length := by simpa [bk] using h1
    have h4 : l.length - 1 - i < l.length := by omega
    simp [bk, List.getElem_reverse, h4]
/-- What stands for an item in the inverse. -/
def halfOf (x : It) : It := ⟨1, x.pos, 4, ⟨#[]⟩⟩
def invItem (x : It) : List It := if x.kind = 1 then [⟨x.kind, x.pos, wrap64 (8 - x.n), x.name⟩] else if x.kind = 2 then [halfOf x, x, halfOf x] else [x]
def outB (l : List (Int × It)) : List It := l.flatMap fun x => invItem x.2
theorem outB_snoc (l : List (Int × It)) (x : Int × It) : outB (l ++ [x]) = outB l ++ invItem x.2 := by simp [outB]
theorem invItem_length (x : It) : (invItem x).length ≤ 3 := by
  unfold invItem
  split
  · simp
  · split <;> simp
theorem outB_length : ∀ l : List (Int × It), (outB l).length ≤ 3 * l.length
  | [] => by simp [outB]
  | x :: t => by
    have h1 := outB_length t
    have h2 := invItem_length x.2
    simp only [outB, List.flatMap_cons, List.length_append, List.length_cons] at *
    omega
/-- The inverse of a list. -/
def invL (l : List It) : List It := l.reverse.flatMap invItem
theorem outB_bk (l : List It) : outB (bk l l.length) = invL l := by
  unfold outB invL
  rw [← bk_snd, List.flatMap_map]
theorem invL_length (l : List It) : (invL l).length ≤ 3 * l.length := by
  rw [← outB_bk]
  have := outB_length (bk l l.length)
  rwa [bk_length] at this
end Go.Proofs.Ytkglnnkghillpaa

/- Layer 3, plainly: the matrix of the inverse is the conjugate of the transpose; both together are the identity; errors are of size alone. No condition. -/

namespace Go.Proofs.Ytkglnnkghillpaa
open Go Go.RowKit Amp Msh
/-- An error of size, or none. -/
def E4 (e : Int) : Prop := e = 0 ∨ e = 4
theorem made_e4 (x : C4) (k : Int) : E4 (made x k).e := by
  unfold made
  split
  · exact .inl rfl
  · exact .inr rfl
theorem mulN_e4 {x y : C4} {k j : Int} (hx : validB x k = true) (hy : validB y j = true) : E4 (mulN x k y j).e := by
  unfold mulN
  rw [if_pos ⟨hx, hy⟩]
  exact made_e4 _ _
theorem addN_e4 {x y : C4} {k j : Int} (hx : validB x k = true) (hy : validB y j = true) : E4 (addN x k y j).e := by
  unfold addN
  rw [if_pos ⟨hx, hy⟩]
  exact made_e4 _ _
theorem mulN_ok {x y : C4} {k j : Int} (h : (mulN x k y j).e = 0) : validB (mulN x k y j).x (mulN x k y j).k = true := by
  rcases mulN_cases x y k j with ⟨e, h3, h4⟩ | ⟨_, _, i, s', _, _, _, _, h4, h5, _⟩
  · rw [h4] at h; exact absurd h h3
  · rw [h4]; exact h5
theorem addN_ok {x y : C4} {k j : Int} (h : (addN x k y j).e = 0) : validB (addN x k y j).x (addN x k y j).k = true := by
  rcases addN_cases x y k j with ⟨e, h3, h4⟩ | ⟨_, _, i, s', _, _, _, _, h4, h5, _⟩
  · rw [h4] at h; exact absurd h h3
  · rw [h4]; exact h5
theorem rowA_e4 : ∀ (l : List (Num × Num)) (s : C4) (k : Int), validB s k = true → (∀ p ∈ l, validB p.1.x p.1.k = true ∧ validB p.2.x p.2.k = true) → E4 (rowA s k l).e
  | [], _, _, _, _ => .inl rfl
  | p :: t, s, k, hs, h => by
    obtain ⟨h1, h2⟩ := h p List.mem_cons_self
    simp only [rowA]
    by_cases hm : (mulN p.1.x p.1.k p.2.x p.2.k).e = 0
    · rw [if_pos hm]
      have hmv : validB (mulN p.1.x p.1.k p.2.x p.2.k).x (mulN p.1.x p.1.k p.2.x p.2.k).k = true := mulN_ok hm
      by_cases ha : (addN s k (mulN p.1.x p.1.k p.2.x p.2.k).x (mulN p.1.x p.1.k p.2.x p.2.k).k).e = 0
      · rw [if_pos ha]
        exact rowA_e4 t _ _ (addN_ok ha) fun q hq => h q (List.mem_cons_of_mem _ hq)
      · rw [if_neg ha]
        exact addN_e4 hs hmv
    · rw [if_neg hm]
      exact mulN_e4 h1 h2
theorem seqR_e4 : ∀ L : List Res, (∀ r ∈ L, E4 r.e) → E4 (seqR L).2
  | [], _ => .inl rfl
  | r :: t, h => by
    have h1 := seqR_e4 t fun q hq => h q (List.mem_cons_of_mem _ hq)
    have h2 := h r List.mem_cons_self
    simp only [seqR]
    by_cases hr : r.e = 0
    · rw [if_pos hr]
      by_cases ht : (seqR t).2 = 0
      · rw [if_pos ht]; exact .inl rfl
      · rw [if_neg ht]; exact h1
    · rw [if_neg hr]; exact h2
theorem VldL.getD {l : List Num} (h : VldL l) (q : Nat) : validB (l.getD q ⟨zero, 0⟩).x (l.getD q ⟨zero, 0⟩).k = true := by
  rw [List.getD_eq_getElem?_getD]
  cases hq : l[q]? with
  | none => decide
  | some z => exact h q z hq
theorem mulM_e4 {n : Nat} {la lb : List Num} (ha : VldL la) (hb : VldL lb) : E4 (mulM n la lb).2 := by
  refine seqR_e4 _ fun r hr => ?_
  unfold gridR at hr
  obtain ⟨q, _, rfl⟩ := List.mem_map.1 hr
  refine rowA_e4 _ _ _ (by decide) fun p hp => ?_
  unfold prow at hp
  obtain ⟨j, _, rfl⟩ := List.mem_map.1 hp
  exact ⟨VldL.getD ha _, VldL.getD hb _⟩
theorem turnC_valid : ((List.range 8).all fun q => validB (turnC q ⟨1, 0, 0, 0⟩) 0) = true := by decide +kernel
theorem ownM_valid (kind m : Int) : VldL (ownM kind m) := VldL.of fun z hz => by
  unfold ownM at hz
  split at hz
  · simp only [List.mem_singleton] at hz
    subst hz
    have h := turnC_valid
    rw [List.all_eq_true] at h
    exact h _ (List.mem_range.2 (by omega))
  · split at hz
    · simp only [List.mem_cons, List.not_mem_nil, or_false] at hz
      rcases hz with rfl | rfl | rfl | rfl <;> decide
    · simp only [List.mem_cons, List.not_mem_nil, or_false] at hz
      rcases hz with rfl | rfl | rfl | rfl <;> decide
theorem itsM_e4 {n : Nat} : ∀ (its : List It) (l : List Num), VldL l → E4 (itsM n its l).2
  | [], _, _ => .inl rfl
  | x :: t, l, h => by
    simp only [itsM]
    by_cases hs : (stepM n x l).2 = 0
    · rw [if_pos hs]; exact itsM_e4 t _ (mulM_valid _ _ _)
    · rw [if_neg hs]; exact mulM_e4 (placeL_valid (ownM_valid _ _) _) h
/-- Half a turn on one guide; its matrix. -/
def hN (n p : Nat) : List Num := placeN n p 1 (ownM 1 4)
def cN (n p m : Nat) (lm : List Num) : List Num := placeN n p m lm
/-- The matrix of half a turn has its diagonal alone; with it on both sides a coupler is its own adjoint. -/
def chkHalf : Bool := (List.range 7).all fun n => (List.range 7).all fun p => !decide (1 ≤ p ∧ p + 2 ≤ n + 1) ||
  (chkK (hN n p) && chkK (placeN n p 2 (ownM 2 0)) && (List.range n).all fun i => (List.range n).all fun k =>
    (decide (i = k) || decide ((hN n p).getD (i * n + k) noneZ = noneZ)) &&
    decide (mulC (mulC (v1 ((hN n p).getD (i * n + i) noneZ)) (v1 ((placeN n p 2 (ownM 2 0)).getD (i * n + k) noneZ))) (v1 ((hN n p).getD (k * n + k) noneZ)) = rpow 2 (conjC (v1 ((placeN n p 2 (ownM 2 0)).getD (k * n + i) noneZ)))))
theorem chk_half : chkHalf = true := by decide +kernel
def chkDag (m : Nat) (lm lm' : List Num) : Bool := (List.range 7).all fun n => (List.range 7).all fun p => !decide (1 ≤ p ∧ p + m ≤ n + 1) || decide (placeN n p m lm' = dagL n (placeN n p m lm))
theorem chk_cross' : chkDag 2 (ownM 3 0) (ownM 3 0) = true := by decide +kernel
theorem chk_phase' : ((List.range 8).all fun q => chkDag 1 [⟨turnC q ⟨1, 0, 0, 0⟩, 0⟩] [⟨turnC ((8 - q) % 8) ⟨1, 0, 0, 0⟩, 0⟩]) = true := by decide +kernel
theorem chkDag_at {m : Nat} {lm lm' : List Num} (h : chkDag m lm lm' = true) {n p : Nat} (hn : n < 7) (hp : p < 7) (h1 : 1 ≤ p ∧ p + m ≤ n + 1) : placeN n p m lm' = dagL n (placeN n p m lm) := by
  unfold chkDag at h
  rw [List.all_eq_true] at h
  have h2 := h n (List.mem_range.2 hn)
  rw [List.all_eq_true] at h2
  have h3 := h2 p (List.mem_range.2 hp)
  rw [decide_eq_true h1] at h3
  simpa using h3
theorem half_at {n p : Nat} (hn : n < 7) (hp : p < 7) (h1 : 1 ≤ p ∧ p + 2 ≤ n + 1) :
    (∀ i k, i < n → k < n → i ≠ k → MV (hN n p) n i k = zero) ∧ (∀ i k, i < n → k < n → mulC (mulC (MV (hN n p) n i i) (MV (placeN n p 2 (ownM 2 0)) n i k)) (MV (hN n p) n k k) = rpow 80 (conjC (MV (placeN n p 2 (ownM 2 0)) n k i))) := by
  have h := chk_half
  unfold chkHalf at h
  rw [List.all_eq_true] at h
  have h2 := h n (List.mem_range.2 hn)
  rw [List.all_eq_true] at h2
  have h3 := h2 p (List.mem_range.2 hp)
  rw [decide_eq_true h1, Bool.not_true, Bool.false_or, Bool.and_eq_true, Bool.and_eq_true] at h3
  obtain ⟨⟨hk, hk2⟩, h4⟩ := h3
  rw [List.all_eq_true] at h4
  have hr : ∀ i k, i < n → k < n → (i = k ∨ (hN n p).getD (i * n + k) noneZ = noneZ) ∧ mulC (mulC (v1 ((hN n p).getD (i * n + i) noneZ)) (v1 ((placeN n p 2 (ownM 2 0)).getD (i * n + k) noneZ))) (v1 ((hN n p).getD (k * n + k) noneZ)) = rpow 2 (conjC (v1 ((placeN n p 2 (ownM 2 0)).getD (k * n + i) noneZ))) := fun i k hi hk => by
    have h5 := h4 i (List.mem_range.2 hi)
    rw [List.all_eq_true] at h5
    have h6 := h5 k (List.mem_range.2 hk)
    rw [Bool.and_eq_true, Bool.or_eq_true, decide_eq_true_eq, decide_eq_true_eq, decide_eq_true_eq] at h6
    exact h6
  refine ⟨fun i k hi hk hne => ?_, fun i k hi hk' => ?_⟩
  · rcases (hr i k hi hk).1 with e | e
    · exact absurd e hne
    · unfold MV
      rw [e]
      exact rpow_zero _
  · have e := (hr i k hi hk').2
    unfold MV
    rw [val_v1 (chkK_at hk _), val_v1 (chkK_at hk _), val_v1 (chkK_at hk2 _), val_v1 (chkK_at hk2 _), conj_rpow]
    simp only [mul_rpow, mul_rpow', rpow_rpow]
    rw [e, rpow_rpow]
theorem LM_one {n : Nat} (y : It) {i k : Nat} (hi : i < n) : LM n [y] i k = PV n y i k := by
  simp only [LM]
  have e : ∀ j, j < n → mulC (if i = j then oneC else zero) (PV n y j k) = if i = j then PV n y j k else zero := fun j _ => by
    split
    · exact one_mulC _
    · exact zero_mulC _
  rw [sum_congr e, sum_delta hi]
theorem inv_item {n : Nat} {x : It} (hn : n ≤ 6) (h : okIt n x = true) : ∃ c, (invItem x).length = 1 + 2 * c ∧ ∀ i k, i < n → k < n → LM n (invItem x) i k = rpow (80 * c) (conjC (PV n x k i)) := by
  obtain ⟨h1, hk, h2, h3, h4, h5⟩ := okIt_iff h
  have hp7 : x.pos.toNat < 7 := by
    have : 1 ≤ ownW x.kind := by unfold ownW; split <;> omega
    omega
  rcases hk with hk | hk | hk
  · refine ⟨0, by unfold invItem; rw [if_pos hk]; rfl, fun i k hi hk' => ?_⟩
    have hq : 1 ≤ x.n ∧ x.n ≤ 7 := by
      have hw := h1
      unfold wid at hw
      by_cases hc : 1 ≤ x.n ∧ x.n ≤ 7
      · exact hc
      · rw [if_pos h5, if_neg (fun h => hc h.2), if_neg (by omega)] at hw
        exact absurd rfl hw
    have e : invItem x = [⟨x.kind, x.pos, 8 - x.n, x.name⟩] := by
      unfold invItem
      rw [if_pos hk, show wrap64 (8 - x.n) = 8 - x.n by unfold wrap64; omega]
    rw [e, LM_one _ hi]
    unfold PV
    dsimp only
    have ho : ownW x.kind = 1 := by unfold ownW; rw [if_pos hk]
    rw [ho] at h3 ⊢
    have e1 : ownM x.kind x.n = [⟨turnC x.n.toNat ⟨1, 0, 0, 0⟩, 0⟩] := by unfold ownM; rw [if_pos hk, show x.n % 8 = x.n by omega]
    have e2 : ownM x.kind (8 - x.n) = [⟨turnC ((8 - x.n.toNat) % 8) ⟨1, 0, 0, 0⟩, 0⟩] := by unfold ownM; rw [if_pos hk, show ((8 - x.n) % 8).toNat = (8 - x.n.toNat) % 8 by omega]
    have hc := chk_phase'
    rw [List.all_eq_true] at hc
    rw [e1, e2, chkDag_at (hc x.n.toNat (List.mem_range.2 (by omega))) (by omega) hp7 (by omega), MV_dag _ hi hk']
    rfl
  · refine ⟨1, by unfold invItem; rw [if_neg (by omega), if_pos hk]; rfl, fun i k hi hk' => ?_⟩
    have e : invItem x = [halfOf x, x, halfOf x] := by
      unfold invItem
      rw [if_neg (by omega), if_pos hk]
    rw [e]
    have ho : ownW x.kind = 2 := by unfold ownW; rw [if_neg (by omega)]
    rw [ho] at h3
    have hx : ∀ i k, PV n x i k = MV (placeN n x.pos.toNat 2 (ownM 2 0)) n i k := fun i k => by
      unfold PV
      rw [ho, show ownM x.kind x.n = ownM 2 0 by unfold ownM; rw [if_neg (by omega), if_neg (by omega)]; rfl]
    have hh : ∀ i k, PV n (halfOf x) i k = MV (hN n x.pos.toNat) n i k := fun i k => rfl
    obtain ⟨hd, hc⟩ := half_at (n := n) (p := x.pos.toNat) (by omega) hp7 (by omega)
    have e1 : ∀ a, a < n → LM n [x, halfOf x] i a = mulC (MV (hN n x.pos.toNat) n i i) (PV n x i a) := fun a _ => by
      have e2 : LM n [x, halfOf x] i a = sumC n fun b => mulC (LM n [halfOf x] i b) (PV n x b a) := rfl
      rw [e2]
      have e3 : ∀ b, b < n → mulC (LM n [halfOf x] i b) (PV n x b a) = if i = b then mulC (MV (hN n x.pos.toNat) n i b) (PV n x b a) else zero := fun b hb => by
        rw [LM_one _ hi, hh]
        split
        · rfl
        · rename_i hne
          rw [hd i b hi hb hne, zero_mulC]
      rw [sum_congr e3, sum_delta hi]
    have e4 : LM n [halfOf x, x, halfOf x] i k = sumC n fun a => mulC (LM n [x, halfOf x] i a) (PV n (halfOf x) a k) := rfl
    rw [e4]
    have e5 : ∀ a, a < n → mulC (LM n [x, halfOf x] i a) (PV n (halfOf x) a k) = if k = a then mulC (mulC (MV (hN n x.pos.toNat) n i i) (PV n x i a)) (MV (hN n x.pos.toNat) n a k) else zero := fun a ha => by
      rw [e1 a ha, hh]
      split
      · rfl
      · rename_i hne
        rw [hd a k ha hk' (fun e => hne e.symm), mulC_zero]
    rw [sum_congr e5, sum_delta hk', hx, hx, hc i k hi hk']
  · refine ⟨0, by unfold invItem; rw [if_neg (by omega), if_neg (by omega)]; rfl, fun i k hi hk' => ?_⟩
    have e : invItem x = [x] := by
      unfold invItem
      rw [if_neg (by omega), if_neg (by omega)]
    rw [e, LM_one _ hi]
    have ho : ownW x.kind = 2 := by unfold ownW; rw [if_neg (by omega)]
    rw [ho] at h3
    unfold PV
    rw [ho, show ownM x.kind x.n = ownM 3 0 by unfold ownM; rw [if_neg (by omega), if_pos hk]; rfl]
    have hz := chkDag_at chk_cross' (n := n) (p := x.pos.toNat) (by omega) hp7 (by omega)
    have := MV_dag (placeN n x.pos.toNat 2 (ownM 3 0)) hi hk'
    rw [← hz] at this
    exact this
theorem invL_cons (x : It) (t : List It) : invL (x :: t) = invL t ++ invItem x := by simp [invL]
theorem inv_lin {n : Nat} (hn : n ≤ 6) : ∀ its : List It, okIts n its = true → ∃ c, (invL its).length = its.length + 2 * c ∧ ∀ i k, i < n → k < n → LM n (invL its) i k = rpow (80 * c) (conjC (LM n its k i))
  | [], _ => ⟨0, rfl, fun i k hi hk => by
    show (if i = k then oneC else zero) = conjC (if k = i then oneC else zero)
    by_cases h : i = k
    · rw [if_pos h, if_pos h.symm]; rfl
    · rw [if_neg h, if_neg (fun e => h e.symm)]; rfl⟩
  | x :: t, h => by
    unfold okIts at h
    rw [List.all_cons, Bool.and_eq_true] at h
    obtain ⟨c1, l1, h1⟩ := inv_item hn h.1
    obtain ⟨c2, l2, h2⟩ := inv_lin hn t h.2
    refine ⟨c2 + c1, by rw [invL_cons, List.length_append, l1, l2, List.length_cons]; omega, fun i k hi hk => ?_⟩
    rw [invL_cons, LM_append _ _ _ _ hi hk]
    have e : ∀ a, a < n → mulC (LM n (invItem x) i a) (LM n (invL t) a k) = rpow (80 * (c2 + c1)) (conjC (mulC (LM n t k a) (PV n x a i))) := fun a ha => by
      rw [h1 i a hi ha, h2 a k ha hk, mul_rpow, mul_rpow', rpow_rpow, conj_mul, mul_comm', show 80 * c1 + 80 * c2 = 80 * (c2 + c1) by omega]
    rw [sum_congr e, ← sum_rpow, ← sum_conj]
    rfl
theorem dagL_valid {n : Nat} {l : List Num} (h : VldL l) : VldL (dagL n l) := VldL.of fun z hz => by
  unfold dagL gridR at hz
  obtain ⟨q, _, rfl⟩ := List.mem_map.1 hz
  dsimp only
  show validB (conjC _) _ = true
  rw [valid_conj]
  exact VldL.getD h _
theorem inv_law {n : Nat} (hn : n ≤ 6) {its : List It} {A B : List Num} (hok : okIts n its = true) (hA : itsM n its (idN n) = (A, 0)) (hB : itsM n (invL its) (idN n) = (B, 0)) : B = dagL n A := by
  have sA := itsM_shape its (idN n) (idN_valid n) (idN_length n) (by rw [hA])
  have sB := itsM_shape (invL its) (idN n) (idN_valid n) (idN_length n) (by rw [hB])
  rw [hA] at sA
  rw [hB] at sB
  obtain ⟨c, hc, hl⟩ := inv_lin hn its hok
  refine mat_ext sB.1 (dagL_valid sA.1) sB.2 (dagL_length n A) fun i k hi hk => ?_
  apply rpow_inj (40 * (invL its).length)
  have h1 := itsM_id (n := n) (its := invL its) (by rw [hB]) hi hk
  have h2 := itsM_id (n := n) (its := its) (by rw [hA]) hk hi
  rw [hB] at h1
  rw [hA] at h2
  rw [h1, hl i k hi hk, MV_dag _ hi hk, hc]
  show _ = rpow _ (conjC (MV A n k i))
  rw [show 40 * (its.length + 2 * c) = 80 * c + 40 * its.length by omega, ← rpow_rpow (80 * c), ← conj_rpow (40 * its.length), h2, conj_rpow, rpow_rpow, rpow_rpow, Nat.add_comm]
theorem joins_val {n : Nat} {l m : List It} {A B C : List Num} (hl : itsM n l (idN n) = (A, 0)) (hm : itsM n m (idN n) = (B, 0)) (hb : itsM n (l ++ m) (idN n) = (C, 0)) {i k : Nat} (hi : i < n) (hk : k < n) :
    rpow 40 (MV C n i k) = sumC n (fun j => mulC (MV B n i j) (MV A n j k)) := by
  apply rpow_inj (40 * l.length + 40 * m.length)
  have h1 := itsM_id (n := n) (its := l ++ m) (by rw [hb]) hi hk
  rw [hb] at h1
  have e1 : rpow (40 * l.length + 40 * m.length) (rpow 40 (MV C n i k)) = rpow 80 (LM n (l ++ m) i k) := by
    rw [rpow_rpow, show 40 * l.length + 40 * m.length + 40 = 40 + 40 * (l ++ m).length by simp; omega, ← rpow_rpow, h1, rpow_rpow]
  rw [e1, LM_append l m i k hi hk, sum_rpow, sum_rpow]
  refine sum_congr fun j hj => ?_
  have h2 := itsM_id (n := n) (its := l) (by rw [hl]) hj hk
  have h3 := itsM_id (n := n) (its := m) (by rw [hm]) hi hj
  rw [hl] at h2
  rw [hm] at h3
  have e2 : rpow (40 * l.length + 40 * m.length) (mulC (MV B n i j) (MV A n j k)) = mulC (rpow (40 * m.length) (MV B n i j)) (rpow (40 * l.length) (MV A n j k)) := by
    rw [mul_rpow, mul_rpow', rpow_rpow, Nat.add_comm]
  rw [e2, h2, h3, mul_rpow, mul_rpow', rpow_rpow]
theorem both_law {n : Nat} (hn : n ≤ 6) {its : List It} {A B C : List Num} (hok : okIts n its = true) (hA : itsM n its (idN n) = (A, 0)) (hB : itsM n (invL its) (idN n) = (B, 0)) (hC : itsM n (its ++ invL its) (idN n) = (C, 0)) : C = idN n := by
  have sC := itsM_shape (its ++ invL its) (idN n) (idN_valid n) (idN_length n) (by rw [hC])
  rw [hC] at sC
  have hu := itsM_uni hn its (idN n) hok (Uni.id n) (by rw [hA])
  rw [hA] at hu
  refine mat_ext sC.1 (idN_valid n) sC.2 (idN_length n) fun i k hi hk => ?_
  apply rpow_inj 40
  rw [joins_val hA hB hC hi hk, inv_law hn hok hA hB, MV_id hi hk]
  have e : ∀ j, j < n → mulC (MV (dagL n A) n i j) (MV A n j k) = mulC (dag (MV A n) i j) (conjC (dag (MV A n) k j)) := fun j hj => by rw [MV_dag A hi hj]; unfold dag; rw [conj_conj]
  rw [sum_congr e, hu.2 i k hi hk, dl]
  split
  · rw [rpow_rpow]
  · rw [rpow_zero]
theorem invItem_ok {g : Int} {x : It} (h : okIt g x = true) : okIts g (invItem x) = true := by
  obtain ⟨h1, hk, h2, h3, h4, h5⟩ := okIt_iff h
  rcases hk with hk | hk | hk
  · have hq : 1 ≤ x.n ∧ x.n ≤ 7 := by
      have hw := h1
      unfold wid at hw
      by_cases hc : 1 ≤ x.n ∧ x.n ≤ 7
      · exact hc
      · rw [if_pos h5, if_neg (fun h => hc h.2), if_neg (by omega)] at hw
        exact absurd rfl hw
    have ho : ownW x.kind = 1 := by unfold ownW; rw [if_pos hk]
    rw [ho] at h3
    unfold invItem
    rw [if_pos hk, show wrap64 (8 - x.n) = 8 - x.n by unfold wrap64; omega]
    unfold okIts okIt
    have hw : wid x.kind (8 - x.n) x.name = 1 := by unfold wid; rw [if_pos h5, if_pos (by omega)]
    simp only [List.all_cons, List.all_nil, hw, Bool.and_true, Bool.and_eq_true, decide_eq_true_eq]
    omega
  · have ho : ownW x.kind = 2 := by unfold ownW; rw [if_neg (by omega)]
    rw [ho] at h3
    unfold invItem
    rw [if_neg (by omega), if_pos hk]
    have hw : wid 1 4 ⟨#[]⟩ = 1 := by
      have h0 : (⟨#[]⟩ : ByteArray).toList = [] := by unfold ByteArray.toList ByteArray.toList.loop; rfl
      unfold wid
      rw [if_pos h0]
      rfl
    have hh : okIt g (halfOf x) = true := by
      unfold okIt halfOf
      simp only [hw, Bool.and_eq_true, decide_eq_true_eq]
      omega
    unfold okIts
    simp only [List.all_cons, List.all_nil, h, hh, Bool.and_true]
  · unfold invItem
    rw [if_neg (by omega), if_neg (by omega)]
    unfold okIts
    simp only [List.all_cons, List.all_nil, h, Bool.and_true]
theorem inv_ok {g : Int} : ∀ {its : List It}, okIts g its = true → okIts g (invL its) = true
  | [], _ => rfl
  | x :: t, h => by
    unfold okIts at h
    rw [List.all_cons, Bool.and_eq_true] at h
    have h1 := invItem_ok h.1
    have h2 : okIts g (invL t) = true := inv_ok h.2
    rw [invL_cons]
    unfold okIts at *
    rw [List.all_append, h1, h2]
    rfl
theorem chk_of {g : Int} {l : List It} (h1 : 1 ≤ g ∧ g ≤ 6) (h2 : l.length ≤ 5000) (h3 : okIts g l = true) : chkIts g l = 0 := by
  unfold chkIts vldIts
  rw [if_pos h1, decide_eq_true h1, decide_eq_true h2, h3]
  rfl
theorem dag_dag {n : Nat} {A : List Num} (hv : VldL A) (hl : A.length = n * n) : dagL n (dagL n A) = A := by
  refine mat_ext (dagL_valid (dagL_valid hv)) hv (dagL_length _ _) hl fun i k hi hk => ?_
  rw [MV_dag _ hi hk]
  unfold dag
  rw [MV_dag _ hk hi]
  unfold dag
  exact conj_conj _
/-- All that the law on inverses asks. -/
theorem inverts_facts {n : Nat} {its : List It} {A : List Num} (hk : chkIts n its = 0) (hl : its.length ≤ 40) (hA : matOf n its = (A, 0)) :
    (A.length = n * n ∧ VldL A) ∧ chkIts n (invL its) = 0 ∧ (invL its).length ≤ 120 ∧ (invL (invL its)).length ≤ 360 ∧ E4 (matOf n (invL its)).2 ∧
      ((matOf n (invL its)).2 = 0 → (matOf n (invL its)).1 = dagL n A ∧ ((matOf n (its ++ invL its)).2 = 0 → (matOf n (its ++ invL its)).1 = idN n) ∧ ((matOf n (invL (invL its))).2 = 0 → (matOf n (invL (invL its))).1 = A)) := by
  obtain ⟨q1, q2, q3, q4⟩ := chkIts_zero hk
  have hn : n ≤ 6 := by omega
  have h1 := (matOf_zero hA).2
  rw [Int.toNat_natCast] at h1
  have sA := itsM_shape its (idN n) (idN_valid n) (idN_length n) (by rw [h1])
  rw [h1] at sA
  have l1 := invL_length its
  have l2 := invL_length (invL its)
  have hk2 : chkIts n (invL its) = 0 := chk_of ⟨q1, q2⟩ (by omega) (inv_ok q4)
  have hk3 : chkIts n (invL (invL its)) = 0 := chk_of ⟨q1, q2⟩ (by omega) (inv_ok (inv_ok q4))
  have m1 : matOf n (invL its) = itsM n (invL its) (idN n) := by unfold matOf; rw [if_pos hk2, Int.toNat_natCast]
  have m2 : matOf n (invL (invL its)) = itsM n (invL (invL its)) (idN n) := by unfold matOf; rw [if_pos hk3, Int.toNat_natCast]
  refine ⟨⟨sA.2, sA.1⟩, hk2, by omega, by omega, by rw [m1]; exact itsM_e4 _ _ (idN_valid n), fun hB => ?_⟩
  rw [m1] at hB ⊢
  obtain ⟨⟨B, eB⟩, hB1⟩ : ∃ R, itsM n (invL its) (idN n) = R := ⟨_, rfl⟩
  rw [hB1] at hB ⊢
  obtain rfl : eB = 0 := hB
  have eBA := inv_law hn q4 h1 hB1
  refine ⟨eBA, fun hC => ?_, fun hD => ?_⟩
  · obtain ⟨⟨C, eC⟩, hC1⟩ : ∃ R, matOf n (its ++ invL its) = R := ⟨_, rfl⟩
    rw [hC1] at hC ⊢
    obtain rfl : eC = 0 := hC
    have h3 := (matOf_zero hC1).2
    rw [Int.toNat_natCast] at h3
    exact both_law hn q4 h1 hB1 h3
  · rw [m2] at hD ⊢
    obtain ⟨⟨D, eD⟩, hD1⟩ : ∃ R, itsM n (invL (invL its)) (idN n) = R := ⟨_, rfl⟩
    rw [hD1] at hD ⊢
    obtain rfl : eD = 0 := hD
    rw [show D = dagL n B from inv_law hn (inv_ok q4) hB1 hD1, show B = dagL n A from eBA]
    exact dag_dag sA.1 sA.2
theorem invE_ok {g : Int} {its : List It} (hk : chkIts g its = 0) (hl : (invL its).length ≤ 5000) (invE' : List It × Int) (h : invE' = if chkIts g its = 0 then (if (invL its).length ≤ 5000 then (invL its, 0) else ([], 4)) else ([], chkIts g its)) : invE' = (invL its, 0) := by
  rw [h, if_pos hk, if_pos hl]
end Go.Proofs.Ytkglnnkghillpaa

/- Layer 3, plainly: the columns of flat items; the last column on each guide says the same. No condition. -/

namespace Msh
open Amp
def onB (x : It) (g : Int) : Bool := decide (x.pos ≤ g) && decide (g < x.pos + wid x.kind x.n x.name)
def touchB (x y : It) : Bool := [1, 2, 3, 4, 5, 6].any fun g : Int => onB x g && onB y g
def colOf (pre : List (It × Int)) (x : It) : Int := pre.foldl (fun m p => if touchB x p.1 = true then max m (p.2 + 1) else m) 1
def colP (l : List It) : List (It × Int) := l.foldl (fun acc x => acc ++ [(x, colOf acc x)]) []
def colL (l : List It) : List Int := (colP l).map Prod.snd
theorem colOf_snoc (pre : List (It × Int)) (p : It × Int) (x : It) : colOf (pre ++ [p]) x = if touchB x p.1 = true then max (colOf pre x) (p.2 + 1) else colOf pre x := by
  simp [colOf, List.foldl_append]
theorem colP_snoc (l : List It) (x : It) : colP (l ++ [x]) = colP l ++ [(x, colOf (colP l) x)] := by
  simp [colP, List.foldl_append]
theorem colL_snoc (l : List It) (x : It) : colL (l ++ [x]) = colL l ++ [colOf (colP l) x] := by
  simp [colL, colP_snoc]
theorem snoc_ind {α : Type} {P : List α → Prop} (h0 : P []) (h1 : ∀ l x, P l → P (l ++ [x])) (l : List α) : P l := by
  rw [← List.reverse_reverse l]
  induction l.reverse with
  | nil => exact h0
  | cons x t ih => rw [List.reverse_cons]; exact h1 _ x ih
theorem colP_fst (l : List It) : (colP l).map Prod.fst = l := by
  induction l using snoc_ind with
  | h0 => rfl
  | h1 l x ih => rw [colP_snoc, List.map_append, ih]; rfl
theorem colP_length (l : List It) : (colP l).length = l.length := by
  have := congrArg List.length (colP_fst l)
  rwa [List.length_map] at this
theorem colL_length (l : List It) : (colL l).length = l.length := by
  rw [colL, List.length_map, colP_length]
theorem colP_at {l : List It} {k : Nat} {y : It} {c : Int} (hy : l[k]? = some y) (hc : (colL l)[k]? = some c) : (colP l)[k]? = some (y, c) := by
  have h1 : ((colP l).map Prod.fst)[k]? = some y := by rw [colP_fst]; exact hy
  have h2 : ((colP l).map Prod.snd)[k]? = some c := hc
  rw [List.getElem?_map] at h1 h2
  cases hp : (colP l)[k]? with
  | none => rw [hp] at h1; cases h1
  | some p =>
    rw [hp] at h1 h2
    obtain ⟨a, b⟩ := p
    cases h1
    cases h2
    rfl
theorem colOf_bound (pre : List (It × Int)) (x : It) {B : Int} (hB : 0 ≤ B) (h : ∀ p ∈ pre, p.2 ≤ B) : 1 ≤ colOf pre x ∧ colOf pre x ≤ B + 1 := by
  induction pre using snoc_ind with
  | h0 => simp [colOf]; omega
  | h1 l p ih =>
    have h1 := ih fun q hq => h q (List.mem_append_left _ hq)
    have h2 := h p (List.mem_append_right _ List.mem_cons_self)
    rw [colOf_snoc]
    split <;> omega
theorem colP_bound (l : List It) : ∀ p ∈ colP l, 1 ≤ p.2 ∧ p.2 ≤ l.length := by
  induction l using snoc_ind with
  | h0 => intro p hp; cases hp
  | h1 l x ih =>
    intro p hp
    rw [colP_snoc] at hp
    rw [List.length_append]
    rcases List.mem_append.1 hp with hp | hp
    · have := ih p hp
      simp
      omega
    · rw [List.mem_singleton] at hp
      subst hp
      have := colOf_bound (colP l) x (B := l.length) (by omega) fun q hq => (ih q hq).2
      simp
      omega
theorem colL_bound {l : List It} {k : Nat} {c : Int} (h : (colL l)[k]? = some c) : 1 ≤ c ∧ c ≤ l.length := by
  have h1 := List.mem_of_getElem? h
  unfold colL at h1
  obtain ⟨p, hp, rfl⟩ := List.mem_map.1 h1
  exact colP_bound l p hp
/-- The last column on a guide. -/
def lastOf (pre : List (It × Int)) (g : Int) : Int := pre.foldl (fun m p => if onB p.1 g = true then max m p.2 else m) 0
theorem lastOf_snoc (pre : List (It × Int)) (p : It × Int) (g : Int) : lastOf (pre ++ [p]) g = if onB p.1 g = true then max (lastOf pre g) p.2 else lastOf pre g := by
  simp [lastOf, List.foldl_append]
theorem lastOf_bound (pre : List (It × Int)) (g : Int) {B : Int} (hB : 0 ≤ B) (h : ∀ p ∈ pre, p.2 ≤ B) : 0 ≤ lastOf pre g ∧ lastOf pre g ≤ B := by
  induction pre using snoc_ind with
  | h0 => simp [lastOf]; exact hB
  | h1 l p ih =>
    have h1 := ih fun q hq => h q (List.mem_append_left _ hq)
    have h2 := h p (List.mem_append_right _ List.mem_cons_self)
    rw [lastOf_snoc]
    split <;> omega
/-- The greatest last column on an item's guides. -/
def cmax (pre : List (It × Int)) (x : It) : Int := if x.kind = 1 then max 0 (lastOf pre x.pos) else max (max 0 (lastOf pre x.pos)) (lastOf pre (x.pos + 1))
theorem on_iff {g : Int} {x : It} (h : okIt g x = true) (q : Int) : onB x q = true ↔ (q = x.pos ∨ (x.kind ≠ 1 ∧ q = x.pos + 1)) := by
  obtain ⟨_, hk, _, _, hw, _⟩ := okIt_iff h
  unfold onB
  rw [hw, Bool.and_eq_true, decide_eq_true_eq, decide_eq_true_eq]
  unfold ownW
  split <;> omega
theorem touch_iff {g : Int} {x y : It} (h : okIt g x = true) (hg : g ≤ 6) : touchB x y = true ↔ (onB y x.pos = true ∨ (x.kind ≠ 1 ∧ onB y (x.pos + 1) = true)) := by
  obtain ⟨_, hk, hp, hq, _, _⟩ := okIt_iff h
  unfold touchB
  rw [List.any_eq_true]
  constructor
  · rintro ⟨q, _, hq⟩
    rw [Bool.and_eq_true, on_iff h] at hq
    rcases hq.1 with rfl | ⟨h1, rfl⟩
    · exact .inl hq.2
    · exact .inr ⟨h1, hq.2⟩
  · intro hh
    have hw : (1 : Int) ≤ ownW x.kind := by unfold ownW; split <;> omega
    rcases hh with hh | ⟨h1, hh⟩
    · refine ⟨x.pos, ?_, by rw [Bool.and_eq_true, on_iff h]; exact ⟨.inl rfl, hh⟩⟩
      simp only [List.mem_cons, List.not_mem_nil, or_false]
      omega
    · refine ⟨x.pos + 1, ?_, by rw [Bool.and_eq_true, on_iff h]; exact ⟨.inr ⟨h1, rfl⟩, hh⟩⟩
      have hw2 : ownW x.kind = 2 := by unfold ownW; rw [if_neg h1]
      rw [hw2] at hq
      simp only [List.mem_cons, List.not_mem_nil, or_false]
      omega
theorem col_last {g : Int} {x : It} (h : okIt g x = true) (hg : g ≤ 6) (pre : List (It × Int)) (hp : ∀ p ∈ pre, 0 ≤ p.2) : colOf pre x = cmax pre x + 1 := by
  induction pre using snoc_ind with
  | h0 => simp [colOf, cmax, lastOf]
  | h1 l p ih =>
    have h1 := ih fun q hq => hp q (List.mem_append_left _ hq)
    have h2 := hp p (List.mem_append_right _ List.mem_cons_self)
    rw [colOf_snoc, h1]
    unfold cmax
    rw [lastOf_snoc, lastOf_snoc]
    have ht := touch_iff (y := p.1) h hg
    by_cases hk : x.kind = 1
    · rw [if_pos hk, if_pos hk]
      by_cases ho : onB p.1 x.pos = true
      · rw [if_pos (ht.2 (.inl ho)), if_pos ho]; omega
      · rw [if_neg ho, if_neg (fun e => by rcases ht.1 e with e | e; exact ho e; exact e.1 hk)]
    · rw [if_neg hk, if_neg hk]
      by_cases ho : onB p.1 x.pos = true
      · rw [if_pos (ht.2 (.inl ho)), if_pos ho]
        split <;> omega
      · rw [if_neg ho]
        by_cases ho2 : onB p.1 (x.pos + 1) = true
        · rw [if_pos (ht.2 (.inr ⟨hk, ho2⟩)), if_pos ho2]; omega
        · rw [if_neg ho2, if_neg (fun e => by rcases ht.1 e with e | e; exact ho e; exact ho2 e.2)]
/-- The last columns on the guides 0 to n. -/
def lastL (n : Nat) (pre : List (It × Int)) : List Int := (List.range (n + 1)).map fun q : Nat => lastOf pre q
theorem lastL_length (n : Nat) (pre : List (It × Int)) : (lastL n pre).length = n + 1 := by simp [lastL]
theorem lastL_at {n q : Nat} (pre : List (It × Int)) (hq : q ≤ n) : (lastL n pre)[q]? = some (lastOf pre q) := by
  simp [lastL, List.getElem?_range (show q < n + 1 by omega)]
theorem lastL_nil (n : Nat) : lastL n [] = List.replicate (n + 1) 0 := by
  apply List.ext_getElem
  · simp [lastL]
  · intro i h1 h2
    simp [lastL, lastOf]
theorem lastL_step {n : Nat} {x : It} (h : okIt n x = true) (pre : List (It × Int)) :
    lastL n (pre ++ [(x, cmax pre x + 1)]) = if x.kind = 1 then (lastL n pre).set x.pos.toNat (cmax pre x + 1) else ((lastL n pre).set x.pos.toNat (cmax pre x + 1)).set (x.pos + 1).toNat (cmax pre x + 1) := by
  obtain ⟨_, hk, hp, hq, hw, _⟩ := okIt_iff h
  have hon := on_iff h
  apply List.ext_getElem
  · split <;> simp [lastL_length]
  · intro i h1 h2
    rw [lastL_length] at h1
    have e1 : (lastL n (pre ++ [(x, cmax pre x + 1)]))[i]'(by rw [lastL_length]; exact h1) = lastOf (pre ++ [(x, cmax pre x + 1)]) i := by simp [lastL]
    have e2 : ∀ hh, (lastL n pre)[i]'hh = lastOf pre i := fun hh => by simp [lastL]
    rw [e1, lastOf_snoc]
    dsimp only
    by_cases hk1 : x.kind = 1
    · simp only [if_pos hk1, List.getElem_set, e2]
      by_cases hi : x.pos.toNat = i
      · have hii : (i : Int) = x.pos := by omega
        rw [if_pos hi, if_pos ((hon i).2 (.inl hii))]
        unfold cmax
        rw [if_pos hk1, hii]
        omega
      · rw [if_neg hi, if_neg (fun e => by rcases (hon i).1 e with e | e; omega; exact e.1 hk1)]
    · simp only [if_neg hk1, List.getElem_set, e2]
      by_cases hi2 : (x.pos + 1).toNat = i
      · have hii : (i : Int) = x.pos + 1 := by omega
        rw [if_pos hi2, if_pos ((hon i).2 (.inr ⟨hk1, hii⟩))]
        unfold cmax
        rw [if_neg hk1, hii]
        omega
      · rw [if_neg hi2]
        by_cases hi : x.pos.toNat = i
        · have hii : (i : Int) = x.pos := by omega
          rw [if_pos hi, if_pos ((hon i).2 (.inl hii))]
          unfold cmax
          rw [if_neg hk1, hii]
          omega
        · rw [if_neg hi, if_neg (fun e => by rcases (hon i).1 e with e | e <;> omega)]
/-- How many columns, and how many items of each kind. -/
def cntK (l : List It) (k : Int) : Int := l.foldl (fun m x => if x.kind = k then m + 1 else m) 0
def cntM (l : List Int) : Int := l.foldl (fun m c => max m c) 0
theorem cntK_snoc (l : List It) (x : It) (k : Int) : cntK (l ++ [x]) k = if x.kind = k then cntK l k + 1 else cntK l k := by simp [cntK, List.foldl_append]
theorem cntM_snoc (l : List Int) (c : Int) : cntM (l ++ [c]) = max (cntM l) c := by simp [cntM, List.foldl_append]
theorem cntK_bound (l : List It) (k : Int) : 0 ≤ cntK l k ∧ cntK l k ≤ l.length := by
  induction l using snoc_ind with
  | h0 => simp [cntK]
  | h1 l x ih =>
    rw [cntK_snoc, List.length_append]
    split <;> simp <;> omega
theorem cntM_bound (l : List Int) {B : Int} (hB : 0 ≤ B) (h : ∀ c ∈ l, c ≤ B) : 0 ≤ cntM l ∧ cntM l ≤ B := by
  induction l using snoc_ind with
  | h0 => simp [cntM]; exact hB
  | h1 l c ih =>
    have h1 := ih fun q hq => h q (List.mem_append_left _ hq)
    have h2 := h c (List.mem_append_right _ List.mem_cons_self)
    rw [cntM_snoc]
    omega
def colE (g : Int) (l : List It) : List Int × Int := if chkIts g l = 0 then (colL l, 0) else ([], chkIts g l)
theorem ok_pos {g : Int} {x : It} (h : okIt g x = true) (hg : g ≤ 6) : 1 ≤ x.pos ∧ x.pos ≤ 6 := by
  obtain ⟨_, _, hp, hq, _, _⟩ := okIt_iff h
  have : (1 : Int) ≤ ownW x.kind := by unfold ownW; split <;> omega
  omega
theorem take_snoc {α : Type} {l : List α} {i : Nat} {x : α} (h : l[i]? = some x) : l.take (i + 1) = l.take i ++ [x] := by
  rw [List.take_add_one, h]; rfl
end Msh

/- Layer 3, plainly: items sorted by their columns make the same matrix; no exponent exceeds the number of couplers. No condition. -/

namespace Go.Proofs.Ytkglnnkghillpaa
open Go Amp Msh
/-- Outside the own guides an item's matrix is the identity; exponents. -/
def chkOut (m : Nat) (lm : List Num) : Bool := (List.range 7).all fun n => (List.range 7).all fun p => !decide (1 ≤ p ∧ p + m ≤ n + 1) ||
  ((List.range n).all fun i => (List.range n).all fun k => (decide (p ≤ i + 1 ∧ i + 1 < p + m ∧ p ≤ k + 1 ∧ k + 1 < p + m)) || decide ((placeN n p m lm).getD (i * n + k) noneZ = if i = k then oneZ else noneZ))
theorem chkOut_couple : chkOut 2 (ownM 2 0) = true := by decide +kernel
theorem chkOut_cross : chkOut 2 (ownM 3 0) = true := by decide +kernel
theorem chkOut_phase : ((List.range 8).all fun q => chkOut 1 [⟨turnC q ⟨1, 0, 0, 0⟩, 0⟩]) = true := by decide +kernel
theorem chkOut_at {m : Nat} {lm : List Num} (h : chkOut m lm = true) {n p : Nat} (hn : n < 7) (hp : p < 7) (h1 : 1 ≤ p ∧ p + m ≤ n + 1) {i k : Nat} (hi : i < n) (hk : k < n) (hb : ¬ (p ≤ i + 1 ∧ i + 1 < p + m ∧ p ≤ k + 1 ∧ k + 1 < p + m)) :
    (placeN n p m lm).getD (i * n + k) noneZ = if i = k then oneZ else noneZ := by
  unfold chkOut at h
  rw [List.all_eq_true] at h
  have h2 := h n (List.mem_range.2 hn)
  rw [List.all_eq_true] at h2
  have h3 := h2 p (List.mem_range.2 hp)
  rw [decide_eq_true h1, Bool.not_true, Bool.false_or, List.all_eq_true] at h3
  have h4 := h3 i (List.mem_range.2 hi)
  rw [List.all_eq_true] at h4
  have h5 := h4 k (List.mem_range.2 hk)
  rw [decide_eq_false hb, Bool.false_or] at h5
  exact of_decide_eq_true h5
def OutQ (m : Nat) (lm : List Num) : Prop := chkOut m lm = true
theorem outQ_couple : OutQ 2 (ownM 2 0) := chkOut_couple
theorem outQ_cross : OutQ 2 (ownM 3 0) := chkOut_cross
theorem outQ_phase (q : Nat) (hq : q < 8) : OutQ 1 [⟨turnC q ⟨1, 0, 0, 0⟩, 0⟩] := by
  have h := chkOut_phase
  rw [List.all_eq_true] at h
  exact h q (List.mem_range.2 hq)
/-- What is the same for all kinds of items. -/
theorem PV_kinds {n : Nat} {x : It} (hn : n ≤ 6) (h : okIt n x = true) {Q : Nat → List Num → Prop} (h1 : ∀ q, q < 8 → Q 1 [⟨turnC q ⟨1, 0, 0, 0⟩, 0⟩]) (h2 : Q 2 (ownM 2 0)) (h3 : Q 2 (ownM 3 0)) :
    Q (ownW x.kind) (ownM x.kind x.n) ∧ x.pos.toNat < 7 ∧ (1 ≤ x.pos.toNat ∧ x.pos.toNat + ownW x.kind ≤ n + 1) := by
  obtain ⟨_, hk, hp, hq, _, _⟩ := okIt_iff h
  have hw : 1 ≤ ownW x.kind := by unfold ownW; split <;> omega
  refine ⟨?_, by omega, by omega⟩
  rcases hk with hk | hk | hk
  · rw [show ownW x.kind = 1 by unfold ownW; rw [if_pos hk], show ownM x.kind x.n = [⟨turnC (x.n % 8).toNat ⟨1, 0, 0, 0⟩, 0⟩] by unfold ownM; rw [if_pos hk]]
    exact h1 _ (by omega)
  · rw [show ownW x.kind = 2 by unfold ownW; rw [if_neg (by omega)], show ownM x.kind x.n = ownM 2 0 by unfold ownM; rw [if_neg (by omega), if_neg (by omega)]; rfl]
    exact h2
  · rw [show ownW x.kind = 2 by unfold ownW; rw [if_neg (by omega)], show ownM x.kind x.n = ownM 3 0 by unfold ownM; rw [if_neg (by omega), if_pos hk]; rfl]
    exact h3
theorem PV_out {n : Nat} {x : It} (hn : n ≤ 6) (h : okIt n x = true) {i k : Nat} (hi : i < n) (hk : k < n) (hb : ¬ (onB x ((i : Int) + 1) = true ∧ onB x ((k : Int) + 1) = true)) : PV n x i k = if i = k then rpow 40 oneC else zero := by
  obtain ⟨hq, hp7, hp1, hpw⟩ := PV_kinds hn h (Q := OutQ) outQ_phase outQ_couple outQ_cross
  have hon := on_iff h
  obtain ⟨_, hkd, hp, _, _, _⟩ := okIt_iff h
  have hw : (x.kind = 1 ∧ ownW x.kind = 1) ∨ (x.kind ≠ 1 ∧ ownW x.kind = 2) := by unfold ownW; by_cases hk : x.kind = 1; exact .inl ⟨hk, if_pos hk⟩; exact .inr ⟨hk, if_neg hk⟩
  have hbb : ¬ (x.pos.toNat ≤ i + 1 ∧ i + 1 < x.pos.toNat + ownW x.kind ∧ x.pos.toNat ≤ k + 1 ∧ k + 1 < x.pos.toNat + ownW x.kind) := by
    intro hc
    refine hb ⟨(hon _).2 ?_, (hon _).2 ?_⟩ <;> omega
  unfold PV MV
  rw [chkOut_at hq (by omega) hp7 ⟨hp1, hpw⟩ hi hk hbb]
  by_cases hik : i = k
  · rw [if_pos hik, if_pos hik]
    unfold val
    rfl
  · rw [if_neg hik, if_neg hik]
    unfold val
    exact rpow_zero _
theorem commute_core {n : Nat} {X Y : Nat → Nat → C4} {u : C4} {Bx By : Nat → Prop} (hX : ∀ i k, i < n → k < n → ¬ (Bx i ∧ Bx k) → X i k = if i = k then u else zero) (hY : ∀ i k, i < n → k < n → ¬ (By i ∧ By k) → Y i k = if i = k then u else zero)
    (hd : ∀ i, Bx i → By i → False) {i j : Nat} (hi : i < n) (hj : j < n) : sumC n (fun a => mulC (X i a) (Y a j)) = sumC n (fun a => mulC (Y i a) (X a j)) := by
  by_cases hb : Bx i
  · have e1 : ∀ a, a < n → mulC (X i a) (Y a j) = if j = a then mulC (X i a) u else zero := fun a ha => by
      by_cases hba : Bx a
      · rw [hY a j ha hj (fun h => hd a hba h.1)]
        by_cases h : a = j
        · rw [if_pos h, if_pos h.symm]
        · rw [if_neg h, if_neg (fun e => h e.symm), mulC_zero]
      · rw [hX i a hi ha (fun h => hba h.2), if_neg (fun e : i = a => hba (by rw [← e]; exact hb)), zero_mulC]
        split
        · exact (zero_mulC _).symm
        · rfl
    have e2 : ∀ a, a < n → mulC (Y i a) (X a j) = if i = a then mulC u (X a j) else zero := fun a ha => by
      rw [hY i a hi ha (fun h => hd i hb h.1)]
      split
      · rfl
      · exact zero_mulC _
    rw [sum_congr e1, sum_congr e2, sum_delta hj, sum_delta hi, mul_comm']
  · have e1 : ∀ a, a < n → mulC (X i a) (Y a j) = if i = a then mulC u (Y a j) else zero := fun a ha => by
      rw [hX i a hi ha (fun h => hb h.1)]
      split
      · rfl
      · exact zero_mulC _
    have e2 : ∀ a, a < n → mulC (Y i a) (X a j) = if j = a then mulC (Y i a) u else zero := fun a ha => by
      by_cases hba : Bx a
      · rw [hY i a hi ha (fun h => hd a hba h.2), if_neg (fun e : i = a => hb (by rw [e]; exact hba)), zero_mulC]
        split
        · exact (zero_mulC _).symm
        · rfl
      · rw [hX a j ha hj (fun h => hba h.1)]
        by_cases h : a = j
        · rw [if_pos h, if_pos h.symm]
        · rw [if_neg h, if_neg (fun e => h e.symm), mulC_zero]
    rw [sum_congr e1, sum_congr e2, sum_delta hi, sum_delta hj, mul_comm']
theorem PV_comm {n : Nat} {x y : It} (hn : n ≤ 6) (hx : okIt n x = true) (hy : okIt n y = true) (ht : touchB x y = false) {i j : Nat} (hi : i < n) (hj : j < n) :
    sumC n (fun a => mulC (PV n x i a) (PV n y a j)) = sumC n (fun a => mulC (PV n y i a) (PV n x a j)) := by
  refine commute_core (Bx := fun i => onB x ((i : Int) + 1) = true) (By := fun i => onB y ((i : Int) + 1) = true) (fun i k hi hk hb => PV_out hn hx hi hk hb) (fun i k hi hk hb => PV_out hn hy hi hk hb) (fun q h1 h2 => ?_) hi hj
  obtain ⟨_, hkd, hp, hq, _, _⟩ := okIt_iff hx
  have hq1 := (on_iff hx _).1 h1
  have hw : (x.kind = 1 ∧ ownW x.kind = 1) ∨ (x.kind ≠ 1 ∧ ownW x.kind = 2) := by unfold ownW; by_cases hk : x.kind = 1; exact .inl ⟨hk, if_pos hk⟩; exact .inr ⟨hk, if_neg hk⟩
  have : touchB x y = true := by
    unfold touchB
    rw [List.any_eq_true]
    refine ⟨(q : Int) + 1, ?_, by rw [h1, h2]; rfl⟩
    simp only [List.mem_cons, List.not_mem_nil, or_false]
    omega
  rw [ht] at this
  cases this
/-- One item past a list that it does not touch. -/
theorem LM_past {n : Nat} (hn : n ≤ 6) {x : It} (hx : okIt n x = true) : ∀ B : List It, (∀ y ∈ B, okIt n y = true ∧ touchB x y = false) → ∀ i j, i < n → j < n → LM n (B ++ [x]) i j = LM n ([x] ++ B) i j
  | [], _, _, _, _, _ => rfl
  | y :: t, h, i, j, hi, hj => by
    obtain ⟨hy, ht⟩ := h y List.mem_cons_self
    have ih := LM_past hn hx t fun z hz => h z (List.mem_cons_of_mem _ hz)
    show sumC n (fun a => mulC (LM n (t ++ [x]) i a) (PV n y a j)) = sumC n (fun a => mulC (LM n (y :: t) i a) (PV n x a j))
    have e1 : ∀ a, a < n → mulC (LM n (t ++ [x]) i a) (PV n y a j) = mulC (sumC n fun b => mulC (LM n t i b) (PV n x b a)) (PV n y a j) := fun a ha => by rw [ih i a hi ha]; rfl
    have e2 : ∀ a, a < n → mulC (LM n (y :: t) i a) (PV n x a j) = mulC (sumC n fun b => mulC (LM n t i b) (PV n y b a)) (PV n x a j) := fun a _ => rfl
    rw [sum_congr e1, sum_congr e2, ← sum_assoc, ← sum_assoc]
    exact sum_congr fun b hb => by rw [PV_comm hn hx hy ht hb hj]
/-- Items of a column, in their order. -/
def colIts (P : List (It × Int)) (q : Int) : List It := (P.filter fun p => decide (p.2 = q)).map Prod.fst
/-- Items sorted by their columns. -/
def sortC (P : List (It × Int)) : Nat → List It
  | 0 => []
  | q + 1 => sortC P q ++ colIts P ((q : Int) + 1)
theorem colIts_snoc (P : List (It × Int)) (x : It) (c q : Int) : colIts (P ++ [(x, c)]) q = colIts P q ++ if c = q then [x] else [] := by
  unfold colIts
  rw [List.filter_append, List.map_append]
  congr 1
  by_cases h : c = q
  · rw [if_pos h]; simp [h]
  · rw [if_neg h]; simp [h]
theorem sortC_low (P : List (It × Int)) (x : It) (c : Int) : ∀ m : Nat, (m : Int) < c → sortC (P ++ [(x, c)]) m = sortC P m
  | 0, _ => rfl
  | m + 1, h => by
    rw [sortC, sortC, sortC_low P x c m (by omega), colIts_snoc, if_neg (by omega), List.append_nil]
theorem sortC_put (P : List (It × Int)) (x : It) (c : Nat) (hc : 1 ≤ c) : ∀ m : Nat, c ≤ m → ∃ B, sortC P m = sortC P c ++ B ∧ sortC (P ++ [(x, (c : Int))]) m = sortC P c ++ [x] ++ B ∧ ∀ y ∈ B, ∃ p ∈ P, p.1 = y ∧ (c : Int) < p.2
  | 0, h => absurd h (by omega)
  | m + 1, h => by
    rcases Nat.lt_or_ge c (m + 1) with hl | hg
    · obtain ⟨B, h1, h2, h3⟩ := sortC_put P x c hc m (by omega)
      refine ⟨B ++ colIts P ((m : Int) + 1), ?_, ?_, fun y hy => ?_⟩
      · rw [sortC, h1, List.append_assoc]
      · rw [sortC, h2, colIts_snoc, if_neg (by omega), List.append_nil, List.append_assoc]
      · rcases List.mem_append.1 hy with hy | hy
        · exact h3 y hy
        · unfold colIts at hy
          obtain ⟨p, hp, rfl⟩ := List.mem_map.1 hy
          obtain ⟨hp1, hp2⟩ := List.mem_filter.1 hp
          have := of_decide_eq_true hp2
          exact ⟨p, hp1, rfl, by omega⟩
    · obtain rfl : c = m + 1 := by omega
      refine ⟨[], by rw [List.append_nil], ?_, fun y hy => by cases hy⟩
      rw [sortC, sortC_low P x _ m (by omega), colIts_snoc, if_pos (by omega), List.append_nil, sortC, List.append_assoc]
theorem colOf_ge (pre : List (It × Int)) (x : It) {p : It × Int} (hp : p ∈ pre) (ht : touchB x p.1 = true) : p.2 + 1 ≤ colOf pre x := by
  induction pre using snoc_ind with
  | h0 => cases hp
  | h1 l q ih =>
    rw [colOf_snoc]
    rcases List.mem_append.1 hp with h | h
    · have := ih h
      split <;> omega
    · rw [List.mem_singleton] at h
      subst h
      rw [if_pos ht]
      omega
theorem colP_ok {g : Int} {l : List It} (h : okIts g l = true) : ∀ p ∈ colP l, okIt g p.1 = true := fun p hp => by
  unfold okIts at h
  rw [List.all_eq_true] at h
  have : p.1 ∈ (colP l).map Prod.fst := List.mem_map.2 ⟨p, hp, rfl⟩
  rw [colP_fst] at this
  exact h _ this
theorem sorts_lin {n : Nat} (hn : n ≤ 6) (l : List It) (m : Nat) (hok : okIts n l = true) (hm : ∀ p ∈ colP l, p.2 ≤ m) : ∀ i j, i < n → j < n → LM n (sortC (colP l) m) i j = LM n l i j := by
  induction l using snoc_ind with
  | h0 =>
    intro i j _ _
    have e : ∀ m, sortC (colP []) m = [] := fun m => by
      induction m with
      | zero => rfl
      | succ m ih => rw [sortC, ih]; rfl
    rw [e]
  | h1 l x ih =>
    intro i j hi hj
    unfold okIts at hok
    rw [List.all_append, Bool.and_eq_true, List.all_cons, List.all_nil, Bool.and_true] at hok
    obtain ⟨hokl, hokx⟩ := hok
    rw [colP_snoc] at hm ⊢
    have hb := colOf_bound (colP l) x (B := l.length) (by omega) fun p hp => (colP_bound l p hp).2
    have hc := hm _ (List.mem_append_right _ List.mem_cons_self)
    dsimp only at hc
    obtain ⟨c, hcc⟩ : ∃ c : Nat, colOf (colP l) x = c := ⟨(colOf (colP l) x).toNat, by omega⟩
    obtain ⟨B, h1, h2, h3⟩ := sortC_put (colP l) x c (by omega) m (by omega)
    have hB : ∀ y ∈ B, okIt n y = true ∧ touchB x y = false := fun y hy => by
      obtain ⟨p, hp, rfl, hlt⟩ := h3 y hy
      refine ⟨colP_ok hokl p hp, ?_⟩
      cases ht : touchB x p.1 with
      | false => rfl
      | true =>
        have := colOf_ge (colP l) x hp ht
        omega
    have ih := ih hokl fun p hp => hm p (List.mem_append_left _ hp)
    rw [hcc, h2, List.append_assoc, LM_append _ _ i j hi hj, LM_append l [x] i j hi hj]
    have e1 : ∀ a, a < n → mulC (LM n ([x] ++ B) i a) (LM n (sortC (colP l) c) a j) = mulC (LM n (B ++ [x]) i a) (LM n (sortC (colP l) c) a j) := fun a ha => by rw [LM_past hn hokx B hB i a hi ha]
    rw [sum_congr e1, ← LM_append (sortC (colP l) c) (B ++ [x]) i j hi hj, ← List.append_assoc, ← h1, LM_append _ [x] i j hi hj]
    exact sum_congr fun a ha => by rw [ih a j ha hj]
theorem sortC_length (P : List (It × Int)) (m : Nat) (h : ∀ p ∈ P, 1 ≤ p.2 ∧ p.2 ≤ m) : (sortC P m).length = P.length := by
  induction P using snoc_ind with
  | h0 =>
    have e : ∀ m, sortC [] m = [] := fun m => by
      induction m with
      | zero => rfl
      | succ m ih => rw [sortC, ih]; rfl
    rw [e]
    rfl
  | h1 l p ih =>
    obtain ⟨x, c⟩ := p
    obtain ⟨hc1, hc2⟩ := h _ (List.mem_append_right _ List.mem_cons_self)
    dsimp only at hc1 hc2
    obtain ⟨q, rfl⟩ : ∃ q : Nat, c = q := ⟨c.toNat, by omega⟩
    obtain ⟨B, h1, h2, _⟩ := sortC_put l x q (by omega) m (by omega)
    have ih := ih fun p hp => h p (List.mem_append_left _ hp)
    rw [h1, List.length_append] at ih
    rw [h2, List.length_append, List.length_append, List.length_append, List.length_cons, List.length_nil, List.length_cons, List.length_nil]
    omega
theorem sorts_law {n m : Nat} (hn : n ≤ 6) {l : List It} {A B : List Num} (hok : okIts n l = true) (hm : ∀ p ∈ colP l, 1 ≤ p.2 ∧ p.2 ≤ m) (hA : itsM n l (idN n) = (A, 0)) (hB : itsM n (sortC (colP l) m) (idN n) = (B, 0)) : B = A := by
  have sA := itsM_shape l (idN n) (idN_valid n) (idN_length n) (by rw [hA])
  have sB := itsM_shape (sortC (colP l) m) (idN n) (idN_valid n) (idN_length n) (by rw [hB])
  rw [hA] at sA
  rw [hB] at sB
  refine mat_ext sB.1 sA.1 sB.2 sA.2 fun i k hi hk => ?_
  apply rpow_inj (40 * l.length)
  have h1 := itsM_id (n := n) (its := l) (by rw [hA]) hi hk
  have h2 := itsM_id (n := n) (its := sortC (colP l) m) (by rw [hB]) hi hk
  rw [hA] at h1
  rw [hB, sortC_length _ _ hm, colP_length] at h2
  rw [h1, h2, sorts_lin hn l m hok (fun p hp => (hm p hp).2) i k hi hk]
/-- Exponents: a coupler adds one. -/
def chkK0 (l : List Num) : Bool := l.all fun z => decide (z.k = 0)
def chkE (m : Nat) (lm : List Num) : Bool := (List.range 7).all fun n => (List.range 7).all fun p => !decide (1 ≤ p ∧ p + m ≤ n + 1) || chkK0 (placeN n p m lm)
def chkE1 (m : Nat) (lm : List Num) : Bool := (List.range 7).all fun n => (List.range 7).all fun p => !decide (1 ≤ p ∧ p + m ≤ n + 1) || chkK (placeN n p m lm)
theorem chkE_cross : chkE 2 (ownM 3 0) = true := by decide +kernel
theorem chkE_couple : chkE1 2 (ownM 2 0) = true := by decide +kernel
theorem chkE_phase : ((List.range 8).all fun q => chkE 1 [⟨turnC q ⟨1, 0, 0, 0⟩, 0⟩]) = true := by decide +kernel
theorem chkAll_at {f : Nat → Nat → Bool} {m : Nat} (h : ((List.range 7).all fun n => (List.range 7).all fun p => !decide (1 ≤ p ∧ p + m ≤ n + 1) || f n p) = true) {n p : Nat} (hn : n < 7) (hp : p < 7) (h1 : 1 ≤ p ∧ p + m ≤ n + 1) : f n p = true := by
  rw [List.all_eq_true] at h
  have h2 := h n (List.mem_range.2 hn)
  rw [List.all_eq_true] at h2
  have h3 := h2 p (List.mem_range.2 hp)
  rwa [decide_eq_true h1, Bool.not_true, Bool.false_or] at h3
theorem val_k0 {l : List Num} (h : chkK0 l = true) (q : Nat) : val (l.getD q noneZ) = rpow 40 (l.getD q noneZ).x := by
  have e : (l.getD q noneZ).k = 0 := by
    rw [List.getD_eq_getElem?_getD]
    cases hq : l[q]? with
    | none => rfl
    | some z =>
      unfold chkK0 at h
      rw [List.all_eq_true] at h
      exact of_decide_eq_true (h z (List.mem_of_getElem? hq))
  unfold val
  rw [e]
  rfl
theorem PV_exp {n : Nat} {x : It} (hn : n ≤ 6) (h : okIt n x = true) : ∃ Y : Nat → Nat → C4, ∀ i k, rpow (if x.kind = 2 then 1 else 0) (PV n x i k) = rpow 40 (Y i k) := by
  obtain ⟨_, hk, hp, hq, _, _⟩ := okIt_iff h
  have hw : 1 ≤ ownW x.kind := by unfold ownW; split <;> omega
  have hp7 : x.pos.toNat < 7 := by omega
  have hpw : 1 ≤ x.pos.toNat ∧ x.pos.toNat + ownW x.kind ≤ n + 1 := by omega
  rcases hk with hk | hk | hk
  · have ho : ownW x.kind = 1 := by unfold ownW; rw [if_pos hk]
    have hm : ownM x.kind x.n = [⟨turnC (x.n % 8).toNat ⟨1, 0, 0, 0⟩, 0⟩] := by unfold ownM; rw [if_pos hk]
    rw [ho] at hpw
    have hc := chkE_phase
    rw [List.all_eq_true] at hc
    have h0 := chkAll_at (f := fun n p => chkK0 (placeN n p 1 [⟨turnC (x.n % 8).toNat ⟨1, 0, 0, 0⟩, 0⟩])) (hc _ (List.mem_range.2 (by omega))) (by omega) hp7 hpw
    refine ⟨fun i k => ((placeN n x.pos.toNat 1 [⟨turnC (x.n % 8).toNat ⟨1, 0, 0, 0⟩, 0⟩]).getD (i * n + k) noneZ).x, fun i k => ?_⟩
    rw [if_neg (by omega)]
    unfold PV MV
    rw [ho, hm]
    exact val_k0 h0 _
  · have ho : ownW x.kind = 2 := by unfold ownW; rw [if_neg (by omega)]
    have hm : ownM x.kind x.n = ownM 2 0 := by unfold ownM; rw [if_neg (by omega), if_neg (by omega)]; rfl
    rw [ho] at hpw
    have h0 := chkAll_at (f := fun n p => chkK (placeN n p 2 (ownM 2 0))) chkE_couple (by omega) hp7 hpw
    refine ⟨fun i k => v1 ((placeN n x.pos.toNat 2 (ownM 2 0)).getD (i * n + k) noneZ), fun i k => ?_⟩
    rw [if_pos hk]
    unfold PV MV
    rw [ho, hm, val_v1 (chkK_at h0 _), rpow_rpow]
  · have ho : ownW x.kind = 2 := by unfold ownW; rw [if_neg (by omega)]
    have hm : ownM x.kind x.n = ownM 3 0 := by unfold ownM; rw [if_neg (by omega), if_pos hk]; rfl
    rw [ho] at hpw
    have h0 := chkAll_at (f := fun n p => chkK0 (placeN n p 2 (ownM 3 0))) chkE_cross (by omega) hp7 hpw
    refine ⟨fun i k => ((placeN n x.pos.toNat 2 (ownM 3 0)).getD (i * n + k) noneZ).x, fun i k => ?_⟩
    rw [if_neg (by omega)]
    unfold PV MV
    rw [ho, hm]
    exact val_k0 h0 _
def cup : List It → Nat
  | [] => 0
  | x :: t => cup t + if x.kind = 2 then 1 else 0
theorem LM_exp {n : Nat} (hn : n ≤ 6) : ∀ l : List It, okIts n l = true → ∃ Y : Nat → Nat → C4, ∀ i k, i < n → k < n → rpow (cup l) (LM n l i k) = rpow (40 * l.length) (Y i k)
  | [], _ => ⟨fun i k => LM n [] i k, fun _ _ _ _ => rfl⟩
  | x :: t, h => by
    unfold okIts at h
    rw [List.all_cons, Bool.and_eq_true] at h
    obtain ⟨Y1, h1⟩ := PV_exp hn h.1
    obtain ⟨Y2, h2⟩ := LM_exp hn t h.2
    refine ⟨fun i k => sumC n fun a => mulC (Y2 i a) (Y1 a k), fun i k hi hk => ?_⟩
    show rpow (cup t + if x.kind = 2 then 1 else 0) (sumC n fun a => mulC (LM n t i a) (PV n x a k)) = _
    rw [sum_rpow, sum_rpow]
    refine sum_congr fun a ha => ?_
    rw [← rpow_rpow, ← mul_rpow', ← mul_rpow, h1 a k, h2 i a hi ha, mul_rpow, mul_rpow', rpow_rpow, List.length_cons]
    congr 1
theorem cup_cnt (l : List It) : cntK l 2 = cup l := by
  induction l using snoc_ind with
  | h0 => rfl
  | h1 l x ih =>
    have e : ∀ (a b : List It), cup (a ++ b) = cup a + cup b := fun a b => by
      induction a with
      | nil => simp [cup]
      | cons y t ih => simp only [List.cons_append, cup, ih]; omega
    rw [cntK_snoc, ih, e]
    simp only [cup]
    by_cases h : x.kind = 2
    · rw [if_pos h, if_pos h]; omega
    · rw [if_neg h, if_neg h]; omega
theorem exp_law {n : Nat} (hn : n ≤ 6) {l : List It} {A : List Num} (hok : okIts n l = true) (hA : itsM n l (idN n) = (A, 0)) {q : Nat} {z : Num} (hz : A[q]? = some z) : z.k ≤ cntK l 2 := by
  have sA := itsM_shape l (idN n) (idN_valid n) (idN_length n) (by rw [hA])
  rw [hA] at sA
  have hv := sA.1 q z hz
  obtain ⟨k, hk, hk4⟩ := valid_nat hv
  rw [cup_cnt]
  rcases Nat.lt_or_ge (cup l) k with hlt | hge
  case inr => rw [hk]; omega
  have hq : q < n * n := by have := (List.getElem?_eq_some_iff.1 hz).1; rw [sA.2] at this; exact this
  obtain ⟨h1, h2, h3⟩ := grid_spread hq
  obtain ⟨Y, hY⟩ := LM_exp hn l hok
  have h4 := itsM_id (n := n) (its := l) (by rw [hA]) h1 h2
  rw [hA] at h4
  have h5 := hY _ _ h1 h2
  have h6 : MV A n (q / n) (q % n) = rpow (40 - k) z.x := by
    unfold MV
    rw [← h3, List.getD_eq_getElem?_getD, hz]
    unfold val
    rw [Option.getD_some, hk]
    rfl
  have h7 : rpow (40 * l.length + cup l + (40 - k)) z.x = rpow (40 + 40 * l.length) (Y (q / n) (q % n)) := by
    rw [← rpow_rpow, ← h6, Nat.add_comm (40 * l.length), ← rpow_rpow, h4, rpow_rpow, Nat.add_comm (cup l), ← rpow_rpow, h5, rpow_rpow]
  have h8 : z.x = rpow (k - cup l) (Y (q / n) (q % n)) := by
    apply rpow_inj (40 * l.length + cup l + (40 - k))
    rw [h7, rpow_rpow]
    congr 1
    omega
  obtain ⟨d, hd⟩ : ∃ d, k - cup l = d + 1 := ⟨k - cup l - 1, by omega⟩
  have h9 : evenB z.x = true := by
    have e : ∀ (d : Nat) (y : C4), rpow (d + 1) y = root (rpow d y) := fun d => by
      induction d with
      | zero => intro y; rfl
      | succ d ih => intro y; exact ih (root y)
    rw [h8, hd, e]
    exact even_root _
  unfold validB at hv
  rw [h9] at hv
  simp only [Bool.not_true, Bool.or_false, Bool.and_eq_true, decide_eq_true_eq] at hv
  omega
end Go.Proofs.Ytkglnnkghillpaa
