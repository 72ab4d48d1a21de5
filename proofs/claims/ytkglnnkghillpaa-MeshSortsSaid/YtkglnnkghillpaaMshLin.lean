/- Layer 3, plainly: items as a linear map; items behind each other are the product; light is what the matrix makes of it. No condition. -/
import Derived.Test.YtkglnnkghillpaaMshLit
import Derived.Test.YtkglnnkghillpaaMshVal
namespace Go.Proofs.Ytkglnnkghillpaa
open Go Amp Msh
/-- The values of an item's matrix on all guides. -/
def PV (n : Nat) (x : It) (i j : Nat) : C4 := MV (placeN n x.pos.toNat (ownW x.kind) (ownM x.kind x.n)) n i j
/-- The map of a list of items, times r^40 for each. -/
def LM (n : Nat) : List It → Nat → Nat → C4
  | [], i, j => if i = j then oneC else zero
  | x :: t, i, j => sumC n fun a => mulC (LM n t i a) (PV n x a j)
theorem sum_assoc (n : Nat) (f : Nat → C4) (P : Nat → Nat → C4) (v : Nat → C4) : sumC n (fun j => mulC (f j) (sumC n fun a => mulC (P j a) (v a))) = sumC n (fun a => mulC (sumC n fun j => mulC (f j) (P j a)) (v a)) := by
  have e : ∀ j, j < n → mulC (f j) (sumC n fun a => mulC (P j a) (v a)) = sumC n fun a => mulC (mulC (f j) (P j a)) (v a) := fun j _ => by
    rw [sum_mul_left]
    exact sum_congr fun a _ => (mulC_assoc _ _ _).symm
  rw [sum_congr e, sum_comm]
  exact sum_congr fun a _ => (sum_mul_right _ _ _).symm
theorem itsM_lin {n : Nat} : ∀ (its : List It) (l : List Num), (itsM n its l).2 = 0 → ∀ i k, i < n → k < n → rpow (40 * its.length) (MV (itsM n its l).1 n i k) = sumC n (fun j => mulC (LM n its i j) (MV l n j k))
  | [], l, _, i, k, hi, hk => by
    have e : ∀ j, j < n → mulC (LM n [] i j) (MV l n j k) = if i = j then MV l n j k else zero := fun j _ => by
      simp only [LM]
      split
      · exact one_mulC _
      · exact zero_mulC _
    rw [sum_congr e, sum_delta hi]
    rfl
  | x :: t, l, he, i, k, hi, hk => by
    simp only [itsM] at *
    by_cases h : (stepM n x l).2 = 0
    · rw [if_pos h] at *
      have ih := itsM_lin t _ he i k hi hk
      rw [show 40 * (x :: t).length = 40 + 40 * t.length by simp; omega, ← rpow_rpow, ih, sum_rpow]
      have e : ∀ j, j < n → rpow 40 (mulC (LM n t i j) (MV (stepM n x l).1 n j k)) = mulC (LM n t i j) (sumC n fun a => mulC (PV n x j a) (MV l n a k)) := fun j hj => by
        rw [← mul_rpow']
        congr 1
        exact mulM_val h hj hk
      rw [sum_congr e, sum_assoc]
      rfl
    · rw [if_neg h] at he; exact absurd he h
/-- The value of a number of a list. -/
def VV (v : List Num) (j : Nat) : C4 := val (v.getD j noneZ)
theorem appM_val {n : Nat} {la lv : List Num} (he : (appM n la lv).2 = 0) {i : Nat} (hi : i < n) : rpow 40 (VV (appM n la lv).1 i) = sumC n (fun j => mulC (MV la n i j) (VV lv j)) := by
  have h0 := seqR_zero _ he
  have h1 := seqR_ok _ h0
  have h2 := appR_at la lv hi
  have h3 := h0 _ (List.mem_of_getElem? h2)
  unfold VV
  have h4 : (appM n la lv).1[i]? = some ⟨(rowN (prowV la lv n i)).x, (rowN (prowV la lv n i)).k⟩ := by
    unfold appM
    rw [h1, List.getElem?_map, h2]
    rfl
  rw [List.getD_eq_getElem?_getD, h4]
  show rpow 40 (val ⟨_, _⟩) = _
  rw [rowN_val h3]
  exact lsum_range n _
theorem row_val {n i : Nat} {la lv : List Num} (he : (rowN (prowV la lv n i)).e = 0) : rpow 40 (val ⟨(rowN (prowV la lv n i)).x, (rowN (prowV la lv n i)).k⟩) = sumC n (fun j => mulC (MV la n i j) (VV lv j)) := by
  rw [rowN_val he]
  exact lsum_range n _
theorem litN_lin {n : Nat} : ∀ (its : List It) (v : List Num), (litN n its v).2 = 0 → ∀ i, i < n → rpow (40 * its.length) (VV (litN n its v).1 i) = sumC n (fun j => mulC (LM n its i j) (VV v j))
  | [], v, _, i, hi => by
    have e : ∀ j, j < n → mulC (LM n [] i j) (VV v j) = if i = j then VV v j else zero := fun j _ => by
      simp only [LM]
      split
      · exact one_mulC _
      · exact zero_mulC _
    rw [sum_congr e, sum_delta hi]
    rfl
  | x :: t, v, he, i, hi => by
    simp only [litN] at *
    by_cases h : (appM n (placeN n x.pos.toNat (ownW x.kind) (ownM x.kind x.n)) v).2 = 0
    · rw [if_pos h] at *
      have ih := litN_lin t _ he i hi
      rw [show 40 * (x :: t).length = 40 + 40 * t.length by simp; omega, ← rpow_rpow, ih, sum_rpow]
      have e : ∀ j, j < n → rpow 40 (mulC (LM n t i j) (VV (appM n (placeN n x.pos.toNat (ownW x.kind) (ownM x.kind x.n)) v).1 j)) = mulC (LM n t i j) (sumC n fun a => mulC (PV n x j a) (VV v a)) := fun j hj => by
        rw [← mul_rpow']
        congr 1
        exact appM_val h hj
      rw [sum_congr e, sum_assoc]
      rfl
    · rw [if_neg h] at he; exact absurd he h
theorem LM_append {n : Nat} : ∀ (l m : List It) (i j : Nat), i < n → j < n → LM n (l ++ m) i j = sumC n (fun a => mulC (LM n m i a) (LM n l a j))
  | [], m, i, j, _, hj => by
    have e : ∀ a, a < n → mulC (LM n m i a) (LM n [] a j) = if j = a then LM n m i a else zero := fun a _ => by
      simp only [LM]
      by_cases h : a = j
      · rw [if_pos h, if_pos h.symm, mulC_one]
      · rw [if_neg h, if_neg (fun e => h e.symm), mulC_zero]
    rw [sum_congr e, sum_delta hj]
    rfl
  | x :: t, m, i, j, hi, hj => by
    simp only [List.cons_append, LM]
    rw [sum_assoc n (fun a => LM n m i a) (fun a b => LM n t a b) (fun b => PV n x b j)]
    exact sum_congr fun a ha => by rw [LM_append t m i a hi ha]
theorem itsM_id {n : Nat} {its : List It} (he : (itsM n its (idN n)).2 = 0) {i k : Nat} (hi : i < n) (hk : k < n) : rpow (40 * its.length) (MV (itsM n its (idN n)).1 n i k) = rpow 40 (LM n its i k) := by
  rw [itsM_lin its _ he i k hi hk]
  have e : ∀ j, j < n → mulC (LM n its i j) (MV (idN n) n j k) = if k = j then rpow 40 (LM n its i j) else zero := fun j hj => by
    rw [MV_id hj hk]
    by_cases h : j = k
    · rw [if_pos h, if_pos h.symm, mul_rpow', mulC_one]
    · rw [if_neg h, if_neg (fun e => h e.symm), mulC_zero]
  rw [sum_congr e, sum_delta hk]
/-- The matrix of items behind each other is the product of both matrices. -/
theorem joins_law {n : Nat} {l m : List It} (hl : (itsM n l (idN n)).2 = 0) (hm : (itsM n m (idN n)).2 = 0) (hb : (itsM n (l ++ m) (idN n)).2 = 0)
    (hp : (mulM n (itsM n m (idN n)).1 (itsM n l (idN n)).1).2 = 0) : (mulM n (itsM n m (idN n)).1 (itsM n l (idN n)).1).1 = (itsM n (l ++ m) (idN n)).1 := by
  obtain ⟨v1, l1⟩ := itsM_shape (l ++ m) (idN n) (idN_valid n) (idN_length n) hb
  refine mat_ext (mulM_valid _ _ _) v1 (matR_length hp) l1 fun i k hi hk => ?_
  apply rpow_inj (40 * l.length + 40 * m.length + 40)
  have e1 : rpow (40 * l.length + 40 * m.length + 40) (MV (itsM n (l ++ m) (idN n)).1 n i k) = rpow 80 (LM n (l ++ m) i k) := by
    have h := itsM_id hb hi hk
    rw [show 40 * l.length + 40 * m.length + 40 = 40 + 40 * (l ++ m).length by simp; omega, ← rpow_rpow, h, rpow_rpow]
  have e2 : rpow (40 * l.length + 40 * m.length + 40) (MV (mulM n (itsM n m (idN n)).1 (itsM n l (idN n)).1).1 n i k) = rpow 80 (LM n (l ++ m) i k) := by
    rw [← rpow_rpow, mulM_val hp hi hk, LM_append l m i k hi hk, sum_rpow, sum_rpow]
    refine sum_congr fun j hj => ?_
    rw [Nat.add_comm (40 * l.length), ← rpow_rpow, ← mul_rpow', ← mul_rpow, itsM_id hl hj hk, itsM_id hm hi hj, mul_rpow, mul_rpow', rpow_rpow]
  rw [e1, e2]
/-- Light is what the matrix makes of a vector. -/
theorem light_law {n : Nat} {its : List It} {v : List Num} (hm : (itsM n its (idN n)).2 = 0) (hv : (litN n its v).2 = 0) {i : Nat} (hi : i < n) {x : Num} (hx : (litN n its v).1[i]? = some x) (vx : validB x.x x.k = true)
    (he : (rowN (prowV (itsM n its (idN n)).1 v n i)).e = 0) : (⟨(rowN (prowV (itsM n its (idN n)).1 v n i)).x, (rowN (prowV (itsM n its (idN n)).1 v n i)).k⟩ : Num) = x := by
  refine val_inj (rowA_valid _ _ _ (by decide) he) vx ?_
  apply rpow_inj (40 * its.length + 40)
  have e1 : rpow (40 * its.length + 40) (val x) = rpow 40 (sumC n (fun j => mulC (LM n its i j) (VV v j))) := by
    have h := litN_lin its v hv i hi
    unfold VV at h
    rw [List.getD_eq_getElem?_getD, hx] at h
    rw [Nat.add_comm, ← rpow_rpow]
    exact congrArg (rpow 40) h
  rw [e1, ← rpow_rpow, row_val he, sum_rpow, sum_rpow]
  refine sum_congr fun j hj => ?_
  rw [← mul_rpow, itsM_id hm hi hj, mul_rpow]
theorem litN_valid {n : Nat} : ∀ (its : List It) (v : List Num), VldL v → VldL (litN n its v).1
  | [], v, h => h
  | x :: t, v, _ => by
    simp only [litN]
    by_cases h : (appM n (placeN n x.pos.toNat (ownW x.kind) (ownM x.kind x.n)) v).2 = 0
    · rw [if_pos h]; exact litN_valid t _ (appM_valid _ _ _)
    · rw [if_neg h]; exact fun i z hz => by simp at hz
theorem litN_length {n : Nat} : ∀ (its : List It) (v : List Num), v.length = n → (litN n its v).2 = 0 → (litN n its v).1.length = n
  | [], v, h, _ => h
  | x :: t, v, _, he => by
    simp only [litN] at *
    by_cases h : (appM n (placeN n x.pos.toNat (ownW x.kind) (ownM x.kind x.n)) v).2 = 0
    · rw [if_pos h] at *; exact litN_length t _ (appM_length h) he
    · rw [if_neg h] at he; exact absurd he h
theorem litN_nil {n : Nat} : ∀ (its : List It) (v : List Num), (litN n its v).2 ≠ 0 → (litN n its v).1 = []
  | [], v, he => absurd rfl he
  | x :: t, v, he => by
    simp only [litN] at *
    by_cases h : (appM n (placeN n x.pos.toNat (ownW x.kind) (ownM x.kind x.n)) v).2 = 0
    · rw [if_pos h] at *; exact litN_nil t _ he
    · rw [if_neg h]
theorem matOf_zero {g : Int} {its : List It} {A : List Num} (h : matOf g its = (A, 0)) : chkIts g its = 0 ∧ itsM g.toNat its (idN g.toNat) = (A, 0) := by
  unfold matOf at h
  by_cases hc : chkIts g its = 0
  · rw [if_pos hc] at h; exact ⟨hc, h⟩
  · rw [if_neg hc] at h; exact absurd (congrArg Prod.snd h) hc
theorem joins_facts {n : Nat} {its itm : List It} {A B C : List Num} (hA : matOf n its = (A, 0)) (hB : matOf n itm = (B, 0)) (hC : matOf n (its ++ itm) = (C, 0)) :
    (A.length = n * n ∧ VldL A) ∧ (B.length = n * n ∧ VldL B) ∧ (C.length = n * n ∧ ((mulM n B A).2 = 0 → (mulM n B A).1 = C)) := by
  have h1 := (matOf_zero hA).2
  have h2 := (matOf_zero hB).2
  have h3 := (matOf_zero hC).2
  rw [Int.toNat_natCast] at h1 h2 h3
  have s1 := itsM_shape its (idN n) (idN_valid n) (idN_length n) (by rw [h1])
  have s2 := itsM_shape itm (idN n) (idN_valid n) (idN_length n) (by rw [h2])
  have s3 := itsM_shape (its ++ itm) (idN n) (idN_valid n) (idN_length n) (by rw [h3])
  rw [h1] at s1
  rw [h2] at s2
  rw [h3] at s3
  refine ⟨⟨s1.2, s1.1⟩, ⟨s2.2, s2.1⟩, s3.2, fun h => ?_⟩
  have := joins_law (n := n) (l := its) (m := itm) (by rw [h1]) (by rw [h2]) (by rw [h3]) (by rw [h1, h2]; exact h)
  rwa [h1, h2, h3] at this
theorem litOf_litN {n : Nat} {its : List It} {v : List Num} (hk : chkIts n its = 0) (hv : isVec v = true) (hn : v.length = n) : litOf n its v = litN n its v := by
  unfold litOf
  rw [if_pos hk, if_pos hv, if_pos (by rw [hn]), Int.toNat_natCast]
theorem light_facts {n : Nat} {its : List It} {A v X : List Num} {E : Int} (hA : matOf n its = (A, 0)) (hv : v.length = n) (hV : VldL v) (hX : litN n its v = (X, E)) :
    (E ≠ 0 → X = []) ∧ (E = 0 → X.length = n) ∧ (E = 0 → ∀ i, i < n → ∀ x, X[i]? = some x → (rowN (prowV A v n i)).e = 0 → (⟨(rowN (prowV A v n i)).x, (rowN (prowV A v n i)).k⟩ : Num) = x) := by
  have h1 := (matOf_zero hA).2
  rw [Int.toNat_natCast] at h1
  refine ⟨fun h => ?_, fun h => ?_, fun h i hi x hx he => ?_⟩
  · have := litN_nil its v (n := n) (by rw [hX]; exact h)
    rwa [hX] at this
  · have := litN_length its v hv (by rw [hX]; exact h)
    rwa [hX] at this
  · have hq := litN_valid (n := n) its v hV
    rw [hX] at hq
    have := light_law (n := n) (its := its) (v := v) (by rw [h1]) (by rw [hX]; exact h) hi (x := x) (by rw [hX]; exact hx) (hq i x hx) (by rw [h1]; exact he)
    rwa [h1] at this
end Go.Proofs.Ytkglnnkghillpaa
