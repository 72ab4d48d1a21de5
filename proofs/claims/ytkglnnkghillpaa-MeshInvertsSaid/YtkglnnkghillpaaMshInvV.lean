/- Layer 3, plainly: the matrix of the inverse is the conjugate of the transpose; both together are the identity; errors are of size alone. No condition. -/
import Derived.Test.YtkglnnkghillpaaMshLin
import Derived.Test.YtkglnnkghillpaaMshInvP
import Derived.Test.YtkglnnkghillpaaMshVal
namespace Go.Proofs.Ytkglnnkghillpaa
open Go Go.RowKit Amp Msh
/-- An error of size, or none. -/
def E4 (e : Int) : Prop := e = 0 ∨ e = 4
theorem made_e4 (x : C4) (k : Int) : E4 (made x k).e := by
  unfold made
  split
  · exact .inl rfl
  · exact .inr rfl
theorem mulN_e4 {x y : C4} {k j : Int} (hx : validB x k = true) (hy : validB y j = true) : E4 (mulN x k y j).e := by
  unfold mulN
  rw [if_pos ⟨hx, hy⟩]
  exact made_e4 _ _
theorem addN_e4 {x y : C4} {k j : Int} (hx : validB x k = true) (hy : validB y j = true) : E4 (addN x k y j).e := by
  unfold addN
  rw [if_pos ⟨hx, hy⟩]
  exact made_e4 _ _
theorem mulN_ok {x y : C4} {k j : Int} (h : (mulN x k y j).e = 0) : validB (mulN x k y j).x (mulN x k y j).k = true := by
  rcases mulN_cases x y k j with ⟨e, h3, h4⟩ | ⟨_, _, i, s', _, _, _, _, h4, h5, _⟩
  · rw [h4] at h; exact absurd h h3
  · rw [h4]; exact h5
theorem addN_ok {x y : C4} {k j : Int} (h : (addN x k y j).e = 0) : validB (addN x k y j).x (addN x k y j).k = true := by
  rcases addN_cases x y k j with ⟨e, h3, h4⟩ | ⟨_, _, i, s', _, _, _, _, h4, h5, _⟩
  · rw [h4] at h; exact absurd h h3
  · rw [h4]; exact h5
theorem rowA_e4 : ∀ (l : List (Num × Num)) (s : C4) (k : Int), validB s k = true → (∀ p ∈ l, validB p.1.x p.1.k = true ∧ validB p.2.x p.2.k = true) → E4 (rowA s k l).e
  | [], _, _, _, _ => .inl rfl
  | p :: t, s, k, hs, h => by
    obtain ⟨h1, h2⟩ := h p List.mem_cons_self
    simp only [rowA]
    by_cases hm : (mulN p.1.x p.1.k p.2.x p.2.k).e = 0
    · rw [if_pos hm]
      have hmv : validB (mulN p.1.x p.1.k p.2.x p.2.k).x (mulN p.1.x p.1.k p.2.x p.2.k).k = true := mulN_ok hm
      by_cases ha : (addN s k (mulN p.1.x p.1.k p.2.x p.2.k).x (mulN p.1.x p.1.k p.2.x p.2.k).k).e = 0
      · rw [if_pos ha]
        exact rowA_e4 t _ _ (addN_ok ha) fun q hq => h q (List.mem_cons_of_mem _ hq)
      · rw [if_neg ha]
        exact addN_e4 hs hmv
    · rw [if_neg hm]
      exact mulN_e4 h1 h2
theorem seqR_e4 : ∀ L : List Res, (∀ r ∈ L, E4 r.e) → E4 (seqR L).2
  | [], _ => .inl rfl
  | r :: t, h => by
    have h1 := seqR_e4 t fun q hq => h q (List.mem_cons_of_mem _ hq)
    have h2 := h r List.mem_cons_self
    simp only [seqR]
    by_cases hr : r.e = 0
    · rw [if_pos hr]
      by_cases ht : (seqR t).2 = 0
      · rw [if_pos ht]; exact .inl rfl
      · rw [if_neg ht]; exact h1
    · rw [if_neg hr]; exact h2
theorem VldL.getD {l : List Num} (h : VldL l) (q : Nat) : validB (l.getD q ⟨zero, 0⟩).x (l.getD q ⟨zero, 0⟩).k = true := by
  rw [List.getD_eq_getElem?_getD]
  cases hq : l[q]? with
  | none => decide
  | some z => exact h q z hq
theorem mulM_e4 {n : Nat} {la lb : List Num} (ha : VldL la) (hb : VldL lb) : E4 (mulM n la lb).2 := by
  refine seqR_e4 _ fun r hr => ?_
  unfold gridR at hr
  obtain ⟨q, _, rfl⟩ := List.mem_map.1 hr
  refine rowA_e4 _ _ _ (by decide) fun p hp => ?_
  unfold prow at hp
  obtain ⟨j, _, rfl⟩ := List.mem_map.1 hp
  exact ⟨VldL.getD ha _, VldL.getD hb _⟩
theorem turnC_valid : ((List.range 8).all fun q => validB (turnC q ⟨1, 0, 0, 0⟩) 0) = true := by decide +kernel
theorem ownM_valid (kind m : Int) : VldL (ownM kind m) := VldL.of fun z hz => by
  unfold ownM at hz
  split at hz
  · simp only [List.mem_singleton] at hz
    subst hz
    have h := turnC_valid
    rw [List.all_eq_true] at h
    exact h _ (List.mem_range.2 (by omega))
  · split at hz
    · simp only [List.mem_cons, List.not_mem_nil, or_false] at hz
      rcases hz with rfl | rfl | rfl | rfl <;> decide
    · simp only [List.mem_cons, List.not_mem_nil, or_false] at hz
      rcases hz with rfl | rfl | rfl | rfl <;> decide
theorem itsM_e4 {n : Nat} : ∀ (its : List It) (l : List Num), VldL l → E4 (itsM n its l).2
  | [], _, _ => .inl rfl
  | x :: t, l, h => by
    simp only [itsM]
    by_cases hs : (stepM n x l).2 = 0
    · rw [if_pos hs]; exact itsM_e4 t _ (mulM_valid _ _ _)
    · rw [if_neg hs]; exact mulM_e4 (placeL_valid (ownM_valid _ _) _) h
/-- Half a turn on one guide; its matrix. -/
def hN (n p : Nat) : List Num := placeN n p 1 (ownM 1 4)
def cN (n p m : Nat) (lm : List Num) : List Num := placeN n p m lm
/-- The matrix of half a turn has its diagonal alone; with it on both sides a coupler is its own adjoint. -/
def chkHalf : Bool := (List.range 7).all fun n => (List.range 7).all fun p => !decide (1 ≤ p ∧ p + 2 ≤ n + 1) ||
  (chkK (hN n p) && chkK (placeN n p 2 (ownM 2 0)) && (List.range n).all fun i => (List.range n).all fun k =>
    (decide (i = k) || decide ((hN n p).getD (i * n + k) noneZ = noneZ)) &&
    decide (mulC (mulC (v1 ((hN n p).getD (i * n + i) noneZ)) (v1 ((placeN n p 2 (ownM 2 0)).getD (i * n + k) noneZ))) (v1 ((hN n p).getD (k * n + k) noneZ)) = rpow 2 (conjC (v1 ((placeN n p 2 (ownM 2 0)).getD (k * n + i) noneZ)))))
theorem chk_half : chkHalf = true := by decide +kernel
def chkDag (m : Nat) (lm lm' : List Num) : Bool := (List.range 7).all fun n => (List.range 7).all fun p => !decide (1 ≤ p ∧ p + m ≤ n + 1) || decide (placeN n p m lm' = dagL n (placeN n p m lm))
theorem chk_cross' : chkDag 2 (ownM 3 0) (ownM 3 0) = true := by decide +kernel
theorem chk_phase' : ((List.range 8).all fun q => chkDag 1 [⟨turnC q ⟨1, 0, 0, 0⟩, 0⟩] [⟨turnC ((8 - q) % 8) ⟨1, 0, 0, 0⟩, 0⟩]) = true := by decide +kernel
theorem chkDag_at {m : Nat} {lm lm' : List Num} (h : chkDag m lm lm' = true) {n p : Nat} (hn : n < 7) (hp : p < 7) (h1 : 1 ≤ p ∧ p + m ≤ n + 1) : placeN n p m lm' = dagL n (placeN n p m lm) := by
  unfold chkDag at h
  rw [List.all_eq_true] at h
  have h2 := h n (List.mem_range.2 hn)
  rw [List.all_eq_true] at h2
  have h3 := h2 p (List.mem_range.2 hp)
  rw [decide_eq_true h1] at h3
  simpa using h3
theorem half_at {n p : Nat} (hn : n < 7) (hp : p < 7) (h1 : 1 ≤ p ∧ p + 2 ≤ n + 1) :
    (∀ i k, i < n → k < n → i ≠ k → MV (hN n p) n i k = zero) ∧ (∀ i k, i < n → k < n → mulC (mulC (MV (hN n p) n i i) (MV (placeN n p 2 (ownM 2 0)) n i k)) (MV (hN n p) n k k) = rpow 80 (conjC (MV (placeN n p 2 (ownM 2 0)) n k i))) := by
  have h := chk_half
  unfold chkHalf at h
  rw [List.all_eq_true] at h
  have h2 := h n (List.mem_range.2 hn)
  rw [List.all_eq_true] at h2
  have h3 := h2 p (List.mem_range.2 hp)
  rw [decide_eq_true h1, Bool.not_true, Bool.false_or, Bool.and_eq_true, Bool.and_eq_true] at h3
  obtain ⟨⟨hk, hk2⟩, h4⟩ := h3
  rw [List.all_eq_true] at h4
  have hr : ∀ i k, i < n → k < n → (i = k ∨ (hN n p).getD (i * n + k) noneZ = noneZ) ∧ mulC (mulC (v1 ((hN n p).getD (i * n + i) noneZ)) (v1 ((placeN n p 2 (ownM 2 0)).getD (i * n + k) noneZ))) (v1 ((hN n p).getD (k * n + k) noneZ)) = rpow 2 (conjC (v1 ((placeN n p 2 (ownM 2 0)).getD (k * n + i) noneZ))) := fun i k hi hk => by
    have h5 := h4 i (List.mem_range.2 hi)
    rw [List.all_eq_true] at h5
    have h6 := h5 k (List.mem_range.2 hk)
    rw [Bool.and_eq_true, Bool.or_eq_true, decide_eq_true_eq, decide_eq_true_eq, decide_eq_true_eq] at h6
    exact h6
  refine ⟨fun i k hi hk hne => ?_, fun i k hi hk' => ?_⟩
  · rcases (hr i k hi hk).1 with e | e
    · exact absurd e hne
    · unfold MV
      rw [e]
      exact rpow_zero _
  · have e := (hr i k hi hk').2
    unfold MV
    rw [val_v1 (chkK_at hk _), val_v1 (chkK_at hk _), val_v1 (chkK_at hk2 _), val_v1 (chkK_at hk2 _), conj_rpow]
    simp only [mul_rpow, mul_rpow', rpow_rpow]
    rw [e, rpow_rpow]
theorem LM_one {n : Nat} (y : It) {i k : Nat} (hi : i < n) : LM n [y] i k = PV n y i k := by
  simp only [LM]
  have e : ∀ j, j < n → mulC (if i = j then oneC else zero) (PV n y j k) = if i = j then PV n y j k else zero := fun j _ => by
    split
    · exact one_mulC _
    · exact zero_mulC _
  rw [sum_congr e, sum_delta hi]
theorem inv_item {n : Nat} {x : It} (hn : n ≤ 6) (h : okIt n x = true) : ∃ c, (invItem x).length = 1 + 2 * c ∧ ∀ i k, i < n → k < n → LM n (invItem x) i k = rpow (80 * c) (conjC (PV n x k i)) := by
  obtain ⟨h1, hk, h2, h3, h4, h5⟩ := okIt_iff h
  have hp7 : x.pos.toNat < 7 := by
    have : 1 ≤ ownW x.kind := by unfold ownW; split <;> omega
    omega
  rcases hk with hk | hk | hk
  · refine ⟨0, by unfold invItem; rw [if_pos hk]; rfl, fun i k hi hk' => ?_⟩
    have hq : 1 ≤ x.n ∧ x.n ≤ 7 := by
      have hw := h1
      unfold wid at hw
      by_cases hc : 1 ≤ x.n ∧ x.n ≤ 7
      · exact hc
      · rw [if_pos h5, if_neg (fun h => hc h.2), if_neg (by omega)] at hw
        exact absurd rfl hw
    have e : invItem x = [⟨x.kind, x.pos, 8 - x.n, x.name⟩] := by
      unfold invItem
      rw [if_pos hk, show wrap64 (8 - x.n) = 8 - x.n by unfold wrap64; omega]
    rw [e, LM_one _ hi]
    unfold PV
    dsimp only
    have ho : ownW x.kind = 1 := by unfold ownW; rw [if_pos hk]
    rw [ho] at h3 ⊢
    have e1 : ownM x.kind x.n = [⟨turnC x.n.toNat ⟨1, 0, 0, 0⟩, 0⟩] := by unfold ownM; rw [if_pos hk, show x.n % 8 = x.n by omega]
    have e2 : ownM x.kind (8 - x.n) = [⟨turnC ((8 - x.n.toNat) % 8) ⟨1, 0, 0, 0⟩, 0⟩] := by unfold ownM; rw [if_pos hk, show ((8 - x.n) % 8).toNat = (8 - x.n.toNat) % 8 by omega]
    have hc := chk_phase'
    rw [List.all_eq_true] at hc
    rw [e1, e2, chkDag_at (hc x.n.toNat (List.mem_range.2 (by omega))) (by omega) hp7 (by omega), MV_dag _ hi hk']
    rfl
  · refine ⟨1, by unfold invItem; rw [if_neg (by omega), if_pos hk]; rfl, fun i k hi hk' => ?_⟩
    have e : invItem x = [halfOf x, x, halfOf x] := by
      unfold invItem
      rw [if_neg (by omega), if_pos hk]
    rw [e]
    have ho : ownW x.kind = 2 := by unfold ownW; rw [if_neg (by omega)]
    rw [ho] at h3
    have hx : ∀ i k, PV n x i k = MV (placeN n x.pos.toNat 2 (ownM 2 0)) n i k := fun i k => by
      unfold PV
      rw [ho, show ownM x.kind x.n = ownM 2 0 by unfold ownM; rw [if_neg (by omega), if_neg (by omega)]; rfl]
    have hh : ∀ i k, PV n (halfOf x) i k = MV (hN n x.pos.toNat) n i k := fun i k => rfl
    obtain ⟨hd, hc⟩ := half_at (n := n) (p := x.pos.toNat) (by omega) hp7 (by omega)
    have e1 : ∀ a, a < n → LM n [x, halfOf x] i a = mulC (MV (hN n x.pos.toNat) n i i) (PV n x i a) := fun a _ => by
      have e2 : LM n [x, halfOf x] i a = sumC n fun b => mulC (LM n [halfOf x] i b) (PV n x b a) := rfl
      rw [e2]
      have e3 : ∀ b, b < n → mulC (LM n [halfOf x] i b) (PV n x b a) = if i = b then mulC (MV (hN n x.pos.toNat) n i b) (PV n x b a) else zero := fun b hb => by
        rw [LM_one _ hi, hh]
        split
        · rfl
        · rename_i hne
          rw [hd i b hi hb hne, zero_mulC]
      rw [sum_congr e3, sum_delta hi]
    have e4 : LM n [halfOf x, x, halfOf x] i k = sumC n fun a => mulC (LM n [x, halfOf x] i a) (PV n (halfOf x) a k) := rfl
    rw [e4]
    have e5 : ∀ a, a < n → mulC (LM n [x, halfOf x] i a) (PV n (halfOf x) a k) = if k = a then mulC (mulC (MV (hN n x.pos.toNat) n i i) (PV n x i a)) (MV (hN n x.pos.toNat) n a k) else zero := fun a ha => by
      rw [e1 a ha, hh]
      split
      · rfl
      · rename_i hne
        rw [hd a k ha hk' (fun e => hne e.symm), mulC_zero]
    rw [sum_congr e5, sum_delta hk', hx, hx, hc i k hi hk']
  · refine ⟨0, by unfold invItem; rw [if_neg (by omega), if_neg (by omega)]; rfl, fun i k hi hk' => ?_⟩
    have e : invItem x = [x] := by
      unfold invItem
      rw [if_neg (by omega), if_neg (by omega)]
    rw [e, LM_one _ hi]
    have ho : ownW x.kind = 2 := by unfold ownW; rw [if_neg (by omega)]
    rw [ho] at h3
    unfold PV
    rw [ho, show ownM x.kind x.n = ownM 3 0 by unfold ownM; rw [if_neg (by omega), if_pos hk]; rfl]
    have hz := chkDag_at chk_cross' (n := n) (p := x.pos.toNat) (by omega) hp7 (by omega)
    have := MV_dag (placeN n x.pos.toNat 2 (ownM 3 0)) hi hk'
    rw [← hz] at this
    exact this
theorem invL_cons (x : It) (t : List It) : invL (x :: t) = invL t ++ invItem x := by simp [invL]
theorem inv_lin {n : Nat} (hn : n ≤ 6) : ∀ its : List It, okIts n its = true → ∃ c, (invL its).length = its.length + 2 * c ∧ ∀ i k, i < n → k < n → LM n (invL its) i k = rpow (80 * c) (conjC (LM n its k i))
  | [], _ => ⟨0, rfl, fun i k hi hk => by
    show (if i = k then oneC else zero) = conjC (if k = i then oneC else zero)
    by_cases h : i = k
    · rw [if_pos h, if_pos h.symm]; rfl
    · rw [if_neg h, if_neg (fun e => h e.symm)]; rfl⟩
  | x :: t, h => by
    unfold okIts at h
    rw [List.all_cons, Bool.and_eq_true] at h
    obtain ⟨c1, l1, h1⟩ := inv_item hn h.1
    obtain ⟨c2, l2, h2⟩ := inv_lin hn t h.2
    refine ⟨c2 + c1, by rw [invL_cons, List.length_append, l1, l2, List.length_cons]; omega, fun i k hi hk => ?_⟩
    rw [invL_cons, LM_append _ _ _ _ hi hk]
    have e : ∀ a, a < n → mulC (LM n (invItem x) i a) (LM n (invL t) a k) = rpow (80 * (c2 + c1)) (conjC (mulC (LM n t k a) (PV n x a i))) := fun a ha => by
      rw [h1 i a hi ha, h2 a k ha hk, mul_rpow, mul_rpow', rpow_rpow, conj_mul, mul_comm', show 80 * c1 + 80 * c2 = 80 * (c2 + c1) by omega]
    rw [sum_congr e, ← sum_rpow, ← sum_conj]
    rfl
theorem dagL_valid {n : Nat} {l : List Num} (h : VldL l) : VldL (dagL n l) := VldL.of fun z hz => by
  unfold dagL gridR at hz
  obtain ⟨q, _, rfl⟩ := List.mem_map.1 hz
  dsimp only
  show validB (conjC _) _ = true
  rw [valid_conj]
  exact VldL.getD h _
theorem inv_law {n : Nat} (hn : n ≤ 6) {its : List It} {A B : List Num} (hok : okIts n its = true) (hA : itsM n its (idN n) = (A, 0)) (hB : itsM n (invL its) (idN n) = (B, 0)) : B = dagL n A := by
  have sA := itsM_shape its (idN n) (idN_valid n) (idN_length n) (by rw [hA])
  have sB := itsM_shape (invL its) (idN n) (idN_valid n) (idN_length n) (by rw [hB])
  rw [hA] at sA
  rw [hB] at sB
  obtain ⟨c, hc, hl⟩ := inv_lin hn its hok
  refine mat_ext sB.1 (dagL_valid sA.1) sB.2 (dagL_length n A) fun i k hi hk => ?_
  apply rpow_inj (40 * (invL its).length)
  have h1 := itsM_id (n := n) (its := invL its) (by rw [hB]) hi hk
  have h2 := itsM_id (n := n) (its := its) (by rw [hA]) hk hi
  rw [hB] at h1
  rw [hA] at h2
  rw [h1, hl i k hi hk, MV_dag _ hi hk, hc]
  show _ = rpow _ (conjC (MV A n k i))
  rw [show 40 * (its.length + 2 * c) = 80 * c + 40 * its.length by omega, ← rpow_rpow (80 * c), ← conj_rpow (40 * its.length), h2, conj_rpow, rpow_rpow, rpow_rpow, Nat.add_comm]
theorem joins_val {n : Nat} {l m : List It} {A B C : List Num} (hl : itsM n l (idN n) = (A, 0)) (hm : itsM n m (idN n) = (B, 0)) (hb : itsM n (l ++ m) (idN n) = (C, 0)) {i k : Nat} (hi : i < n) (hk : k < n) :
    rpow 40 (MV C n i k) = sumC n (fun j => mulC (MV B n i j) (MV A n j k)) := by
  apply rpow_inj (40 * l.length + 40 * m.length)
  have h1 := itsM_id (n := n) (its := l ++ m) (by rw [hb]) hi hk
  rw [hb] at h1
  have e1 : rpow (40 * l.length + 40 * m.length) (rpow 40 (MV C n i k)) = rpow 80 (LM n (l ++ m) i k) := by
    rw [rpow_rpow, show 40 * l.length + 40 * m.length + 40 = 40 + 40 * (l ++ m).length by simp; omega, ← rpow_rpow, h1, rpow_rpow]
  rw [e1, LM_append l m i k hi hk, sum_rpow, sum_rpow]
  refine sum_congr fun j hj => ?_
  have h2 := itsM_id (n := n) (its := l) (by rw [hl]) hj hk
  have h3 := itsM_id (n := n) (its := m) (by rw [hm]) hi hj
  rw [hl] at h2
  rw [hm] at h3
  have e2 : rpow (40 * l.length + 40 * m.length) (mulC (MV B n i j) (MV A n j k)) = mulC (rpow (40 * m.length) (MV B n i j)) (rpow (40 * l.length) (MV A n j k)) := by
    rw [mul_rpow, mul_rpow', rpow_rpow, Nat.add_comm]
  rw [e2, h2, h3, mul_rpow, mul_rpow', rpow_rpow]
theorem both_law {n : Nat} (hn : n ≤ 6) {its : List It} {A B C : List Num} (hok : okIts n its = true) (hA : itsM n its (idN n) = (A, 0)) (hB : itsM n (invL its) (idN n) = (B, 0)) (hC : itsM n (its ++ invL its) (idN n) = (C, 0)) : C = idN n := by
  have sC := itsM_shape (its ++ invL its) (idN n) (idN_valid n) (idN_length n) (by rw [hC])
  rw [hC] at sC
  have hu := itsM_uni hn its (idN n) hok (Uni.id n) (by rw [hA])
  rw [hA] at hu
  refine mat_ext sC.1 (idN_valid n) sC.2 (idN_length n) fun i k hi hk => ?_
  apply rpow_inj 40
  rw [joins_val hA hB hC hi hk, inv_law hn hok hA hB, MV_id hi hk]
  have e : ∀ j, j < n → mulC (MV (dagL n A) n i j) (MV A n j k) = mulC (dag (MV A n) i j) (conjC (dag (MV A n) k j)) := fun j hj => by rw [MV_dag A hi hj]; unfold dag; rw [conj_conj]
  rw [sum_congr e, hu.2 i k hi hk, dl]
  split
  · rw [rpow_rpow]
  · rw [rpow_zero]
theorem invItem_ok {g : Int} {x : It} (h : okIt g x = true) : okIts g (invItem x) = true := by
  obtain ⟨h1, hk, h2, h3, h4, h5⟩ := okIt_iff h
  rcases hk with hk | hk | hk
  · have hq : 1 ≤ x.n ∧ x.n ≤ 7 := by
      have hw := h1
      unfold wid at hw
      by_cases hc : 1 ≤ x.n ∧ x.n ≤ 7
      · exact hc
      · rw [if_pos h5, if_neg (fun h => hc h.2), if_neg (by omega)] at hw
        exact absurd rfl hw
    have ho : ownW x.kind = 1 := by unfold ownW; rw [if_pos hk]
    rw [ho] at h3
    unfold invItem
    rw [if_pos hk, show wrap64 (8 - x.n) = 8 - x.n by unfold wrap64; omega]
    unfold okIts okIt
    have hw : wid x.kind (8 - x.n) x.name = 1 := by unfold wid; rw [if_pos h5, if_pos (by omega)]
    simp only [List.all_cons, List.all_nil, hw, Bool.and_true, Bool.and_eq_true, decide_eq_true_eq]
    omega
  · have ho : ownW x.kind = 2 := by unfold ownW; rw [if_neg (by omega)]
    rw [ho] at h3
    unfold invItem
    rw [if_neg (by omega), if_pos hk]
    have hw : wid 1 4 ⟨#[]⟩ = 1 := by
      have h0 : (⟨#[]⟩ : ByteArray).toList = [] := by unfold ByteArray.toList ByteArray.toList.loop; rfl
      unfold wid
      rw [if_pos h0]
      rfl
    have hh : okIt g (halfOf x) = true := by
      unfold okIt halfOf
      simp only [hw, Bool.and_eq_true, decide_eq_true_eq]
      omega
    unfold okIts
    simp only [List.all_cons, List.all_nil, h, hh, Bool.and_true]
  · unfold invItem
    rw [if_neg (by omega), if_neg (by omega)]
    unfold okIts
    simp only [List.all_cons, List.all_nil, h, Bool.and_true]
theorem inv_ok {g : Int} : ∀ {its : List It}, okIts g its = true → okIts g (invL its) = true
  | [], _ => rfl
  | x :: t, h => by
    unfold okIts at h
    rw [List.all_cons, Bool.and_eq_true] at h
    have h1 := invItem_ok h.1
    have h2 : okIts g (invL t) = true := inv_ok h.2
    rw [invL_cons]
    unfold okIts at *
    rw [List.all_append, h1, h2]
    rfl
theorem chk_of {g : Int} {l : List It} (h1 : 1 ≤ g ∧ g ≤ 6) (h2 : l.length ≤ 5000) (h3 : okIts g l = true) : chkIts g l = 0 := by
  unfold chkIts vldIts
  rw [if_pos h1, decide_eq_true h1, decide_eq_true h2, h3]
  rfl
theorem dag_dag {n : Nat} {A : List Num} (hv : VldL A) (hl : A.length = n * n) : dagL n (dagL n A) = A := by
  refine mat_ext (dagL_valid (dagL_valid hv)) hv (dagL_length _ _) hl fun i k hi hk => ?_
  rw [MV_dag _ hi hk]
  unfold dag
  rw [MV_dag _ hk hi]
  unfold dag
  exact conj_conj _
/-- All that the law on inverses asks. -/
theorem inverts_facts {n : Nat} {its : List It} {A : List Num} (hk : chkIts n its = 0) (hl : its.length ≤ 40) (hA : matOf n its = (A, 0)) :
    (A.length = n * n ∧ VldL A) ∧ chkIts n (invL its) = 0 ∧ (invL its).length ≤ 120 ∧ (invL (invL its)).length ≤ 360 ∧ E4 (matOf n (invL its)).2 ∧
      ((matOf n (invL its)).2 = 0 → (matOf n (invL its)).1 = dagL n A ∧ ((matOf n (its ++ invL its)).2 = 0 → (matOf n (its ++ invL its)).1 = idN n) ∧ ((matOf n (invL (invL its))).2 = 0 → (matOf n (invL (invL its))).1 = A)) := by
  obtain ⟨q1, q2, q3, q4⟩ := chkIts_zero hk
  have hn : n ≤ 6 := by omega
  have h1 := (matOf_zero hA).2
  rw [Int.toNat_natCast] at h1
  have sA := itsM_shape its (idN n) (idN_valid n) (idN_length n) (by rw [h1])
  rw [h1] at sA
  have l1 := invL_length its
  have l2 := invL_length (invL its)
  have hk2 : chkIts n (invL its) = 0 := chk_of ⟨q1, q2⟩ (by omega) (inv_ok q4)
  have hk3 : chkIts n (invL (invL its)) = 0 := chk_of ⟨q1, q2⟩ (by omega) (inv_ok (inv_ok q4))
  have m1 : matOf n (invL its) = itsM n (invL its) (idN n) := by unfold matOf; rw [if_pos hk2, Int.toNat_natCast]
  have m2 : matOf n (invL (invL its)) = itsM n (invL (invL its)) (idN n) := by unfold matOf; rw [if_pos hk3, Int.toNat_natCast]
  refine ⟨⟨sA.2, sA.1⟩, hk2, by omega, by omega, by rw [m1]; exact itsM_e4 _ _ (idN_valid n), fun hB => ?_⟩
  rw [m1] at hB ⊢
  obtain ⟨⟨B, eB⟩, hB1⟩ : ∃ R, itsM n (invL its) (idN n) = R := ⟨_, rfl⟩
  rw [hB1] at hB ⊢
  obtain rfl : eB = 0 := hB
  have eBA := inv_law hn q4 h1 hB1
  refine ⟨eBA, fun hC => ?_, fun hD => ?_⟩
  · obtain ⟨⟨C, eC⟩, hC1⟩ : ∃ R, matOf n (its ++ invL its) = R := ⟨_, rfl⟩
    rw [hC1] at hC ⊢
    obtain rfl : eC = 0 := hC
    have h3 := (matOf_zero hC1).2
    rw [Int.toNat_natCast] at h3
    exact both_law hn q4 h1 hB1 h3
  · rw [m2] at hD ⊢
    obtain ⟨⟨D, eD⟩, hD1⟩ : ∃ R, itsM n (invL (invL its)) (idN n) = R := ⟨_, rfl⟩
    rw [hD1] at hD ⊢
    obtain rfl : eD = 0 := hD
    rw [show D = dagL n B from inv_law hn (inv_ok q4) hB1 hD1, show B = dagL n A from eBA]
    exact dag_dag sA.1 sA.2
theorem invE_ok {g : Int} {its : List It} (hk : chkIts g its = 0) (hl : (invL its).length ≤ 5000) (invE' : List It × Int) (h : invE' = if chkIts g its = 0 then (if (invL its).length ≤ 5000 then (invL its, 0) else ([], 4)) else ([], chkIts g its)) : invE' = (invL its, 0) := by
  rw [h, if_pos hk, if_pos hl]
end Go.Proofs.Ytkglnnkghillpaa
