/- Layer 3, plainly: items sorted by their columns make the same matrix; no exponent exceeds the number of couplers. No condition. -/
import Derived.Test.YtkglnnkghillpaaMshLin
import Derived.Test.YtkglnnkghillpaaMshVal
import Derived.Test.YtkglnnkghillpaaMshCol
namespace Go.Proofs.Ytkglnnkghillpaa
open Go Amp Msh
/-- Outside the own guides an item's matrix is the identity; exponents. -/
def chkOut (m : Nat) (lm : List Num) : Bool := (List.range 7).all fun n => (List.range 7).all fun p => !decide (1 ≤ p ∧ p + m ≤ n + 1) ||
  ((List.range n).all fun i => (List.range n).all fun k => (decide (p ≤ i + 1 ∧ i + 1 < p + m ∧ p ≤ k + 1 ∧ k + 1 < p + m)) || decide ((placeN n p m lm).getD (i * n + k) noneZ = if i = k then oneZ else noneZ))
theorem chkOut_couple : chkOut 2 (ownM 2 0) = true := by decide +kernel
theorem chkOut_cross : chkOut 2 (ownM 3 0) = true := by decide +kernel
theorem chkOut_phase : ((List.range 8).all fun q => chkOut 1 [⟨turnC q ⟨1, 0, 0, 0⟩, 0⟩]) = true := by decide +kernel
theorem chkOut_at {m : Nat} {lm : List Num} (h : chkOut m lm = true) {n p : Nat} (hn : n < 7) (hp : p < 7) (h1 : 1 ≤ p ∧ p + m ≤ n + 1) {i k : Nat} (hi : i < n) (hk : k < n) (hb : ¬ (p ≤ i + 1 ∧ i + 1 < p + m ∧ p ≤ k + 1 ∧ k + 1 < p + m)) :
    (placeN n p m lm).getD (i * n + k) noneZ = if i = k then oneZ else noneZ := by
  unfold chkOut at h
  rw [List.all_eq_true] at h
  have h2 := h n (List.mem_range.2 hn)
  rw [List.all_eq_true] at h2
  have h3 := h2 p (List.mem_range.2 hp)
  rw [decide_eq_true h1, Bool.not_true, Bool.false_or, List.all_eq_true] at h3
  have h4 := h3 i (List.mem_range.2 hi)
  rw [List.all_eq_true] at h4
  have h5 := h4 k (List.mem_range.2 hk)
  rw [decide_eq_false hb, Bool.false_or] at h5
  exact of_decide_eq_true h5
def OutQ (m : Nat) (lm : List Num) : Prop := chkOut m lm = true
theorem outQ_couple : OutQ 2 (ownM 2 0) := chkOut_couple
theorem outQ_cross : OutQ 2 (ownM 3 0) := chkOut_cross
theorem outQ_phase (q : Nat) (hq : q < 8) : OutQ 1 [⟨turnC q ⟨1, 0, 0, 0⟩, 0⟩] := by
  have h := chkOut_phase
  rw [List.all_eq_true] at h
  exact h q (List.mem_range.2 hq)
/-- What is the same for all kinds of items. -/
theorem PV_kinds {n : Nat} {x : It} (hn : n ≤ 6) (h : okIt n x = true) {Q : Nat → List Num → Prop} (h1 : ∀ q, q < 8 → Q 1 [⟨turnC q ⟨1, 0, 0, 0⟩, 0⟩]) (h2 : Q 2 (ownM 2 0)) (h3 : Q 2 (ownM 3 0)) :
    Q (ownW x.kind) (ownM x.kind x.n) ∧ x.pos.toNat < 7 ∧ (1 ≤ x.pos.toNat ∧ x.pos.toNat + ownW x.kind ≤ n + 1) := by
  obtain ⟨_, hk, hp, hq, _, _⟩ := okIt_iff h
  have hw : 1 ≤ ownW x.kind := by unfold ownW; split <;> omega
  refine ⟨?_, by omega, by omega⟩
  rcases hk with hk | hk | hk
  · rw [show ownW x.kind = 1 by unfold ownW; rw [if_pos hk], show ownM x.kind x.n = [⟨turnC (x.n % 8).toNat ⟨1, 0, 0, 0⟩, 0⟩] by unfold ownM; rw [if_pos hk]]
    exact h1 _ (by omega)
  · rw [show ownW x.kind = 2 by unfold ownW; rw [if_neg (by omega)], show ownM x.kind x.n = ownM 2 0 by unfold ownM; rw [if_neg (by omega), if_neg (by omega)]; rfl]
    exact h2
  · rw [show ownW x.kind = 2 by unfold ownW; rw [if_neg (by omega)], show ownM x.kind x.n = ownM 3 0 by unfold ownM; rw [if_neg (by omega), if_pos hk]; rfl]
    exact h3
theorem PV_out {n : Nat} {x : It} (hn : n ≤ 6) (h : okIt n x = true) {i k : Nat} (hi : i < n) (hk : k < n) (hb : ¬ (onB x ((i : Int) + 1) = true ∧ onB x ((k : Int) + 1) = true)) : PV n x i k = if i = k then rpow 40 oneC else zero := by
  obtain ⟨hq, hp7, hp1, hpw⟩ := PV_kinds hn h (Q := OutQ) outQ_phase outQ_couple outQ_cross
  have hon := on_iff h
  obtain ⟨_, hkd, hp, _, _, _⟩ := okIt_iff h
  have hw : (x.kind = 1 ∧ ownW x.kind = 1) ∨ (x.kind ≠ 1 ∧ ownW x.kind = 2) := by unfold ownW; by_cases hk : x.kind = 1; exact .inl ⟨hk, if_pos hk⟩; exact .inr ⟨hk, if_neg hk⟩
  have hbb : ¬ (x.pos.toNat ≤ i + 1 ∧ i + 1 < x.pos.toNat + ownW x.kind ∧ x.pos.toNat ≤ k + 1 ∧ k + 1 < x.pos.toNat + ownW x.kind) := by
    intro hc
    refine hb ⟨(hon _).2 ?_, (hon _).2 ?_⟩ <;> omega
  unfold PV MV
  rw [chkOut_at hq (by omega) hp7 ⟨hp1, hpw⟩ hi hk hbb]
  by_cases hik : i = k
  · rw [if_pos hik, if_pos hik]
    unfold val
    rfl
  · rw [if_neg hik, if_neg hik]
    unfold val
    exact rpow_zero _
theorem commute_core {n : Nat} {X Y : Nat → Nat → C4} {u : C4} {Bx By : Nat → Prop} (hX : ∀ i k, i < n → k < n → ¬ (Bx i ∧ Bx k) → X i k = if i = k then u else zero) (hY : ∀ i k, i < n → k < n → ¬ (By i ∧ By k) → Y i k = if i = k then u else zero)
    (hd : ∀ i, Bx i → By i → False) {i j : Nat} (hi : i < n) (hj : j < n) : sumC n (fun a => mulC (X i a) (Y a j)) = sumC n (fun a => mulC (Y i a) (X a j)) := by
  by_cases hb : Bx i
  · have e1 : ∀ a, a < n → mulC (X i a) (Y a j) = if j = a then mulC (X i a) u else zero := fun a ha => by
      by_cases hba : Bx a
      · rw [hY a j ha hj (fun h => hd a hba h.1)]
        by_cases h : a = j
        · rw [if_pos h, if_pos h.symm]
        · rw [if_neg h, if_neg (fun e => h e.symm), mulC_zero]
      · rw [hX i a hi ha (fun h => hba h.2), if_neg (fun e : i = a => hba (by rw [← e]; exact hb)), zero_mulC]
        split
        · exact (zero_mulC _).symm
        · rfl
    have e2 : ∀ a, a < n → mulC (Y i a) (X a j) = if i = a then mulC u (X a j) else zero := fun a ha => by
      rw [hY i a hi ha (fun h => hd i hb h.1)]
      split
      · rfl
      · exact zero_mulC _
    rw [sum_congr e1, sum_congr e2, sum_delta hj, sum_delta hi, mul_comm']
  · have e1 : ∀ a, a < n → mulC (X i a) (Y a j) = if i = a then mulC u (Y a j) else zero := fun a ha => by
      rw [hX i a hi ha (fun h => hb h.1)]
      split
      · rfl
      · exact zero_mulC _
    have e2 : ∀ a, a < n → mulC (Y i a) (X a j) = if j = a then mulC (Y i a) u else zero := fun a ha => by
      by_cases hba : Bx a
      · rw [hY i a hi ha (fun h => hd a hba h.2), if_neg (fun e : i = a => hb (by rw [e]; exact hba)), zero_mulC]
        split
        · exact (zero_mulC _).symm
        · rfl
      · rw [hX a j ha hj (fun h => hba h.1)]
        by_cases h : a = j
        · rw [if_pos h, if_pos h.symm]
        · rw [if_neg h, if_neg (fun e => h e.symm), mulC_zero]
    rw [sum_congr e1, sum_congr e2, sum_delta hi, sum_delta hj, mul_comm']
theorem PV_comm {n : Nat} {x y : It} (hn : n ≤ 6) (hx : okIt n x = true) (hy : okIt n y = true) (ht : touchB x y = false) {i j : Nat} (hi : i < n) (hj : j < n) :
    sumC n (fun a => mulC (PV n x i a) (PV n y a j)) = sumC n (fun a => mulC (PV n y i a) (PV n x a j)) := by
  refine commute_core (Bx := fun i => onB x ((i : Int) + 1) = true) (By := fun i => onB y ((i : Int) + 1) = true) (fun i k hi hk hb => PV_out hn hx hi hk hb) (fun i k hi hk hb => PV_out hn hy hi hk hb) (fun q h1 h2 => ?_) hi hj
  obtain ⟨_, hkd, hp, hq, _, _⟩ := okIt_iff hx
  have hq1 := (on_iff hx _).1 h1
  have hw : (x.kind = 1 ∧ ownW x.kind = 1) ∨ (x.kind ≠ 1 ∧ ownW x.kind = 2) := by unfold ownW; by_cases hk : x.kind = 1; exact .inl ⟨hk, if_pos hk⟩; exact .inr ⟨hk, if_neg hk⟩
  have : touchB x y = true := by
    unfold touchB
    rw [List.any_eq_true]
    refine ⟨(q : Int) + 1, ?_, by rw [h1, h2]; rfl⟩
    simp only [List.mem_cons, List.not_mem_nil, or_false]
    omega
  rw [ht] at this
  cases this
/-- One item past a list that it does not touch. -/
theorem LM_past {n : Nat} (hn : n ≤ 6) {x : It} (hx : okIt n x = true) : ∀ B : List It, (∀ y ∈ B, okIt n y = true ∧ touchB x y = false) → ∀ i j, i < n → j < n → LM n (B ++ [x]) i j = LM n ([x] ++ B) i j
  | [], _, _, _, _, _ => rfl
  | y :: t, h, i, j, hi, hj => by
    obtain ⟨hy, ht⟩ := h y List.mem_cons_self
    have ih := LM_past hn hx t fun z hz => h z (List.mem_cons_of_mem _ hz)
    show sumC n (fun a => mulC (LM n (t ++ [x]) i a) (PV n y a j)) = sumC n (fun a => mulC (LM n (y :: t) i a) (PV n x a j))
    have e1 : ∀ a, a < n → mulC (LM n (t ++ [x]) i a) (PV n y a j) = mulC (sumC n fun b => mulC (LM n t i b) (PV n x b a)) (PV n y a j) := fun a ha => by rw [ih i a hi ha]; rfl
    have e2 : ∀ a, a < n → mulC (LM n (y :: t) i a) (PV n x a j) = mulC (sumC n fun b => mulC (LM n t i b) (PV n y b a)) (PV n x a j) := fun a _ => rfl
    rw [sum_congr e1, sum_congr e2, ← sum_assoc, ← sum_assoc]
    exact sum_congr fun b hb => by rw [PV_comm hn hx hy ht hb hj]
/-- Items of a column, in their order. -/
def colIts (P : List (It × Int)) (q : Int) : List It := (P.filter fun p => decide (p.2 = q)).map Prod.fst
/-- Items sorted by their columns. -/
def sortC (P : List (It × Int)) : Nat → List It
  | 0 => []
  | q + 1 => sortC P q ++ colIts P ((q : Int) + 1)
theorem colIts_snoc (P : List (It × Int)) (x : It) (c q : Int) : colIts (P ++ [(x, c)]) q = colIts P q ++ if c = q then [x] else [] := by
  unfold colIts
  rw [List.filter_append, List.map_append]
  congr 1
  by_cases h : c = q
  · rw [if_pos h]; simp [h]
  · rw [if_neg h]; simp [h]
theorem sortC_low (P : List (It × Int)) (x : It) (c : Int) : ∀ m : Nat, (m : Int) < c → sortC (P ++ [(x, c)]) m = sortC P m
  | 0, _ => rfl
  | m + 1, h => by
    rw [sortC, sortC, sortC_low P x c m (by omega), colIts_snoc, if_neg (by omega), List.append_nil]
theorem sortC_put (P : List (It × Int)) (x : It) (c : Nat) (hc : 1 ≤ c) : ∀ m : Nat, c ≤ m → ∃ B, sortC P m = sortC P c ++ B ∧ sortC (P ++ [(x, (c : Int))]) m = sortC P c ++ [x] ++ B ∧ ∀ y ∈ B, ∃ p ∈ P, p.1 = y ∧ (c : Int) < p.2
  | 0, h => absurd h (by omega)
  | m + 1, h => by
    rcases Nat.lt_or_ge c (m + 1) with hl | hg
    · obtain ⟨B, h1, h2, h3⟩ := sortC_put P x c hc m (by omega)
      refine ⟨B ++ colIts P ((m : Int) + 1), ?_, ?_, fun y hy => ?_⟩
      · rw [sortC, h1, List.append_assoc]
      · rw [sortC, h2, colIts_snoc, if_neg (by omega), List.append_nil, List.append_assoc]
      · rcases List.mem_append.1 hy with hy | hy
        · exact h3 y hy
        · unfold colIts at hy
          obtain ⟨p, hp, rfl⟩ := List.mem_map.1 hy
          obtain ⟨hp1, hp2⟩ := List.mem_filter.1 hp
          have := of_decide_eq_true hp2
          exact ⟨p, hp1, rfl, by omega⟩
    · obtain rfl : c = m + 1 := by omega
      refine ⟨[], by rw [List.append_nil], ?_, fun y hy => by cases hy⟩
      rw [sortC, sortC_low P x _ m (by omega), colIts_snoc, if_pos (by omega), List.append_nil, sortC, List.append_assoc]
theorem colOf_ge (pre : List (It × Int)) (x : It) {p : It × Int} (hp : p ∈ pre) (ht : touchB x p.1 = true) : p.2 + 1 ≤ colOf pre x := by
  induction pre using snoc_ind with
  | h0 => cases hp
  | h1 l q ih =>
    rw [colOf_snoc]
    rcases List.mem_append.1 hp with h | h
    · have := ih h
      split <;> omega
    · rw [List.mem_singleton] at h
      subst h
      rw [if_pos ht]
      omega
theorem colP_ok {g : Int} {l : List It} (h : okIts g l = true) : ∀ p ∈ colP l, okIt g p.1 = true := fun p hp => by
  unfold okIts at h
  rw [List.all_eq_true] at h
  have : p.1 ∈ (colP l).map Prod.fst := List.mem_map.2 ⟨p, hp, rfl⟩
  rw [colP_fst] at this
  exact h _ this
theorem sorts_lin {n : Nat} (hn : n ≤ 6) (l : List It) (m : Nat) (hok : okIts n l = true) (hm : ∀ p ∈ colP l, p.2 ≤ m) : ∀ i j, i < n → j < n → LM n (sortC (colP l) m) i j = LM n l i j := by
  induction l using snoc_ind with
  | h0 =>
    intro i j _ _
    have e : ∀ m, sortC (colP []) m = [] := fun m => by
      induction m with
      | zero => rfl
      | succ m ih => rw [sortC, ih]; rfl
    rw [e]
  | h1 l x ih =>
    intro i j hi hj
    unfold okIts at hok
    rw [List.all_append, Bool.and_eq_true, List.all_cons, List.all_nil, Bool.and_true] at hok
    obtain ⟨hokl, hokx⟩ := hok
    rw [colP_snoc] at hm ⊢
    have hb := colOf_bound (colP l) x (B := l.length) (by omega) fun p hp => (colP_bound l p hp).2
    have hc := hm _ (List.mem_append_right _ List.mem_cons_self)
    dsimp only at hc
    obtain ⟨c, hcc⟩ : ∃ c : Nat, colOf (colP l) x = c := ⟨(colOf (colP l) x).toNat, by omega⟩
    obtain ⟨B, h1, h2, h3⟩ := sortC_put (colP l) x c (by omega) m (by omega)
    have hB : ∀ y ∈ B, okIt n y = true ∧ touchB x y = false := fun y hy => by
      obtain ⟨p, hp, rfl, hlt⟩ := h3 y hy
      refine ⟨colP_ok hokl p hp, ?_⟩
      cases ht : touchB x p.1 with
      | false => rfl
      | true =>
        have := colOf_ge (colP l) x hp ht
        omega
    have ih := ih hokl fun p hp => hm p (List.mem_append_left _ hp)
    rw [hcc, h2, List.append_assoc, LM_append _ _ i j hi hj, LM_append l [x] i j hi hj]
    have e1 : ∀ a, a < n → mulC (LM n ([x] ++ B) i a) (LM n (sortC (colP l) c) a j) = mulC (LM n (B ++ [x]) i a) (LM n (sortC (colP l) c) a j) := fun a ha => by rw [LM_past hn hokx B hB i a hi ha]
    rw [sum_congr e1, ← LM_append (sortC (colP l) c) (B ++ [x]) i j hi hj, ← List.append_assoc, ← h1, LM_append _ [x] i j hi hj]
    exact sum_congr fun a ha => by rw [ih a j ha hj]
theorem sortC_length (P : List (It × Int)) (m : Nat) (h : ∀ p ∈ P, 1 ≤ p.2 ∧ p.2 ≤ m) : (sortC P m).length = P.length := by
  induction P using snoc_ind with
  | h0 =>
    have e : ∀ m, sortC [] m = [] := fun m => by
      induction m with
      | zero => rfl
      | succ m ih => rw [sortC, ih]; rfl
    rw [e]
    rfl
  | h1 l p ih =>
    obtain ⟨x, c⟩ := p
    obtain ⟨hc1, hc2⟩ := h _ (List.mem_append_right _ List.mem_cons_self)
    dsimp only at hc1 hc2
    obtain ⟨q, rfl⟩ : ∃ q : Nat, c = q := ⟨c.toNat, by omega⟩
    obtain ⟨B, h1, h2, _⟩ := sortC_put l x q (by omega) m (by omega)
    have ih := ih fun p hp => h p (List.mem_append_left _ hp)
    rw [h1, List.length_append] at ih
    rw [h2, List.length_append, List.length_append, List.length_append, List.length_cons, List.length_nil, List.length_cons, List.length_nil]
    omega
theorem sorts_law {n m : Nat} (hn : n ≤ 6) {l : List It} {A B : List Num} (hok : okIts n l = true) (hm : ∀ p ∈ colP l, 1 ≤ p.2 ∧ p.2 ≤ m) (hA : itsM n l (idN n) = (A, 0)) (hB : itsM n (sortC (colP l) m) (idN n) = (B, 0)) : B = A := by
  have sA := itsM_shape l (idN n) (idN_valid n) (idN_length n) (by rw [hA])
  have sB := itsM_shape (sortC (colP l) m) (idN n) (idN_valid n) (idN_length n) (by rw [hB])
  rw [hA] at sA
  rw [hB] at sB
  refine mat_ext sB.1 sA.1 sB.2 sA.2 fun i k hi hk => ?_
  apply rpow_inj (40 * l.length)
  have h1 := itsM_id (n := n) (its := l) (by rw [hA]) hi hk
  have h2 := itsM_id (n := n) (its := sortC (colP l) m) (by rw [hB]) hi hk
  rw [hA] at h1
  rw [hB, sortC_length _ _ hm, colP_length] at h2
  rw [h1, h2, sorts_lin hn l m hok (fun p hp => (hm p hp).2) i k hi hk]
/-- Exponents: a coupler adds one. -/
def chkK0 (l : List Num) : Bool := l.all fun z => decide (z.k = 0)
def chkE (m : Nat) (lm : List Num) : Bool := (List.range 7).all fun n => (List.range 7).all fun p => !decide (1 ≤ p ∧ p + m ≤ n + 1) || chkK0 (placeN n p m lm)
def chkE1 (m : Nat) (lm : List Num) : Bool := (List.range 7).all fun n => (List.range 7).all fun p => !decide (1 ≤ p ∧ p + m ≤ n + 1) || chkK (placeN n p m lm)
theorem chkE_cross : chkE 2 (ownM 3 0) = true := by decide +kernel
theorem chkE_couple : chkE1 2 (ownM 2 0) = true := by decide +kernel
theorem chkE_phase : ((List.range 8).all fun q => chkE 1 [⟨turnC q ⟨1, 0, 0, 0⟩, 0⟩]) = true := by decide +kernel
theorem chkAll_at {f : Nat → Nat → Bool} {m : Nat} (h : ((List.range 7).all fun n => (List.range 7).all fun p => !decide (1 ≤ p ∧ p + m ≤ n + 1) || f n p) = true) {n p : Nat} (hn : n < 7) (hp : p < 7) (h1 : 1 ≤ p ∧ p + m ≤ n + 1) : f n p = true := by
  rw [List.all_eq_true] at h
  have h2 := h n (List.mem_range.2 hn)
  rw [List.all_eq_true] at h2
  have h3 := h2 p (List.mem_range.2 hp)
  rwa [decide_eq_true h1, Bool.not_true, Bool.false_or] at h3
theorem val_k0 {l : List Num} (h : chkK0 l = true) (q : Nat) : val (l.getD q noneZ) = rpow 40 (l.getD q noneZ).x := by
  have e : (l.getD q noneZ).k = 0 := by
    rw [List.getD_eq_getElem?_getD]
    cases hq : l[q]? with
    | none => rfl
    | some z =>
      unfold chkK0 at h
      rw [List.all_eq_true] at h
      exact of_decide_eq_true (h z (List.mem_of_getElem? hq))
  unfold val
  rw [e]
  rfl
theorem PV_exp {n : Nat} {x : It} (hn : n ≤ 6) (h : okIt n x = true) : ∃ Y : Nat → Nat → C4, ∀ i k, rpow (if x.kind = 2 then 1 else 0) (PV n x i k) = rpow 40 (Y i k) := by
  obtain ⟨_, hk, hp, hq, _, _⟩ := okIt_iff h
  have hw : 1 ≤ ownW x.kind := by unfold ownW; split <;> omega
  have hp7 : x.pos.toNat < 7 := by omega
  have hpw : 1 ≤ x.pos.toNat ∧ x.pos.toNat + ownW x.kind ≤ n + 1 := by omega
  rcases hk with hk | hk | hk
  · have ho : ownW x.kind = 1 := by unfold ownW; rw [if_pos hk]
    have hm : ownM x.kind x.n = [⟨turnC (x.n % 8).toNat ⟨1, 0, 0, 0⟩, 0⟩] := by unfold ownM; rw [if_pos hk]
    rw [ho] at hpw
    have hc := chkE_phase
    rw [List.all_eq_true] at hc
    have h0 := chkAll_at (f := fun n p => chkK0 (placeN n p 1 [⟨turnC (x.n % 8).toNat ⟨1, 0, 0, 0⟩, 0⟩])) (hc _ (List.mem_range.2 (by omega))) (by omega) hp7 hpw
    refine ⟨fun i k => ((placeN n x.pos.toNat 1 [⟨turnC (x.n % 8).toNat ⟨1, 0, 0, 0⟩, 0⟩]).getD (i * n + k) noneZ).x, fun i k => ?_⟩
    rw [if_neg (by omega)]
    unfold PV MV
    rw [ho, hm]
    exact val_k0 h0 _
  · have ho : ownW x.kind = 2 := by unfold ownW; rw [if_neg (by omega)]
    have hm : ownM x.kind x.n = ownM 2 0 := by unfold ownM; rw [if_neg (by omega), if_neg (by omega)]; rfl
    rw [ho] at hpw
    have h0 := chkAll_at (f := fun n p => chkK (placeN n p 2 (ownM 2 0))) chkE_couple (by omega) hp7 hpw
    refine ⟨fun i k => v1 ((placeN n x.pos.toNat 2 (ownM 2 0)).getD (i * n + k) noneZ), fun i k => ?_⟩
    rw [if_pos hk]
    unfold PV MV
    rw [ho, hm, val_v1 (chkK_at h0 _), rpow_rpow]
  · have ho : ownW x.kind = 2 := by unfold ownW; rw [if_neg (by omega)]
    have hm : ownM x.kind x.n = ownM 3 0 := by unfold ownM; rw [if_neg (by omega), if_pos hk]; rfl
    rw [ho] at hpw
    have h0 := chkAll_at (f := fun n p => chkK0 (placeN n p 2 (ownM 3 0))) chkE_cross (by omega) hp7 hpw
    refine ⟨fun i k => ((placeN n x.pos.toNat 2 (ownM 3 0)).getD (i * n + k) noneZ).x, fun i k => ?_⟩
    rw [if_neg (by omega)]
    unfold PV MV
    rw [ho, hm]
    exact val_k0 h0 _
def cup : List It → Nat
  | [] => 0
  | x :: t => cup t + if x.kind = 2 then 1 else 0
theorem LM_exp {n : Nat} (hn : n ≤ 6) : ∀ l : List It, okIts n l = true → ∃ Y : Nat → Nat → C4, ∀ i k, i < n → k < n → rpow (cup l) (LM n l i k) = rpow (40 * l.length) (Y i k)
  | [], _ => ⟨fun i k => LM n [] i k, fun _ _ _ _ => rfl⟩
  | x :: t, h => by
    unfold okIts at h
    rw [List.all_cons, Bool.and_eq_true] at h
    obtain ⟨Y1, h1⟩ := PV_exp hn h.1
    obtain ⟨Y2, h2⟩ := LM_exp hn t h.2
    refine ⟨fun i k => sumC n fun a => mulC (Y2 i a) (Y1 a k), fun i k hi hk => ?_⟩
    show rpow (cup t + if x.kind = 2 then 1 else 0) (sumC n fun a => mulC (LM n t i a) (PV n x a k)) = _
    rw [sum_rpow, sum_rpow]
    refine sum_congr fun a ha => ?_
    rw [← rpow_rpow, ← mul_rpow', ← mul_rpow, h1 a k, h2 i a hi ha, mul_rpow, mul_rpow', rpow_rpow, List.length_cons]
    congr 1
theorem cup_cnt (l : List It) : cntK l 2 = cup l := by
  induction l using snoc_ind with
  | h0 => rfl
  | h1 l x ih =>
    have e : ∀ (a b : List It), cup (a ++ b) = cup a + cup b := fun a b => by
      induction a with
      | nil => simp [cup]
      | cons y t ih => simp only [List.cons_append, cup, ih]; omega
    rw [cntK_snoc, ih, e]
    simp only [cup]
    by_cases h : x.kind = 2
    · rw [if_pos h, if_pos h]; omega
    · rw [if_neg h, if_neg h]; omega
theorem exp_law {n : Nat} (hn : n ≤ 6) {l : List It} {A : List Num} (hok : okIts n l = true) (hA : itsM n l (idN n) = (A, 0)) {q : Nat} {z : Num} (hz : A[q]? = some z) : z.k ≤ cntK l 2 := by
  have sA := itsM_shape l (idN n) (idN_valid n) (idN_length n) (by rw [hA])
  rw [hA] at sA
  have hv := sA.1 q z hz
  obtain ⟨k, hk, hk4⟩ := valid_nat hv
  rw [cup_cnt]
  rcases Nat.lt_or_ge (cup l) k with hlt | hge
  case inr => rw [hk]; omega
  have hq : q < n * n := by have := (List.getElem?_eq_some_iff.1 hz).1; rw [sA.2] at this; exact this
  obtain ⟨h1, h2, h3⟩ := grid_spread hq
  obtain ⟨Y, hY⟩ := LM_exp hn l hok
  have h4 := itsM_id (n := n) (its := l) (by rw [hA]) h1 h2
  rw [hA] at h4
  have h5 := hY _ _ h1 h2
  have h6 : MV A n (q / n) (q % n) = rpow (40 - k) z.x := by
    unfold MV
    rw [← h3, List.getD_eq_getElem?_getD, hz]
    unfold val
    rw [Option.getD_some, hk]
    rfl
  have h7 : rpow (40 * l.length + cup l + (40 - k)) z.x = rpow (40 + 40 * l.length) (Y (q / n) (q % n)) := by
    rw [← rpow_rpow, ← h6, Nat.add_comm (40 * l.length), ← rpow_rpow, h4, rpow_rpow, Nat.add_comm (cup l), ← rpow_rpow, h5, rpow_rpow]
  have h8 : z.x = rpow (k - cup l) (Y (q / n) (q % n)) := by
    apply rpow_inj (40 * l.length + cup l + (40 - k))
    rw [h7, rpow_rpow]
    congr 1
    omega
  obtain ⟨d, hd⟩ : ∃ d, k - cup l = d + 1 := ⟨k - cup l - 1, by omega⟩
  have h9 : evenB z.x = true := by
    have e : ∀ (d : Nat) (y : C4), rpow (d + 1) y = root (rpow d y) := fun d => by
      induction d with
      | zero => intro y; rfl
      | succ d ih => intro y; exact ih (root y)
    rw [h8, hd, e]
    exact even_root _
  unfold validB at hv
  rw [h9] at hv
  simp only [Bool.not_true, Bool.or_false, Bool.and_eq_true, decide_eq_true_eq] at hv
  omega
end Go.Proofs.Ytkglnnkghillpaa
