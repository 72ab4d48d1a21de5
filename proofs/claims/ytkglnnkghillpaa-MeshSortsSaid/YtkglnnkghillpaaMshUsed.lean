/- Layer 3, plainly: the guides that the items of a column use. No condition. -/
import Derived.Test.YtkglnnkghillpaaMshSort
import Derived.RowKit
namespace Go.Proofs.Ytkglnnkghillpaa
open Go Amp Msh
def usedB (P : List (It × Int)) (q g : Int) : Bool := P.any fun p => decide (p.2 = q) && onB p.1 g
def usedL (P : List (It × Int)) (q : Int) : List Value := (List.range 8).map fun g : Nat => .bool (usedB P q g)
theorem usedB_snoc (P : List (It × Int)) (x : It) (c q g : Int) : usedB (P ++ [(x, c)]) q g = (usedB P q g || (decide (c = q) && onB x g)) := by
  simp [usedB, List.any_append]
theorem usedL_length (P : List (It × Int)) (q : Int) : (usedL P q).length = 8 := by simp [usedL]
theorem usedL_at (P : List (It × Int)) (q : Int) {g : Nat} (hg : g < 8) : (usedL P q)[g]? = some (.bool (usedB P q g)) := by
  simp [usedL, List.getElem?_range hg]
theorem usedL_nil (q : Int) : usedL [] q = [.bool false, .bool false, .bool false, .bool false, .bool false, .bool false, .bool false, .bool false] := rfl
theorem usedL_other (P : List (It × Int)) (x : It) {c q : Int} (h : c ≠ q) : usedL (P ++ [(x, c)]) q = usedL P q := by
  unfold usedL
  apply List.map_congr_left
  intro g _
  rw [usedB_snoc, decide_eq_false h]
  simp
theorem usedL_step {g : Int} (P : List (It × Int)) {x : It} (q : Int) (h : okIt g x = true) (hg : g ≤ 6) {p : Nat} (hp : x.pos = p) :
    usedL (P ++ [(x, q)]) q = ((usedL P q).set p (.bool true)).set (p + 1) (.bool (usedB P q ((p : Int) + 1) || decide (x.kind ≠ 1))) := by
  have hon := on_iff h
  obtain ⟨h1, h6⟩ := ok_pos h hg
  apply List.ext_getElem
  · simp [usedL_length]
  · intro i h1 h2
    rw [usedL_length] at h1
    have e1 : (usedL (P ++ [(x, q)]) q)[i]'(by rw [usedL_length]; exact h1) = .bool (usedB (P ++ [(x, q)]) q i) := by simp [usedL]
    have e2 : ∀ hh, (usedL P q)[i]'hh = .bool (usedB P q i) := fun hh => by simp [usedL]
    rw [e1, usedB_snoc, decide_eq_true rfl, Bool.true_and]
    simp only [List.getElem_set, e2]
    by_cases hi2 : p + 1 = i
    · rw [if_pos hi2]
      subst hi2
      have : onB x (((p + 1 : Nat) : Int)) = decide (x.kind ≠ 1) := by
        by_cases hk : x.kind = 1
        · rw [decide_eq_false (by simpa using hk)]
          cases ho : onB x (((p + 1 : Nat) : Int)) with
          | false => rfl
          | true => rcases (hon _).1 ho with e | e; omega; exact absurd hk e.1
        · rw [decide_eq_true hk]
          exact (hon _).2 (.inr ⟨hk, by omega⟩)
      rw [this, show (((p + 1 : Nat) : Int)) = (p : Int) + 1 by omega]
    · rw [if_neg hi2]
      by_cases hi : p = i
      · rw [if_pos hi]
        subst hi
        rw [(hon _).2 (.inl hp.symm), Bool.or_true]
      · rw [if_neg hi]
        have : onB x (i : Int) = false := by
          cases ho : onB x (i : Int) with
          | false => rfl
          | true => rcases (hon _).1 ho with e | e <;> omega
        rw [this, Bool.or_false]
theorem colP_take (l : List It) : ∀ i, i ≤ l.length → (colP l).take i = colP (l.take i) := by
  induction l using snoc_ind with
  | h0 => intro i hi; simp at hi; subst hi; rfl
  | h1 l x ih =>
    intro i hi
    rw [List.length_append] at hi
    rw [colP_snoc]
    rcases Nat.lt_or_ge l.length i with h | h
    · have e : i = l.length + 1 := by simp at hi; omega
      rw [List.take_of_length_le (by rw [List.length_append, colP_length, e]; simp), List.take_of_length_le (by rw [List.length_append, e]; simp), colP_snoc]
    · rw [List.take_append_of_le_length (by rw [colP_length]; exact h), List.take_append_of_le_length h, ih i h]
theorem col_at {l : List It} {i : Nat} {x : It} {c : Int} (hx : l[i]? = some x) (hc : (colL l)[i]? = some c) : c = colOf ((colP l).take i) x ∧ (colP l).take (i + 1) = (colP l).take i ++ [(x, c)] := by
  have h1 := colP_at hx hc
  have h2 := take_snoc h1
  have hi : i < l.length := (List.getElem?_eq_some_iff.1 hx).1
  refine ⟨?_, h2⟩
  rw [colP_take l (i + 1) (by omega), take_snoc hx, colP_snoc, colP_take l i (by omega)] at h2
  have h3 := List.append_cancel_left h2
  injection h3 with h4
  injection h4 with _ h5
  rw [colP_take l i (by omega)]
  exact h5.symm
theorem used_free {g : Int} {l : List It} {i : Nat} {x : It} {q : Int} (hok : okIts g l = true) (hg : g ≤ 6) (hx : l[i]? = some x) (hc : (colL l)[i]? = some q) {s : Int} (hs : onB x s = true) : usedB ((colP l).take i) q s = false := by
  have hokx := okIts_at hx hok
  obtain ⟨h1, _⟩ := col_at hx hc
  unfold usedB
  rw [List.any_eq_false]
  intro p hp
  rw [Bool.and_eq_true, decide_eq_true_eq]
  rintro ⟨h2, h3⟩
  obtain ⟨_, hkd, hp1, hp2, _, _⟩ := okIt_iff hokx
  have hq1 := (on_iff hokx _).1 hs
  have hw : (x.kind = 1 ∧ ownW x.kind = 1) ∨ (x.kind ≠ 1 ∧ ownW x.kind = 2) := by unfold ownW; by_cases hk : x.kind = 1; exact .inl ⟨hk, if_pos hk⟩; exact .inr ⟨hk, if_neg hk⟩
  have ht : touchB x p.1 = true := by
    unfold touchB
    rw [List.any_eq_true]
    refine ⟨s, ?_, by rw [hs, h3]; rfl⟩
    simp only [List.mem_cons, List.not_mem_nil, or_false]
    omega
  have := colOf_ge _ x hp ht
  omega
theorem cntK_sum {g : Int} {l : List It} (h : okIts g l = true) : cntK l 1 + cntK l 2 + cntK l 3 = l.length := by
  induction l using snoc_ind with
  | h0 => rfl
  | h1 l x ih =>
    unfold okIts at h
    rw [List.all_append, Bool.and_eq_true, List.all_cons, List.all_nil, Bool.and_true] at h
    have h1 := ih h.1
    have hk := (okIt_iff h.2).2.1
    rw [cntK_snoc, cntK_snoc, cntK_snoc, List.length_append]
    simp only [List.length_cons, List.length_nil]
    rcases hk with hk | hk | hk <;> simp only [hk] <;> simp <;> omega
theorem cntM_ge (l : List Int) : ∀ c ∈ l, c ≤ cntM l := by
  induction l using snoc_ind with
  | h0 => intro c hc; cases hc
  | h1 l x ih =>
    intro c hc
    rw [cntM_snoc]
    rcases List.mem_append.1 hc with h | h
    · have := ih c h; omega
    · rw [List.mem_singleton] at h; omega
theorem cntM_col (l : List It) : (0 ≤ cntM (colL l) ∧ cntM (colL l) ≤ l.length) ∧ ∀ p ∈ colP l, 1 ≤ p.2 ∧ p.2 ≤ (cntM (colL l)).toNat := by
  have h1 := cntM_bound (colL l) (B := l.length) (by omega) fun c hc => by
    unfold colL at hc
    obtain ⟨p, hp, rfl⟩ := List.mem_map.1 hc
    exact (colP_bound l p hp).2
  refine ⟨h1, fun p hp => ⟨(colP_bound l p hp).1, ?_⟩⟩
  have := cntM_ge (colL l) p.2 (List.mem_map.2 ⟨p, hp, rfl⟩)
  omega
/-- One more item of the inner loop. -/
theorem sort_step {l : List It} {i : Nat} {x : It} {c q : Int} (hx : l[i]? = some x) (hc : (colL l)[i]? = some c) : colIts ((colP l).take (i + 1)) q = colIts ((colP l).take i) q ++ if c = q then [x] else [] := by
  rw [(col_at hx hc).2, colIts_snoc]
theorem sort_all {l : List It} (q : Nat) : sortC (colP l) q ++ colIts ((colP l).take l.length) ((q : Int) + 1) = sortC (colP l) (q + 1) := by
  rw [List.take_of_length_le (by rw [colP_length]; exact Nat.le_refl _)]
  rfl
theorem colIts_length (P : List (It × Int)) (q : Int) : (colIts P q).length ≤ P.length := by
  unfold colIts
  rw [List.length_map]
  exact List.length_filter_le _ _
theorem sortC_len (l : List It) (q i : Nat) (hq : (q : Int) < cntM (colL l)) : (sortC (colP l) q ++ colIts ((colP l).take i) ((q : Int) + 1)).length ≤ 2 * l.length := by
  have h1 := (cntM_col l).2
  have h2 := sortC_length (colP l) (cntM (colL l)).toNat h1
  have h3 : ∀ m k : Nat, (sortC (colP l) m).length ≤ (sortC (colP l) (m + k)).length := fun m k => by
    induction k with
    | zero => exact Nat.le_refl _
    | succ k ih => rw [← Nat.add_assoc, sortC, List.length_append]; omega
  have h4 := h3 q ((cntM (colL l)).toNat - q)
  rw [show q + ((cntM (colL l)).toNat - q) = (cntM (colL l)).toNat by omega, h2, colP_length] at h4
  have h5 := colIts_length ((colP l).take i) ((q : Int) + 1)
  rw [List.length_take, colP_length] at h5
  rw [List.length_append]
  omega
end Go.Proofs.Ytkglnnkghillpaa
