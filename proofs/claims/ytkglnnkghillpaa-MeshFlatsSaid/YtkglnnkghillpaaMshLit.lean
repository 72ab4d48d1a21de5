/- Layer 3, plainly: what becomes of light. No condition. -/
import Derived.Test.YtkglnnkghillpaaMshT
namespace Go.Proofs.Ytkglnnkghillpaa
open Go Amp Msh
def allVld (l : List Num) : Bool := l.all fun z => validB z.x z.k
theorem allVld_step {l : List Num} {i : Nat} {z : Num} (h : l[i]? = some z) (hz : validB z.x z.k = true) (hp : allVld (l.take i) = true) : allVld (l.take (i + 1)) = true := by
  unfold allVld at *
  rw [List.take_add_one, h, List.all_append, hp]
  simp [hz]
theorem allVld_cut {l : List Num} {i : Nat} {z : Num} (h : l[i]? = some z) (hz : validB z.x z.k = false) : allVld l = false := by
  unfold allVld
  rw [List.all_eq_false]
  exact ⟨z, List.mem_of_getElem? h, by simp [hz]⟩
theorem allVld_iff {l : List Num} (h : allVld l = true) : VldL l := VldL.of fun z hz => by
  unfold allVld at h
  rw [List.all_eq_true] at h
  exact h z hz
/-- A matrix times numbers. -/
def appR (n : Nat) (la lv : List Num) : List Res := (List.range n).map fun i => rowN (prowV la lv n i)
def appM (n : Nat) (la lv : List Num) : List Num × Int := seqR (appR n la lv)
theorem appR_length (n : Nat) (la lv : List Num) : (appR n la lv).length = n := by simp [appR]
theorem appR_at {n i : Nat} (la lv : List Num) (hi : i < n) : (appR n la lv)[i]? = some (rowN (prowV la lv n i)) := by simp [appR, List.getElem?_range hi]
theorem appM_valid (n : Nat) (la lv : List Num) : VldL (appM n la lv).1 := VldL.of fun z hz => by
  by_cases h : (appM n la lv).2 = 0
  · have h1 := seqR_ok _ (seqR_zero _ h)
    unfold appM at hz
    rw [h1] at hz
    obtain ⟨r, hr, rfl⟩ := List.mem_map.1 hz
    have h2 := seqR_zero _ h r hr
    unfold appR at hr
    obtain ⟨q, _, rfl⟩ := List.mem_map.1 hr
    exact rowA_valid _ _ _ (by decide) h2
  · rw [show (appM n la lv).1 = [] from seqR_err h] at hz
    cases hz
theorem appM_length {n : Nat} {la lv : List Num} (h : (appM n la lv).2 = 0) : (appM n la lv).1.length = n := by
  have h1 := seqR_ok _ (seqR_zero _ h)
  unfold appM
  rw [h1, List.length_map, appR_length]
/-- What light becomes behind items. -/
def litN (n : Nat) : List It → List Num → List Num × Int
  | [], v => (v, 0)
  | x :: t, v => if (appM n (placeN n x.pos.toNat (ownW x.kind) (ownM x.kind x.n)) v).2 = 0 then litN n t (appM n (placeN n x.pos.toNat (ownW x.kind) (ownM x.kind x.n)) v).1 else ([], (appM n (placeN n x.pos.toNat (ownW x.kind) (ownM x.kind x.n)) v).2)
def isVec (v : List Num) : Bool := allVld v && decide (1 ≤ v.length ∧ v.length ≤ 6)
/-- What light becomes, or the error. -/
def litOf (g : Int) (its : List It) (v : List Num) : List Num × Int :=
  if chkIts g its = 0 then (if isVec v = true then (if (v.length : Int) = g then litN g.toNat its v else ([], 21)) else ([], 20)) else ([], chkIts g its)
theorem litN_step {n : Nat} {L : List It} {i : Nat} {x : It} {v : List Num} {r : List Num × Int} (h : L[i]? = some x) (hr : appM n (placeN n x.pos.toNat (ownW x.kind) (ownM x.kind x.n)) v = r) (he : r.2 = 0) : litN n (L.drop i) v = litN n (L.drop (i + 1)) r.1 := by
  obtain ⟨hi, rfl⟩ := List.getElem?_eq_some_iff.1 h
  rw [List.drop_eq_getElem_cons hi]
  simp only [litN]
  rw [hr, if_pos he]
theorem litN_stop {n : Nat} {L : List It} {i : Nat} {x : It} {v : List Num} {r : List Num × Int} (h : L[i]? = some x) (hr : appM n (placeN n x.pos.toNat (ownW x.kind) (ownM x.kind x.n)) v = r) (he : ¬ r.2 = 0) : litN n (L.drop i) v = ([], r.2) := by
  obtain ⟨hi, rfl⟩ := List.getElem?_eq_some_iff.1 h
  rw [List.drop_eq_getElem_cons hi]
  simp only [litN]
  rw [hr, if_neg he]
theorem itsM_nil {n : Nat} : ∀ {its : List It} {l : List Num}, (itsM n its l).2 ≠ 0 → (itsM n its l).1 = []
  | [], l, h => absurd rfl h
  | x :: t, l, h => by
    simp only [itsM] at *
    by_cases h1 : (stepM n x l).2 = 0
    · rw [if_pos h1] at *; exact itsM_nil h
    · rw [if_neg h1]
theorem litN_len {n : Nat} : ∀ (its : List It) (v : List Num), (litN n its v).1.length ≤ max n v.length
  | [], v => by simp only [litN]; omega
  | x :: t, v => by
    simp only [litN]
    by_cases h : (appM n (placeN n x.pos.toNat (ownW x.kind) (ownM x.kind x.n)) v).2 = 0
    · rw [if_pos h]
      have h1 := litN_len (n := n) t (appM n (placeN n x.pos.toNat (ownW x.kind) (ownM x.kind x.n)) v).1
      rw [appM_length h] at h1
      omega
    · rw [if_neg h]; exact Nat.zero_le _
theorem litOf_len (g : Int) (its : List It) (v : List Num) (_h : v.length ≤ 20) : (litOf g its v).1.length ≤ 9223372036854775807 := by
  unfold litOf
  split
  · rename_i hk
    have hg := chkIts_zero hk
    split
    · split
      · have := litN_len (n := g.toNat) its v
        omega
      · exact Nat.zero_le _
    · exact Nat.zero_le _
  · exact Nat.zero_le _
end Go.Proofs.Ytkglnnkghillpaa
