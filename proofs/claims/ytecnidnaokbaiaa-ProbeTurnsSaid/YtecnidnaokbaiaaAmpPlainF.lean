/- Layer 1, plainly: the sum of a list. No condition. -/
import Derived.Test.YtecnidnaokbaiaaAmpPlainE
namespace Amp
def sumL : C4 → Int → List Num → Res
  | s, k, [] => ⟨s, k, 0⟩
  | s, k, z :: l => if (made (addK s k z.x z.k) (max k z.k)).e = 0 then sumL (made (addK s k z.x z.k) (max k z.k)).x (made (addK s k z.x z.k) (max k z.k)).k l else fail (made (addK s k z.x z.k) (max k z.k)).e
def sumN (l : List Num) : Res := if 1000 < l.length then fail 2 else if (l.all fun z => validB z.x z.k) = true then sumL zero 0 l else fail 10
theorem made_cases (x : C4) (k : Int) : (∃ y j, made x k = ⟨y, j, 0⟩ ∧ validB y j = true) ∨ made x k = fail 4 := by
  unfold made
  split
  · rename_i h; exact .inl ⟨_, _, rfl, h⟩
  · exact .inr rfl
theorem sumL_step {s : C4} {k : Int} {l : List Num} {i : Nat} {z : Num} (h : l[i]? = some z) {y : C4} {j : Int} (hm : made (addK s k z.x z.k) (max k z.k) = ⟨y, j, 0⟩) : sumL s k (l.drop i) = sumL y j (l.drop (i + 1)) := by
  obtain ⟨hi, rfl⟩ := List.getElem?_eq_some_iff.1 h
  rw [List.drop_eq_getElem_cons hi]
  simp [sumL, hm]
theorem sumL_fail {s : C4} {k : Int} {l : List Num} {i : Nat} {z : Num} (h : l[i]? = some z) (hm : made (addK s k z.x z.k) (max k z.k) = fail 4) : sumL s k (l.drop i) = fail 4 := by
  obtain ⟨hi, rfl⟩ := List.getElem?_eq_some_iff.1 h
  rw [List.drop_eq_getElem_cons hi]
  simp [sumL, hm, fail]
theorem sumL_end {s : C4} {k : Int} {l : List Num} : sumL s k (l.drop l.length) = ⟨s, k, 0⟩ := by
  rw [List.drop_length]; rfl
theorem valid_of {l : List Num} (h : (l.all fun z => validB z.x z.k) = true) {i : Nat} {z : Num} (hz : l[i]? = some z) : validB z.x z.k = true :=
  List.all_eq_true.1 h z (List.mem_of_getElem? hz)
theorem valid_zero : validB zero 0 = true := by decide
end Amp
