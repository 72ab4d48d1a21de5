/- Sign and Cmp of the reference. No condition. -/
import Derived.Test.YtecnidnaokbaiaaAmpU
namespace Go.Proofs.Ytecnidnaokbaiaa
open Go Go.RowKit Amp

theorem rpow_zero : ∀ (n : Nat), rpow n zero = zero
  | 0 => rfl
  | n + 1 => rpow_zero n
theorem add_zero' {x : C4} {k : Int} (h : 0 ≤ k) : addK x k (negC zero) 0 = x := by
  rw [addK_ge (by omega), rpow_neg, rpow_zero]
  simp [negC, zero]
theorem real_zero : realB zero = true := by decide
theorem cmpE_bad1 {x y : C4} {k j : Int} (h : ¬ validB x k = true) : cmpE x k y j = 10 ∧ cmpV x k y j = 0 := ⟨if_neg fun g => h g.1, if_neg fun g => h g.1⟩
theorem cmpE_bad2 {x y : C4} {k j : Int} (h : ¬ validB y j = true) : cmpE x k y j = 10 ∧ cmpV x k y j = 0 := ⟨if_neg fun g => h g.2, if_neg fun g => h g.2⟩
theorem cmpE_bad3 {x y : C4} {k j : Int} (h1 : validB x k = true) (h2 : validB y j = true) (h : ¬ realB x = true) : cmpE x k y j = 11 ∧ cmpV x k y j = 0 :=
  ⟨(if_pos ⟨h1, h2⟩).trans (if_neg fun g => h g.1), (if_pos ⟨h1, h2⟩).trans (if_neg fun g => h g.1)⟩
theorem cmpE_bad4 {x y : C4} {k j : Int} (h1 : validB x k = true) (h2 : validB y j = true) (h : ¬ realB y = true) : cmpE x k y j = 11 ∧ cmpV x k y j = 0 :=
  ⟨(if_pos ⟨h1, h2⟩).trans (if_neg fun g => h g.2), (if_pos ⟨h1, h2⟩).trans (if_neg fun g => h g.2)⟩
theorem cmpE_good {x y : C4} {k j : Int} (h1 : validB x k = true) (h2 : validB y j = true) (h3 : realB x = true) (h4 : realB y = true) : cmpE x k y j = 0 ∧ cmpV x k y j = sgn (addK x k (negC y) j).a (addK x k (negC y) j).b :=
  ⟨(if_pos ⟨h1, h2⟩).trans (if_pos ⟨h3, h4⟩), (if_pos ⟨h1, h2⟩).trans (if_pos ⟨h3, h4⟩)⟩

end Go.Proofs.Ytecnidnaokbaiaa
