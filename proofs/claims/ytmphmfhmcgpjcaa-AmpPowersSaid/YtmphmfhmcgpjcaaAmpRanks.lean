/- Layer 1, plainly: real numbers are ordered by the sign of their difference; powers are not negative. No condition. -/
import Derived.Test.YtmphmfhmcgpjcaaAmpV
namespace Go.Proofs.Ytmphmfhmcgpjcaa
open Go Amp

theorem real_iff {x : C4} : realB x = true ↔ x.c = 0 ∧ x.d = -x.b := by
  unfold realB
  rw [eq4_iff]
  constructor
  · intro h
    have h1 := congrArg C4.c h
    have h2 := congrArg C4.d h
    simp only [conjC] at h1 h2
    omega
  · rintro ⟨h1, h2⟩
    obtain ⟨a, b, c, d⟩ := x
    simp only at h1 h2
    subst h1
    subst h2
    simp [conjC]
def sg (x : C4) : Int := sgn x.a x.b
theorem real_root {x : C4} (h : realB x = true) : realB (root x) = true := by
  obtain ⟨h1, h2⟩ := real_iff.1 h
  apply real_iff.2
  simp only [root]; omega
theorem sg_root {x : C4} (h : realB x = true) : sg (root x) = sg x := by
  obtain ⟨h1, h2⟩ := real_iff.1 h
  unfold sg root
  simp only
  rw [h1, h2, show x.b - -x.b = 2 * x.b by omega, Int.add_zero]
  exact sgn_root _ _
theorem real_rpow : ∀ (n : Nat) {x : C4}, realB x = true → realB (rpow n x) = true
  | 0, _, h => h
  | n + 1, _, h => real_rpow n (real_root h)
theorem sg_rpow : ∀ (n : Nat) {x : C4}, realB x = true → sg (rpow n x) = sg x
  | 0, _, _ => rfl
  | n + 1, x, h => by
    show sg (rpow n (root x)) = sg x
    rw [sg_rpow n (real_root h), sg_root h]
theorem real_neg {x : C4} (h : realB x = true) : realB (negC x) = true := by
  obtain ⟨h1, h2⟩ := real_iff.1 h
  apply real_iff.2
  simp only [negC]; omega
theorem real_addC {x y : C4} (h : realB x = true) (k : realB y = true) : realB (addC x y) = true := by
  obtain ⟨h1, h2⟩ := real_iff.1 h
  obtain ⟨k1, k2⟩ := real_iff.1 k
  apply real_iff.2
  simp only [addC]; omega
/-- What is the same is real alike. -/
theorem conj_eq_rpow (n : Nat) {x : C4} (h : realB (rpow n x) = true) : realB x = true := by
  have h1 : rpow n x = conjC (rpow n x) := eq4_iff.1 h
  rw [conj_rpow] at h1
  exact eq4_iff.2 (rpow_inj n h1)
theorem Same_real {x y : C4} {k j : Nat} (h : Same x k y j) (hx : realB x = true) : realB y = true := by
  obtain ⟨m, n, _, h2⟩ := h
  apply conj_eq_rpow n
  rw [← h2]
  exact real_rpow m hx
theorem Same_sg {x y : C4} {k j : Nat} (h : Same x k y j) (hx : realB x = true) : sg x = sg y := by
  have hy := Same_real h hx
  obtain ⟨m, n, _, h2⟩ := h
  rw [← sg_rpow m hx, h2, sg_rpow n hy]

/-- The difference of two numbers over a common exponent. -/
def dif (N : Nat) (x : C4) (k : Nat) (y : C4) (j : Nat) : C4 := addC (rpow (N - k) x) (negC (rpow (N - j) y))
theorem real_dif {N k j : Nat} {x y : C4} (hx : realB x = true) (hy : realB y = true) : realB (dif N x k y j) = true :=
  real_addC (real_rpow _ hx) (real_neg (real_rpow _ hy))
theorem real_addK {x y : C4} {k j : Nat} (hx : realB x = true) (hy : realB y = true) : realB (addK x k y j) = true := by
  rw [addK_nat]
  exact real_addC (real_rpow _ hx) (real_rpow _ hy)
theorem sg_addK {x y : C4} {k j N : Nat} (hx : realB x = true) (hy : realB y = true) (hk : k ≤ N) (hj : j ≤ N) : sg (addK x k (negC y) j) = sg (dif N x k y j) := by
  have h := same_addK x (negC y) k j N hk hj
  rw [rpow_neg] at h
  exact Same_sg h (real_addK hx (real_neg hy))
theorem cmpV_eq {x y : C4} {k j N : Nat} (h1 : validB x k = true) (h2 : validB y j = true) (hx : realB x = true) (hy : realB y = true) (hk : k ≤ N) (hj : j ≤ N) : cmpV x k y j = sg (dif N x k y j) :=
  (cmpE_good h1 h2 hx hy).2.trans (sg_addK hx hy hk hj)
theorem cmpE_ok {x y : C4} {k j : Int} (h : cmpE x k y j = 0) : validB x k = true ∧ validB y j = true ∧ realB x = true ∧ realB y = true := by
  unfold cmpE at h
  split at h
  · rename_i hv
    split at h
    · rename_i hr
      exact ⟨hv.1, hv.2, hr.1, hr.2⟩
    · omega
  · omega
theorem sg_neg (x : C4) : sg (negC x) = -sg x := sgn_opp _ _
theorem dif_swap (N : Nat) (x y : C4) (k j : Nat) : dif N y j x k = negC (dif N x k y j) := by
  unfold dif addC negC
  simp only [C4.mk.injEq]
  omega
theorem dif_add (N : Nat) (x y z : C4) (k j i : Nat) : dif N x k z i = addC (dif N x k y j) (dif N y j z i) := by
  unfold dif addC negC
  simp only [C4.mk.injEq]
  omega
theorem sg_add_eq {x y : C4} (h : sg x = sg y) : sg (addC x y) = sg x := sgn_add h
theorem sg_add_zero {x y : C4} (h : sg x = 0) : sg (addC x y) = sg y := sgn_add_zero h
theorem addC_zero_iff {x y : C4} : addC x (negC y) = zero ↔ x = y := by
  constructor
  · intro h
    have h1 := congrArg C4.a h
    have h2 := congrArg C4.b h
    have h3 := congrArg C4.c h
    have h4 := congrArg C4.d h
    simp only [addC, negC, zero] at h1 h2 h3 h4
    exact C4.ext' (by omega) (by omega) (by omega) (by omega)
  · rintro rfl
    simp only [addC, negC, zero, C4.mk.injEq]
    omega
theorem sg_zero_iff {x : C4} (h : realB x = true) : sg x = 0 ↔ x = zero := by
  obtain ⟨h1, h2⟩ := real_iff.1 h
  unfold sg
  rw [sgn_eq_zero]
  constructor
  · rintro ⟨h3, h4⟩
    exact C4.ext' h3 h4 h1 (by rw [h2, h4]; rfl)
  · rintro rfl; exact ⟨rfl, rfl⟩

/-- Comparison answers the order of the numbers: the other way round, and none but the same. -/
theorem cmp_swap {x y : C4} {k j : Int} (h : cmpE x k y j = 0) : cmpE y j x k = 0 ∧ cmpV y j x k = -cmpV x k y j := by
  obtain ⟨h1, h2, h3, h4⟩ := cmpE_ok h
  refine ⟨(cmpE_good h2 h1 h4 h3).1, ?_⟩
  obtain ⟨n, rfl, _⟩ := valid_nat h1
  obtain ⟨m, rfl, _⟩ := valid_nat h2
  rw [cmpV_eq (N := max n m) h1 h2 h3 h4 (by omega) (by omega), cmpV_eq (N := max n m) h2 h1 h4 h3 (by omega) (by omega), dif_swap, sg_neg]
theorem cmp_zero {x y : C4} {k j : Int} (h : cmpE x k y j = 0) : (cmpV x k y j == 0) = eq5 x k y j := by
  obtain ⟨h1, h2, h3, h4⟩ := cmpE_ok h
  obtain ⟨n, rfl, _⟩ := valid_nat h1
  obtain ⟨m, rfl, _⟩ := valid_nat h2
  rw [Bool.eq_iff_iff, beq_iff_eq, eq5_iff, cmpV_eq (N := max n m) h1 h2 h3 h4 (by omega) (by omega), sg_zero_iff (real_dif h3 h4)]
  unfold dif
  rw [addC_zero_iff]
  constructor
  · intro he
    have hs : Same x n y m := ⟨max n m - n, max n m - m, by omega, he⟩
    obtain ⟨h5, h6⟩ := form_uniq h1 h2 hs
    exact ⟨h5, by rw [h6]⟩
  · rintro ⟨rfl, h6⟩
    rw [Int.ofNat.inj h6]
theorem cmp_trans {x y z : C4} {k j i : Int} (h : cmpE x k y j = 0) (h' : cmpE y j z i = 0) :
    (cmpV x k y j = cmpV y j z i → cmpV x k z i = cmpV x k y j) ∧ (cmpV x k y j = 0 → cmpV x k z i = cmpV y j z i) ∧ (cmpV y j z i = 0 → cmpV x k z i = cmpV x k y j) := by
  obtain ⟨h1, h2, h3, h4⟩ := cmpE_ok h
  obtain ⟨_, k2, _, k4⟩ := cmpE_ok h'
  obtain ⟨n, rfl, _⟩ := valid_nat h1
  obtain ⟨m, rfl, _⟩ := valid_nat h2
  obtain ⟨p, rfl, _⟩ := valid_nat k2
  rw [cmpV_eq (N := max (max n m) p) h1 h2 h3 h4 (by omega) (by omega), cmpV_eq (N := max (max n m) p) h2 k2 h4 k4 (by omega) (by omega), cmpV_eq (N := max (max n m) p) h1 k2 h3 k4 (by omega) (by omega), dif_add _ x y z n m p]
  refine ⟨fun e => sg_add_eq e, fun e => sg_add_zero e, fun e => ?_⟩
  rw [addC_comm]
  exact sg_add_zero e
/-- A number added to both changes nothing. -/
theorem cmp_add {x y z p q : C4} {k j i a b : Nat} (h : cmpE x k y j = 0) (hz : realB z = true) (hp : validB p a = true) (hq : validB q b = true) (sp : Same (addK x k z i) (max k i) p a) (sq : Same (addK y j z i) (max j i) q b) :
    cmpE p a q b = 0 ∧ cmpV p a q b = cmpV x k y j := by
  obtain ⟨h1, h2, h3, h4⟩ := cmpE_ok h
  have rp := Same_real sp (real_addK h3 hz)
  have rq := Same_real sq (real_addK h4 hz)
  refine ⟨(cmpE_good hp hq rp rq).1, ?_⟩
  rw [(cmpE_good hp hq rp rq).2]
  show sg (addK p a (negC q) b) = _
  have hs := (sp.symm.addK sq.symm.neg)
  rw [Same_sg hs (real_addK rp (real_neg rq)), sg_addK (real_addK h3 hz) (real_addK h4 hz) (N := max (max k i) (max j i)) (by omega) (by omega), cmpV_eq (N := max (max k i) (max j i)) h1 h2 h3 h4 (by omega) (by omega)]
  congr 1
  unfold dif
  rw [addK_nat, addK_nat, rpow_add, rpow_add, rpow_rpow, rpow_rpow, rpow_rpow, rpow_rpow]
  rw [show max (max k i) (max j i) - max k i + (max k i - k) = max (max k i) (max j i) - k by omega, show max (max k i) (max j i) - max k i + (max k i - i) = max (max k i) (max j i) - i by omega, show max (max k i) (max j i) - max j i + (max j i - j) = max (max k i) (max j i) - j by omega, show max (max k i) (max j i) - max j i + (max j i - i) = max (max k i) (max j i) - i by omega]
  unfold addC negC
  simp only [C4.mk.injEq]
  omega
end Go.Proofs.Ytmphmfhmcgpjcaa
