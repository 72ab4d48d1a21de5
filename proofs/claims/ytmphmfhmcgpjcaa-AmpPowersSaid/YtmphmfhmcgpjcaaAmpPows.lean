/- Layer 1, plainly: powers are real and above 0 but for 0, their Flip is not negative, and the power of a product is the product of the powers. No condition. -/
import Derived.Test.YtmphmfhmcgpjcaaAmpRanks
namespace Go.Proofs.Ytmphmfhmcgpjcaa
open Go Amp

def pw (x : C4) : C4 := mulC x (conjC x)
def nm0 (x : C4) : Int := x.a * x.a + x.b * x.b + x.c * x.c + x.d * x.d
def nm1 (x : C4) : Int := x.a * x.b + x.b * x.c + x.c * x.d - x.d * x.a
theorem pw_eq (x : C4) : pw x = ⟨nm0 x, nm1 x, 0, -nm1 x⟩ := by
  unfold pw mulC conjC nm0 nm1
  simp only [C4.mk.injEq]
  refine ⟨?_, ?_, ?_, ?_⟩ <;> grind
theorem real_pw (x : C4) : realB (pw x) = true := by
  rw [pw_eq]
  exact real_iff.2 ⟨rfl, rfl⟩
theorem nm_norm (x : C4) : nm0 x * nm0 x - 2 * (nm1 x * nm1 x) = (x.a * x.a - x.c * x.c + 2 * (x.b * x.d)) * (x.a * x.a - x.c * x.c + 2 * (x.b * x.d)) + (x.d * x.d - x.b * x.b + 2 * (x.a * x.c)) * (x.d * x.d - x.b * x.b + 2 * (x.a * x.c)) := by
  unfold nm0 nm1
  grind
theorem nm0_pos {x : C4} (h : x ≠ zero) : 0 < nm0 x := by
  have ha := sq_nonneg x.a
  have hb := sq_nonneg x.b
  have hc := sq_nonneg x.c
  have hd := sq_nonneg x.d
  unfold nm0
  by_cases h1 : x.a = 0
  · by_cases h2 : x.b = 0
    · by_cases h3 : x.c = 0
      · by_cases h4 : x.d = 0
        · exact absurd (C4.ext' h1 h2 h3 h4) h
        · have := sq_pos h4; omega
      · have := sq_pos h3; omega
    · have := sq_pos h2; omega
  · have := sq_pos h1; omega
theorem nm_pos {x : C4} (h : x ≠ zero) : PosA (nm0 x) (nm1 x) := by
  refine ⟨nm0_pos h, ?_⟩
  have h1 := nm_norm x
  have h2 := sq_nonneg (x.a * x.a - x.c * x.c + 2 * (x.b * x.d))
  have h3 := sq_nonneg (x.d * x.d - x.b * x.b + 2 * (x.a * x.c))
  have h4 := nm0_pos h
  have h5 : nm0 x * nm0 x ≠ 2 * (nm1 x * nm1 x) := by
    intro he
    have := (irr he).1
    omega
  omega
theorem sg_pw (x : C4) : sg (pw x) = if x = zero then 0 else 1 := by
  by_cases h : x = zero
  · subst h; decide
  · rw [if_neg h, pw_eq]
    exact sgn_pos (.inl (nm_pos h))
theorem flip_pw (x : C4) : flipC (pw x) = ⟨nm0 x, -nm1 x, 0, nm1 x⟩ := by
  rw [pw_eq]
  simp [flipC]
theorem sg_flip_pw (x : C4) : sg (flipC (pw x)) = if x = zero then 0 else 1 := by
  by_cases h : x = zero
  · subst h; decide
  · rw [if_neg h, flip_pw]
    obtain ⟨h1, h2⟩ := nm_pos h
    exact sgn_pos (.inl ⟨h1, by show 2 * (-nm1 x * -nm1 x) < _; rw [neg_sq]; exact h2⟩)
theorem real_flip_pw (x : C4) : realB (flipC (pw x)) = true := by
  rw [flip_pw]
  exact real_iff.2 ⟨rfl, by simp⟩
theorem pw_mul (x y : C4) : pw (mulC x y) = mulC (pw x) (pw y) := by
  unfold pw
  rw [conj_mul]
  unfold mulC conjC
  simp only [C4.mk.injEq]
  refine ⟨?_, ?_, ?_, ?_⟩ <;> grind
theorem same_pw {x y : C4} {k j : Nat} (h : Same x k y j) : Same (pw x) (k + k) (pw y) (j + j) := h.mul h.conj

theorem powerN_cases (x : C4) (k : Int) : (∃ e, e ≠ 0 ∧ powerN x k = fail e) ∨ (∃ n i : Nat, ∃ s, k = n ∧ validB x k = true ∧ powerN x k = ⟨s, i, 0⟩ ∧ validB s i = true ∧ Same (Go.Proofs.Ytmphmfhmcgpjcaa.pw x) (n + n) s i) := by
  unfold powerN
  by_cases h : validB x k = true
  · obtain ⟨n, rfl, _⟩ := valid_nat h
    rw [if_pos h]
    generalize hr : made (mulC x (conjC x)) ((n : Int) + n) = r
    by_cases he : r.e = 0
    · have hr' : made (mulC x (conjC x)) ((n + n : Nat) : Int) = r := by rw [← hr]; rfl
      obtain ⟨m, h1, h2, h3⟩ := made_val hr' he
      refine .inr ⟨n, m, r.x, rfl, h, ?_, h3, h2⟩
      obtain ⟨rx, rk, re⟩ := r
      simp only at h1 he
      subst h1
      subst he
      rfl
    · refine .inl ⟨r.e, he, ?_⟩
      rcases made_cases (mulC x (conjC x)) ((n : Int) + n) with ⟨y, j, h1, _⟩ | h1
      · rw [hr] at h1; rw [h1] at he; exact absurd rfl he
      · rw [hr] at h1; rw [h1]; rfl
  · exact .inl ⟨10, by decide, if_neg h⟩
/-- A power's sign, and that of its Flip. -/
theorem pow_signs {x s : C4} {n i : Nat} (hs : validB s i = true) (h : Same (Go.Proofs.Ytmphmfhmcgpjcaa.pw x) (n + n) s i) :
    (cmpE s i zero 0 = 0 ∧ cmpV s i zero 0 = if x = zero then 0 else 1) ∧ (cmpE (flipK s i) i zero 0 = 0 ∧ cmpV (flipK s i) i zero 0 = if x = zero then 0 else 1) := by
  have hr := Same_real h (real_pw x)
  have hf := h.flip
  rw [flipK_nat, show sgnC (n + n) (flipC (Go.Proofs.Ytmphmfhmcgpjcaa.pw x)) = flipC (Go.Proofs.Ytmphmfhmcgpjcaa.pw x) from if_neg (by omega)] at hf
  have hr2 := Same_real hf (real_flip_pw x)
  have hv : validB (flipK s i) i = true := by rw [valid_flipK]; exact hs
  obtain ⟨h1, h2⟩ := cmpE_good hs valid_zero hr real_zero
  obtain ⟨h3, h4⟩ := cmpE_good hv valid_zero hr2 real_zero
  rw [add_zero' (by omega)] at h2 h4
  refine ⟨⟨h1, h2.trans ?_⟩, h3, h4.trans ?_⟩
  · exact (Same_sg h (real_pw x)).symm.trans (sg_pw x)
  · exact (Same_sg hf (real_flip_pw x)).symm.trans (sg_flip_pw x)
/-- The power of a product is the product of the powers. -/
theorem pow_mul {x y p r z l t : C4} {n m i j k a b : Nat} (hp : Same (Go.Proofs.Ytmphmfhmcgpjcaa.pw x) (n + n) p i) (hr : Same (Go.Proofs.Ytmphmfhmcgpjcaa.pw y) (m + m) r j) (hz : Same (mulC x y) (n + m) z k) (hl : Same (Go.Proofs.Ytmphmfhmcgpjcaa.pw z) (k + k) l a) (ht : Same (mulC p r) (i + j) t b)
    (vl : validB l a = true) (vt : validB t b = true) : l = t ∧ a = b := by
  apply form_uniq vl vt
  have h1 := same_pw hz
  rw [pw_mul] at h1
  have h2 := hp.mul hr
  rw [show n + n + (m + m) = n + m + (n + m) by omega] at h2
  exact hl.symm.trans (h1.symm.trans (h2.trans ht))
end Go.Proofs.Ytmphmfhmcgpjcaa
