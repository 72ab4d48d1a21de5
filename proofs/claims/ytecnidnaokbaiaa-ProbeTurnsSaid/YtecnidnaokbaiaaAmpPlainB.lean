/- Layer 1, plainly: products, conjugates. No condition. -/
import Derived.Test.YtecnidnaokbaiaaAmpPlain
namespace Amp
def mulC (x y : C4) : C4 := ⟨x.a * y.a - x.b * y.d - x.c * y.c - x.d * y.b, x.a * y.b + x.b * y.a - x.c * y.d - x.d * y.c, x.a * y.c + x.b * y.b + x.c * y.a - x.d * y.d, x.a * y.d + x.b * y.c + x.c * y.b + x.d * y.a⟩
def conjC (x : C4) : C4 := ⟨x.a, -x.d, -x.c, -x.b⟩

theorem prod_bd {x y : Int} (h1 : -1000000000 ≤ x ∧ x ≤ 1000000000) (h2 : -1000000000 ≤ y ∧ y ≤ 1000000000) : -1000000000000000000 ≤ x * y ∧ x * y ≤ 1000000000000000000 := by
  have h3 : (x * y).natAbs ≤ 1000000000 * 1000000000 := by
    rw [Int.natAbs_mul]
    exact Nat.mul_le_mul (by omega) (by omega)
  omega
/-- Sixteen products of small elements are small. -/
structure Prods (x y : C4) : Prop where
  aa : -1000000000000000000 ≤ x.a * y.a ∧ x.a * y.a ≤ 1000000000000000000
  ab : -1000000000000000000 ≤ x.a * y.b ∧ x.a * y.b ≤ 1000000000000000000
  ac : -1000000000000000000 ≤ x.a * y.c ∧ x.a * y.c ≤ 1000000000000000000
  ad : -1000000000000000000 ≤ x.a * y.d ∧ x.a * y.d ≤ 1000000000000000000
  ba : -1000000000000000000 ≤ x.b * y.a ∧ x.b * y.a ≤ 1000000000000000000
  bb : -1000000000000000000 ≤ x.b * y.b ∧ x.b * y.b ≤ 1000000000000000000
  bc : -1000000000000000000 ≤ x.b * y.c ∧ x.b * y.c ≤ 1000000000000000000
  bd : -1000000000000000000 ≤ x.b * y.d ∧ x.b * y.d ≤ 1000000000000000000
  ca : -1000000000000000000 ≤ x.c * y.a ∧ x.c * y.a ≤ 1000000000000000000
  cb : -1000000000000000000 ≤ x.c * y.b ∧ x.c * y.b ≤ 1000000000000000000
  cc : -1000000000000000000 ≤ x.c * y.c ∧ x.c * y.c ≤ 1000000000000000000
  cd : -1000000000000000000 ≤ x.c * y.d ∧ x.c * y.d ≤ 1000000000000000000
  da : -1000000000000000000 ≤ x.d * y.a ∧ x.d * y.a ≤ 1000000000000000000
  db : -1000000000000000000 ≤ x.d * y.b ∧ x.d * y.b ≤ 1000000000000000000
  dc : -1000000000000000000 ≤ x.d * y.c ∧ x.d * y.c ≤ 1000000000000000000
  dd : -1000000000000000000 ≤ x.d * y.d ∧ x.d * y.d ≤ 1000000000000000000
theorem prods {x y : C4} (hx : smallB x = true) (hy : smallB y = true) : Prods x y := by
  obtain ⟨ha, hb, hc, hd⟩ := smallB_iff.1 hx
  obtain ⟨ka, kb, kc, kd⟩ := smallB_iff.1 hy
  exact ⟨prod_bd ha ka, prod_bd ha kb, prod_bd ha kc, prod_bd ha kd, prod_bd hb ka, prod_bd hb kb, prod_bd hb kc, prod_bd hb kd, prod_bd hc ka, prod_bd hc kb, prod_bd hc kc, prod_bd hc kd, prod_bd hd ka, prod_bd hd kb, prod_bd hd kc, prod_bd hd kd⟩
theorem in4_mul {x y : C4} (hx : smallB x = true) (hy : smallB y = true) : In4 (mulC x y) := by
  obtain ⟨⟨_, _⟩, ⟨_, _⟩, ⟨_, _⟩, ⟨_, _⟩, ⟨_, _⟩, ⟨_, _⟩, ⟨_, _⟩, ⟨_, _⟩, ⟨_, _⟩, ⟨_, _⟩, ⟨_, _⟩, ⟨_, _⟩, ⟨_, _⟩, ⟨_, _⟩, ⟨_, _⟩, ⟨_, _⟩⟩ := prods hx hy
  refine ⟨⟨?_, ?_⟩, ⟨?_, ?_⟩, ⟨?_, ?_⟩, ⟨?_, ?_⟩⟩ <;> simp only [mulC] <;> omega
theorem small_conj {x : C4} (hx : smallB x = true) : smallB (conjC x) = true := by
  obtain ⟨⟨_, _⟩, ⟨_, _⟩, ⟨_, _⟩, ⟨_, _⟩⟩ := smallB_iff.1 hx
  refine smallB_iff.2 ⟨⟨?_, ?_⟩, ⟨?_, ?_⟩, ⟨?_, ?_⟩, ⟨?_, ?_⟩⟩ <;> simp only [conjC] <;> omega
end Amp
