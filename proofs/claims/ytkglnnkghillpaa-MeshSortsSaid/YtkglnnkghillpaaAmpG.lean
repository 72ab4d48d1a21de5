/- Conjugates and products of the program and of the reference. Conditions: elements in range. -/
import Derived.Test.YtkglnnkghillpaaAmpF
import Derived.Test.YtkglnnkghillpaaAmpPlain
import Derived.Test.YtkglnnkghillpaaRowAid
namespace Go.Proofs.Ytkglnnkghillpaa
open Go Go.RowKit Amp

@[go_sem] theorem eq5_self (x : C4) (k : Int) : eq5 x k x k = true := eq5_iff.2 ⟨rfl, rfl⟩
@[go_sem] theorem eq4_self (x : C4) : eq4 x x = true := eq4_iff.2 rfl

def realB (x : C4) : Bool := eq4 x (conjC x)
set_option maxHeartbeats 4000000 in
theorem amul_any (x y : C4) (k j : Int) (w : World) (hx : smallB x = true) (hy : smallB y = true) (hk : 0 ≤ k ∧ k ≤ 40) (hj : 0 ≤ j ∧ j ≤ 40) :
    Calls Try.prog 128 #[.agg #[.int .i64 x.a, .int .i64 x.b, .int .i64 x.c, .int .i64 x.d, .int .i64 k], .agg #[.int .i64 y.a, .int .i64 y.b, .int .i64 y.c, .int .i64 y.d, .int .i64 j]] w fun e w' => e = .returned (.agg #[.int .i64 (mulC x y).a, .int .i64 (mulC x y).b, .int .i64 (mulC x y).c, .int .i64 (mulC x y).d, .int .i64 (k + j)]) ∧ Grew w w' := by
  obtain ⟨⟨_, _⟩, ⟨_, _⟩, ⟨_, _⟩, ⟨_, _⟩, ⟨_, _⟩, ⟨_, _⟩, ⟨_, _⟩, ⟨_, _⟩, ⟨_, _⟩, ⟨_, _⟩, ⟨_, _⟩, ⟨_, _⟩, ⟨_, _⟩, ⟨_, _⟩, ⟨_, _⟩, ⟨_, _⟩⟩ := prods hx hy
  obtain ⟨_, _⟩ := hk
  obtain ⟨_, _⟩ := hj
  clear hx hy
  go_enter Try.func128, Try.ntmps128
  go_wp2_with fail
  refine wp_loop_rounds 5 ?_
  iterate 4
    simp only [rounds_succ]
    go_wp2_with fail
    refine wp_loop_rounds 5 ?_
    iterate 5 (simp only [rounds_succ]; go_wp2_with fail)
  simp only [rounds_succ]
  go_wp2_with fail
  exact bodyPost_ret (v := .agg #[.int .i64 (x.a * y.a - x.b * y.d - x.c * y.c - x.d * y.b), .int .i64 (x.a * y.b + x.b * y.a - x.c * y.d - x.d * y.c), .int .i64 (x.a * y.c + x.b * y.b + x.c * y.a - x.d * y.d), .int .i64 (x.a * y.d + x.b * y.c + x.c * y.b + x.d * y.a), .int .i64 (k + j)]) (by simp [results, Try.results128, go_sem]) rfl ⟨rfl, (by repeat (first | exact Grew.refl _ | refine Grew.drewN ?_ _ | refine Grew.grow ?_ _ | refine Grew.alloc ?_ _ | refine Grew.drew ?_))⟩

end Go.Proofs.Ytkglnnkghillpaa
