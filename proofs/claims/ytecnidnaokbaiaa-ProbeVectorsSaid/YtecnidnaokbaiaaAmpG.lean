/- Conjugates and products of the program and of the reference. Conditions: elements in range. -/
import Derived.Test.YtecnidnaokbaiaaAmpF
import Derived.Test.YtecnidnaokbaiaaAmpPlain
import Derived.Test.YtecnidnaokbaiaaRowAid
namespace Go.Proofs.Ytecnidnaokbaiaa
open Go Go.RowKit Amp

@[go_sem] theorem eq5_self (x : C4) (k : Int) : eq5 x k x k = true := eq5_iff.2 ⟨rfl, rfl⟩
@[go_sem] theorem eq4_self (x : C4) : eq4 x x = true := eq4_iff.2 rfl

set_option maxHeartbeats 800000 in
theorem aconj_any (x : C4) (k : Int) (w : World) (h : smallB x = true) :
    Calls Try.prog 30 #[.agg #[.int .i64 x.a, .int .i64 x.b, .int .i64 x.c, .int .i64 x.d, .int .i64 k]] w fun e w' => e = .returned (.agg #[.int .i64 (conjC x).a, .int .i64 (conjC x).b, .int .i64 (conjC x).c, .int .i64 (conjC x).d, .int .i64 k]) ∧ Grew w w' := by
  obtain ⟨⟨_, _⟩, ⟨_, _⟩, ⟨_, _⟩, ⟨_, _⟩⟩ := smallB_iff.1 h
  clear h
  go_enter Try.func30, Try.ntmps30
  go_wp2_with fail
  exact bodyPost_ret (v := .agg #[.int .i64 x.a, .int .i64 (-x.d), .int .i64 (-x.c), .int .i64 (-x.b), .int .i64 k]) (by simp [results, Try.results30, go_sem]) rfl ⟨rfl, (by repeat (first | exact Grew.refl _ | refine Grew.drewN ?_ _ | refine Grew.grow ?_ _ | refine Grew.alloc ?_ _ | refine Grew.drew ?_))⟩

def realB (x : C4) : Bool := eq4 x (conjC x)
end Go.Proofs.Ytecnidnaokbaiaa
