/- Equality of fringes, as the walk meets it. No condition. -/
import Derived.Test.YtecnidnaokbaiaaPrbE
import Derived.Test.YtecnidnaokbaiaaAmpG
namespace Go.Proofs.Ytecnidnaokbaiaa
open Go Go.RowKit Prb

theorem run_eql_fr (a b c d e f : Int) (w : World) : (binOp .eql 24 (.agg #[.int .i64 a, .int .i64 b, .int .i64 c]) (.agg #[.int .i64 d, .int .i64 e, .int .i64 f])).run Try.prog w = .ok (.bool (a == d && b == e && c == f)) w := by
  rw [run_eql_struct]
  simp [go_sem]
  by_cases h1 : a = d
  · by_cases h2 : b = e
    · by_cases h3 : c = f <;> simp [h1, h2, h3]
    · simp [h1, h2]
  · simp [h1]
theorem run_neq_fr (a b c d e f : Int) (w : World) : (binOp .neq 24 (.agg #[.int .i64 a, .int .i64 b, .int .i64 c]) (.agg #[.int .i64 d, .int .i64 e, .int .i64 f])).run Try.prog w = .ok (.bool (!(a == d && b == e && c == f))) w := by
  rw [run_neq_struct]
  simp [go_sem]
  by_cases h1 : a = d
  · by_cases h2 : b = e
    · by_cases h3 : c = f <;> simp [h1, h2, h3]
    · simp [h1, h2]
  · simp [h1]
attribute [go_sem high] run_eql_fr run_neq_fr
theorem list3 {α : Type} {l : List α} (h : l.length = 3) : ∃ a b c, l = [a, b, c] := by
  match l, h with
  | [a, b, c], _ => exact ⟨a, b, c, rfl⟩
end Go.Proofs.Ytecnidnaokbaiaa
