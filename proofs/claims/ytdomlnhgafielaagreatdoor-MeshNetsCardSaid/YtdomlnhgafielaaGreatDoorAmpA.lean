/- The reference's small functions of layer 1: small, even, timesRoot. Conditions: bounds that keep sums within a word. -/
import Derived.Test.YtdomlnhgafielaaGreatDoorRows
import Derived.Test.YtdomlnhgafielaaGreatDoorHouse
import Derived.Test.YtdomlnhgafielaaGreatDoorRegion
import Derived.Test.YtdomlnhgafielaaGreatDoorAmpPlain


namespace Go.Proofs.YtdomlnhgafielaaGreatDoor
open Go Go.RowKit Amp

@[go_sem] theorem idxA_0 (x0 x1 x2 x3 : Value) (w : World) : (Instr.index 51 (.agg #[x0, x1, x2, x3]) (.int .i64 0)).run Tryz.prog w = .ok x0 w := by kernel_rfl
@[go_sem] theorem idxA_1 (x0 x1 x2 x3 : Value) (w : World) : (Instr.index 51 (.agg #[x0, x1, x2, x3]) (.int .i64 1)).run Tryz.prog w = .ok x1 w := by kernel_rfl
@[go_sem] theorem idxA_2 (x0 x1 x2 x3 : Value) (w : World) : (Instr.index 51 (.agg #[x0, x1, x2, x3]) (.int .i64 2)).run Tryz.prog w = .ok x2 w := by kernel_rfl
@[go_sem] theorem idxA_3 (x0 x1 x2 x3 : Value) (w : World) : (Instr.index 51 (.agg #[x0, x1, x2, x3]) (.int .i64 3)).run Tryz.prog w = .ok x3 w := by kernel_rfl

theorem ret_bool {a b : Bool} (h : a = b) : Ending.returned (.bool a) = .returned (.bool b) := by rw [h]
theorem ret_int {k : IntKind} {a b : Int} (h : a = b) : Ending.returned (.int k a) = .returned (.int k b) := by rw [h]

end Go.Proofs.YtdomlnhgafielaaGreatDoor

/- The reference's reduced, Valid, made and Make. Conditions: bounds that keep sums within a word. -/

namespace Go.Proofs.YtdomlnhgafielaaGreatDoor
open Go Go.RowKit Amp

end Go.Proofs.YtdomlnhgafielaaGreatDoor
