/- The model's own bits.Add64, and bits.Mul64 by the shelf's contract. Condition: the carry is 0 or 1. -/
import Derived.Test.YtecnidnaokbaiaaRows
import Derived.Test.YtecnidnaokbaiaaShelf
import Derived.Test.YtecnidnaokbaiaaHouse
import Derived.Test.YtecnidnaokbaiaaHouseB
import Derived.Shelf.Spec.BitsCarry
namespace Go.Proofs.Ytecnidnaokbaiaa
open Go Go.RowKit

theorem add64 (x y c : Nat) (hc : c ≤ 1) (w : World) :
    (callFunc 41 #[.int .u64 x, .int .u64 y, .int .u64 c]).run Try.prog w =
      .ok (.value (.tuple #[.int .u64 (((x + y + c) % 18446744073709551616 : Nat) : Int), .int .u64 (((x + y + c) / 18446744073709551616 : Nat) : Int)])) w := by
  rw [run_callFunc_extern Try.func41 (by kernel_rfl) (by kernel_rfl) (by kernel_rfl) (e := add64Entry) (by kernel_rfl), run_add64 x y c (by omega) (by omega) (by omega) (by omega)]
  simp only [Result.andThen]
  congr 5 <;> omega

end Go.Proofs.Ytecnidnaokbaiaa
