import Derived.Test.YtchdmecjhaanfaaGreatDoorRows
import Derived.Test.YtchdmecjhaanfaaGreatDoorShelf
import Derived.Test.YtchdmecjhaanfaaGreatDoorHouse
import Derived.Test.YtchdmecjhaanfaaGreatDoorHouse
import Derived.Shelf.Spec.BitsCarry
namespace Go.Proofs.YtchdmecjhaanfaaGreatDoor
open Go Go.RowKit
theorem add64 (x y c:Nat) (hc:c≤1) (w:World) :
  (callFunc 131 #[.int .u64 x,.int .u64 y,.int .u64 c]).run Tryz.prog w =
    .ok (.value (.tuple #[.int .u64 (((x+y+c) % 18446744073709551616:Nat):Int),.int .u64 (((x+y+c) / 18446744073709551616:Nat):Int)])) w:=by
 rw [run_callFunc_extern Tryz.func131 (by kernel_rfl) (by kernel_rfl) (by kernel_rfl) (e:=add64Entry) (by kernel_rfl),run_add64 x y c (by omega) (by omega) (by omega) (by omega)];simp only [Result.andThen]
 congr 5 <;> omega
end Go.Proofs.YtchdmecjhaanfaaGreatDoor
