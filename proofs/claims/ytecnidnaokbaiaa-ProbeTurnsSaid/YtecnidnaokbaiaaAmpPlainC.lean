/- Layer 1, plainly: what the functions return. No condition. -/
import Derived.Test.YtecnidnaokbaiaaAmpPlainB
namespace Amp
def mulN (x : C4) (k : Int) (y : C4) (j : Int) : Res := if validB x k = true ∧ validB y j = true then made (mulC x y) (k + j) else fail 10
def powerN (x : C4) (k : Int) : Res := if validB x k = true then made (mulC x (conjC x)) (k + k) else fail 10
/-- The error of a function of one number. -/
def errV (x : C4) (k : Int) : Int := if validB x k = true then 0 else 10
end Amp
