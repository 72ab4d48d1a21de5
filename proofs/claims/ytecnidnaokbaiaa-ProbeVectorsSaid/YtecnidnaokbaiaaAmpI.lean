/- Mul, Power and Real of the program and of the reference. No condition. -/
import Derived.Test.YtecnidnaokbaiaaAmpH
import Derived.Test.YtecnidnaokbaiaaAmpPlain
import Derived.Test.YtecnidnaokbaiaaHouseB
namespace Go.Proofs.Ytecnidnaokbaiaa
open Go Go.RowKit Amp

@[go_sem] theorem eq5_k (x y : C4) (k : Int) : eq5 x k y k = eq4 x y := by simp [eq5]

end Go.Proofs.Ytecnidnaokbaiaa
