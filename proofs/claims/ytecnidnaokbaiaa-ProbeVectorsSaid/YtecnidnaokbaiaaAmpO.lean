/- The reference's combined: a sum or a difference in no form. Conditions: elements in range. -/
import Derived.Test.YtecnidnaokbaiaaAmpN
import Derived.Test.YtecnidnaokbaiaaRegionB
namespace Go.Proofs.Ytecnidnaokbaiaa
open Go Go.RowKit Amp

end Go.Proofs.Ytecnidnaokbaiaa
