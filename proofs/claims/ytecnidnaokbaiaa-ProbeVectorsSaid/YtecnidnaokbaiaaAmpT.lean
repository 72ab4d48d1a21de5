/- The reference's signs. Condition: within a word. -/
import Derived.Test.YtecnidnaokbaiaaAmpS
import Derived.Test.YtecnidnaokbaiaaAmpG
namespace Go.Proofs.Ytecnidnaokbaiaa
open Go Go.RowKit Amp

end Go.Proofs.Ytecnidnaokbaiaa
