/- The reference's product. Condition: elements in range. -/
import Derived.Test.YtecnidnaokbaiaaAmpG
namespace Go.Proofs.Ytecnidnaokbaiaa
open Go Go.RowKit Amp

end Go.Proofs.Ytecnidnaokbaiaa
