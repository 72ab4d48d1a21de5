/- The reference's reduced, Valid, made and Make. Conditions: bounds that keep sums within a word. -/
import Derived.Test.YtecnidnaokbaiaaAmpA
namespace Go.Proofs.Ytecnidnaokbaiaa
open Go Go.RowKit Amp

end Go.Proofs.Ytecnidnaokbaiaa
