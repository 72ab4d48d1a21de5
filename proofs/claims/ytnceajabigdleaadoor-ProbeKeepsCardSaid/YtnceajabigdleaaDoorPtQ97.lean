/- A range over a function whose iterator keeps what is left in a block of its own: with a variable of its own for each round, and within a round of another. No condition; no program in sight. -/
import Derived.Test.YtnceajabigdleaaDoorPtQ6
namespace Go.Proofs.Qm
open Go Go.RowKit
attribute [local go_sem] Oper.semAt_some
section
variable {α:Type} {P:Program}
end
open Go Go.Pt Go.RowKit Prb
attribute [local go_sem] Oper.semAt_some
end Go.Proofs.Qm
