/- House lemmas, continued: what lay there lies on. No condition; no program in sight. -/
import Derived.Test.YtecnidnaokbaiaaHouseC
namespace Go
open Go.RowKit
theorem Grew.cell {a w : World} (h : Grew a w) {b : Nat} (hb : b < a.heap.size) (i : Nat) : w.cell? ⟨b, i, none⟩ = a.cell? ⟨b, i, none⟩ :=
  World.cell?_of_block (w := a) (h.block b hb)
end Go
