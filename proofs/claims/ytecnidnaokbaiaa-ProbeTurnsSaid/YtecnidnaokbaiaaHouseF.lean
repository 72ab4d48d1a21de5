/- House lemmas, continued: sums of block counts are written with their brackets on the left. No condition; no program in sight. -/
import Derived.Test.YtecnidnaokbaiaaHouseE
namespace Go
theorem add_len_append (n : Nat) (g h : List Obj) : n + (g ++ h).length = n + g.length + h.length := by rw [List.length_append, Nat.add_assoc]
attribute [go_sem ↓] add_len_append
@[go_sem ↓] theorem add_add_len (n : Nat) (g h : List Obj) : n + (g.length + h.length) = n + g.length + h.length := (Nat.add_assoc _ _ _).symm
end Go
