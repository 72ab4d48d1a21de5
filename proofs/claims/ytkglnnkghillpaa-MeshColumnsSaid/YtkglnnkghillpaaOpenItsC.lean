/- Layer 3: a list of items that came in: its length is within its capacity. No condition. -/
import Derived.Test.YtkglnnkghillpaaOpenIts
namespace Go.Proofs.Ytkglnnkghillpaa
open Go Go.ChangeShapes Go.WideShapes Go.ChangeAt Go.RowKit Go.Deep Go.Joins Msh

section
variable {H : Type} {enc : TypeId × Value → H} {w : World}
theorem open_itsC {a0 : Option Addr} {len cap : Nat} {d : DataW H} {p : List MemPlace} (h : DataW.Trod enc Try.prog w 0 (fun _ => true) true 22 (.slice a0 len cap) d p) :
    len ≤ cap := by
  obtain ⟨fuel, hf⟩ := h
  rcases open_slice Try.underlying22 hf with ⟨hcs, _⟩ | ⟨a, len', cap', m, n, D, Pl, hcs, _, hl, _, _, _, _⟩
  · simp [Value.cells] at hcs
    omega
  simp [Value.cells] at hcs
  obtain ⟨_, rfl, rfl⟩ := hcs
  exact hl
end
end Go.Proofs.Ytkglnnkghillpaa
