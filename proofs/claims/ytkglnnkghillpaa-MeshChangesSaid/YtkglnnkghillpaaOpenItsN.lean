/- Layer 3: a list of items that came in: where its address is none it is nil. No condition. -/
import Derived.Test.YtkglnnkghillpaaOpenIts
namespace Go.Proofs.Ytkglnnkghillpaa
open Go Go.ChangeShapes Go.WideShapes Go.ChangeAt Go.RowKit Go.Deep Go.Joins Msh

section
variable {H : Type} {enc : TypeId × Value → H} {w : World}
theorem open_itsN {a0 : Option Addr} {len cap : Nat} {d : DataW H} {p : List MemPlace} (h : DataW.Trod enc Try.prog w 0 (fun _ => true) true 22 (.slice a0 len cap) d p) :
    a0 = none → len = 0 ∧ cap = 0 := by
  intro h0
  obtain ⟨fuel, hf⟩ := h
  rcases open_slice Try.underlying22 hf with ⟨hcs, _⟩ | ⟨a, len', cap', m, n, D, Pl, hcs, _, hl, hm, hmm, _, hx⟩
  · simp [Value.cells] at hcs
    exact hcs.2
  simp [Value.cells] at hcs
  obtain ⟨rfl, rfl, rfl⟩ := hcs
  cases h0
end
end Go.Proofs.Ytkglnnkghillpaa
