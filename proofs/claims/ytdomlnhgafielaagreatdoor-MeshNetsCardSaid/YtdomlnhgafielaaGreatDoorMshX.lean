/- Layer 3: a list of items that came in, as the walks want it. No condition. -/
import Derived.Test.YtdomlnhgafielaaGreatDoorOpenIts
import Derived.Test.YtdomlnhgafielaaGreatDoorMshO
namespace Go.Proofs.YtdomlnhgafielaaGreatDoor
open Go Go.RowKit Amp Msh

theorem its_of {w : World} {a0 : Option Addr} {len : Nat} (h : len = 0 ∨ ∃ (b off : Nat) (l : List It), a0 = some ⟨b, off, none⟩ ∧ len = l.length ∧ l.length ≤ 9223372036854775807 ∧ b < w.heap.size ∧ ItsAt w b off l) : ∃ l : List It, len = l.length ∧ l.length ≤ 9223372036854775807 ∧ Its w a0 l := by
  rcases h with rfl | ⟨b, off, l, h1, h2, h3, h4, h5⟩
  · exact ⟨[], rfl, by decide, .inl rfl⟩
  · exact ⟨l, h2, h3, .inr ⟨b, off, h1, h4, h5⟩⟩

theorem Nms.undrew {w : World} {n : Nat} {a0 : Option Addr} {l : List Num} (h : Nms (w.drewN n) a0 l) : Nms w a0 l := h

end Go.Proofs.YtdomlnhgafielaaGreatDoor
