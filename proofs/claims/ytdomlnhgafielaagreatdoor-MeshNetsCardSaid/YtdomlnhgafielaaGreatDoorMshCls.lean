/- Layer 3: netlists in memory. No condition. -/
import Derived.Test.YtdomlnhgafielaaGreatDoorMshC
import Derived.Test.YtdomlnhgafielaaGreatDoorMshNet
import Derived.Test.YtdomlnhgafielaaGreatDoorMshX
import Derived.Test.YtdomlnhgafielaaGreatDoorMshMap
namespace Go.Proofs.YtdomlnhgafielaaGreatDoor
open Go Go.RowKit Msh

/-- The cells of a netlist lie one behind the other, their items somewhere. -/
def ClsAt (w : World) (b off : Nat) (L : List Cl) : Prop := ∀ i c, L[i]? = some c → (w.cell? ⟨b, off + i * 3, none⟩ = some (.string c.name) ∧ w.cell? ⟨b, off + i * 3 + 1, none⟩ = some (.int .i64 c.gd) ∧ ∃ (a : Option Addr) (k : Nat), w.cell? ⟨b, off + i * 3 + 2, none⟩ = some (.slice a c.items.length k) ∧ Its w a c.items)
/-- Texts and lists are not too long. -/
def CsOk (L : List Cl) : Prop := ∀ c ∈ L, c.name.size ≤ maxLen ∧ c.items.length ≤ 9223372036854775807 ∧ ∀ x ∈ c.items, x.name.size ≤ maxLen
/-- A netlist, nil or in memory. -/
def Net (w : World) (a0 : Option Addr) (L : List Cl) : Prop := L = [] ∨ ∃ b off : Nat, a0 = some ⟨b, off, none⟩ ∧ b < w.heap.size ∧ ClsAt w b off L
theorem Net.grew {w w' : World} {a0 : Option Addr} {L : List Cl} (h : Net w a0 L) (hg : Grew w w') : Net w' a0 L := by
  rcases h with h | ⟨b, off, h, hb, hc⟩
  · exact .inl h
  · refine .inr ⟨b, off, h, Nat.lt_of_lt_of_le hb hg.size, fun i c hi => ?_⟩
    obtain ⟨c0, c1, a, k, c2, c3⟩ := hc i c hi
    exact ⟨(hg.cell hb _).trans c0, (hg.cell hb _).trans c1, a, k, (hg.cell hb _).trans c2, c3.grew hg⟩
theorem Net.cells {w : World} {a0 : Option Addr} {L : List Cl} {i : Nat} {c : Cl} (h : Net w a0 L) (hz : L[i]? = some c) :
    ∃ b off : Nat, a0 = some ⟨b, off, none⟩ ∧ b < w.heap.size ∧ w.cell? ⟨b, off + i * 3, none⟩ = some (.string c.name) ∧ w.cell? ⟨b, off + i * 3 + 1, none⟩ = some (.int .i64 c.gd) ∧ ∃ (a : Option Addr) (k : Nat), w.cell? ⟨b, off + i * 3 + 2, none⟩ = some (.slice a c.items.length k) ∧ Its w a c.items := by
  rcases h with rfl | ⟨b, off, h, hb, hc⟩
  · simp at hz
  · exact ⟨b, off, h, hb, hc i c hz⟩
theorem Net.take {w : World} {a0 : Option Addr} {L : List Cl} (h : Net w a0 L) (j : Nat) : Net w a0 (L.take j) := by
  rcases h with rfl | ⟨b, off, e, hb, hc⟩
  · exact .inl (by simp)
  · refine .inr ⟨b, off, e, hb, fun i z hz => hc i z ?_⟩
    rw [List.getElem?_take] at hz
    split at hz
    · exact hz
    · cases hz
theorem CsOk.take {L : List Cl} (h : CsOk L) (j : Nat) : CsOk (L.take j) := fun c hc => h c (List.mem_of_mem_take hc)
theorem CsOk.at {L : List Cl} (h : CsOk L) {i : Nat} {c : Cl} (hc : L[i]? = some c) : c.name.size ≤ maxLen ∧ c.items.length ≤ 9223372036854775807 ∧ ∀ x ∈ c.items, x.name.size ≤ maxLen := h c (List.mem_of_getElem? hc)
end Go.Proofs.YtdomlnhgafielaaGreatDoor
