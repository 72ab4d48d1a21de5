/- Layer 3: a list of items that came in: what lies in memory. No condition. -/
import Derived.Test.YtdomlnhgafielaaGreatDoorMshA
import Derived.Test.YtdomlnhgafielaaGreatDoorRowAid
import Derived.OpenShut
import Derived.Deep.Slices
namespace Go.Proofs.YtdomlnhgafielaaGreatDoor
open Go Go.ChangeShapes Go.WideShapes Go.ChangeAt Go.RowKit Go.Deep Go.Joins Msh

section
variable {H : Type} {enc : TypeId × Value → H} {w : World} {base : Nat} {spare : Nat → Bool} {held : Bool}
theorem cellsIt : Tryz.prog.cellsOf 38 = 4 := by kernel_rfl
theorem cellsIntI : Tryz.prog.cellsOf 3 = 1 := by kernel_rfl
theorem cellsStrI : Tryz.prog.cellsOf 9 = 1 := by kernel_rfl
theorem trod_it {fuel : Nat} {cs : List Value} {x : DataW H × List MemPlace} (h : DataW.trod enc Tryz.prog w base spare held fuel 38 cs = some x) :
    ∃ z : It, cs = [.int .i64 z.kind, .int .i64 z.pos, .int .i64 z.n, .string z.name] := by
  obtain ⟨y0, y1, y2, y3, n, _, hlen, h0, h1, h2, h3⟩ := trod_struct4 Tryz.underlying38 h
  rw [cellsIt] at hlen
  obtain ⟨c0, c1, c2, c3, rfl⟩ := list4 hlen
  simp only [cellsIntI] at h0 h1 h2 h3
  try simp only [cellsStrI] at h3
  obtain ⟨k0, e0, _⟩ := DataW.trod_int Tryz.underlying3 h0
  obtain ⟨k1, e1, _⟩ := DataW.trod_int Tryz.underlying3 h1
  obtain ⟨k2, e2, _⟩ := DataW.trod_int Tryz.underlying3 h2
  obtain ⟨k3, e3, _⟩ := DataW.trod_string Tryz.underlying9 h3
  simp at e0 e1 e2 e3
  subst e0
  subst e1
  subst e2
  subst e3
  exact ⟨⟨k0, k1, k2, k3⟩, rfl⟩
theorem open_its {a0 : Option Addr} {len cap : Nat} {d : DataW H} {p : List MemPlace} (h : DataW.Trod enc Tryz.prog w 0 (fun _ => true) true 33 (.slice a0 len cap) d p) :
    len = 0 ∨ ∃ (b off : Nat) (l : List It), a0 = some ⟨b, off, none⟩ ∧ len = l.length ∧ l.length ≤ 9223372036854775807 ∧ b < w.heap.size ∧ ItsAt w b off l := by
  obtain ⟨fuel, hf⟩ := h
  rcases open_slice Tryz.underlying33 hf with ⟨hcs, _⟩ | ⟨a, len', cap', m, n, D, Pl, hcs, _, hl, hm, hmm, _, hx⟩
  · simp [Value.cells] at hcs
    exact .inl hcs.2.1
  simp [Value.cells] at hcs
  obtain ⟨rfl, rfl, rfl⟩ := hcs
  simp only [if_true] at hmm
  subst hmm
  rw [cellsIt] at hx
  by_cases h0 : len = 0
  · exact .inl h0
  right
  have each : ∀ i, i < len → ∃ z : It, w.cell? ((a.add (i * 4)).add 0) = some (.int .i64 z.kind) ∧ w.cell? ((a.add (i * 4)).add 1) = some (.int .i64 z.pos) ∧ w.cell? ((a.add (i * 4)).add 2) = some (.int .i64 z.n) ∧ w.cell? ((a.add (i * 4)).add 3) = some (.string z.name) := fun i hi => by
    obtain ⟨cs', h1, h2⟩ := hx i (by omega)
    obtain ⟨z, rfl⟩ := trod_it h2
    obtain ⟨_, _, h3⟩ := World.cells?_some h1
    exact ⟨z, h3 0 (by decide), h3 1 (by decide), h3 2 (by decide), h3 3 (by decide)⟩
  obtain ⟨b, off, spot⟩ := a
  have hspot : spot = none := by
    obtain ⟨z, h1, _⟩ := each 0 (by omega)
    simpa [Addr.add] using World.cell?_spot h1
  subst hspot
  have hb : b < w.heap.size := by
    obtain ⟨z, h1, _⟩ := each 0 (by omega)
    simpa [Addr.add] using World.block_lt_of_cell? w _ h1
  have build : ∀ n, n ≤ len → ∃ l : List It, l.length = n ∧ ItsAt w b off l := by
    intro n
    induction n with
    | zero => intro _; exact ⟨[], rfl, fun i z hz => by simp at hz⟩
    | succ n ih =>
      intro hn
      obtain ⟨l, hl1, hl2⟩ := ih (by omega)
      obtain ⟨z, c0, c1, c2, c3⟩ := each n (by omega)
      refine ⟨l ++ [z], by simp [hl1], fun i y hy => ?_⟩
      by_cases hi : i < l.length
      · rw [List.getElem?_append_left hi] at hy
        exact hl2 i y hy
      · have hin : i = n := by
          have := (List.getElem?_eq_some_iff.1 hy).1
          simp at this; omega
        subst hin
        rw [List.getElem?_append_right (by omega), hl1, Nat.sub_self] at hy
        obtain rfl := Option.some.inj hy
        have ad : ∀ j, ((⟨b, off, none⟩ : Addr).add (i * 4)).add j = ⟨b, off + i * 4 + j, none⟩ := fun j => by
          unfold Addr.add
          by_cases h1 : i * 4 = 0
          · rw [if_pos h1]
            by_cases h2 : j = 0
            · simp [h1, h2]
            · simp [h1, h2]
          · rw [if_neg h1]
            by_cases h2 : j = 0
            · simp [h2]
            · simp [h2]
        rw [ad] at c0 c1 c2 c3
        exact ⟨c0, c1, c2, c3⟩
  obtain ⟨l, hl1, hl2⟩ := build len (Nat.le_refl _)
  refine ⟨b, off, l, rfl, hl1.symm, ?_, hb, hl2⟩
  unfold maxLen at hm
  omega
end
end Go.Proofs.YtdomlnhgafielaaGreatDoor
