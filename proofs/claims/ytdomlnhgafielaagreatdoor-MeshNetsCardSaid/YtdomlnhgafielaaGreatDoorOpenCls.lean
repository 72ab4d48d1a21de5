/- Layer 3: a netlist that came in: what lies in memory. No condition. -/
import Derived.Test.YtdomlnhgafielaaGreatDoorMshCls
import Derived.Test.YtdomlnhgafielaaGreatDoorOpenIts
namespace Go.Proofs.YtdomlnhgafielaaGreatDoor
open Go Go.ChangeShapes Go.WideShapes Go.ChangeAt Go.RowKit Go.Deep Go.Joins Msh

section
variable {H : Type} {enc : TypeId × Value → H} {w : World} {base : Nat} {spare : Nat → Bool} {held : Bool}
theorem addr_two (b off i j n : Nat) : ((⟨b, off, none⟩ : Addr).add (i * n)).add j = ⟨b, off + i * n + j, none⟩ := by
  unfold Addr.add
  by_cases h1 : i * n = 0
  · rw [if_pos h1]
    by_cases h2 : j = 0
    · simp [h1, h2]
    · simp [h1, h2]
  · rw [if_neg h1]
    by_cases h2 : j = 0
    · simp [h2]
    · simp [h2]
theorem trod_itS {fuel : Nat} {cs : List Value} {x : DataW H × List MemPlace} (h : DataW.trod enc Tryz.prog w base spare held fuel 38 cs = some x) :
    ∃ z : It, cs = [.int .i64 z.kind, .int .i64 z.pos, .int .i64 z.n, .string z.name] ∧ z.name.size ≤ maxLen := by
  obtain ⟨y0, y1, y2, y3, n, _, hlen, h0, h1, h2, h3⟩ := trod_struct4 Tryz.underlying38 h
  rw [cellsIt] at hlen
  obtain ⟨c0, c1, c2, c3, rfl⟩ := list4 hlen
  simp only [cellsIntI] at h0 h1 h2 h3
  try simp only [cellsStrI] at h3
  obtain ⟨k0, e0, _⟩ := DataW.trod_int Tryz.underlying3 h0
  obtain ⟨k1, e1, _⟩ := DataW.trod_int Tryz.underlying3 h1
  obtain ⟨k2, e2, _⟩ := DataW.trod_int Tryz.underlying3 h2
  obtain ⟨k3, e3, _, e4⟩ := DataW.trod_string Tryz.underlying9 h3
  simp at e0 e1 e2 e3
  subst e0
  subst e1
  subst e2
  subst e3
  exact ⟨⟨k0, k1, k2, k3⟩, rfl, e4⟩
/-- A list of what lies at places. -/
theorem list_of {α : Type} {P : Nat → α → Prop} : ∀ n : Nat, (∀ i, i < n → ∃ z, P i z) → ∃ l : List α, l.length = n ∧ ∀ i z, l[i]? = some z → P i z
  | 0, _ => ⟨[], rfl, fun i z h => by simp at h⟩
  | n + 1, h => by
    obtain ⟨l, h1, h2⟩ := list_of n fun i hi => h i (by omega)
    obtain ⟨z, hz⟩ := h n (by omega)
    refine ⟨l ++ [z], by simp [h1], fun i y hy => ?_⟩
    by_cases hi : i < l.length
    · rw [List.getElem?_append_left hi] at hy
      exact h2 i y hy
    · have hin : i = n := by
        have := (List.getElem?_eq_some_iff.1 hy).1
        simp at this; omega
      subst hin
      rw [List.getElem?_append_right (by omega), h1, Nat.sub_self] at hy
      obtain rfl := Option.some.inj hy
      exact hz
theorem open_itsS {fuel : Nat} {a0 : Option Addr} {len cap : Nat} {x : DataW H × List MemPlace} (hf : DataW.trod enc Tryz.prog w 0 (fun _ => true) true fuel 33 [.slice a0 len cap] = some x) :
    ∃ l : List It, len = l.length ∧ l.length ≤ 9223372036854775807 ∧ Its w a0 l ∧ ∀ x ∈ l, x.name.size ≤ maxLen := by
  rcases open_slice Tryz.underlying33 hf with ⟨hcs, _⟩ | ⟨a, len', cap', m, n, D, Pl, hcs, _, hl, hm, hmm, _, hx⟩
  · simp at hcs
    exact ⟨[], hcs.2.1, by simp, .inl rfl, fun x hx => absurd hx List.not_mem_nil⟩
  simp at hcs
  obtain ⟨rfl, rfl, rfl⟩ := hcs
  simp only [if_true] at hmm
  subst hmm
  rw [cellsIt] at hx
  by_cases h0 : len = 0
  · exact ⟨[], h0, by simp, .inl rfl, fun x hx => absurd hx List.not_mem_nil⟩
  have each : ∀ i, i < len → ∃ z : It, (w.cell? ((a.add (i * 4)).add 0) = some (.int .i64 z.kind) ∧ w.cell? ((a.add (i * 4)).add 1) = some (.int .i64 z.pos) ∧ w.cell? ((a.add (i * 4)).add 2) = some (.int .i64 z.n) ∧ w.cell? ((a.add (i * 4)).add 3) = some (.string z.name)) ∧ z.name.size ≤ maxLen := fun i hi => by
    obtain ⟨cs', h1, h2⟩ := hx i (by omega)
    obtain ⟨z, rfl, h4⟩ := trod_itS h2
    obtain ⟨_, _, h3⟩ := World.cells?_some h1
    exact ⟨z, ⟨h3 0 (by decide), h3 1 (by decide), h3 2 (by decide), h3 3 (by decide)⟩, h4⟩
  obtain ⟨b, off, spot⟩ := a
  have hspot : spot = none := by
    obtain ⟨z, ⟨h1, _⟩, _⟩ := each 0 (by omega)
    simpa [Addr.add] using World.cell?_spot h1
  subst hspot
  have hb : b < w.heap.size := by
    obtain ⟨z, ⟨h1, _⟩, _⟩ := each 0 (by omega)
    simpa [Addr.add] using World.block_lt_of_cell? w _ h1
  obtain ⟨l, hl1, hl2⟩ := list_of len each
  refine ⟨l, hl1.symm, ?_, .inr ⟨b, off, rfl, hb, fun i z hz => ?_⟩, fun x hx => ?_⟩
  · unfold maxLen at hm
    omega
  · obtain ⟨⟨c0, c1, c2, c3⟩, _⟩ := hl2 i z hz
    rw [addr_two] at c0 c1 c2 c3
    exact ⟨c0, c1, c2, c3⟩
  · obtain ⟨i, hi⟩ := List.getElem?_of_mem hx
    exact (hl2 i x hi).2
theorem list3C {α : Type} {l : List α} (h : l.length = 3) : ∃ a b c, l = [a, b, c] := by
  match l, h with
  | [a, b, c], _ => exact ⟨a, b, c, rfl⟩
theorem cellsCl : Tryz.prog.cellsOf 35 = 3 := by kernel_rfl
theorem cellsItsI : Tryz.prog.cellsOf 33 = 1 := by kernel_rfl
theorem trod_cl {fuel : Nat} {cs : List Value} {x : DataW H × List MemPlace} (h : DataW.trod enc Tryz.prog w 0 (fun _ => true) true fuel 35 cs = some x) :
    ∃ (c : Cl) (a : Option Addr) (k : Nat), cs = [.string c.name, .int .i64 c.gd, .slice a c.items.length k] ∧ Its w a c.items ∧ c.name.size ≤ maxLen ∧ c.items.length ≤ 9223372036854775807 ∧ ∀ x ∈ c.items, x.name.size ≤ maxLen := by
  obtain ⟨y0, y1, y2, n, _, hlen, h0, h1, h2⟩ := trod_struct3 Tryz.underlying35 h
  rw [cellsCl] at hlen
  obtain ⟨c0, c1, c2, rfl⟩ := list3C hlen
  try simp only [cellsStrI] at h0
  try simp only [cellsIntI] at h0 h1 h2
  try simp only [cellsItsI] at h2
  obtain ⟨k0, e0, _, e4⟩ := DataW.trod_string Tryz.underlying9 h0
  obtain ⟨k1, e1, _⟩ := DataW.trod_int Tryz.underlying3 h1
  simp at e0 e1
  subst e0
  subst e1
  have h3 : ∃ a l k, c2 = .slice a l k := by
    rcases open_slice Tryz.underlying33 h2 with ⟨hcs, _⟩ | ⟨a, len', cap', m, n, D, Pl, hcs, _⟩
    · simp at hcs
      exact ⟨_, _, _, hcs⟩
    · simp at hcs
      exact ⟨_, _, _, hcs⟩
  obtain ⟨a, len, k, rfl⟩ := h3
  obtain ⟨l, rfl, h5, h6, h7⟩ := open_itsS (by simpa using h2)
  exact ⟨⟨k0, k1, l⟩, a, k, rfl, h6, e4, h5, h7⟩
theorem open_cls {a0 : Option Addr} {len cap : Nat} {d : DataW H} {p : List MemPlace} (h : DataW.Trod enc Tryz.prog w 0 (fun _ => true) true 22 (.slice a0 len cap) d p) :
    ∃ L : List Cl, len = L.length ∧ L.length ≤ 9223372036854775807 ∧ Net w a0 L ∧ CsOk L ∧ L.length ≤ cap := by
  obtain ⟨fuel, hf⟩ := h
  rcases open_slice Tryz.underlying22 hf with ⟨hcs, _⟩ | ⟨a, len', cap', m, n, D, Pl, hcs, _, hl, hm, hmm, _, hx⟩
  · simp [Value.cells] at hcs
    exact ⟨[], hcs.2.1, by simp, .inl rfl, fun x hx => absurd hx List.not_mem_nil, by simp⟩
  simp [Value.cells] at hcs
  obtain ⟨rfl, rfl, rfl⟩ := hcs
  simp only [if_true] at hmm
  subst hmm
  rw [cellsCl] at hx
  by_cases h0 : len = 0
  · exact ⟨[], h0, by simp, .inl rfl, fun x hx => absurd hx List.not_mem_nil, by simp⟩
  have each : ∀ i, i < len → ∃ c : Cl, (w.cell? ((a.add (i * 3)).add 0) = some (.string c.name) ∧ w.cell? ((a.add (i * 3)).add 1) = some (.int .i64 c.gd) ∧ ∃ (a' : Option Addr) (k : Nat), w.cell? ((a.add (i * 3)).add 2) = some (.slice a' c.items.length k) ∧ Its w a' c.items) ∧ c.name.size ≤ maxLen ∧ c.items.length ≤ 9223372036854775807 ∧ ∀ x ∈ c.items, x.name.size ≤ maxLen := fun i hi => by
    obtain ⟨cs', h1, h2⟩ := hx i (by omega)
    obtain ⟨c, a', k, rfl, h4, h5⟩ := trod_cl h2
    obtain ⟨_, _, h3⟩ := World.cells?_some h1
    exact ⟨c, ⟨h3 0 (by decide), h3 1 (by decide), a', k, h3 2 (by decide), h4⟩, h5⟩
  obtain ⟨b, off, spot⟩ := a
  have hspot : spot = none := by
    obtain ⟨z, ⟨h1, _⟩, _⟩ := each 0 (by omega)
    simpa [Addr.add] using World.cell?_spot h1
  subst hspot
  have hb : b < w.heap.size := by
    obtain ⟨z, ⟨h1, _⟩, _⟩ := each 0 (by omega)
    simpa [Addr.add] using World.block_lt_of_cell? w _ h1
  obtain ⟨L, hl1, hl2⟩ := list_of len each
  refine ⟨L, hl1.symm, ?_, .inr ⟨b, off, rfl, hb, fun i c hc => ?_⟩, fun c hc => ?_, by omega⟩
  · unfold maxLen at hm
    omega
  · obtain ⟨⟨c0, c1, a', k, c2, c3⟩, _⟩ := hl2 i c hc
    rw [addr_two] at c0 c1 c2
    exact ⟨c0, c1, a', k, c2, c3⟩
  · obtain ⟨i, hi⟩ := List.getElem?_of_mem hc
    exact (hl2 i c hi).2
end
end Go.Proofs.YtdomlnhgafielaaGreatDoor
