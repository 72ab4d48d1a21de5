/- A slice of numbers that came in: what lies in memory. No condition. -/
import Derived.Test.YtkglnnkghillpaaAmpF
import Derived.Test.YtkglnnkghillpaaRowAid
import Derived.OpenShut
import Derived.Deep.Slices
namespace Go.Proofs.Ytkglnnkghillpaa
open Go Go.ChangeShapes Go.WideShapes Go.ChangeAt Go.RowKit Go.Deep Amp

section
variable {H : Type} {enc : TypeId × Value → H} {w : World} {base : Nat} {spare : Nat → Bool} {held : Bool}
theorem cellsNum : Try.prog.cellsOf 53 = 5 := by kernel_rfl
theorem cellsArr : Try.prog.cellsOf 45 = 4 := by kernel_rfl
theorem cellsInt : Try.prog.cellsOf 3 = 1 := by kernel_rfl

theorem trod_arr4 {fuel : Nat} {c0 c1 c2 c3 : Value} {x : DataW H × List MemPlace} (h : DataW.trod enc Try.prog w base spare held fuel 45 [c0, c1, c2, c3] = some x) :
    ∃ z : C4, c0 = .int .i64 z.a ∧ c1 = .int .i64 z.b ∧ c2 = .int .i64 z.c ∧ c3 = .int .i64 z.d := by
  obtain ⟨xs, m, _, _, _, hxs, hall⟩ := DataW.trod_array Try.underlying45 h
  rw [cellsInt] at hall
  have get : ∀ i, i < 4 → ∃ n, ((([c0, c1, c2, c3] : List Value).drop (i * 1)).take 1) = [Value.int .i64 n] := fun i hi => by
    have h1 := hall i hi
    have h2 : xs[i]? = some xs[i] := List.getElem?_eq_getElem (by omega)
    rw [h2] at h1
    obtain ⟨n, h3, _⟩ := DataW.trod_int Try.underlying3 h1
    exact ⟨n, h3⟩
  obtain ⟨n0, h0⟩ := get 0 (by decide)
  obtain ⟨n1, h1⟩ := get 1 (by decide)
  obtain ⟨n2, h2⟩ := get 2 (by decide)
  obtain ⟨n3, h3⟩ := get 3 (by decide)
  simp at h0 h1 h2 h3
  exact ⟨⟨n0, n1, n2, n3⟩, h0, h1, h2, h3⟩

theorem list_five {cs : List Value} (h : cs.length = 5) : ∃ c0 c1 c2 c3 c4, cs = [c0, c1, c2, c3, c4] := list5 h

theorem trod_num {fuel : Nat} {cs : List Value} {x : DataW H × List MemPlace} (h : DataW.trod enc Try.prog w base spare held fuel 53 cs = some x) :
    ∃ z : Num, cs = [.int .i64 z.x.a, .int .i64 z.x.b, .int .i64 z.x.c, .int .i64 z.x.d, .int .i64 z.k] := by
  obtain ⟨y0, y1, n, _, hlen, h0, h1⟩ := trod_struct2 Try.underlying53 h
  rw [cellsNum] at hlen
  obtain ⟨c0, c1, c2, c3, c4, rfl⟩ := list_five hlen
  simp only [cellsArr] at h0
  simp only [cellsInt] at h1
  obtain ⟨z, rfl, rfl, rfl, rfl⟩ := trod_arr4 h0
  obtain ⟨k, h2, _⟩ := DataW.trod_int Try.underlying3 h1
  simp at h2
  subst h2
  exact ⟨⟨z, k⟩, rfl⟩

theorem open_nums {a0 : Option Addr} {len cap : Nat} {d : DataW H} {p : List MemPlace} (h : DataW.Trod enc Try.prog w 0 (fun _ => true) true 26 (.slice a0 len cap) d p) :
    len = 0 ∨ ∃ (b off : Nat) (l : List Num), a0 = some ⟨b, off, none⟩ ∧ len = l.length ∧ l.length ≤ 9223372036854775807 ∧ b < w.heap.size ∧ NumsAt w b off l := by
  obtain ⟨fuel, hf⟩ := h
  rcases open_slice Try.underlying26 hf with ⟨hcs, _⟩ | ⟨a, len', cap', m, n, D, Pl, hcs, _, hl, hm, hmm, _, hx⟩
  · simp [Value.cells] at hcs
    exact .inl hcs.2.1
  simp [Value.cells] at hcs
  obtain ⟨rfl, rfl, rfl⟩ := hcs
  simp only [if_true] at hmm
  subst hmm
  rw [cellsNum] at hx
  by_cases h0 : len = 0
  · exact .inl h0
  right
  have each : ∀ i, i < len → ∃ z : Num, w.cell? ((a.add (i * 5)).add 0) = some (.int .i64 z.x.a) ∧ w.cell? ((a.add (i * 5)).add 1) = some (.int .i64 z.x.b) ∧ w.cell? ((a.add (i * 5)).add 2) = some (.int .i64 z.x.c) ∧ w.cell? ((a.add (i * 5)).add 3) = some (.int .i64 z.x.d) ∧ w.cell? ((a.add (i * 5)).add 4) = some (.int .i64 z.k) := fun i hi => by
    obtain ⟨cs', h1, h2⟩ := hx i (by omega)
    obtain ⟨z, rfl⟩ := trod_num h2
    obtain ⟨_, _, h3⟩ := World.cells?_some h1
    exact ⟨z, h3 0 (by decide), h3 1 (by decide), h3 2 (by decide), h3 3 (by decide), h3 4 (by decide)⟩
  obtain ⟨b, off, spot⟩ := a
  have hspot : spot = none := by
    obtain ⟨z, h1, _⟩ := each 0 (by omega)
    simpa [Addr.add] using World.cell?_spot h1
  subst hspot
  have hb : b < w.heap.size := by
    obtain ⟨z, h1, _⟩ := each 0 (by omega)
    simpa [Addr.add] using World.block_lt_of_cell? w _ h1
  have build : ∀ n, n ≤ len → ∃ l : List Num, l.length = n ∧ NumsAt w b off l := by
    intro n
    induction n with
    | zero => intro _; exact ⟨[], rfl, fun i z hz => by simp at hz⟩
    | succ n ih =>
      intro hn
      obtain ⟨l, hl1, hl2⟩ := ih (by omega)
      obtain ⟨z, c0, c1, c2, c3, c4⟩ := each n (by omega)
      refine ⟨l ++ [z], by simp [hl1], fun i y hy => ?_⟩
      by_cases hi : i < l.length
      · rw [List.getElem?_append_left hi] at hy
        exact hl2 i y hy
      · have hin : i = n := by
          have := (List.getElem?_eq_some_iff.1 hy).1
          simp at this; omega
        subst hin
        rw [List.getElem?_append_right (by omega), hl1, Nat.sub_self] at hy
        obtain rfl := Option.some.inj hy
        have ad : ∀ j, ((⟨b, off, none⟩ : Addr).add (i * 5)).add j = ⟨b, off + i * 5 + j, none⟩ := fun j => by
          unfold Addr.add
          by_cases h1 : i * 5 = 0
          · rw [if_pos h1]
            by_cases h2 : j = 0
            · simp [h1, h2]
            · simp [h1, h2]
          · rw [if_neg h1]
            by_cases h2 : j = 0
            · simp [h2]
            · simp [h2]
        rw [ad] at c0 c1 c2 c3 c4
        exact ⟨c0, c1, c2, c3, c4⟩
  obtain ⟨l, hl1, hl2⟩ := build len (Nat.le_refl _)
  refine ⟨b, off, l, rfl, hl1.symm, ?_, hb, hl2⟩
  unfold maxLen at hm
  omega
end
end Go.Proofs.Ytkglnnkghillpaa
