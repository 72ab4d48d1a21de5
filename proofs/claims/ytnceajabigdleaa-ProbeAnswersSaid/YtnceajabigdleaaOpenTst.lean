/- Layer 9: a test that came in: what lies in memory. No condition. -/
import Derived.Test.YtnceajabigdleaaPtQ5
import Derived.Test.YtnceajabigdleaaPtS4
import Derived.Test.YtnceajabigdleaaRowAid
import Derived.OpenShut
import Derived.Deep.Slices
import Derived.Deep.Strs
namespace Go.Proofs.Qm
open Go Go.Pt Go.ChangeShapes Go.WideShapes Go.ChangeAt Go.RowKit Go.Deep

section
variable {H : Type} {enc : TypeId × Value → H} {w : World} {base : Nat}
theorem cellsBool : Try.prog.cellsOf 4 = 1 := by kernel_rfl
theorem cellsTst : Try.prog.cellsOf 24 = 3 := by kernel_rfl
theorem cellsBls : Try.prog.cellsOf 22 = 1 := by kernel_rfl
theorem cellsIntT : Try.prog.cellsOf 3 = 1 := by kernel_rfl
theorem typesTst : Try.prog.cellTypes Try.prog.depth 24 = some [22, 3, 3] := by kernel_rfl

theorem open_turn {fuel : Nat} {a : Option Addr} {len cap : Nat} {x : DataW H × List MemPlace} (h : DataW.trod enc Try.prog w 0 (fun _ => true) true fuel 22 [.slice a len cap] = some x) :
    len ≤ 9223372036854775807 ∧ ∃ l, TurnAt w a len l := by
  rcases open_slice1 Try.underlying22 cellsBool h with ⟨hcs, _⟩ | ⟨a, len', cap', m, n, V, D, Pl, hcs, _, hl, hm, hmm, _, hx⟩
  · simp at hcs
    obtain ⟨_, rfl, _⟩ := hcs
    exact ⟨by omega, [], rfl, .inl rfl⟩
  simp at hcs
  obtain ⟨rfl, rfl, rfl⟩ := hcs
  simp only [if_true] at hmm
  subst hmm
  have hmax : maxLen = 9223372036854775807 := by decide
  refine ⟨by omega, ?_⟩
  by_cases h0 : len = 0
  · exact ⟨[], h0, .inl rfl⟩
  have each : ∀ i, i < len → ∃ z : Bool, w.cell? (a.add i) = some (.bool z) := fun i hi => by
    obtain ⟨h1, h2⟩ := hx i (by omega)
    obtain ⟨z, e, _⟩ := DataW.trod_bool Try.underlying4 h2
    simp at e
    exact ⟨z, e ▸ h1⟩
  obtain ⟨b, off, spot⟩ := a
  have hspot : spot = none := by
    obtain ⟨z, h1⟩ := each 0 (by omega)
    simpa [Addr.add] using World.cell?_spot h1
  subst hspot
  have hb : b < w.heap.size := by
    obtain ⟨z, h1⟩ := each 0 (by omega)
    simpa [Addr.add] using World.block_lt_of_cell? w _ h1
  have ad : ∀ i, ((⟨b, off, none⟩ : Addr).add i) = ⟨b, off + i, none⟩ := fun i => by
    unfold Addr.add
    by_cases h1 : i = 0
    · simp [h1]
    · simp [h1]
  have build : ∀ n, n ≤ len → ∃ l : List Bool, l.length = n ∧ BlsAt w b off l := by
    intro n
    induction n with
    | zero => intro _; exact ⟨[], rfl, fun i z hz => by simp at hz⟩
    | succ n ih =>
      intro hn
      obtain ⟨l, hl1, hl2⟩ := ih (by omega)
      obtain ⟨z, c0⟩ := each n (by omega)
      refine ⟨l ++ [z], by simp [hl1], fun i y hy => ?_⟩
      by_cases hi : i < l.length
      · rw [List.getElem?_append_left hi] at hy
        exact hl2 i y hy
      · have hin : i = n := by
          have := (List.getElem?_eq_some_iff.1 hy).1
          simp at this; omega
        subst hin
        rw [List.getElem?_append_right (by omega), hl1, Nat.sub_self] at hy
        obtain rfl := Option.some.inj hy
        rw [ad] at c0
        exact c0
  obtain ⟨l, h1, h2⟩ := build len (Nat.le_refl _)
  exact ⟨l, h1.symm, .inr ⟨b, off, rfl, hb, h2⟩⟩

/-- A slice's block holds cells. -/
def OnCells (w : World) (a : Option Addr) : Prop := ∀ x, a = some x → ∃ cs e fz, w.heap[x.block]? = some (.cells cs e fz)
theorem on_cells {r : Reach} {t e : TypeId} {a : Option Addr} {len cap : Nat} (ht : Try.prog.underlying t = some (.slice e)) (h : Cell.okWide Try.prog w r base t (.slice a len cap)) : OnCells w a := by
  rintro x rfl
  simp only [Cell.okWide, Cell.ok, ht] at h
  obtain ⟨_, _, h3⟩ := h
  obtain ⟨_, _, row, cells, hs, _⟩ := h3
  unfold World.shape? at hs
  split at hs
  · rename_i cs el fz hh
    exact ⟨cs, el, fz, hh⟩
  · cases hs

set_option maxRecDepth 100000 in
theorem open_test {v : Value} {d : DataW H} {p : List MemPlace} (hv : Value.okWide Try.prog w .any base 24 v) (h : DataW.Trod enc Try.prog w 0 (fun _ => true) true 24 v d p) :
    ∃ (a : Option Addr) (len cap : Nat) (i o : Int) (l : List Bool), v = .agg #[.slice a len cap, .int .i64 i, .int .i64 o] ∧ len ≤ 9223372036854775807 ∧ TurnAt w a len l ∧ OnCells w a := by
  have hv' : ∃ cs, v = .agg cs ∧ cs.size = Try.prog.cellsOf 24 ∧ Row.okWide Try.prog w .any base 24 cs := by
    unfold Value.okWide at hv
    simp only [Try.underlying24] at hv
    exact hv
  obtain ⟨cs, rfl, hsz, ts, hts, _, hall⟩ := hv'
  obtain rfl : [22, 3, 3] = ts := by rw [typesTst] at hts; exact Option.some.inj hts
  rw [cellsTst] at hsz
  obtain ⟨cl⟩ := cs
  obtain ⟨v0, v1, v2, rfl⟩ : ∃ v0 v1 v2, cl = [v0, v1, v2] := by
    match cl, hsz with
    | [x, y, z], _ => exact ⟨x, y, z, rfl⟩
  obtain ⟨u0, hu0, hc0⟩ := hall 0 v0 rfl
  obtain rfl := Option.some.inj hu0
  obtain ⟨fuel, hf⟩ := h
  obtain ⟨y0, y1, y2, n, _, _, h0, h1, h2⟩ := trod_struct3 Try.underlying24 hf
  simp only [cellsBls, cellsIntT, Value.cells] at h0 h1 h2
  obtain ⟨k1, e1, _⟩ := DataW.trod_int Try.underlying3 h1
  obtain ⟨k2, e2, _⟩ := DataW.trod_int Try.underlying3 h2
  simp at e1 e2
  subst e1
  subst e2
  obtain ⟨a, len, cap, rfl⟩ := okWide_slice (w := w) (r := .any) (base := base) (v := v0) Try.underlying22 (by unfold Value.okWide; simp only [Try.underlying22]; exact hc0)
  have ht := open_turn (a := a) (len := len) (cap := cap) (by simpa using h0)
  obtain ⟨hl, l, hT⟩ := ht
  exact ⟨a, len, cap, k1, k2, l, rfl, hl, hT, on_cells Try.underlying22 hc0⟩
end
end Go.Proofs.Qm
