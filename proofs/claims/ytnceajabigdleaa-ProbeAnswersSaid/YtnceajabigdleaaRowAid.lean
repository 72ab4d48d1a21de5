/- Aids for the rows of laws: every argument reads on as it did where only new memory was made; a value of a type whose cells are all ints. No condition; no program in sight. -/
import Derived.ProofKit
import Derived.WalkKit
import Derived.Lib.SmallJoins
import Derived.Test.YtnceajabigdleaaHouse
namespace Go
open Go.ChangeShapes Go.WideShapes Go.ChangeAt Go.RowKit

theorem trodAll_below {H : Type} {enc : TypeId × Value → H} {P : Program} (hl : laidOutB P = true) {W W' : World} (hb : Below W.heap.size W W') :
    ∀ (ts : List TypeId) (vs : List Value) (ds : List (DataW H)) (ps : List MemPlace), (ts.all fun t => P.readableRec t && decide (t < P.types.size)) = true →
      DataW.TrodAll enc P W 0 (fun _ => true) true ts vs ds ps → DataW.TrodAll enc P W' 0 (fun b => decide (b < W.heap.size)) true ts vs ds ps
  | [], [], [], _, _, h => h
  | t :: ts, v :: vs, d :: ds, ps, hr, h => by
    obtain ⟨p, q, h1, h2, rfl⟩ := h
    simp only [List.all_cons, Bool.and_eq_true, decide_eq_true_eq] at hr
    refine ⟨p, q, Below.trod hl hr.1.1 hr.1.2 h1 hb ?_, trodAll_below hl hb ts vs ds q hr.2 h2, rfl⟩
    obtain ⟨m, hm⟩ := h1
    exact DataW.trod_lt m _ _ _ hm
  | [], [], _ :: _, _, _, h => h.elim
  | [], _ :: _, _, _, _, h => h.elim
  | _ :: _, [], _, _, _, h => h.elim
  | _ :: _, _ :: _, [], _, _, h => h.elim

theorem cell_int {P : Program} {w : World} {r : Reach} {base : Nat} {t : TypeId} {k : IntKind} {v : Value} (ht : P.underlying t = some (.int k)) (h : Cell.okWide P w r base t v) : ∃ n, v = .int k n := by
  refine okWide_int (P := P) (w := w) (r := r) (base := base) ht ?_
  unfold Value.okWide
  rw [ht]
  exact h

/-- A value whose cells are all ints. -/
theorem open_ints_agg {P : Program} {w : World} {r : Reach} {base : Nat} {t u : TypeId} {v : Value} {n : Nat} {k : IntKind} (hs : (P.underlying t).any (fun d => match d with | .struct _ | .array .. => true | _ => false) = true)
    (hc : P.cellTypes P.depth t = some (List.replicate n u)) (hz : P.cellsOf t = n) (hu : P.underlying u = some (.int k)) (h : Value.okWide P w r base t v) :
    ∃ l : List Int, l.length = n ∧ v = .agg (l.map (Value.int k)).toArray := by
  have h' : ∃ cs, v = .agg cs ∧ cs.size = P.cellsOf t ∧ Row.okWide P w r base t cs := by
    unfold Value.okWide at h
    cases hd : P.underlying t with
    | none => rw [hd] at hs; cases hs
    | some d =>
      rw [hd] at hs h
      cases d <;> first | exact h | simp at hs
  obtain ⟨cs, rfl, hsz, ts, hts, _, hall⟩ := h'
  obtain rfl : List.replicate n u = ts := by rw [hc] at hts; exact Option.some.inj hts
  have hcell : ∀ (i : Nat) (v : Value), cs[i]? = some v → ∃ m, v = Value.int k m := fun i v hi => by
    obtain ⟨u', h1, h2⟩ := hall i v hi
    have hu' : u' = u := by
      have := List.mem_of_getElem? h1
      exact (List.mem_replicate.1 this).2
    subst hu'
    exact cell_int hu h2
  have key : ∀ (l : List Value), (∀ v ∈ l, ∃ m, v = Value.int k m) → ∃ zs : List Int, l = zs.map (Value.int k) := by
    intro l
    induction l with
    | nil => intro _; exact ⟨[], rfl⟩
    | cons v l ih =>
      intro hl
      obtain ⟨m, rfl⟩ := hl v List.mem_cons_self
      obtain ⟨zs, rfl⟩ := ih fun v hv => hl v (List.mem_cons_of_mem _ hv)
      exact ⟨m :: zs, rfl⟩
  obtain ⟨zs, hzs⟩ := key cs.toList fun v hv => by
    obtain ⟨i, hi⟩ := List.getElem?_of_mem hv
    exact hcell i v (by simpa using hi)
  refine ⟨zs, ?_, by rw [← hzs]⟩
  have := congrArg List.length hzs
  simp at this
  omega

theorem list4 {α : Type} {l : List α} (h : l.length = 4) : ∃ a b c d, l = [a, b, c, d] := by
  match l, h with
  | [a, b, c, d], _ => exact ⟨a, b, c, d, rfl⟩
theorem list5 {α : Type} {l : List α} (h : l.length = 5) : ∃ a b c d e, l = [a, b, c, d, e] := by
  match l, h with
  | [a, b, c, d, e], _ => exact ⟨a, b, c, d, e, rfl⟩
end Go
