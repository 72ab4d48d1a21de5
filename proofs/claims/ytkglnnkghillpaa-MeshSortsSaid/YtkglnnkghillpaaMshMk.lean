/- Layer 3: a new list of zeros. No condition. -/
import Derived.Test.YtkglnnkghillpaaMshZs
import Derived.Laws.OwnMore
import Derived.OwnWalk
namespace Go.Proofs.Ytkglnnkghillpaa
open Go Go.RowKit Amp Msh

theorem made_zeros (n : Nat) : (madeCells (Value.int .i64 0).cells (n * 1)).toList = zCells (List.replicate n 0) := by
  apply List.ext_getElem
  · simp [zCells, madeCells]
  · intro i h1 h2
    simp [zCells, madeCells, Value.cells, Nat.mod_one]
/-- make of a list of n zeros. -/
theorem wpList_make_z {w : World} {ops : Array Oper} {rest : List Oper} {o : Oper} {a : Act} {Q : Exit → Act → World → Prop} (hgd : o.guard = none) (l c : Operand) (hop : o.op = Op.makeSlice 42 l c)
    (n : Nat) (L C : Int) (hl : a.eval l = .int .i64 L) (hc : a.eval c = .int .i64 C) (hL : L = n) (hC : C = n) (hn : n ≤ 100000)
    (hK : ∀ w', OwnZ w' w.heap.size (some ⟨w.heap.size, 0, none⟩) n (List.replicate n 0) → Grew w w' → w.heap.size < w'.heap.size → wpList Try.prog ops Q rest (a.put o.dst (.slice (some ⟨w.heap.size, 0, none⟩) n n)) w') :
    wpList Try.prog ops Q (o :: rest) a w := by
  obtain ⟨i0, hi, hz0, hz1, hz2⟩ := info_parts info_z
  subst hL
  subst hC
  refine wpList_plain hgd fun K hK' => ?_
  have hr := run_make (P := Try.prog) w 42 3 i0 (.int .i64 0) Try.underlying42 hi hz0 .i64 .i64 n n (by omega) (Int.le_refl _) (by rw [hz2]; omega) (by omega)
  rw [hz1, Int.toNat_natCast] at hr
  unfold Oper.wp
  simp [execOp, hop, hl, hc, hr, Result.andThen]
  refine hK' _ _ (hK _ ?_ ((Grew.refl w).alloc _) (by simp))
  unfold OwnZ
  have h1 := World.ownsRow_lit (base := w.heap.size) (e := 3) (size := 1) w (madeCells (Value.int .i64 0).cells (n * 1)) n (Nat.le_refl _) (by unfold maxLen; omega) (size_madeCells _ _)
  rw [List.length_replicate, ← made_zeros]
  simp only [Nat.mul_one] at h1 ⊢
  exact h1

end Go.Proofs.Ytkglnnkghillpaa
