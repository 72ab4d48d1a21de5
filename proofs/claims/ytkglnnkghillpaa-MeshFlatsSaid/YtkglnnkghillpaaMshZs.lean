/- Layer 3: lists of integers, of the call's own or not. No condition. -/
import Derived.Test.YtkglnnkghillpaaMshJ
import Derived.Test.YtkglnnkghillpaaMshA
import Derived.Test.YtkglnnkghillpaaMshE
import Derived.Lib.LazyBuf
import Derived.OwnWalk
import Derived.Laws.OwnMore

namespace Go.Proofs.Ytkglnnkghillpaa
open Go Go.RowKit Amp Msh

def zCells (l : List Int) : List Value := l.map (Value.int .i64)
theorem zCells_length (l : List Int) : (zCells l).length = l.length * 1 := by simp [zCells]
theorem zCells_app (l m : List Int) : zCells (l ++ m) = zCells l ++ zCells m := by simp [zCells]
theorem zCells_at {l : List Int} {i : Nat} {z : Int} (h : l[i]? = some z) : (zCells l)[i]? = some (.int .i64 z) := by simp [zCells, h]
theorem zCells_one {l : List Int} {u : Value} (hu : u ∈ zCells l) : u.oneCell' = true := by
  unfold zCells at hu
  obtain ⟨z, _, rfl⟩ := List.mem_map.1 hu
  rfl
theorem info_z : (Try.prog.info? 3).map (fun i => (i.zero, i.size, i.bytes)) = some (some (.int .i64 0), 1, 8) := by kernel_rfl
/-- A list of integers of the call's own. -/
def OwnZ (w : World) (base : Nat) (a0 : Option Addr) (k0 : Nat) (l : List Int) : Prop := w.ownsRow base 3 1 (.slice a0 l.length k0) l.length (zCells l)
theorem OwnZ.nil (w : World) (base : Nat) : OwnZ w base none 0 [] := World.ownsRow_nil w base 3 1
theorem OwnZ.grew {w w' : World} {base : Nat} {a0 : Option Addr} {k0 : Nat} {l : List Int} (h : OwnZ w base a0 k0 l) (g : Grew w w') : OwnZ w' base a0 k0 l := World.ownsRow.grew h g
theorem OwnZ.set_low {w : World} {base b i : Nat} {u : Value} {a0 : Option Addr} {k0 : Nat} {l : List Int} (h : OwnZ w base a0 k0 l) (hb : b < base) : OwnZ (w.setCell ⟨b, i, none⟩ u) base a0 k0 l := ownsRow_setCell_low h hb i u
theorem OwnZ.put {w : World} {base g k0 : Nat} {l : List Int} (h : OwnZ w base (some ⟨g, 0, none⟩) k0 l) (i : Nat) (z : Int) : OwnZ (w.setCell ⟨g, i, none⟩ (.int .i64 z)) base (some ⟨g, 0, none⟩) k0 (l.set i z) := by
  have h1 := (World.ownsRow.stored h i (.int .i64 z)).1
  unfold OwnZ
  rw [List.length_set, show zCells (l.set i z) = (zCells l).set i (.int .i64 z) by simp [zCells, List.map_set]]
  exact h1
theorem OwnZ.at {w : World} {base g k0 : Nat} {l : List Int} (h : OwnZ w base (some ⟨g, 0, none⟩) k0 l) {i : Nat} {z : Int} (hz : l[i]? = some z) : w.cell? ⟨g, i, none⟩ = some (.int .i64 z) ∧ w.frozen? ⟨g, i, none⟩ = false := by
  have hi : i < l.length := (List.getElem?_eq_some_iff.1 hz).1
  refine ⟨?_, World.ownsRow.frozenAt h i⟩
  rw [World.ownsRow.cellAt h i (by omega)]
  exact zCells_at hz
theorem OwnZ.lt {w : World} {base g k0 : Nat} {l : List Int} (h : OwnZ w base (some ⟨g, 0, none⟩) k0 l) : g < w.heap.size := by
  rcases h.2 with ⟨h', _⟩ | ⟨g', _, _, h', _, hg, _⟩
  · simp at h'
  · injection h' with e1; injection e1 with e1; injection e1 with e1; subst e1
    exact (Array.getElem?_eq_some_iff.1 hg).1
theorem OwnZ.zs {w : World} {base : Nat} {a0 : Option Addr} {k0 : Nat} {l : List Int} (h : OwnZ w base a0 k0 l) : Ins w a0 l := by
  rcases h.2 with ⟨h1, h2⟩ | ⟨g, cap, cur, h1, h2, h3, h4⟩
  · exact .inl (List.eq_nil_of_length_eq_zero h2)
  · injection h1 with e1 e2 e3
    subst e1
    subst e3
    refine .inr ⟨g, 0, rfl, (Array.getElem?_eq_some_iff.1 h3).1, fun i z hz => ?_⟩
    rw [Nat.zero_add]
    exact (OwnZ.at h hz).1
theorem OwnZ.here {w : World} {base : Nat} {a0 : Option Addr} {k0 : Nat} {l : List Int} (h : OwnZ w base a0 k0 l) : l = [] ∨ ∃ g, a0 = some ⟨g, 0, none⟩ ∧ base ≤ g ∧ g < w.heap.size ∧ ∀ i z, l[i]? = some z → w.cell? ⟨g, i, none⟩ = some (.int .i64 z) := by
  rcases h.2 with ⟨h1, h2⟩ | ⟨g, cap, cur, h1, h2, h3, h4⟩
  · exact .inl (List.eq_nil_of_length_eq_zero h2)
  · injection h1 with e1 e2 e3
    subst e1
    subst e3
    exact .inr ⟨g, rfl, h2, (Array.getElem?_eq_some_iff.1 h3).1, fun i z hz => (OwnZ.at h hz).1⟩
/-- Another block's turn leaves a list as it lay. -/
theorem OwnZ.by {w w' : World} {base g k0 : Nat} {l : List Int} {row : Option Nat} (h : OwnZ w base (some ⟨g, 0, none⟩) k0 l) (hg : w.grownBy w' row) (hne : some g ≠ row) : OwnZ w' base (some ⟨g, 0, none⟩) k0 l := World.ownsRow.kept h hg (.inr hne)
/-- append of one integer onto a list of the call's own. -/
theorem wpList_append_z {w : World} {ops : Array Oper} {rest : List Oper} {o : Oper} {a : Act} {Q : Exit → Act → World → Prop} (hgd : o.guard = none) (s x : Operand)
    (ho : o.op = .call { callee := .builtin .append, args := #[s, x], argTypes := #[42, 42] })
    (base : Nat) (a0 : Option Addr) (k0 : Nat) (xs : List Int) (hs : a.eval s = .slice a0 xs.length k0) (hown : OwnZ w base a0 k0 xs)
    (b c : Nat) (z : Int) (hx : a.eval x = .slice (some ⟨b, 0, none⟩) 1 c) (hz : w.cell? ⟨b, 0, none⟩ = some (.int .i64 z))
    (hmax : xs.length ≤ 100000) (hbase : base ≤ w.heap.size)
    (h : ∀ a2 k2 w', OwnZ w' base a2 k2 (xs ++ [z]) → w.grownBy w' (Value.slice a0 xs.length k0).ownBlock → w.drawn ≤ w'.drawn → wpList Try.prog ops Q rest (a.put o.dst (.slice a2 (xs ++ [z]).length k2)) w') :
    wpList Try.prog ops Q (o :: rest) a w := by
  obtain ⟨i0, hi, hz0, hz1, hz2⟩ := info_parts info_z
  refine wpList_append_behind hgd s x 42 ho base 3 i0 (.int .i64 0) 1 8 Try.underlying42 hi hz0 hz1 hz2 rfl (by decide) _ _ (zCells xs) hs hown ⟨b, 0, none⟩ 1 c [.int .i64 z] hx rfl ?_ (fun u hu => zCells_one (l := [z]) hu) (by unfold maxLen; omega) (by omega) hbase fun v' w' hown' hgrow _ hdr => ?_
  · intro j u hj
    match j, hj with
    | 0, hj => simp at hj; subst hj; simpa [Addr.add] using hz
  · obtain ⟨a2, k2, rfl⟩ := ownsRow_slice hown'
    rw [show xs.length + 1 = (xs ++ [z]).length by simp, show zCells xs ++ [.int .i64 z] = zCells (xs ++ [z]) by simp [zCells]] at hown'
    rw [show xs.length + 1 = (xs ++ [z]).length by simp]
    exact h a2 k2 w' hown' hgrow hdr
/-- What Columns returns. -/
def ListZ (r : List Int × Int) (w : World) (e : Ending) (w' : World) : Prop := (∃ (a2 : Option Addr) (k2 : Nat), e = .returned (.tuple #[.slice a2 r.1.length k2, .int .i64 r.2]) ∧ OwnZ w' w.heap.size a2 k2 r.1) ∧ Grew w w'

end Go.Proofs.Ytkglnnkghillpaa

/- Layer 3: a new list of zeros. No condition. -/

namespace Go.Proofs.Ytkglnnkghillpaa
open Go Go.RowKit Amp Msh

theorem made_zeros (n : Nat) : (madeCells (Value.int .i64 0).cells (n * 1)).toList = zCells (List.replicate n 0) := by
  apply List.ext_getElem
  · simp [zCells, madeCells]
  · intro i h1 h2
    simp [zCells, madeCells, Value.cells, Nat.mod_one]
/-- make of a list of n zeros. -/
theorem wpList_make_z {w : World} {ops : Array Oper} {rest : List Oper} {o : Oper} {a : Act} {Q : Exit → Act → World → Prop} (hgd : o.guard = none) (l c : Operand) (hop : o.op = Op.makeSlice 42 l c)
    (n : Nat) (L C : Int) (hl : a.eval l = .int .i64 L) (hc : a.eval c = .int .i64 C) (hL : L = n) (hC : C = n) (hn : n ≤ 100000)
    (hK : ∀ w', OwnZ w' w.heap.size (some ⟨w.heap.size, 0, none⟩) n (List.replicate n 0) → Grew w w' → w.heap.size < w'.heap.size → wpList Try.prog ops Q rest (a.put o.dst (.slice (some ⟨w.heap.size, 0, none⟩) n n)) w') :
    wpList Try.prog ops Q (o :: rest) a w := by
  obtain ⟨i0, hi, hz0, hz1, hz2⟩ := info_parts info_z
  subst hL
  subst hC
  refine wpList_plain hgd fun K hK' => ?_
  have hr := run_make (P := Try.prog) w 42 3 i0 (.int .i64 0) Try.underlying42 hi hz0 .i64 .i64 n n (by omega) (Int.le_refl _) (by rw [hz2]; omega) (by omega)
  rw [hz1, Int.toNat_natCast] at hr
  unfold Oper.wp
  simp [execOp, hop, hl, hc, hr, Result.andThen]
  refine hK' _ _ (hK _ ?_ ((Grew.refl w).alloc _) (by simp))
  unfold OwnZ
  have h1 := World.ownsRow_lit (base := w.heap.size) (e := 3) (size := 1) w (madeCells (Value.int .i64 0).cells (n * 1)) n (Nat.le_refl _) (by unfold maxLen; omega) (size_madeCells _ _)
  rw [List.length_replicate, ← made_zeros]
  simp only [Nat.mul_one] at h1 ⊢
  exact h1

end Go.Proofs.Ytkglnnkghillpaa
