/- Layer 9, in main's ghost: lists of states: valid ones, and their sets. Condition: the numbers lie in memory. -/
import Derived.Test.YtnceajabigdleaaDoorPtQ3
import Derived.Test.YtnceajabigdleaaDoorPtQ6
import Derived.Calls
import Derived.Test.YtnceajabigdleaaDoorPtS12
namespace Go.Proofs.Qm
open Go Go.Pt Go.RowKit Prb
def NsA (w : World) (a : Option Addr) (l : List Int) : Prop := ∀ i x, l[i]? = some x → ∃ b off : Nat, a = some ⟨b, off, none⟩ ∧ b < w.heap.size ∧ w.cell? ⟨b, off + i, none⟩ = some (.int .i64 x)
theorem NsA.grew {w w' : World} {a : Option Addr} {l : List Int} (h : NsA w a l) (hg : Grew w w') : NsA w' a l := fun i x hx => by
  obtain ⟨b, off, rfl, hb, hc⟩ := h i x hx
  exact ⟨b, off, rfl, Nat.lt_of_lt_of_le hb hg.size, (hg.cell hb _).trans hc⟩
theorem NsA.below {w w' : World} {a : Option Addr} {l : List Int} (h : NsA w a l) (hg : Below w.heap.size w w') : NsA w' a l := fun i x hx => by
  obtain ⟨b, off, rfl, hb, hc⟩ := h i x hx
  refine ⟨b, off, rfl, Nat.lt_of_lt_of_le hb hg.size, ?_⟩
  simp only [World.cell?] at hc ⊢
  rw [hg.block b hb]
  exact hc
def okFrom (N : Int) : Int → List Int → Bool
  | _, [] => true
  | lo, x :: r => (decide (lo ≤ x) && decide (x ≤ N - 1)) && okFrom N (x + 1) r
def loAt (l : List Int) (i : Nat) : Int := if i = 0 then 0 else l.getD (i - 1) 0 + 1
theorem loAt_succ {l : List Int} {i : Nat} {x : Int} (h : l[i]? = some x) : loAt l (i + 1) = x + 1 := by simp [loAt, List.getD, h]
theorem okFrom_at {N : Int} {l : List Int} {i : Nat} {x : Int} (h : l[i]? = some x) : okFrom N (loAt l i) (l.drop i) = ((decide (loAt l i ≤ x) && decide (x ≤ N - 1)) && okFrom N (loAt l (i + 1)) (l.drop (i + 1))) := by
  have hi := (List.getElem?_eq_some_iff.1 h).1
  rw [List.drop_eq_getElem_cons hi, (List.getElem?_eq_some_iff.1 h).2, loAt_succ h]
  rfl
structure Gone (N : Int) (l : List Int) (i : Nat) : Prop where
  ok : okFrom N 0 l = okFrom N (loAt l i) (l.drop i)
  lo : 0 ≤ loAt l i
  hi : loAt l i ≤ N
  asc : Asc ((l.take i).map Int.toNat)
  lt : ∀ y ∈ (l.take i).map Int.toNat, (y : Int) < loAt l i
theorem Gone.zero {N : Int} (hN : 0 ≤ N) (l : List Int) : Gone N l 0 := ⟨rfl, Int.le_refl _, hN, trivial, fun y h => by simp at h⟩
theorem Gone.next {N : Int} {l : List Int} {i : Nat} {x : Int} (h : Gone N l i) (hx : l[i]? = some x) (h1 : loAt l i ≤ x) (h2 : x ≤ N - 1) : Gone N l (i + 1) := by
  have hlo := h.lo
  have e : (l.take (i + 1)).map Int.toNat = (l.take i).map Int.toNat ++ [x.toNat] := by rw [List.take_add_one, hx]; simp
  refine ⟨by rw [h.ok, okFrom_at hx, decide_eq_true h1, decide_eq_true h2]; rfl, by rw [loAt_succ hx]; omega, by rw [loAt_succ hx]; omega, ?_, ?_⟩
  · rw [e]
    exact asc_snoc h.asc fun y hy => by have := h.lt y hy; omega
  · rw [e, loAt_succ hx]
    intro y hy
    rcases List.mem_append.1 hy with hy | hy
    · have := h.lt y hy; omega
    · obtain rfl := List.mem_singleton.1 hy; omega
theorem Gone.set {N : Int} {l : List Int} {i X : Nat} {x : Int} (h : Gone N l i) (hx : l[i]? = some x) (h1 : loAt l i ≤ x) (hX : x = X) (hlt : X < 64) : bits .or .u64 (setS ((l.take i).map Int.toNat) : Int) ((2 ^ X : Nat) : Int) = (setS ((l.take (i + 1)).map Int.toNat) : Nat) := by
  have e : (l.take (i + 1)).map Int.toNat = (l.take i).map Int.toNat ++ [X] := by rw [List.take_add_one, hx]; simp [hX]
  rw [e]
  exact set_or h.asc (fun y hy => by have := h.lt y hy; omega) hlt
theorem Gone.bad {N : Int} {l : List Int} {i : Nat} {x : Int} (h : Gone N l i) (hx : l[i]? = some x) (h1 : ¬ (loAt l i ≤ x ∧ x ≤ N - 1)) : okFrom N 0 l = false := by
  rw [h.ok, okFrom_at hx]
  have : (decide (loAt l i ≤ x) && decide (x ≤ N - 1)) = false := by rw [Bool.eq_false_iff]; intro h; simp only [Bool.and_eq_true, decide_eq_true_eq] at h; exact h1 h
  rw [this]; rfl
theorem Gone.all {N : Int} {l : List Int} (h : Gone N l l.length) : okFrom N 0 l = true := by rw [h.ok, List.drop_length]; rfl
theorem pow_wrap {X : Nat} (h : X < 64) : IntKind.u64.wrap ((2 : Int) ^ X) = ((2 ^ X : Nat) : Int) := by
  have : (2 : Nat) ^ X < 2 ^ 64 := Nat.pow_lt_pow_right (by decide) h
  rw [show ((2 : Int) ^ X) = ((2 ^ X : Nat) : Int) by push_cast; rfl]
  exact u64_wrap (Int.natCast_nonneg _) (by exact_mod_cast this)
end Go.Proofs.Qm
namespace Prb
def bump (cs : List Int) (j : Nat) : List Int := cs.set j (cs.getD j 0 + 1)
def cntL (n : Nat) (f : Nat → Nat) (l : List Nat) : List Int := l.foldl (fun cs s => bump cs (f s)) (List.replicate n 0)
theorem cntL_snoc (n : Nat) (f : Nat → Nat) (l : List Nat) (x : Nat) : cntL n f (l ++ [x]) = bump (cntL n f l) (f x) := by simp [cntL, List.foldl_append]
end Prb
namespace Go.Proofs.Qm
open Go Go.Pt Go.RowKit Prb
open Go Go.Pt Go.RowKit Prb
theorem ranswer_any (n : Int) (N m s i b off cap : Nat) (l : List Bool) (w : World) (hn : (n = 2 ∧ N = 2 ∧ m = 2 ∧ l.length = 1) ∨ (n = 4 ∧ N = 64 ∧ m = 4 ∧ l.length = 6)) (hs : s < N) (hi : i < m) (hb : b < w.heap.size) (hc : BlsAt w b off l) :
    Calls prog 60 #[.int .i64 n, .int .i64 s, .slice (some ⟨b, off, none⟩) l.length cap, .int .i64 i] w fun e w' => e = .returned (.int .i64 (refA n (thB s l) i : Nat)) ∧ Grew w w' := by
  rcases hn with ⟨rfl, rfl, rfl, h4⟩ | ⟨rfl, rfl, rfl, h4⟩
  · exact ranswer2_any s i b off cap l w (by omega) h4 hi hb hc
  · exact ranswer4_any s i b off cap l w (by omega) h4 hi hb hc
theorem BlsAt.below {w w' : World} {b off : Nat} {l : List Bool} (h : BlsAt w b off l) (hb : b < w.heap.size) (hg : Below w.heap.size w w') : BlsAt w' b off l := fun i x hx => by
  have := h i x hx
  simp only [World.cell?] at this ⊢
  rw [hg.block b hb]
  exact this
theorem below_set {B b i : Nat} {w w' : World} {v : Value} (h : Below B w w') (hb : B ≤ b) : Below B w (w'.setCell ⟨b, i, none⟩ v) := by
  have g := grownBy_set w' b i v
  exact ⟨g.os.trans h.os, g.tape.trans h.tape, g.output.trans h.output, Nat.le_trans h.size g.size, fun k hk => (Below.heap_setCell _ _ _ k (by show k ≠ b; omega)).trans (h.block k hk)⟩
theorem below_grew {B : Nat} {w w' w'' : World} (h : Below B w w') (hg : Grew w' w'') (hB : B ≤ w'.heap.size) : Below B w w'' :=
  ⟨(hg.grownBy none).os.trans h.os, (hg.grownBy none).tape.trans h.tape, (hg.grownBy none).output.trans h.output, Nat.le_trans h.size hg.size, fun k hk => (hg.block k (by omega)).trans (h.block k hk)⟩
end Go.Proofs.Qm
