/- Layer 9, in main's ghost: the greatest of numbers. Condition: they lie in memory, none is below 0. -/
import Derived.Test.YtnceajabigdleaaDoorPtQ96
namespace Go.Proofs.Qm
open Go Go.Pt Go.RowKit Prb
def grL (cs : List Int) : Int := cs.foldl max 0
open Go Go.Pt Go.RowKit Prb
def bstI (g : Nat → Int) : Nat → Int × Int
  | 0 => (0, 0)
  | k + 1 => if k = 0 ∨ g k < (bstI g k).2 then ((k : Int), g k) else bstI g k
def wrst (n : Int) (m : Nat) (L : List Nat) (z : Tq) : Int := grL (cntL m (fun s => refA n (thB s z.b) z.t.i.toNat) L)
def gOf (n : Int) (m : Nat) (L : List Nat) (l : List Tq) (i : Nat) : Int := match l[i]? with | some z => wrst n m L z | none => 0
theorem cnt_pos (n : Nat) (f : Nat → Nat) (l : List Nat) : ∀ c ∈ cntL n f l, 0 ≤ c := fun c hc => by
  obtain ⟨i, hi, rfl⟩ := List.mem_iff_getElem.1 hc
  have := (cntL_le n f l i).1
  rwa [List.getD_eq_getElem?_getD, List.getElem?_eq_getElem hi] at this
open Go Go.Pt Go.RowKit Prb
open Go Go.Pt Go.RowKit Prb
end Go.Proofs.Qm
