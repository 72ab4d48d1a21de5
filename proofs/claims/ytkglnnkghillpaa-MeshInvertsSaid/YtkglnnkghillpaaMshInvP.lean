/- Layer 3, plainly: the inverse of a list of items. No condition. -/
import Derived.Test.YtkglnnkghillpaaMshMat
import Derived.RowKit
namespace Go.Proofs.Ytkglnnkghillpaa
open Go Go.RowKit Amp Msh
/-- The items from the last one on, with their places: the first k of them. -/
def bk (l : List It) (k : Nat) : List (Int × It) := (List.range k).map fun j => (((l.length - 1 - j : Nat) : Int), (l[l.length - 1 - j]?).getD ⟨0, 0, 0, ⟨#[]⟩⟩)
theorem bk_length (l : List It) (k : Nat) : (bk l k).length = k := by simp [bk]
theorem bk_succ {l : List It} {k : Nat} {z : It} (h : l[l.length - 1 - k]? = some z) : bk l (k + 1) = bk l k ++ [(((l.length - 1 - k : Nat) : Int), z)] := by
  simp [bk, List.range_succ, h]
theorem bk_snd (l : List It) : (bk l l.length).map Prod.snd = l.reverse := by
  apply List.ext_getElem
  · simp [bk]
  · intro i h1 h2
    have h3 : i < l.length := by simpa [bk] using h1
    have h4 : l.length - 1 - i < l.length := by omega
    simp [bk, List.getElem_reverse, h4]
/-- What stands for an item in the inverse. -/
def halfOf (x : It) : It := ⟨1, x.pos, 4, ⟨#[]⟩⟩
def invItem (x : It) : List It := if x.kind = 1 then [⟨x.kind, x.pos, wrap64 (8 - x.n), x.name⟩] else if x.kind = 2 then [halfOf x, x, halfOf x] else [x]
def outB (l : List (Int × It)) : List It := l.flatMap fun x => invItem x.2
theorem outB_snoc (l : List (Int × It)) (x : Int × It) : outB (l ++ [x]) = outB l ++ invItem x.2 := by simp [outB]
theorem invItem_length (x : It) : (invItem x).length ≤ 3 := by
  unfold invItem
  split
  · simp
  · split <;> simp
theorem outB_length : ∀ l : List (Int × It), (outB l).length ≤ 3 * l.length
  | [] => by simp [outB]
  | x :: t => by
    have h1 := outB_length t
    have h2 := invItem_length x.2
    simp only [outB, List.flatMap_cons, List.length_append, List.length_cons] at *
    omega
/-- The inverse of a list. -/
def invL (l : List It) : List It := l.reverse.flatMap invItem
theorem outB_bk (l : List It) : outB (bk l l.length) = invL l := by
  unfold outB invL
  rw [← bk_snd, List.flatMap_map]
theorem invL_length (l : List It) : (invL l).length ≤ 3 * l.length := by
  rw [← outB_bk]
  have := outB_length (bk l l.length)
  rwa [bk_length] at this
end Go.Proofs.Ytkglnnkghillpaa
