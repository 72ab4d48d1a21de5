/- Layer 3, plainly: flat items and which of them are valid. No condition. -/
namespace Msh

/-- An item: its kind, its first guide, its eighths of a turn, the name of a cell. -/
structure It where
  kind : Int
  pos : Int
  n : Int
  name : ByteArray

/-- How many guides a flat item has; 0: it is none. -/
def wid (kind n : Int) (name : ByteArray) : Int := if name.toList = [] then (if kind = 1 ∧ 1 ≤ n ∧ n ≤ 7 then 1 else if (kind = 2 ∨ kind = 3) ∧ n = 0 then 2 else 0) else 0
theorem wid_cases (kind n : Int) (name : ByteArray) : wid kind n name = 0 ∨ wid kind n name = 1 ∨ wid kind n name = 2 := by
  unfold wid
  split
  · split
    · exact .inr (.inl rfl)
    · split
      · exact .inr (.inr rfl)
      · exact .inl rfl
  · exact .inl rfl
def okIt (g : Int) (x : It) : Bool := decide (wid x.kind x.n x.name ≠ 0) && decide (1 ≤ x.pos ∧ x.pos ≤ g - wid x.kind x.n x.name + 1)
def okIts (g : Int) (l : List It) : Bool := l.all (okIt g)
def vldIts (g : Int) (l : List It) : Bool := decide (1 ≤ g ∧ g ≤ 6) && decide (l.length ≤ 5000) && okIts g l
theorem okIts_step {g : Int} {l : List It} {i : Nat} {z : It} (h : l[i]? = some z) (hz : okIt g z = true) (hp : okIts g (l.take i) = true) : okIts g (l.take (i + 1)) = true := by
  unfold okIts at *
  rw [List.take_add_one, h, List.all_append, hp]
  simp [hz]
theorem okIts_at {g : Int} {l : List It} {i : Nat} {z : It} (h : l[i]? = some z) (hp : okIts g l = true) : okIt g z = true := by
  unfold okIts at hp
  rw [List.all_eq_true] at hp
  exact hp z (List.mem_of_getElem? h)
theorem okIts_cut {g : Int} {l : List It} {i : Nat} {z : It} (h : l[i]? = some z) (hz : okIt g z = false) : okIts g l = false := by
  unfold okIts
  rw [List.all_eq_false]
  exact ⟨z, List.mem_of_getElem? h, by simp [hz]⟩
/-- The error of flat items. -/
def chkIts (g : Int) (l : List It) : Int := if 1 ≤ g ∧ g ≤ 6 then (if vldIts g l = true then 0 else 31) else 2
end Msh
