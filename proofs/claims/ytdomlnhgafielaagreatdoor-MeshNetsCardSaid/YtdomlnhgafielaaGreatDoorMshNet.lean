/- Layer 3, plainly: netlists and which of them are valid. No condition. -/
import Derived.Test.YtdomlnhgafielaaGreatDoorMshPlain
namespace Msh

/-- A cell: its name, how many guides it has, its items. -/
structure Cl where
  name : ByteArray
  gd : Int
  items : List It
def letB (c : UInt8) : Bool := decide (97 ≤ c.toNat) && decide (c.toNat ≤ 122)
def nameB (s : ByteArray) : Bool := decide (1 ≤ s.size ∧ s.size ≤ 8) && s.data.toList.all letB
def hasN (s : ByteArray) (c : Cl) : Bool := decide (c.name = s)
/-- How many guides the cell with a name has; 0: there is none. -/
def gdF (C : List Cl) (s : ByteArray) : Int := match C.find? (hasN s) with | some c => c.gd | none => 0
/-- How many guides an item has, where cells have theirs by F. -/
def wdE (F : ByteArray → Int) (x : It) : Int := if x.kind = 4 then (if x.n = 0 then F x.name else 0) else wid x.kind x.n x.name
def okE (F : ByteArray → Int) (g : Int) (x : It) : Bool := decide (wdE F x ≠ 0) && decide (1 ≤ x.pos ∧ x.pos ≤ g - wdE F x + 1)
def okEs (F : ByteArray → Int) (g : Int) (l : List It) : Bool := l.all (okE F g)
def vcell (C : List Cl) (c : Cl) : Bool := nameB c.name && (C.find? (hasN c.name)).isNone && decide (1 ≤ c.gd ∧ c.gd ≤ 6) && decide (c.items.length ≤ 200) && okEs (gdF C) c.gd c.items
def vfrom (C : List Cl) : List Cl → Bool
  | [] => true
  | c :: t => vcell C c && vfrom (C ++ [c]) t
def vnet (L : List Cl) : Bool := decide (1 ≤ L.length ∧ L.length ≤ 20) && vfrom [] L
theorem vfrom_step {L : List Cl} {i : Nat} {c : Cl} (h : L[i]? = some c) : vfrom (L.take i) (L.drop i) = (vcell (L.take i) c && vfrom (L.take (i + 1)) (L.drop (i + 1))) := by
  obtain ⟨hlt, rfl⟩ := List.getElem?_eq_some_iff.1 h
  rw [List.drop_eq_getElem_cons hlt, List.take_add_one, List.getElem?_eq_getElem hlt]
  rfl
theorem okEs_step {F : ByteArray → Int} {g : Int} {l : List It} {i : Nat} {z : It} (h : l[i]? = some z) (hz : okE F g z = true) (hp : okEs F g (l.take i) = true) : okEs F g (l.take (i + 1)) = true := by
  unfold okEs at *
  rw [List.take_add_one, h, List.all_append, hp]
  simp [hz]
theorem okEs_cut {F : ByteArray → Int} {g : Int} {l : List It} {i : Nat} {z : It} (h : l[i]? = some z) (hz : okE F g z = false) : okEs F g l = false := by
  unfold okEs
  rw [List.all_eq_false]
  exact ⟨z, List.mem_of_getElem? h, by rw [hz]; exact Bool.false_ne_true⟩
/-- The guides of cells are from 1 to 6. -/
def Gds (C : List Cl) : Prop := ∀ c ∈ C, 1 ≤ c.gd ∧ c.gd ≤ 6
theorem gdF_range {C : List Cl} (h : Gds C) (s : ByteArray) : 0 ≤ gdF C s ∧ gdF C s ≤ 6 := by
  unfold gdF
  cases hc : C.find? (hasN s) with
  | none => simp
  | some c =>
    have := h c (List.mem_of_find?_eq_some hc)
    dsimp only
    omega
theorem wdE_range {F : ByteArray → Int} (hF : ∀ s, 0 ≤ F s ∧ F s ≤ 6) (x : It) : 0 ≤ wdE F x ∧ wdE F x ≤ 6 := by
  unfold wdE
  split
  · split
    · exact hF _
    · omega
  · rcases wid_cases x.kind x.n x.name with h | h | h <;> omega
theorem vcell_iff {C : List Cl} {c : Cl} : vcell C c = true ↔ nameB c.name = true ∧ C.find? (hasN c.name) = none ∧ (1 ≤ c.gd ∧ c.gd ≤ 6) ∧ c.items.length ≤ 200 ∧ okEs (gdF C) c.gd c.items = true := by
  unfold vcell
  simp only [Bool.and_eq_true, decide_eq_true_eq, Option.isNone_iff_eq_none]
  constructor
  · rintro ⟨⟨⟨⟨h1, h2⟩, h3⟩, h4⟩, h5⟩
    exact ⟨h1, h2, h3, h4, h5⟩
  · rintro ⟨h1, h2, h3, h4, h5⟩
    exact ⟨⟨⟨⟨h1, h2⟩, h3⟩, h4⟩, h5⟩
theorem find_snoc {C : List Cl} {c : Cl} (hn : C.find? (hasN c.name) = none) (s : ByteArray) : (C ++ [c]).find? (hasN s) = if s = c.name then some c else C.find? (hasN s) := by
  rw [List.find?_append]
  by_cases h : s = c.name
  · subst h
    rw [if_pos rfl, hn]
    simp [hasN]
  · rw [if_neg h]
    have : [c].find? (hasN s) = none := by
      simp [hasN]
      exact fun e => h e.symm
    rw [this, Option.or_none]
/-- What is known of a valid netlist's cells. -/
theorem vfrom_all : ∀ {T C : List Cl}, vfrom C T = true → ∀ (i : Nat) (c : Cl), T[i]? = some c → vcell (C ++ T.take i) c = true
  | [], _, _, i, c, h => by simp at h
  | d :: t, C, hv, i, c, h => by
    unfold vfrom at hv
    rw [Bool.and_eq_true] at hv
    cases i with
    | zero =>
      simp at h
      subst h
      rw [List.take_zero, List.append_nil]
      exact hv.1
    | succ i =>
      have := vfrom_all hv.2 i c (by simpa using h)
      rw [List.append_assoc] at this
      exact this
theorem vnet_all {L : List Cl} (h : vnet L = true) : (1 ≤ L.length ∧ L.length ≤ 20) ∧ ∀ (i : Nat) (c : Cl), L[i]? = some c → vcell (L.take i) c = true := by
  unfold vnet at h
  rw [Bool.and_eq_true, decide_eq_true_eq] at h
  exact ⟨h.1, fun i c hc => by simpa using vfrom_all h.2 i c hc⟩
end Msh
