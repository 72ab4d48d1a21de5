/- Layer 3, plainly: the matrix of the items of a cell, where cells by their names have theirs; the matrix of a netlist. No condition. -/
import Derived.Laws.Strings
import Derived.Test.YtkglnnkghillpaaMshMat
import Derived.Test.YtkglnnkghillpaaMshNet
namespace Msh
open Amp

/-- What a cell with a name has: its guides and its matrix. -/
abbrev Env := ByteArray → Option (Nat × List Num)
def itemM (E : Env) (x : It) : Nat × List Num := if x.kind = 4 then (E x.name).getD (0, []) else (ownW x.kind, ownM x.kind x.n)
def stepE (E : Env) (n : Nat) (x : It) (l : List Num) : List Num × Int := mulM n (placeN n x.pos.toNat (itemM E x).1 (itemM E x).2) l
/-- The matrix of the items of a cell, from a matrix on; or the first error. -/
def itsE (E : Env) (n : Nat) : List It → List Num → List Num × Int
  | [], l => (l, 0)
  | x :: t, l => if (stepE E n x l).2 = 0 then itsE E n t (stepE E n x l).1 else ([], (stepE E n x l).2)
theorem itsE_step {E : Env} {n : Nat} {L : List It} {i : Nat} {x : It} {l : List Num} (h : L[i]? = some x) (he : (stepE E n x l).2 = 0) : itsE E n (L.drop i) l = itsE E n (L.drop (i + 1)) (stepE E n x l).1 := by
  obtain ⟨hi, rfl⟩ := List.getElem?_eq_some_iff.1 h
  rw [List.drop_eq_getElem_cons hi]
  simp only [itsE]
  rw [if_pos he]
theorem itsE_stop {E : Env} {n : Nat} {L : List It} {i : Nat} {x : It} {l : List Num} (h : L[i]? = some x) (he : (stepE E n x l).2 ≠ 0) : itsE E n (L.drop i) l = ([], (stepE E n x l).2) := by
  obtain ⟨hi, rfl⟩ := List.getElem?_eq_some_iff.1 h
  rw [List.drop_eq_getElem_cons hi]
  simp only [itsE]
  rw [if_neg he]
/-- The environment fits the guides F. -/
def EnvOk (F : ByteArray → Int) (E : Env) : Prop := ∀ s, match E s with
  | none => F s = 0
  | some p => F s = p.1 ∧ 1 ≤ p.1 ∧ p.1 ≤ 6 ∧ VldL p.2 ∧ p.2.length = p.1 * p.1 ∧ s.toList ≠ []
theorem okEs_at {F : ByteArray → Int} {g : Int} {l : List It} {i : Nat} {z : It} (h : l[i]? = some z) (hp : okEs F g l = true) : okE F g z = true := by
  unfold okEs at hp
  rw [List.all_eq_true] at hp
  exact hp z (List.mem_of_getElem? h)
theorem item_ok {F : ByteArray → Int} {E : Env} (hE : EnvOk F E) {n : Nat} {x : It} (h : okE F n x = true) {m : Nat} {lm : List Num} (hm : itemM E x = (m, lm)) :
    (1 ≤ x.pos ∧ x.pos + (m : Int) ≤ n + 1 ∧ 1 ≤ m) ∧ (VldL lm ∧ lm.length = m * m) ∧ ((x.kind = 4 ∧ E x.name = some (m, lm)) ∨ (x.kind ≠ 4 ∧ E x.name = none ∧ wid x.kind x.n x.name ≠ 0 ∧ ownW x.kind = m ∧ ownM x.kind x.n = lm)) := by
  by_cases h4 : x.kind = 4
  · unfold okE wdE at h
    rw [if_pos h4] at h
    unfold itemM at hm
    rw [if_pos h4] at hm
    have he := hE x.name
    cases hx : E x.name with
    | none =>
      rw [hx] at he
      dsimp only at he
      rw [he] at h
      simp at h
    | some p =>
      rw [hx] at he hm
      dsimp only at he
      obtain rfl : p = (m, lm) := hm
      obtain ⟨e1, e2, e3, e4, e5, _⟩ := he
      dsimp only at e1 e2 e3 e4 e5
      rw [e1] at h
      by_cases hn : x.n = 0
      · rw [if_pos hn] at h
        simp only [Bool.and_eq_true, decide_eq_true_eq] at h
        exact ⟨⟨h.2.1, by omega, e2⟩, ⟨e4, e5⟩, .inl ⟨h4, rfl⟩⟩
      · rw [if_neg hn] at h
        simp at h
  · unfold okE wdE at h
    rw [if_neg h4] at h
    unfold itemM at hm
    rw [if_neg h4] at hm
    obtain ⟨rfl, rfl⟩ : ownW x.kind = m ∧ ownM x.kind x.n = lm := ⟨congrArg Prod.fst hm, congrArg Prod.snd hm⟩
    have hok : okIt n x = true := h
    obtain ⟨o1, o2, o3, o4, o5, o6⟩ := okIt_iff hok
    refine ⟨⟨o3, o4, by unfold ownW; split <;> omega⟩, ⟨ownM_valid _ _, ownM_length _ _⟩, .inr ⟨h4, ?_, o1, rfl, rfl⟩⟩
    cases hx : E x.name with
    | none => rfl
    | some p =>
      have he := hE x.name
      rw [hx] at he
      exact absurd o6 he.2.2.2.2.2
/-- The matrices of the cells before, by the cells' names. -/
def envF : List Cl → List (List Num) → Env
  | c :: C, M :: Ms => fun s => if c.name = s then some (c.gd.toNat, M) else envF C Ms s
  | _, _ => fun _ => none
/-- The matrices of a netlist's cells, or the first error. -/
def netM (C : List Cl) (Ms : List (List Num)) : List Cl → List (List Num) × Int
  | [] => (Ms, 0)
  | c :: t => if (itsE (envF C Ms) c.gd.toNat c.items (idN c.gd.toNat)).2 = 0 then netM (C ++ [c]) (Ms ++ [(itsE (envF C Ms) c.gd.toNat c.items (idN c.gd.toNat)).1]) t else ([], (itsE (envF C Ms) c.gd.toNat c.items (idN c.gd.toNat)).2)
theorem netM_step {L : List Cl} {i : Nat} {c : Cl} {Ms : List (List Num)} (h : L[i]? = some c) : netM (L.take i) Ms (L.drop i) = if (itsE (envF (L.take i) Ms) c.gd.toNat c.items (idN c.gd.toNat)).2 = 0 then netM (L.take (i + 1)) (Ms ++ [(itsE (envF (L.take i) Ms) c.gd.toNat c.items (idN c.gd.toNat)).1]) (L.drop (i + 1)) else ([], (itsE (envF (L.take i) Ms) c.gd.toNat c.items (idN c.gd.toNat)).2) := by
  obtain ⟨hlt, rfl⟩ := List.getElem?_eq_some_iff.1 h
  rw [List.drop_eq_getElem_cons hlt, List.take_add_one, List.getElem?_eq_getElem hlt]
  rfl
/-- The matrix of a netlist's circuit: its guides, its numbers, the error. -/
def matNet (L : List Cl) : Int × List Num × Int := if vnet L = true then (if (netM [] [] L).2 = 0 then ((L.getLast?.map Cl.gd).getD 0, (netM [] [] L).1.getLast?.getD [], 0) else (0, [], (netM [] [] L).2)) else (0, [], 30)
theorem envF_find : ∀ {C : List Cl} {Ms : List (List Num)}, C.length = Ms.length → ∀ s, (C.find? (hasN s) = none ∧ envF C Ms s = none) ∨ ∃ (j : Nat) (c : Cl) (M : List Num), C.find? (hasN s) = some c ∧ C[j]? = some c ∧ Ms[j]? = some M ∧ c.name = s ∧ envF C Ms s = some (c.gd.toNat, M)
  | [], [], _, s => .inl ⟨rfl, rfl⟩
  | c :: C, M :: Ms, h, s => by
    rw [List.find?_cons]
    show (_ ∧ (if c.name = s then some (c.gd.toNat, M) else envF C Ms s) = none) ∨ ∃ (j : Nat) (d : Cl) (N : List Num), _ ∧ _ ∧ _ ∧ _ ∧ (if c.name = s then some (c.gd.toNat, M) else envF C Ms s) = some (d.gd.toNat, N)
    by_cases hc : c.name = s
    · rw [show hasN s c = true by unfold hasN; exact decide_eq_true hc, if_pos hc]
      exact .inr ⟨0, c, M, rfl, rfl, rfl, hc, rfl⟩
    · rw [show hasN s c = false by unfold hasN; exact decide_eq_false hc, if_neg hc]
      rcases envF_find (C := C) (Ms := Ms) (by simpa using h) s with h1 | ⟨j, d, N, h1, h2, h3, h4, h5⟩
      · exact .inl h1
      · exact .inr ⟨j + 1, d, N, h1, by simpa using h2, by simpa using h3, h4, h5⟩
theorem envF_snoc : ∀ {C : List Cl} {Ms : List (List Num)} {c : Cl} {M : List Num}, C.length = Ms.length → C.find? (hasN c.name) = none → ∀ s, envF (C ++ [c]) (Ms ++ [M]) s = if s = c.name then some (c.gd.toNat, M) else envF C Ms s
  | [], [], c, M, _, _, s => by
    show (if c.name = s then some (c.gd.toNat, M) else none) = if s = c.name then some (c.gd.toNat, M) else none
    by_cases h : c.name = s
    · rw [if_pos h, if_pos h.symm]
    · rw [if_neg h, if_neg fun e => h e.symm]
  | d :: C, N :: Ms, c, M, hl, hf, s => by
    show (if d.name = s then some (d.gd.toNat, N) else envF (C ++ [c]) (Ms ++ [M]) s) = if s = c.name then some (c.gd.toNat, M) else (if d.name = s then some (d.gd.toNat, N) else envF C Ms s)
    rw [List.find?_cons] at hf
    have hdc : ¬ d.name = c.name := fun e => by rw [show hasN c.name d = true by unfold hasN; exact decide_eq_true e] at hf; cases hf
    rw [show hasN c.name d = false by unfold hasN; exact decide_eq_false hdc] at hf
    rw [envF_snoc (by simpa using hl) hf s]
    by_cases hs : s = c.name
    · rw [if_pos hs, if_pos hs, if_neg fun e => hdc (e.trans hs)]
    · rw [if_neg hs, if_neg hs]
/-- The matrices fit the cells. -/
def MsOk (C : List Cl) (Ms : List (List Num)) : Prop := C.length = Ms.length ∧ ∀ (j : Nat) (c : Cl) (M : List Num), C[j]? = some c → Ms[j]? = some M → (1 ≤ c.gd ∧ c.gd ≤ 6) ∧ VldL M ∧ M.length = c.gd.toNat * c.gd.toNat ∧ nameB c.name = true
theorem nameB_ne {s : ByteArray} (h : nameB s = true) : s.toList ≠ [] := by
  intro e
  unfold nameB at h
  rw [Bool.and_eq_true, decide_eq_true_eq] at h
  have h1 : s.data.toList = [] := by rwa [Go.ByteArray.toList_eq] at e
  have h2 : s.size = 0 := by
    show s.data.size = 0
    rw [← Array.length_toList, h1]
    rfl
  omega
theorem envOk {C : List Cl} {Ms : List (List Num)} (h : MsOk C Ms) : EnvOk (gdF C) (envF C Ms) := by
  intro s
  rcases envF_find h.1 s with ⟨h1, h2⟩ | ⟨j, c, M, h1, h2, h3, h4, h5⟩
  · rw [h2]
    unfold gdF
    rw [h1]
  · rw [h5]
    obtain ⟨g1, g2, g3, g4⟩ := h.2 j c M h2 h3
    unfold gdF
    rw [h1]
    refine ⟨?_, ?_, ?_, g2, g3, by rw [← h4]; exact nameB_ne g4⟩
    · dsimp only; omega
    · dsimp only; omega
    · dsimp only; omega
theorem MsOk.snoc {C : List Cl} {Ms : List (List Num)} {c : Cl} {M : List Num} (h : MsOk C Ms) (hg : 1 ≤ c.gd ∧ c.gd ≤ 6) (hv : VldL M) (hl : M.length = c.gd.toNat * c.gd.toNat) (hn : nameB c.name = true) : MsOk (C ++ [c]) (Ms ++ [M]) := by
  refine ⟨by rw [List.length_append, List.length_append, h.1]; rfl, fun j d N hd hN => ?_⟩
  by_cases hj : j < C.length
  · rw [List.getElem?_append_left hj] at hd
    rw [List.getElem?_append_left (by rw [← h.1]; exact hj)] at hN
    exact h.2 j d N hd hN
  · rw [List.getElem?_append_right (by omega)] at hd
    rw [List.getElem?_append_right (by rw [← h.1]; omega)] at hN
    have hj0 : j - C.length = 0 := by
      have := (List.getElem?_eq_some_iff.1 hd).1
      simp at this
      omega
    rw [hj0] at hd
    rw [← h.1, hj0] at hN
    simp at hd hN
    subst hd
    subst hN
    exact ⟨hg, hv, hl, hn⟩
end Msh
