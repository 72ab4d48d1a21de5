/- Layer 3, plainly: the sizes of cells, the flat items of a netlist. No condition. -/
import Derived.Test.YtkglnnkghillpaaNetD
import Derived.Test.YtkglnnkghillpaaMshEnv
namespace Go.Proofs.Ytkglnnkghillpaa
open Go Go.RowKit Msh

theorem nmO_snoc {s : ByteArray} {c : Cl} : ∀ (C : List Cl) (o : Nat), C.find? (hasN c.name) = none → nmO s o (C ++ [c]) = if s = c.name then ((o + C.length : Nat) : Int) else nmO s o C
  | [], o, _ => by
    show (if hasN s c = true then (o : Int) else -1) = if s = c.name then ((o + 0 : Nat) : Int) else -1
    unfold hasN
    by_cases h : s = c.name
    · rw [if_pos h, decide_eq_true h.symm, if_pos rfl, Nat.add_zero]
    · rw [if_neg h, decide_eq_false (fun e => h e.symm), if_neg Bool.false_ne_true]
  | d :: C, o, hf => by
    rw [List.find?_cons] at hf
    have hdc : ¬ d.name = c.name := fun e => by rw [show hasN c.name d = true by unfold hasN; exact decide_eq_true e] at hf; cases hf
    rw [show hasN c.name d = false by unfold hasN; exact decide_eq_false hdc] at hf
    show (if hasN s d = true then (o : Int) else nmO s (o + 1) (C ++ [c])) = if s = c.name then ((o + (C.length + 1) : Nat) : Int) else (if hasN s d = true then (o : Int) else nmO s (o + 1) C)
    rw [nmO_snoc C (o + 1) hf]
    by_cases hs : s = c.name
    · rw [if_pos hs, if_pos hs, show hasN s d = false by unfold hasN; exact decide_eq_false (fun e => hdc (e.trans hs)), if_neg Bool.false_ne_true]
      congr 1
      omega
    · rw [if_neg hs, if_neg hs]
/-- The place of the cell that an item names. -/
def jx (L : List Cl) (x : It) : Nat := (nmO x.name 0 L).toNat
theorem nmO_ge {q : ByteArray} : ∀ (C : List Cl) (o : Nat), -1 ≤ nmO q o C
  | [], _ => by unfold nmO; omega
  | c :: t, o => by
    unfold nmO
    split
    · omega
    · exact nmO_ge t (o + 1)
theorem nmO_find_app {q : ByteArray} : ∀ (A B : List Cl) (o : Nat) (c : Cl), A.find? (hasN q) = some c → nmO q o (A ++ B) = nmO q o A
  | [], B, o, c, h => by simp at h
  | d :: t, B, o, c, h => by
    rw [List.find?_cons] at h
    show (if hasN q d = true then (o : Int) else nmO q (o + 1) (t ++ B)) = if hasN q d = true then (o : Int) else nmO q (o + 1) t
    by_cases hd : hasN q d = true
    · rw [if_pos hd, if_pos hd]
    · rw [if_neg hd, if_neg hd]
      rw [show hasN q d = false by simpa using hd] at h
      exact nmO_find_app t B (o + 1) c h
/-- In a valid netlist an item names a cell before. -/
theorem cell_ix {L : List Cl} (hv : vnet L = true) {i : Nat} {c : Cl} (hc : L[i]? = some c) {x : It} (hx : x ∈ c.items) (h4 : x.kind = 4) : jx L x < i ∧ nmO x.name 0 L = jx L x ∧ jx L x < L.length := by
  obtain ⟨_, _, _, _, h5⟩ := vcell_iff.1 ((vnet_all hv).2 i c hc)
  have hi := (List.getElem?_eq_some_iff.1 hc).1
  unfold okEs at h5
  rw [List.all_eq_true] at h5
  have h6 := h5 x hx
  unfold okE wdE at h6
  rw [if_pos h4] at h6
  have hne : (L.take i).find? (hasN x.name) ≠ none := fun hn => by
    have hg : gdF (L.take i) x.name = 0 := by unfold gdF; rw [hn]
    rw [hg] at h6
    simp at h6
  cases hf : (L.take i).find? (hasN x.name) with
  | none => exact absurd hf hne
  | some d =>
    have h7 := nmO_find_app (L.take i) (L.drop i) 0 d hf
    rw [List.take_append_drop] at h7
    rcases nmO_find (q := x.name) (L.take i) 0 with ⟨h8, _⟩ | ⟨e, j, _, h9, h10⟩
    · exact absurd h8 hne
    · have hj := (List.getElem?_eq_some_iff.1 h10).1
      rw [List.length_take] at hj
      have hJ : jx L x = j := by unfold jx; rw [h7, h9]; omega
      refine ⟨by omega, by rw [hJ, h7, h9]; omega, by omega⟩
/-- How many flat items an item stands for, where cells have theirs by S. -/
def nOf (L : List Cl) (S : List Int) (x : It) : Int := if x.kind = 4 then S.getD (jx L x) 0 else 1
/-- The sizes of the cells, at most 5001: the program's way. -/
def addP (L : List Cl) (S : List Int) (s : Int) (x : It) : Int := min (s + nOf L S x) 5001
def szP (L : List Cl) (S : List Int) : List Cl → List Int
  | [] => S
  | c :: t => szP L (S ++ [c.items.foldl (addP L S) 0]) t
/-- The sizes of the cells, at most 2 to the power of 40: the reference's way. -/
def addR (L : List Cl) (S : List Int) (s : Int) (x : It) : Int := s + nOf L S x
def szR (L : List Cl) (S : List Int) : List Cl → List Int
  | [] => S
  | c :: t => szR L (S ++ [min (c.items.foldl (addR L S) 0) 1099511627776]) t
def cut (s : Int) : Int := min s 5001
theorem fold_cut {L : List Cl} {S T : List Int} (h : ∀ x : It, 0 ≤ nOf L T x ∧ nOf L S x = cut (nOf L T x)) : ∀ (l : List It) (s t : Int), s = cut t → 0 ≤ t → l.foldl (addP L S) s = cut (l.foldl (addR L T) t) ∧ 0 ≤ l.foldl (addR L T) t
  | [], s, t, h1, h2 => ⟨h1, h2⟩
  | x :: l, s, t, h1, h2 => by
    obtain ⟨h3, h4⟩ := h x
    refine fold_cut h l _ _ ?_ ?_
    · show min (s + nOf L S x) 5001 = cut (t + nOf L T x)
      rw [h1, h4]
      unfold cut
      omega
    · show 0 ≤ t + nOf L T x
      omega
theorem nOf_cut {L : List Cl} {S T : List Int} (h : S = T.map cut) (h0 : ∀ t ∈ T, 0 ≤ t) (x : It) : 0 ≤ nOf L T x ∧ nOf L S x = cut (nOf L T x) := by
  unfold nOf
  by_cases h4 : x.kind = 4
  · rw [if_pos h4, if_pos h4, h, List.getD_eq_getElem?_getD, List.getD_eq_getElem?_getD, List.getElem?_map]
    cases ht : T[jx L x]? with
    | none => exact ⟨by simp, by show (0 : Int) = min 0 5001; omega⟩
    | some t => exact ⟨by simpa using h0 t (List.mem_of_getElem? ht), rfl⟩
  · rw [if_neg h4, if_neg h4]
    exact ⟨by omega, rfl⟩
theorem sz_cut {L : List Cl} : ∀ (t : List Cl) (S T : List Int), S = T.map cut → (∀ s ∈ T, 0 ≤ s) → szP L S t = (szR L T t).map cut ∧ ∀ s ∈ szR L T t, 0 ≤ s
  | [], S, T, h, h0 => ⟨h, h0⟩
  | c :: t, S, T, h, h0 => by
    obtain ⟨h1, h2⟩ := fold_cut (L := L) (nOf_cut h h0) c.items 0 0 rfl (Int.le_refl 0)
    refine sz_cut t _ _ ?_ ?_
    · rw [List.map_append, h1, h]
      congr 1
      show [cut _] = [cut (min _ 1099511627776)]
      congr 1
      unfold cut
      omega
    · intro s hs
      rcases List.mem_append.1 hs with hs | hs
      · exact h0 s hs
      · rw [List.mem_singleton] at hs
        subst hs
        omega
theorem szP_length (L : List Cl) : ∀ (t : List Cl) (S : List Int), (szP L S t).length = S.length + t.length
  | [], S => rfl
  | c :: t, S => by
    show (szP L (S ++ [_]) t).length = _
    rw [szP_length L t, List.length_append, List.length_cons]
    simp
    omega
theorem szP_step {L : List Cl} {i : Nat} {c : Cl} (h : L[i]? = some c) (S : List Int) : szP L S (L.drop i) = szP L (S ++ [c.items.foldl (addP L S) 0]) (L.drop (i + 1)) := by
  obtain ⟨hlt, rfl⟩ := List.getElem?_eq_some_iff.1 h
  rw [List.drop_eq_getElem_cons hlt]
  rfl
theorem szR_step {L : List Cl} {i : Nat} {c : Cl} (h : L[i]? = some c) (S : List Int) : szR L S (L.drop i) = szR L (S ++ [min (c.items.foldl (addR L S) 0) 1099511627776]) (L.drop (i + 1)) := by
  obtain ⟨hlt, rfl⟩ := List.getElem?_eq_some_iff.1 h
  rw [List.drop_eq_getElem_cons hlt]
  rfl
/-- The flat items of a cell, moved; p: which cells have some. -/
def flI (p : Nat → Bool) (L : List Cl) (rec : Nat → Int → List It) (by_ : Int) (x : It) : List It :=
  if x.kind = 4 then (if p (jx L x) = true then rec (jx L x) (wrap64 (wrap64 (x.pos + by_) - 1)) else []) else [⟨x.kind, wrap64 (x.pos + by_), x.n, x.name⟩]
def fl (p : Nat → Bool) (L : List Cl) : Nat → Nat → Int → List It
  | 0, _, _ => []
  | f + 1, i, b => match L[i]? with | none => [] | some c => c.items.flatMap (flI p L (fl p L f) b)
/-- The flat items of the circuit, or the error. -/
def flatN (L : List Cl) : List It × Int := if vnet L = true then (if (szP L [] L).getLast?.getD 0 > 5000 then ([], 4) else (fl (fun j => decide (0 < (szP L [] L).getD j 0)) L L.length (L.length - 1) 0, 0)) else ([], 30)
end Go.Proofs.Ytkglnnkghillpaa

/- Layer 3, plainly: how many flat items there are. No condition. -/

namespace Go.Proofs.Ytkglnnkghillpaa
open Go Go.RowKit Msh

theorem szP_pre (L : List Cl) : ∀ (t : List Cl) (S : List Int), (szP L S t).take S.length = S
  | [], S => List.take_length
  | c :: t, S => by
    have h := szP_pre L t (S ++ [c.items.foldl (addP L S) 0])
    show (szP L (S ++ [c.items.foldl (addP L S) 0]) t).take S.length = S
    have h2 := congrArg (List.take S.length) h
    rw [List.take_take, List.length_append, Nat.min_eq_left (by simp)] at h2
    rw [h2]
    simp
theorem szP_at {L : List Cl} : ∀ i, i ≤ L.length → szP L [] L = szP L ((szP L [] L).take i) (L.drop i) ∧ ((szP L [] L).take i).length = i
  | 0, _ => by simp
  | i + 1, hi => by
    obtain ⟨h1, h2⟩ := szP_at (L := L) i (by omega)
    obtain ⟨c, hc⟩ : ∃ c, L[i]? = some c := ⟨L[i], List.getElem?_eq_getElem hi⟩
    rw [szP_step hc] at h1
    have h3 := szP_pre L (L.drop (i + 1)) ((szP L [] L).take i ++ [c.items.foldl (addP L ((szP L [] L).take i)) 0])
    rw [← h1, List.length_append, h2] at h3
    have h4 : (szP L [] L).take (i + 1) = (szP L [] L).take i ++ [c.items.foldl (addP L ((szP L [] L).take i)) 0] := h3
    refine ⟨by rw [h4]; exact h1, by rw [h4, List.length_append, h2]; rfl⟩
theorem szP_get {L : List Cl} {i : Nat} {c : Cl} (hc : L[i]? = some c) : (szP L [] L)[i]? = some (c.items.foldl (addP L ((szP L [] L).take i)) 0) := by
  have hi := (List.getElem?_eq_some_iff.1 hc).1
  obtain ⟨h1, h2⟩ := szP_at (L := L) i (by omega)
  rw [szP_step hc] at h1
  have h3 := szP_pre L (L.drop (i + 1)) ((szP L [] L).take i ++ [c.items.foldl (addP L ((szP L [] L).take i)) 0])
  rw [← h1, List.length_append, h2] at h3
  have h4 : (szP L [] L).take (i + 1) = (szP L [] L).take i ++ [c.items.foldl (addP L ((szP L [] L).take i)) 0] := h3
  have h5 : ((szP L [] L).take (i + 1))[i]? = (szP L [] L)[i]? := by rw [List.getElem?_take, if_pos (by omega)]
  rw [← h5, h4, List.getElem?_append_right (by omega), h2, Nat.sub_self]
  rfl
theorem foldl_mem {α β : Type} {f g : α → β → α} : ∀ (l : List β) (s : α), (∀ s, ∀ x ∈ l, f s x = g s x) → l.foldl f s = l.foldl g s
  | [], _, _ => rfl
  | x :: l, s, h => by
    show l.foldl f (f s x) = l.foldl g (g s x)
    rw [h s x List.mem_cons_self]
    exact foldl_mem l _ fun s y hy => h s y (List.mem_cons_of_mem _ hy)
theorem szP_val {L : List Cl} (hv : vnet L = true) {i : Nat} {c : Cl} (hc : L[i]? = some c) : (szP L [] L)[i]? = some (c.items.foldl (addP L (szP L [] L)) 0) := by
  rw [szP_get hc]
  congr 1
  refine foldl_mem _ _ fun s x hx => ?_
  unfold addP nOf
  by_cases h4 : x.kind = 4
  · rw [if_pos h4, if_pos h4]
    have hj := (cell_ix hv hc hx h4).1
    rw [List.getD_eq_getElem?_getD, List.getD_eq_getElem?_getD, List.getElem?_take, if_pos hj]
  · rw [if_neg h4, if_neg h4]
theorem addP_ge {L : List Cl} {S : List Int} (h0 : ∀ x : It, 0 ≤ nOf L S x) : ∀ (l : List It) (s : Int), s ≤ 5001 → s ≤ l.foldl (addP L S) s
  | [], s, _ => Int.le_refl s
  | x :: l, s, hs => by
    have h1 := h0 x
    have h2 := addP_ge h0 l (addP L S s x) (by unfold addP; omega)
    show s ≤ l.foldl (addP L S) (addP L S s x)
    have h3 : s ≤ addP L S s x := by unfold addP; omega
    omega
theorem flat_len {L : List Cl} {S : List Int} {g : It → List It} (h0 : ∀ x : It, 0 ≤ nOf L S x) : ∀ (l : List It) (s : Int), (∀ x ∈ l, nOf L S x ≤ 5000 → ((g x).length : Int) ≤ nOf L S x) → 0 ≤ s → l.foldl (addP L S) s ≤ 5000 → s + (l.flatMap g).length ≤ l.foldl (addP L S) s
  | [], s, _, _, _ => by simp
  | x :: l, s, hg, hs, h => by
    have h1 := h0 x
    have h' : l.foldl (addP L S) (addP L S s x) ≤ 5000 := h
    show s + ((x :: l).flatMap g).length ≤ l.foldl (addP L S) (addP L S s x)
    have h2 := addP_ge h0 l (addP L S s x) (by unfold addP; omega)
    have h3 : addP L S s x = s + nOf L S x := by
      have : addP L S s x ≤ 5000 := by omega
      unfold addP at *
      omega
    have h4 := flat_len h0 l (addP L S s x) (fun y hy => hg y (List.mem_cons_of_mem _ hy)) (by omega) h'
    have h5 := hg x List.mem_cons_self (by omega)
    rw [List.flatMap_cons, List.length_append]
    omega
theorem szP_pos {L : List Cl} : ∀ t ∈ szP L [] L, 0 ≤ t := by
  obtain ⟨h1, h2⟩ := sz_cut (L := L) L [] [] rfl (fun s hs => absurd hs List.not_mem_nil)
  intro t ht
  rw [h1] at ht
  obtain ⟨u, hu, rfl⟩ := List.mem_map.1 ht
  have := h2 u hu
  unfold cut
  omega
theorem nOf_pos {L : List Cl} (x : It) : 0 ≤ nOf L (szP L [] L) x := by
  unfold nOf
  by_cases h4 : x.kind = 4
  · rw [if_pos h4, List.getD_eq_getElem?_getD]
    cases hj : (szP L [] L)[jx L x]? with
    | none => simp
    | some t => simpa using szP_pos t (List.mem_of_getElem? hj)
  · rw [if_neg h4]; omega
theorem fl_len {L : List Cl} (hv : vnet L = true) (p : Nat → Bool) : ∀ (f i : Nat) (b v : Int), (szP L [] L)[i]? = some v → v ≤ 5000 → ((fl p L f i b).length : Int) ≤ v
  | 0, i, b, v, h, hv5 => by
    show ((0 : Nat) : Int) ≤ v
    have := szP_pos v (List.mem_of_getElem? h)
    omega
  | f + 1, i, b, v, h, hv5 => by
    have h0 := szP_pos v (List.mem_of_getElem? h)
    cases hc : L[i]? with
    | none =>
      have e : fl p L (f + 1) i b = [] := by show (match L[i]? with | none => [] | some c => c.items.flatMap (flI p L (fl p L f) b)) = []; rw [hc]
      rw [e]
      simpa using h0
    | some c =>
      have e : fl p L (f + 1) i b = c.items.flatMap (flI p L (fl p L f) b) := by show (match L[i]? with | none => [] | some c => c.items.flatMap (flI p L (fl p L f) b)) = _; rw [hc]
      rw [e]
      rw [szP_val hv hc] at h
      obtain rfl := Option.some.inj h
      have := flat_len (L := L) (S := szP L [] L) (g := flI p L (fl p L f) b) nOf_pos c.items 0 (fun x hx hn => ?_) (Int.le_refl 0) hv5
      · omega
      · unfold flI nOf at *
        by_cases h4 : x.kind = 4
        · rw [if_pos h4] at hn ⊢
          rw [if_pos h4]
          split
          · have hj := (cell_ix hv hc hx h4).2.2
            obtain ⟨u, hu⟩ : ∃ u, (szP L [] L)[jx L x]? = some u := by
              have hl := szP_length L L []
              exact ⟨(szP L [] L)[jx L x]'(by rw [hl]; simpa using hj), List.getElem?_eq_getElem _⟩
            rw [List.getD_eq_getElem?_getD, hu] at hn ⊢
            exact fl_len hv p f _ _ u hu hn
          · rw [List.getD_eq_getElem?_getD]
            cases hj : (szP L [] L)[jx L x]? with
            | none => simp
            | some t => simpa using szP_pos t (List.mem_of_getElem? hj)
        · rw [if_neg h4, if_neg h4]
          simp
end Go.Proofs.Ytkglnnkghillpaa

/- Layer 3, plainly: how often each cell of a netlist occurs; the program's way and the reference's. No condition. -/

namespace Go.Proofs.Ytkglnnkghillpaa
open Go Go.RowKit Msh

def usrP (L : List Cl) (i : Nat) (S : List Int) (x : It) : List Int := if x.kind = 4 then S.set (jx L x) (min (S.getD (jx L x) 0 + S.getD i 0) 1000000000001) else S
def usrR (L : List Cl) (i : Nat) (S : List Int) (x : It) : List Int := if x.kind = 4 then S.set (jx L x) (S.getD (jx L x) 0 + S.getD i 0) else S
/-- The items of the cell with an index. -/
def itsAt (L : List Cl) (i : Nat) : List It := match L[i]? with | none => [] | some c => c.items
theorem itsAt_some {L : List Cl} {i : Nat} {c : Cl} (h : L[i]? = some c) : itsAt L i = c.items := by unfold itsAt; rw [h]
/-- The program's way: the cells below k are still to come. -/
def usP (L : List Cl) : Nat → List Int → List Int
  | 0, S => S
  | i + 1, S => usP L i ((itsAt L i).foldl (usrP L i) S)
/-- The reference's way. -/
def usR (L : List Cl) : Nat → List Int → Option (List Int)
  | 0, S => some S
  | i + 1, S => if 1000000000000 < S.getD i 0 then none else usR L i ((itsAt L i).foldl (usrR L i) S)
def us0 (n : Nat) : List Int := (List.replicate n 0).set (n - 1) 1
def mxL (S : List Int) : Int := S.foldl max (S.getD 0 0)
def usesN (L : List Cl) : List Int × Int := if vnet L = true then (if 1000000000000 < mxL (usP L L.length (us0 L.length)) then ([], 4) else (usP L L.length (us0 L.length), 0)) else ([], 30)
def cutU (s : Int) : Int := min s 1000000000001
theorem getD_set (S : List Int) (j : Nat) (v : Int) (k : Nat) : (S.set j v).getD k 0 = if j = k ∧ k < S.length then v else S.getD k 0 := by
  rw [List.getD_eq_getElem?_getD, List.getD_eq_getElem?_getD, List.getElem?_set]
  by_cases h : j = k
  · subst h
    rw [if_pos rfl]
    by_cases h2 : j < S.length
    · rw [if_pos h2, if_pos ⟨rfl, h2⟩]; rfl
    · rw [if_neg h2, if_neg (fun h => h2 h.2), List.getElem?_eq_none (by omega)]
  · rw [if_neg h, if_neg (fun h2 => h h2.1)]
theorem usrP_length (L : List Cl) (i : Nat) (S : List Int) (x : It) : (usrP L i S x).length = S.length := by unfold usrP; split <;> simp
theorem usrR_length (L : List Cl) (i : Nat) (S : List Int) (x : It) : (usrR L i S x).length = S.length := by unfold usrR; split <;> simp
theorem foldP_length (L : List Cl) (i : Nat) : ∀ (l : List It) (S : List Int), (l.foldl (usrP L i) S).length = S.length
  | [], _ => rfl
  | x :: l, S => (foldP_length L i l _).trans (usrP_length L i S x)
theorem foldR_length (L : List Cl) (i : Nat) : ∀ (l : List It) (S : List Int), (l.foldl (usrR L i) S).length = S.length
  | [], _ => rfl
  | x :: l, S => (foldR_length L i l _).trans (usrR_length L i S x)
theorem usP_length (L : List Cl) : ∀ (k : Nat) (S : List Int), (usP L k S).length = S.length
  | 0, _ => rfl
  | k + 1, S => (usP_length L k _).trans (foldP_length L k _ S)
/-- What one cell's items leave as it was: all from the cell's own place on. -/
theorem foldP_kept {L : List Cl} {i : Nat} : ∀ (l : List It) (S : List Int), (∀ x ∈ l, x.kind = 4 → jx L x < i) → ∀ j, i ≤ j → (l.foldl (usrP L i) S).getD j 0 = S.getD j 0
  | [], _, _, _, _ => rfl
  | x :: l, S, h, j, hj => by
    show (l.foldl (usrP L i) (usrP L i S x)).getD j 0 = _
    rw [foldP_kept l _ (fun y hy => h y (List.mem_cons_of_mem _ hy)) j hj]
    unfold usrP
    by_cases h4 : x.kind = 4
    · have := h x List.mem_cons_self h4
      rw [if_pos h4, getD_set, if_neg (by omega)]
    · rw [if_neg h4]
theorem foldR_kept {L : List Cl} {i : Nat} : ∀ (l : List It) (S : List Int), (∀ x ∈ l, x.kind = 4 → jx L x < i) → ∀ j, i ≤ j → (l.foldl (usrR L i) S).getD j 0 = S.getD j 0
  | [], _, _, _, _ => rfl
  | x :: l, S, h, j, hj => by
    show (l.foldl (usrR L i) (usrR L i S x)).getD j 0 = _
    rw [foldR_kept l _ (fun y hy => h y (List.mem_cons_of_mem _ hy)) j hj]
    unfold usrR
    by_cases h4 : x.kind = 4
    · have := h x List.mem_cons_self h4
      rw [if_pos h4, getD_set, if_neg (by omega)]
    · rw [if_neg h4]
theorem itsAt_ix {L : List Cl} (hv : vnet L = true) {i : Nat} : ∀ x ∈ itsAt L i, x.kind = 4 → jx L x < i := by
  intro x hx h4
  cases hc : L[i]? with
  | none => unfold itsAt at hx; rw [hc] at hx; exact absurd hx List.not_mem_nil
  | some c => rw [itsAt_some hc] at hx; exact (cell_ix hv hc hx h4).1
theorem usP_kept {L : List Cl} (hv : vnet L = true) : ∀ (k : Nat) (S : List Int) (j : Nat), k ≤ j + 1 → (usP L k S).getD j 0 = S.getD j 0
  | 0, _, _, _ => rfl
  | k + 1, S, j, hj => by
    show (usP L k _).getD j 0 = _
    rw [usP_kept hv k _ j (by omega), foldP_kept _ S (itsAt_ix hv) j (by omega)]
theorem map_cutU {S T : List Int} (h : S = T.map cutU) (j : Nat) : S.getD j 0 = cutU (T.getD j 0) := by
  rw [h, List.getD_eq_getElem?_getD, List.getD_eq_getElem?_getD, List.getElem?_map]
  cases T[j]? <;> rfl
theorem map_set_cutU (T : List Int) (j : Nat) (v : Int) : (T.map cutU).set j (cutU v) = (T.set j v).map cutU := (List.map_set).symm
theorem fold_cutU {L : List Cl} {i : Nat} : ∀ (l : List It) (S T : List Int), (∀ x ∈ l, x.kind = 4 → jx L x < i) → S = T.map cutU → (∀ t ∈ T, 0 ≤ t) → T.getD i 0 ≤ 1000000000000 →
    l.foldl (usrP L i) S = (l.foldl (usrR L i) T).map cutU ∧ ∀ t ∈ l.foldl (usrR L i) T, 0 ≤ t
  | [], S, T, _, h, h0, _ => ⟨h, h0⟩
  | x :: l, S, T, hx, h, h0, hi => by
    have hp : ∀ j, 0 ≤ T.getD j 0 := fun j => by
      rw [List.getD_eq_getElem?_getD]
      cases hj : T[j]? with
      | none => simp
      | some t => simpa using h0 t (List.mem_of_getElem? hj)
    refine fold_cutU l _ _ (fun y hy => hx y (List.mem_cons_of_mem _ hy)) ?_ ?_ ?_
    · unfold usrP usrR
      by_cases h4 : x.kind = 4
      · rw [if_pos h4, if_pos h4, map_cutU h, map_cutU h, ← map_set_cutU, ← h]
        congr 1
        have h1 := hp (jx L x)
        have h2 := hp i
        generalize T.getD (jx L x) 0 = a at *
        generalize T.getD i 0 = b at *
        unfold cutU
        omega
      · rw [if_neg h4, if_neg h4, h]
    · intro t ht
      unfold usrR at ht
      split at ht
      · rcases List.mem_or_eq_of_mem_set ht with ht | rfl
        · exact h0 t ht
        · have h1 := hp (jx L x)
          have h2 := hp i
          omega
      · exact h0 t ht
    · unfold usrR
      by_cases h4 : x.kind = 4
      · have := hx x List.mem_cons_self h4
        rw [if_pos h4, getD_set, if_neg (by omega)]
        exact hi
      · rw [if_neg h4]
        exact hi
theorem us_same {L : List Cl} (hv : vnet L = true) : ∀ (k : Nat) (S T : List Int), S = T.map cutU → (∀ t ∈ T, 0 ≤ t) → (∀ j, k ≤ j → T.getD j 0 ≤ 1000000000000) →
    match usR L k T with
    | some U => usP L k S = U ∧ ∀ j, U.getD j 0 ≤ 1000000000000
    | none => ∃ j, 1000000000000 < (usP L k S).getD j 0
  | 0, S, T, h, h0, hk => by
    show S = T ∧ ∀ j, T.getD j 0 ≤ 1000000000000
    refine ⟨?_, fun j => hk j (Nat.zero_le _)⟩
    rw [h]
    refine List.ext_getElem? fun j => ?_
    rw [List.getElem?_map]
    cases hj : T[j]? with
    | none => rfl
    | some t =>
      have h1 := hk j (Nat.zero_le _)
      rw [List.getD_eq_getElem?_getD, hj] at h1
      have h2 : t ≤ 1000000000000 := h1
      show some (cutU t) = some t
      congr 1
      unfold cutU
      omega
  | i + 1, S, T, h, h0, hk => by
    by_cases hb : 1000000000000 < T.getD i 0
    · have e : usR L (i + 1) T = none := by unfold usR; rw [if_pos hb]
      rw [e]
      refine ⟨i, ?_⟩
      rw [usP_kept hv (i + 1) S i (Nat.le_refl _), map_cutU h]
      unfold cutU
      omega
    · have e : usR L (i + 1) T = usR L i ((itsAt L i).foldl (usrR L i) T) := by conv => lhs; unfold usR; rw [if_neg hb]
      rw [e]
      obtain ⟨h1, h2⟩ := fold_cutU (itsAt L i) S T (itsAt_ix hv) h h0 (by omega)
      refine us_same hv i _ _ h1 h2 fun j hj => ?_
      rw [foldR_kept _ T (itsAt_ix hv) j hj]
      by_cases hji : j = i
      · subst hji; omega
      · exact hk j (by omega)
theorem mx_ge : ∀ (S : List Int) (m : Int), m ≤ S.foldl max m ∧ ∀ s ∈ S, s ≤ S.foldl max m
  | [], m => ⟨Int.le_refl m, fun _ h => absurd h List.not_mem_nil⟩
  | x :: S, m => by
    obtain ⟨h1, h2⟩ := mx_ge S (max m x)
    refine ⟨by show m ≤ S.foldl max (max m x); omega, fun s hs => ?_⟩
    show s ≤ S.foldl max (max m x)
    rcases List.mem_cons.1 hs with rfl | hs
    · omega
    · exact h2 s hs
theorem mx_le : ∀ (S : List Int) (m b : Int), m ≤ b → (∀ s ∈ S, s ≤ b) → S.foldl max m ≤ b
  | [], _, _, h, _ => h
  | x :: S, m, b, h, hs => mx_le S (max m x) b (by have := hs x List.mem_cons_self; omega) fun s h => hs s (List.mem_cons_of_mem _ h)
theorem getD_le {S : List Int} {b : Int} (h0 : 0 ≤ b) : (∀ j, S.getD j 0 ≤ b) ↔ ∀ s ∈ S, s ≤ b := by
  refine ⟨fun h s hs => ?_, fun h j => ?_⟩
  · obtain ⟨j, hj⟩ := List.getElem?_of_mem hs
    have := h j
    rw [List.getD_eq_getElem?_getD, hj] at this
    exact this
  · rw [List.getD_eq_getElem?_getD]
    cases hj : S[j]? with
    | none => exact h0
    | some s => exact h s (List.mem_of_getElem? hj)
theorem us0_map (n : Nat) : us0 n = (us0 n).map cutU := by
  unfold us0
  have h := map_set_cutU (List.replicate n 0) (n - 1) 1
  rw [List.map_replicate] at h
  exact h
/-- The reference's answer is the program's. -/
theorem usesN_ref {L : List Cl} (hv : vnet L = true) : usesN L = match usR L L.length (us0 L.length) with | some U => (U, 0) | none => ([], 4) := by
  have h0 : ∀ t ∈ us0 L.length, (0 : Int) ≤ t ∧ t ≤ 1 := by
    intro t ht
    unfold us0 at ht
    rcases List.mem_or_eq_of_mem_set ht with ht | rfl
    · rw [(List.mem_replicate.1 ht).2]; decide
    · decide
  have h := us_same hv L.length (us0 L.length) (us0 L.length) (us0_map _) (fun t ht => (h0 t ht).1) (fun j _ => (getD_le (by decide)).2 (fun s hs => by have := (h0 s hs).2; omega) j)
  unfold usesN
  rw [if_pos hv]
  cases hu : usR L L.length (us0 L.length) with
  | some U =>
    rw [hu] at h
    obtain ⟨h1, h2⟩ := h
    rw [h1]
    have h3 : mxL U ≤ 1000000000000 := mx_le U _ _ (h2 0) ((getD_le (by decide)).1 h2)
    rw [if_neg (by omega)]
  | none =>
    rw [hu] at h
    obtain ⟨j, hj⟩ := h
    rw [if_pos]
    rw [List.getD_eq_getElem?_getD] at hj
    cases hs : (usP L L.length (us0 L.length))[j]? with
    | none => rw [hs] at hj; exact absurd hj (by decide)
    | some s =>
      rw [hs] at hj
      have h4 : 1000000000000 < s := hj
      have h5 := (mx_ge (usP L L.length (us0 L.length)) ((usP L L.length (us0 L.length)).getD 0 0)).2 s (List.mem_of_getElem? hs)
      unfold mxL
      omega
end Go.Proofs.Ytkglnnkghillpaa
