/- Layer 3, plainly: the columns of flat items; the last column on each guide says the same. No condition. -/
import Derived.Test.YtkglnnkghillpaaMshMat
namespace Msh
open Amp
def onB (x : It) (g : Int) : Bool := decide (x.pos ≤ g) && decide (g < x.pos + wid x.kind x.n x.name)
def touchB (x y : It) : Bool := [1, 2, 3, 4, 5, 6].any fun g : Int => onB x g && onB y g
def colOf (pre : List (It × Int)) (x : It) : Int := pre.foldl (fun m p => if touchB x p.1 = true then max m (p.2 + 1) else m) 1
def colP (l : List It) : List (It × Int) := l.foldl (fun acc x => acc ++ [(x, colOf acc x)]) []
def colL (l : List It) : List Int := (colP l).map Prod.snd
theorem colOf_snoc (pre : List (It × Int)) (p : It × Int) (x : It) : colOf (pre ++ [p]) x = if touchB x p.1 = true then max (colOf pre x) (p.2 + 1) else colOf pre x := by
  simp [colOf, List.foldl_append]
theorem colP_snoc (l : List It) (x : It) : colP (l ++ [x]) = colP l ++ [(x, colOf (colP l) x)] := by
  simp [colP, List.foldl_append]
theorem colL_snoc (l : List It) (x : It) : colL (l ++ [x]) = colL l ++ [colOf (colP l) x] := by
  simp [colL, colP_snoc]
theorem snoc_ind {α : Type} {P : List α → Prop} (h0 : P []) (h1 : ∀ l x, P l → P (l ++ [x])) (l : List α) : P l := by
  rw [← List.reverse_reverse l]
  induction l.reverse with
  | nil => exact h0
  | cons x t ih => rw [List.reverse_cons]; exact h1 _ x ih
theorem colP_fst (l : List It) : (colP l).map Prod.fst = l := by
  induction l using snoc_ind with
  | h0 => rfl
  | h1 l x ih => rw [colP_snoc, List.map_append, ih]; rfl
theorem colP_length (l : List It) : (colP l).length = l.length := by
  have := congrArg List.length (colP_fst l)
  rwa [List.length_map] at this
theorem colL_length (l : List It) : (colL l).length = l.length := by
  rw [colL, List.length_map, colP_length]
theorem colP_at {l : List It} {k : Nat} {y : It} {c : Int} (hy : l[k]? = some y) (hc : (colL l)[k]? = some c) : (colP l)[k]? = some (y, c) := by
  have h1 : ((colP l).map Prod.fst)[k]? = some y := by rw [colP_fst]; exact hy
  have h2 : ((colP l).map Prod.snd)[k]? = some c := hc
  rw [List.getElem?_map] at h1 h2
  cases hp : (colP l)[k]? with
  | none => rw [hp] at h1; cases h1
  | some p =>
    rw [hp] at h1 h2
    obtain ⟨a, b⟩ := p
    cases h1
    cases h2
    rfl
theorem colOf_bound (pre : List (It × Int)) (x : It) {B : Int} (hB : 0 ≤ B) (h : ∀ p ∈ pre, p.2 ≤ B) : 1 ≤ colOf pre x ∧ colOf pre x ≤ B + 1 := by
  induction pre using snoc_ind with
  | h0 => simp [colOf]; omega
  | h1 l p ih =>
    have h1 := ih fun q hq => h q (List.mem_append_left _ hq)
    have h2 := h p (List.mem_append_right _ List.mem_cons_self)
    rw [colOf_snoc]
    split <;> omega
theorem colP_bound (l : List It) : ∀ p ∈ colP l, 1 ≤ p.2 ∧ p.2 ≤ l.length := by
  induction l using snoc_ind with
  | h0 => intro p hp; cases hp
  | h1 l x ih =>
    intro p hp
    rw [colP_snoc] at hp
    rw [List.length_append]
    rcases List.mem_append.1 hp with hp | hp
    · have := ih p hp
      simp
      omega
    · rw [List.mem_singleton] at hp
      subst hp
      have := colOf_bound (colP l) x (B := l.length) (by omega) fun q hq => (ih q hq).2
      simp
      omega
theorem colL_bound {l : List It} {k : Nat} {c : Int} (h : (colL l)[k]? = some c) : 1 ≤ c ∧ c ≤ l.length := by
  have h1 := List.mem_of_getElem? h
  unfold colL at h1
  obtain ⟨p, hp, rfl⟩ := List.mem_map.1 h1
  exact colP_bound l p hp
/-- The last column on a guide. -/
def lastOf (pre : List (It × Int)) (g : Int) : Int := pre.foldl (fun m p => if onB p.1 g = true then max m p.2 else m) 0
theorem lastOf_snoc (pre : List (It × Int)) (p : It × Int) (g : Int) : lastOf (pre ++ [p]) g = if onB p.1 g = true then max (lastOf pre g) p.2 else lastOf pre g := by
  simp [lastOf, List.foldl_append]
theorem lastOf_bound (pre : List (It × Int)) (g : Int) {B : Int} (hB : 0 ≤ B) (h : ∀ p ∈ pre, p.2 ≤ B) : 0 ≤ lastOf pre g ∧ lastOf pre g ≤ B := by
  induction pre using snoc_ind with
  | h0 => simp [lastOf]; exact hB
  | h1 l p ih =>
    have h1 := ih fun q hq => h q (List.mem_append_left _ hq)
    have h2 := h p (List.mem_append_right _ List.mem_cons_self)
    rw [lastOf_snoc]
    split <;> omega
/-- The greatest last column on an item's guides. -/
def cmax (pre : List (It × Int)) (x : It) : Int := if x.kind = 1 then max 0 (lastOf pre x.pos) else max (max 0 (lastOf pre x.pos)) (lastOf pre (x.pos + 1))
theorem on_iff {g : Int} {x : It} (h : okIt g x = true) (q : Int) : onB x q = true ↔ (q = x.pos ∨ (x.kind ≠ 1 ∧ q = x.pos + 1)) := by
  obtain ⟨_, hk, _, _, hw, _⟩ := okIt_iff h
  unfold onB
  rw [hw, Bool.and_eq_true, decide_eq_true_eq, decide_eq_true_eq]
  unfold ownW
  split <;> omega
theorem touch_iff {g : Int} {x y : It} (h : okIt g x = true) (hg : g ≤ 6) : touchB x y = true ↔ (onB y x.pos = true ∨ (x.kind ≠ 1 ∧ onB y (x.pos + 1) = true)) := by
  obtain ⟨_, hk, hp, hq, _, _⟩ := okIt_iff h
  unfold touchB
  rw [List.any_eq_true]
  constructor
  · rintro ⟨q, _, hq⟩
    rw [Bool.and_eq_true, on_iff h] at hq
    rcases hq.1 with rfl | ⟨h1, rfl⟩
    · exact .inl hq.2
    · exact .inr ⟨h1, hq.2⟩
  · intro hh
    have hw : (1 : Int) ≤ ownW x.kind := by unfold ownW; split <;> omega
    rcases hh with hh | ⟨h1, hh⟩
    · refine ⟨x.pos, ?_, by rw [Bool.and_eq_true, on_iff h]; exact ⟨.inl rfl, hh⟩⟩
      simp only [List.mem_cons, List.not_mem_nil, or_false]
      omega
    · refine ⟨x.pos + 1, ?_, by rw [Bool.and_eq_true, on_iff h]; exact ⟨.inr ⟨h1, rfl⟩, hh⟩⟩
      have hw2 : ownW x.kind = 2 := by unfold ownW; rw [if_neg h1]
      rw [hw2] at hq
      simp only [List.mem_cons, List.not_mem_nil, or_false]
      omega
theorem col_last {g : Int} {x : It} (h : okIt g x = true) (hg : g ≤ 6) (pre : List (It × Int)) (hp : ∀ p ∈ pre, 0 ≤ p.2) : colOf pre x = cmax pre x + 1 := by
  induction pre using snoc_ind with
  | h0 => simp [colOf, cmax, lastOf]
  | h1 l p ih =>
    have h1 := ih fun q hq => hp q (List.mem_append_left _ hq)
    have h2 := hp p (List.mem_append_right _ List.mem_cons_self)
    rw [colOf_snoc, h1]
    unfold cmax
    rw [lastOf_snoc, lastOf_snoc]
    have ht := touch_iff (y := p.1) h hg
    by_cases hk : x.kind = 1
    · rw [if_pos hk, if_pos hk]
      by_cases ho : onB p.1 x.pos = true
      · rw [if_pos (ht.2 (.inl ho)), if_pos ho]; omega
      · rw [if_neg ho, if_neg (fun e => by rcases ht.1 e with e | e; exact ho e; exact e.1 hk)]
    · rw [if_neg hk, if_neg hk]
      by_cases ho : onB p.1 x.pos = true
      · rw [if_pos (ht.2 (.inl ho)), if_pos ho]
        split <;> omega
      · rw [if_neg ho]
        by_cases ho2 : onB p.1 (x.pos + 1) = true
        · rw [if_pos (ht.2 (.inr ⟨hk, ho2⟩)), if_pos ho2]; omega
        · rw [if_neg ho2, if_neg (fun e => by rcases ht.1 e with e | e; exact ho e; exact ho2 e.2)]
/-- The last columns on the guides 0 to n. -/
def lastL (n : Nat) (pre : List (It × Int)) : List Int := (List.range (n + 1)).map fun q : Nat => lastOf pre q
theorem lastL_length (n : Nat) (pre : List (It × Int)) : (lastL n pre).length = n + 1 := by simp [lastL]
theorem lastL_at {n q : Nat} (pre : List (It × Int)) (hq : q ≤ n) : (lastL n pre)[q]? = some (lastOf pre q) := by
  simp [lastL, List.getElem?_range (show q < n + 1 by omega)]
theorem lastL_nil (n : Nat) : lastL n [] = List.replicate (n + 1) 0 := by
  apply List.ext_getElem
  · simp [lastL]
  · intro i h1 h2
    simp [lastL, lastOf]
theorem lastL_step {n : Nat} {x : It} (h : okIt n x = true) (pre : List (It × Int)) :
    lastL n (pre ++ [(x, cmax pre x + 1)]) = if x.kind = 1 then (lastL n pre).set x.pos.toNat (cmax pre x + 1) else ((lastL n pre).set x.pos.toNat (cmax pre x + 1)).set (x.pos + 1).toNat (cmax pre x + 1) := by
  obtain ⟨_, hk, hp, hq, hw, _⟩ := okIt_iff h
  have hon := on_iff h
  apply List.ext_getElem
  · split <;> simp [lastL_length]
  · intro i h1 h2
    rw [lastL_length] at h1
    have e1 : (lastL n (pre ++ [(x, cmax pre x + 1)]))[i]'(by rw [lastL_length]; exact h1) = lastOf (pre ++ [(x, cmax pre x + 1)]) i := by simp [lastL]
    have e2 : ∀ hh, (lastL n pre)[i]'hh = lastOf pre i := fun hh => by simp [lastL]
    rw [e1, lastOf_snoc]
    dsimp only
    by_cases hk1 : x.kind = 1
    · simp only [if_pos hk1, List.getElem_set, e2]
      by_cases hi : x.pos.toNat = i
      · have hii : (i : Int) = x.pos := by omega
        rw [if_pos hi, if_pos ((hon i).2 (.inl hii))]
        unfold cmax
        rw [if_pos hk1, hii]
        omega
      · rw [if_neg hi, if_neg (fun e => by rcases (hon i).1 e with e | e; omega; exact e.1 hk1)]
    · simp only [if_neg hk1, List.getElem_set, e2]
      by_cases hi2 : (x.pos + 1).toNat = i
      · have hii : (i : Int) = x.pos + 1 := by omega
        rw [if_pos hi2, if_pos ((hon i).2 (.inr ⟨hk1, hii⟩))]
        unfold cmax
        rw [if_neg hk1, hii]
        omega
      · rw [if_neg hi2]
        by_cases hi : x.pos.toNat = i
        · have hii : (i : Int) = x.pos := by omega
          rw [if_pos hi, if_pos ((hon i).2 (.inl hii))]
          unfold cmax
          rw [if_neg hk1, hii]
          omega
        · rw [if_neg hi, if_neg (fun e => by rcases (hon i).1 e with e | e <;> omega)]
/-- How many columns, and how many items of each kind. -/
def cntK (l : List It) (k : Int) : Int := l.foldl (fun m x => if x.kind = k then m + 1 else m) 0
def cntM (l : List Int) : Int := l.foldl (fun m c => max m c) 0
theorem cntK_snoc (l : List It) (x : It) (k : Int) : cntK (l ++ [x]) k = if x.kind = k then cntK l k + 1 else cntK l k := by simp [cntK, List.foldl_append]
theorem cntM_snoc (l : List Int) (c : Int) : cntM (l ++ [c]) = max (cntM l) c := by simp [cntM, List.foldl_append]
theorem cntK_bound (l : List It) (k : Int) : 0 ≤ cntK l k ∧ cntK l k ≤ l.length := by
  induction l using snoc_ind with
  | h0 => simp [cntK]
  | h1 l x ih =>
    rw [cntK_snoc, List.length_append]
    split <;> simp <;> omega
theorem cntM_bound (l : List Int) {B : Int} (hB : 0 ≤ B) (h : ∀ c ∈ l, c ≤ B) : 0 ≤ cntM l ∧ cntM l ≤ B := by
  induction l using snoc_ind with
  | h0 => simp [cntM]; exact hB
  | h1 l c ih =>
    have h1 := ih fun q hq => h q (List.mem_append_left _ hq)
    have h2 := h c (List.mem_append_right _ List.mem_cons_self)
    rw [cntM_snoc]
    omega
def colE (g : Int) (l : List It) : List Int × Int := if chkIts g l = 0 then (colL l, 0) else ([], chkIts g l)
theorem ok_pos {g : Int} {x : It} (h : okIt g x = true) (hg : g ≤ 6) : 1 ≤ x.pos ∧ x.pos ≤ 6 := by
  obtain ⟨_, _, hp, hq, _, _⟩ := okIt_iff h
  have : (1 : Int) ≤ ownW x.kind := by unfold ownW; split <;> omega
  omega
theorem take_snoc {α : Type} {l : List α} {i : Nat} {x : α} (h : l[i]? = some x) : l.take (i + 1) = l.take i ++ [x] := by
  rw [List.take_add_one, h]; rfl
end Msh
