/- Layer 3, plainly: the texts of netlists, and how both readers read them. No condition. -/
import Derived.Test.YtdomlnhgafielaaGreatDoorMshNet
import Derived.Test.YtdomlnhgafielaaGreatDoorAmpTxt
namespace Go.Proofs.YtdomlnhgafielaaGreatDoor
open Go Go.RowKit Msh

/-! ### Texts -/
/-- The text of an item. -/
def itT (x : It) : List UInt8 :=
  if x.kind = 1 then 112 :: (Lib.itoa x.pos ++ 32 :: Lib.itoa x.n)
  else if x.kind = 2 then 99 :: Lib.itoa x.pos
  else if x.kind = 3 then 120 :: Lib.itoa x.pos
  else x.name.data.toList ++ 64 :: Lib.itoa x.pos
/-- The text of items, one behind the other. -/
def itsT : List It → List UInt8
  | [] => []
  | [x] => 32 :: itT x
  | x :: y :: t => (32 :: itT x) ++ (59 :: itsT (y :: t))
/-- The head of a cell's line. -/
def hdT (c : Cl) : List UInt8 := [99, 101, 108, 108, 32] ++ (c.name.data.toList ++ 32 :: Lib.itoa c.gd)
/-- The line of a cell, without its end. -/
def clT (c : Cl) : List UInt8 := hdT c ++ 58 :: itsT c.items
def netT : List Cl → List UInt8
  | [] => []
  | c :: t => clT c ++ 10 :: netT t
theorem netT_snoc (c : Cl) : ∀ L : List Cl, netT (L ++ [c]) = netT L ++ (clT c ++ [10])
  | [] => rfl
  | d :: t => by
    show clT d ++ 10 :: netT (t ++ [c]) = (clT d ++ 10 :: netT t) ++ (clT c ++ [10])
    rw [netT_snoc c t, List.append_assoc]
    rfl
theorem itsT_cons {x : It} {l : List It} (h : l ≠ []) : itsT (x :: l) = (32 :: itT x) ++ (59 :: itsT l) := by
  cases l with
  | nil => exact absurd rfl h
  | cons y t => rfl
theorem itsT_snoc (x : It) : ∀ l : List It, itsT (l ++ [x]) = itsT l ++ ((if l = [] then [] else [59]) ++ 32 :: itT x)
  | [] => rfl
  | [y] => by
    show (32 :: itT y) ++ (59 :: 32 :: itT x) = (32 :: itT y) ++ ([59] ++ 32 :: itT x)
    rfl
  | y :: z :: t => by
    rw [List.cons_append, itsT_cons (by simp), itsT_snoc x (z :: t), if_neg (List.cons_ne_nil _ _), if_neg (List.cons_ne_nil _ _), itsT_cons (List.cons_ne_nil _ _)]
    simp only [List.cons_append, List.append_assoc]

/-! ### Texts that are cut -/
/-- What stands before the first byte of a kind, and behind it. -/
def befB (c : UInt8) (l : List UInt8) : List UInt8 := l.takeWhile fun x => x != c
def aftB (c : UInt8) (l : List UInt8) : List UInt8 := (l.dropWhile fun x => x != c).tail
def hasB (c : UInt8) (l : List UInt8) : Bool := l.any fun x => x == c
/-- A byte ahead of the first part. -/
def hdC (x : UInt8) : List (List UInt8) → List (List UInt8)
  | [] => [[x]]
  | p :: ps => (x :: p) :: ps
/-- The parts between separators of one byte. -/
def spl (c : UInt8) : List UInt8 → List (List UInt8)
  | [] => [[]]
  | x :: l => if x = c then [] :: spl c l else hdC x (spl c l)
/-- The parts between separators of two bytes. -/
def spl2 (c d : UInt8) : List UInt8 → List (List UInt8)
  | [] => [[]]
  | [x] => [[x]]
  | x :: y :: l => if x = c ∧ y = d then [] :: spl2 c d l else hdC x (spl2 c d (y :: l))
/-- The lines, each with its end. -/
def lns : List UInt8 → List (List UInt8)
  | [] => []
  | x :: l => if x = 10 then [10] :: lns l else hdC x (lns l)
theorem hdC_ne (x : UInt8) (ps : List (List UInt8)) : hdC x ps ≠ [] := by cases ps <;> exact List.cons_ne_nil _ _
theorem spl_ne (c : UInt8) : ∀ l, spl c l ≠ []
  | [] => List.cons_ne_nil _ _
  | x :: l => by
    rw [spl]
    split
    · exact List.cons_ne_nil _ _
    · exact hdC_ne _ _
theorem spl_none {c : UInt8} : ∀ {l : List UInt8}, c ∉ l → spl c l = [l]
  | [], _ => rfl
  | x :: l, h => by
    rw [List.mem_cons, not_or] at h
    rw [spl, if_neg fun e => h.1 e.symm, spl_none h.2]
    rfl
theorem spl_app {c : UInt8} : ∀ {l m : List UInt8}, c ∉ l → spl c (l ++ c :: m) = l :: spl c m
  | [], m, _ => by rw [List.nil_append, spl, if_pos rfl]
  | x :: l, m, h => by
    rw [List.mem_cons, not_or] at h
    rw [List.cons_append, spl, if_neg fun e => h.1 e.symm, spl_app h.2]
    rfl
theorem spl2_none {c d : UInt8} : ∀ {l : List UInt8}, c ∉ l → spl2 c d l = [l]
  | [], _ => rfl
  | [x], _ => rfl
  | x :: y :: l, h => by
    rw [List.mem_cons, not_or] at h
    rw [spl2, if_neg fun e => h.1 e.1.symm, spl2_none h.2]
    rfl
theorem spl2_app {c d : UInt8} : ∀ {l m : List UInt8}, c ∉ l → spl2 c d (l ++ c :: d :: m) = l :: spl2 c d m
  | [], m, _ => by rw [List.nil_append, spl2, if_pos ⟨rfl, rfl⟩]
  | [x], m, h => by
    rw [List.mem_singleton] at h
    rw [List.singleton_append, spl2, if_neg fun e => h e.1.symm, spl2, if_pos ⟨rfl, rfl⟩]
    rfl
  | x :: y :: l, m, h => by
    rw [List.mem_cons, not_or] at h
    have ih := spl2_app (d := d) (m := m) h.2
    rw [List.cons_append] at ih
    rw [List.cons_append, List.cons_append, spl2, if_neg fun e => h.1 e.1.symm, ih]
    rfl
theorem lns_app : ∀ {l m : List UInt8}, 10 ∉ l → lns (l ++ 10 :: m) = (l ++ [10]) :: lns m
  | [], m, _ => by
    rw [List.nil_append, lns, if_pos rfl]
    rfl
  | x :: l, m, h => by
    rw [List.mem_cons, not_or] at h
    rw [List.cons_append, lns, if_neg fun e => h.1 e.symm, lns_app h.2]
    rfl
theorem befB_app {c : UInt8} : ∀ {l m : List UInt8}, c ∉ l → befB c (l ++ c :: m) = l ∧ aftB c (l ++ c :: m) = m ∧ hasB c (l ++ c :: m) = true
  | [], m, _ => by
    unfold befB aftB hasB
    simp
  | x :: l, m, h => by
    rw [List.mem_cons, not_or] at h
    obtain ⟨h1, h2, h3⟩ := befB_app (m := m) h.2
    have hx : (x != c) = true := by
      rw [bne_iff_ne]
      exact fun e => h.1 e.symm
    unfold befB aftB hasB at *
    rw [List.cons_append, List.takeWhile_cons, if_pos hx, List.dropWhile_cons, if_pos hx, h1, h2, List.any_cons, h3, Bool.or_true]
    exact ⟨rfl, rfl, rfl⟩
theorem befB_none {c : UInt8} : ∀ {l : List UInt8}, c ∉ l → befB c l = l ∧ aftB c l = [] ∧ hasB c l = false
  | [], _ => ⟨rfl, rfl, rfl⟩
  | x :: l, h => by
    rw [List.mem_cons, not_or] at h
    obtain ⟨h1, h2, h3⟩ := befB_none h.2
    have hx : (x != c) = true := by
      rw [bne_iff_ne]
      exact fun e => h.1 e.symm
    have hx2 : (x == c) = false := by
      rw [beq_eq_false_iff_ne]
      exact fun e => h.1 e.symm
    unfold befB aftB hasB at *
    rw [List.takeWhile_cons, if_pos hx, List.dropWhile_cons, if_pos hx, h1, h2, List.any_cons, h3, hx2]
    exact ⟨rfl, rfl, rfl⟩

/-! ### Small numbers -/
theorem itoa_small {v : Int} (h0 : 0 ≤ v) (h9 : v ≤ 9) : Lib.itoa v = [UInt8.ofNat (48 + v.toNat)] := by
  rw [itoa_pos h0, Lib.decDigits, dif_pos (by omega)]
theorem small_in {v : Int} (h0 : 0 ≤ v) (h9 : v ≤ 9) {c : UInt8} (hc : c.toNat < 48 ∨ 57 < c.toNat) : c ∉ Lib.itoa v := by
  rw [itoa_small h0 h9, List.mem_singleton]
  intro e
  subst e
  rw [(dg_small (by omega)).2] at hc
  omega
/-- The number of a text, or -1: as the program reads it. -/
def numP (l : List UInt8) : Int := match Lib.atoiAll l with | .ok v => v | _ => -1
theorem numP_small {v : Int} (h0 : 0 ≤ v) (h9 : v ≤ 9) : numP (Lib.itoa v) = v := by
  unfold numP
  rw [itoa_pos h0, atoi_dec (by omega)]
  dsimp only
  omega
/-- .. as the document reads it: one or two digits. -/
def dgI (c : UInt8) : Int := (c.toNat : Int) - 48
def numR (l : List UInt8) : Int := match l with
  | [a] => if dgB a = true then dgI a else -1
  | [a, b] => if dgB a = true ∧ dgB b = true then 10 * dgI a + dgI b else -1
  | _ => -1
theorem numR_small {v : Int} (h0 : 0 ≤ v) (h9 : v ≤ 9) : numR (Lib.itoa v) = v := by
  rw [itoa_small h0 h9]
  unfold numR
  dsimp only
  have := dg_small (n := v.toNat) (by omega)
  rw [if_pos this.1]
  unfold dgI
  rw [this.2]
  omega

/-! ### The readers of items -/
def noIt : It := ⟨0, 0, 0, ⟨#[]⟩⟩
def mkS (l : List UInt8) : ByteArray := ⟨l.toArray⟩
theorem mkS_data (s : ByteArray) : mkS s.data.toList = s := by unfold mkS; simp
def itP (l : List UInt8) : It :=
  if hasB 64 l = true then ⟨4, numP (aftB 64 l), 0, mkS (befB 64 l)⟩
  else match l with
    | [] => noIt
    | h :: r =>
      if h = 112 then ⟨1, numP (befB 32 r), numP (aftB 32 r), ⟨#[]⟩⟩
      else if h = 99 then ⟨2, numP r, 0, ⟨#[]⟩⟩
      else if h = 120 then ⟨3, numP r, 0, ⟨#[]⟩⟩
      else noIt
def itR (l : List UInt8) : It :=
  if (spl 64 l).length = 2 then ⟨4, numR ((spl 64 l).getD 1 []), 0, mkS ((spl 64 l).getD 0 [])⟩
  else match (spl 32 l).getD 0 [] with
    | [] => noIt
    | h :: r =>
      if h = 112 then ⟨1, numR r, numR ((spl 32 l).getD ((spl 32 l).length - 1) []), ⟨#[]⟩⟩
      else if h = 99 then ⟨2, numR r, 0, ⟨#[]⟩⟩
      else if h = 120 then ⟨3, numR r, 0, ⟨#[]⟩⟩
      else ⟨0, numR r, 0, ⟨#[]⟩⟩
/-- An item as valid netlists have them. -/
def ItW (x : It) : Prop := (1 ≤ x.pos ∧ x.pos ≤ 6) ∧ ((x.kind = 1 ∧ 1 ≤ x.n ∧ x.n ≤ 7 ∧ x.name = ⟨#[]⟩) ∨ ((x.kind = 2 ∨ x.kind = 3) ∧ x.n = 0 ∧ x.name = ⟨#[]⟩) ∨ (x.kind = 4 ∧ x.n = 0 ∧ nameB x.name = true))
theorem name_in {s : ByteArray} (h : nameB s = true) {c : UInt8} (hc : c.toNat < 97 ∨ 122 < c.toNat) : c ∉ s.data.toList := by
  unfold nameB at h
  rw [Bool.and_eq_true, List.all_eq_true] at h
  intro hm
  have := h.2 c hm
  unfold letB at this
  rw [Bool.and_eq_true, decide_eq_true_iff, decide_eq_true_iff] at this
  omega
theorem itT_in {x : It} (h : ItW x) {c : UInt8} (h1 : c.toNat < 48 ∨ 57 < c.toNat) (h2 : c.toNat < 97 ∨ 122 < c.toNat) (h3 : c ≠ 32) (h4 : c ≠ 64) : c ∉ itT x := by
  obtain ⟨hp, h⟩ := h
  have hpos := small_in (v := x.pos) (by omega) (by omega) h1
  have k1 : c ≠ 112 := fun e => by subst e; revert h2; decide
  have k2 : c ≠ 99 := fun e => by subst e; revert h2; decide
  have k3 : c ≠ 120 := fun e => by subst e; revert h2; decide
  unfold itT
  rcases h with ⟨hk, hn1, hn2, _⟩ | ⟨hk | hk, hn, _⟩ | ⟨hk, hn, hnm⟩
  · have hn := small_in (v := x.n) (by omega) (by omega) h1
    rw [if_pos hk]
    simp [k1, h3, hpos, hn]
  · rw [if_neg (by omega), if_pos hk]
    simp [k2, hpos]
  · rw [if_neg (by omega), if_neg (by omega), if_pos hk]
    simp [k3, hpos]
  · have hn := name_in hnm h2
    rw [if_neg (by omega), if_neg (by omega), if_neg (by omega)]
    simp only [List.mem_append, List.mem_cons, not_or]
    exact ⟨hn, h4, hpos⟩
theorem it_eta {x : It} {a b d : Int} {s : ByteArray} (h1 : x.kind = a) (h2 : x.pos = b) (h3 : x.n = d) (h4 : x.name = s) : (⟨a, b, d, s⟩ : It) = x := by
  cases x; simp_all
theorem itP_text {x : It} (h : ItW x) : itP (itT x) = x := by
  obtain ⟨hp, h⟩ := h
  have hpv := numP_small (v := x.pos) (by omega) (by omega)
  have hp64 := small_in (v := x.pos) (c := 64) (by omega) (by omega) (by decide)
  have hp32 := small_in (v := x.pos) (c := 32) (by omega) (by omega) (by decide)
  rcases h with ⟨hk, hn1, hn2, hnm⟩ | ⟨hk | hk, hn, hnm⟩ | ⟨hk, hn, hnm⟩
  · have hnv := numP_small (v := x.n) (by omega) (by omega)
    have hn64 := small_in (v := x.n) (c := 64) (by omega) (by omega) (by decide)
    have e : itT x = 112 :: (Lib.itoa x.pos ++ 32 :: Lib.itoa x.n) := by unfold itT; rw [if_pos hk]
    have h64 : (64 : UInt8) ∉ itT x := by rw [e]; simp [hp64, hn64]
    unfold itP
    rw [(befB_none h64).2.2, e]
    obtain ⟨e1, e2, _⟩ := befB_app (m := Lib.itoa x.n) hp32
    simp only [Bool.false_eq_true, if_false, if_true, e1, e2, hpv, hnv]
    exact it_eta hk rfl rfl hnm
  · have e : itT x = 99 :: Lib.itoa x.pos := by unfold itT; rw [if_neg (by omega), if_pos hk]
    have h64 : (64 : UInt8) ∉ itT x := by rw [e]; simp [hp64]
    unfold itP
    rw [(befB_none h64).2.2, e]
    simp only [Bool.false_eq_true, if_false, hpv]
    rw [if_neg (by decide), if_pos trivial]
    exact it_eta hk rfl hn hnm
  · have e : itT x = 120 :: Lib.itoa x.pos := by unfold itT; rw [if_neg (by omega), if_neg (by omega), if_pos hk]
    have h64 : (64 : UInt8) ∉ itT x := by rw [e]; simp [hp64]
    unfold itP
    rw [(befB_none h64).2.2, e]
    simp only [Bool.false_eq_true, if_false, hpv]
    rw [if_neg (by decide), if_neg (by decide), if_pos trivial]
    exact it_eta hk rfl hn hnm
  · have e : itT x = x.name.data.toList ++ 64 :: Lib.itoa x.pos := by unfold itT; rw [if_neg (by omega), if_neg (by omega), if_neg (by omega)]
    obtain ⟨e1, e2, e3⟩ := befB_app (m := Lib.itoa x.pos) (name_in hnm (c := 64) (by decide))
    unfold itP
    rw [e, e3, e1, e2, hpv, mkS_data, if_pos rfl]
    exact it_eta hk rfl hn rfl
theorem itR_text {x : It} (h : ItW x) : itR (itT x) = x := by
  obtain ⟨hp, h⟩ := h
  have hpv := numR_small (v := x.pos) (by omega) (by omega)
  have hp64 := small_in (v := x.pos) (c := 64) (by omega) (by omega) (by decide)
  have hp32 := small_in (v := x.pos) (c := 32) (by omega) (by omega) (by decide)
  rcases h with ⟨hk, hn1, hn2, hnm⟩ | ⟨hk | hk, hn, hnm⟩ | ⟨hk, hn, hnm⟩
  · have hnv := numR_small (v := x.n) (by omega) (by omega)
    have hn64 := small_in (v := x.n) (c := 64) (by omega) (by omega) (by decide)
    have hn32 := small_in (v := x.n) (c := 32) (by omega) (by omega) (by decide)
    have e : itT x = (112 :: Lib.itoa x.pos) ++ 32 :: Lib.itoa x.n := by unfold itT; rw [if_pos hk]; rfl
    have h64 : (64 : UInt8) ∉ itT x := by rw [e]; simp [hp64, hn64]
    have e2 : spl 32 (itT x) = [112 :: Lib.itoa x.pos, Lib.itoa x.n] := by
      rw [e, spl_app (by simp [hp32]), spl_none hn32]
    unfold itR
    rw [spl_none h64, e2]
    simp only [List.length_cons, List.length_nil, List.getD_cons_zero, List.getD_cons_succ, Nat.reduceAdd, Nat.reduceSub, Nat.reduceEqDiff, if_false, if_true, hpv, hnv]
    exact it_eta hk rfl rfl hnm
  · have e : itT x = 99 :: Lib.itoa x.pos := by unfold itT; rw [if_neg (by omega), if_pos hk]
    have h64 : (64 : UInt8) ∉ itT x := by rw [e]; simp [hp64]
    have h32 : (32 : UInt8) ∉ itT x := by rw [e]; simp [hp32]
    unfold itR
    rw [spl_none h64, spl_none h32, e]
    simp only [List.length_singleton, List.getD_cons_zero, hpv]
    rw [if_neg (by decide), if_pos trivial]
    exact it_eta hk rfl hn hnm
  · have e : itT x = 120 :: Lib.itoa x.pos := by unfold itT; rw [if_neg (by omega), if_neg (by omega), if_pos hk]
    have h64 : (64 : UInt8) ∉ itT x := by rw [e]; simp [hp64]
    have h32 : (32 : UInt8) ∉ itT x := by rw [e]; simp [hp32]
    unfold itR
    rw [spl_none h64, spl_none h32, e]
    simp only [List.length_singleton, List.getD_cons_zero, hpv]
    rw [if_neg (by decide), if_neg (by decide), if_pos trivial]
    exact it_eta hk rfl hn hnm
  · have e : itT x = x.name.data.toList ++ 64 :: Lib.itoa x.pos := by unfold itT; rw [if_neg (by omega), if_neg (by omega), if_neg (by omega)]
    unfold itR
    rw [e, spl_app (name_in hnm (c := 64) (by decide)), spl_none hp64]
    simp only [List.length_cons, List.length_nil, List.getD_cons_zero, List.getD_cons_succ, Nat.reduceAdd, if_true, hpv, mkS_data]
    exact it_eta hk rfl hn rfl

/-! ### The readers of cells -/
def noCl : Cl := ⟨⟨#[]⟩, 0, []⟩
/-- A text without a beginning of one byte, if it begins so. -/
def cutHd (c : UInt8) (l : List UInt8) : List UInt8 := match l with
  | [] => []
  | x :: r => if x = c then r else x :: r
/-- .. without an end of one byte. -/
def cutTl (c : UInt8) (l : List UInt8) : List UInt8 := if l.getLast? = some c then l.dropLast else l
def clP (l : List UInt8) : Cl :=
  if (spl 32 (befB 58 l)).length = 3 then
    ⟨mkS ((spl 32 (befB 58 l)).getD 1 []), numP ((spl 32 (befB 58 l)).getD 2 []), if aftB 58 l = [] then [] else (spl2 59 32 (cutHd 32 (aftB 58 l))).map itP⟩
  else noCl
def clR (l : List UInt8) : Cl :=
  if (spl 58 l).length = 2 ∧ (spl 32 ((spl 58 l).getD 0 [])).length = 3 then
    if (spl 58 l).getD 1 [] = [] then ⟨mkS ((spl 32 ((spl 58 l).getD 0 [])).getD 1 []), numR ((spl 32 ((spl 58 l).getD 0 [])).getD 2 []), []⟩
    else if (spl 59 ((spl 58 l).getD 1 [])).all (fun p => !p.isEmpty) = true then ⟨mkS ((spl 32 ((spl 58 l).getD 0 [])).getD 1 []), numR ((spl 32 ((spl 58 l).getD 0 [])).getD 2 []), (spl 59 ((spl 58 l).getD 1 [])).map fun p => itR (p.drop 1)⟩
    else noCl
  else noCl
def ClW (c : Cl) : Prop := nameB c.name = true ∧ (1 ≤ c.gd ∧ c.gd ≤ 6) ∧ ∀ x ∈ c.items, ItW x
theorem hdT_spl {c : Cl} (h : ClW c) : spl 32 (hdT c) = [[99, 101, 108, 108], c.name.data.toList, Lib.itoa c.gd] := by
  obtain ⟨hn, hg, _⟩ := h
  show spl 32 ([99, 101, 108, 108] ++ 32 :: (c.name.data.toList ++ 32 :: Lib.itoa c.gd)) = _
  rw [spl_app (by decide), spl_app (name_in hn (by decide)), spl_none (small_in (by omega) (by omega) (by decide))]
theorem hdT_in {c : Cl} (h : ClW c) {b : UInt8} (h1 : b.toNat < 48 ∨ 57 < b.toNat) (h2 : b.toNat < 97 ∨ 122 < b.toNat) (h3 : b ≠ 32) : b ∉ hdT c := by
  obtain ⟨hn, hg, _⟩ := h
  have k1 : b ≠ 99 := fun e => by subst e; revert h2; decide
  have k2 : b ≠ 101 := fun e => by subst e; revert h2; decide
  have k3 : b ≠ 108 := fun e => by subst e; revert h2; decide
  have k4 := name_in hn h2
  have k5 := small_in (v := c.gd) (by omega) (by omega) h1
  unfold hdT
  simp only [List.mem_append, List.mem_cons, List.not_mem_nil, or_false, not_or]
  exact ⟨⟨k1, k2, k3, k3, h3⟩, k4, h3, k5⟩
theorem itsT_in {b : UInt8} (h1 : b.toNat < 48 ∨ 57 < b.toNat) (h2 : b.toNat < 97 ∨ 122 < b.toNat) (h3 : b ≠ 32) (h4 : b ≠ 64) (h5 : b ≠ 59) : ∀ {l : List It}, (∀ x ∈ l, ItW x) → b ∉ itsT l
  | [], _ => List.not_mem_nil
  | x :: l, h => by
    have hx := itT_in (h x List.mem_cons_self) h1 h2 h3 h4
    have hl := itsT_in h1 h2 h3 h4 h5 fun y hy => h y (List.mem_cons_of_mem _ hy)
    cases l with
    | nil =>
      show b ∉ 32 :: itT x
      simp [h3, hx]
    | cons y t =>
      rw [itsT_cons (List.cons_ne_nil _ _)]
      simp only [List.mem_append, List.mem_cons, not_or]
      exact ⟨⟨h3, hx⟩, h5, hl⟩
/-- The text of items without its first byte. -/
theorem itsT_spl2 : ∀ {l : List It}, l ≠ [] → (∀ x ∈ l, ItW x) → ∃ r, itsT l = 32 :: r ∧ (spl2 59 32 r).map itP = l
  | [], h, _ => absurd rfl h
  | [x], _, h => ⟨itT x, rfl, by
    have hx := h x List.mem_cons_self
    rw [spl2_none (itT_in hx (by decide) (by decide) (by decide) (by decide)), List.map_singleton, itP_text hx]⟩
  | x :: y :: t, _, h => by
    have hx := h x List.mem_cons_self
    obtain ⟨r, h1, h2⟩ := itsT_spl2 (List.cons_ne_nil y t) fun z hz => h z (List.mem_cons_of_mem _ hz)
    refine ⟨itT x ++ 59 :: itsT (y :: t), rfl, ?_⟩
    rw [h1, spl2_app (itT_in hx (by decide) (by decide) (by decide) (by decide)), List.map_cons, h2, itP_text hx]
theorem itsT_spl : ∀ {l : List It}, l ≠ [] → (∀ x ∈ l, ItW x) → (spl 59 (itsT l)).all (fun p => !p.isEmpty) = true ∧ (spl 59 (itsT l)).map (fun p => itR (p.drop 1)) = l
  | [], h, _ => absurd rfl h
  | [x], _, h => by
    have hx := h x List.mem_cons_self
    have e : spl 59 (itsT [x]) = [32 :: itT x] := spl_none (by
      have := itT_in hx (c := 59) (by decide) (by decide) (by decide) (by decide)
      simp [itsT, this])
    rw [e]
    refine ⟨rfl, ?_⟩
    show [itR (itT x)] = [x]
    rw [itR_text hx]
  | x :: y :: t, _, h => by
    have hx := h x List.mem_cons_self
    obtain ⟨h1, h2⟩ := itsT_spl (List.cons_ne_nil y t) fun z hz => h z (List.mem_cons_of_mem _ hz)
    have e : spl 59 (itsT (x :: y :: t)) = (32 :: itT x) :: spl 59 (itsT (y :: t)) := by
      rw [itsT_cons (List.cons_ne_nil _ _), spl_app (by
        have := itT_in hx (c := 59) (by decide) (by decide) (by decide) (by decide)
        simp [this])]
    rw [e, List.all_cons, List.map_cons, h1, h2]
    refine ⟨rfl, ?_⟩
    show itR (itT x) :: _ = _
    rw [itR_text hx]
theorem clP_text {c : Cl} (h : ClW c) : clP (clT c) = c := by
  have h58 := hdT_in h (b := 58) (by decide) (by decide) (by decide)
  obtain ⟨e1, e2, _⟩ := befB_app (m := itsT c.items) h58
  unfold clP clT
  rw [e1, e2, hdT_spl h]
  simp only [List.length_cons, List.length_nil, List.getD_cons_zero, List.getD_cons_succ, Nat.reduceAdd, if_true, mkS_data, numP_small (v := c.gd) (by have := h.2.1; omega) (by have := h.2.1; omega)]
  by_cases hi : c.items = []
  · rw [hi, if_pos (show itsT [] = [] from rfl), ← hi]
  · obtain ⟨r, h1, h2⟩ := itsT_spl2 hi h.2.2
    rw [h1, if_neg (List.cons_ne_nil _ _)]
    show (⟨c.name, c.gd, (spl2 59 32 (if (32 : UInt8) = 32 then r else 32 :: r)).map itP⟩ : Cl) = c
    rw [if_pos rfl, h2]
theorem clR_text {c : Cl} (h : ClW c) : clR (clT c) = c := by
  have h58 := hdT_in h (b := 58) (by decide) (by decide) (by decide)
  have i58 := itsT_in (b := 58) (by decide) (by decide) (by decide) (by decide) (by decide) h.2.2
  have e : spl 58 (clT c) = [hdT c, itsT c.items] := by
    unfold clT
    rw [spl_app h58, spl_none i58]
  unfold clR
  rw [e]
  simp only [List.length_cons, List.length_nil, List.getD_cons_zero, List.getD_cons_succ, Nat.reduceAdd, hdT_spl h, and_self, if_true, mkS_data, numR_small (v := c.gd) (by have := h.2.1; omega) (by have := h.2.1; omega)]
  by_cases hi : c.items = []
  · rw [hi, if_pos (show itsT [] = [] from rfl), ← hi]
  · have hne : itsT c.items ≠ [] := by
      obtain ⟨r, h1, _⟩ := itsT_spl2 hi h.2.2
      rw [h1]
      exact List.cons_ne_nil _ _
    obtain ⟨h1, h2⟩ := itsT_spl hi h.2.2
    rw [if_neg hne, if_pos h1, h2]
theorem clT_in {c : Cl} (h : ClW c) : (10 : UInt8) ∉ clT c := by
  have h1 := hdT_in h (b := 10) (by decide) (by decide) (by decide)
  have h2 := itsT_in (b := 10) (by decide) (by decide) (by decide) (by decide) (by decide) h.2.2
  unfold clT
  simp [h1, h2]

/-! ### The readers of netlists -/
def netP (l : List UInt8) : List Cl := (lns l).map fun p => clP (cutTl 10 p)
def netR (l : List UInt8) : List Cl := (spl 10 l).dropLast.map clR
theorem netP_text : ∀ {L : List Cl}, (∀ c ∈ L, ClW c) → netP (netT L) = L
  | [], _ => rfl
  | c :: t, h => by
    have hc := h c List.mem_cons_self
    have ih := netP_text fun d hd => h d (List.mem_cons_of_mem _ hd)
    unfold netP at *
    show (lns (clT c ++ 10 :: netT t)).map _ = _
    rw [lns_app (clT_in hc), List.map_cons, ih]
    congr 1
    unfold cutTl
    rw [if_pos (by simp), List.dropLast_concat, clP_text hc]
theorem netR_text : ∀ {L : List Cl}, (∀ c ∈ L, ClW c) → netR (netT L) = L
  | [], _ => rfl
  | c :: t, h => by
    have hc := h c List.mem_cons_self
    have ih := netR_text fun d hd => h d (List.mem_cons_of_mem _ hd)
    unfold netR at *
    show (spl 10 (clT c ++ 10 :: netT t)).dropLast.map _ = _
    rw [spl_app (clT_in hc), List.dropLast_cons_of_ne_nil (spl_ne _ _), List.map_cons, ih, clR_text hc]
/-- Valid netlists have such cells. -/
theorem okE_w {C : List Cl} {g : Int} (hC : ∀ c ∈ C, nameB c.name = true ∧ 1 ≤ c.gd ∧ c.gd ≤ 6) (hg : g ≤ 6) {x : It} (h : okE (gdF C) g x = true) : ItW x := by
  unfold okE at h
  rw [Bool.and_eq_true, decide_eq_true_iff, decide_eq_true_iff] at h
  obtain ⟨h1, h2, h3⟩ := h
  unfold wdE at h1 h3
  by_cases hk : x.kind = 4
  · rw [if_pos hk] at h1 h3
    by_cases hn : x.n = 0
    · rw [if_pos hn] at h1 h3
      unfold gdF at h1 h3
      cases hf : C.find? (hasN x.name) with
      | none => rw [hf] at h1; exact absurd rfl h1
      | some c =>
        rw [hf] at h1 h3
        dsimp only at h1 h3
        obtain ⟨a1, a2, a3⟩ := hC c (List.mem_of_find?_eq_some hf)
        have : hasN x.name c = true := List.find?_some hf
        unfold hasN at this
        rw [decide_eq_true_iff] at this
        exact ⟨⟨h2, by omega⟩, .inr (.inr ⟨hk, hn, by rw [← this]; exact a1⟩)⟩
    · rw [if_neg hn] at h1
      exact absurd rfl h1
  · rw [if_neg hk] at h1 h3
    unfold wid at h1 h3
    by_cases hnm : x.name.toList = []
    · have hnm' : x.name = ⟨#[]⟩ := by
        rw [ByteArray.toList_eq] at hnm
        apply ByteArray.ext
        apply Array.toList_inj.1
        exact hnm
      rw [if_pos hnm] at h1 h3
      by_cases k1 : x.kind = 1 ∧ 1 ≤ x.n ∧ x.n ≤ 7
      · rw [if_pos k1] at h3
        exact ⟨⟨h2, by omega⟩, .inl ⟨k1.1, k1.2.1, k1.2.2, hnm'⟩⟩
      · rw [if_neg k1] at h1 h3
        by_cases k2 : (x.kind = 2 ∨ x.kind = 3) ∧ x.n = 0
        · rw [if_pos k2] at h3
          exact ⟨⟨h2, by omega⟩, .inr (.inl ⟨k2.1, k2.2, hnm'⟩)⟩
        · rw [if_neg k2] at h1
          exact absurd rfl h1
    · rw [if_neg hnm] at h1
      exact absurd rfl h1
theorem vnet_w {L : List Cl} (h : vnet L = true) : ∀ c ∈ L, ClW c := by
  obtain ⟨_, h2⟩ := vnet_all h
  have hN : ∀ c ∈ L, nameB c.name = true ∧ 1 ≤ c.gd ∧ c.gd ≤ 6 := fun c hc => by
    obtain ⟨i, hi⟩ := List.mem_iff_getElem?.1 hc
    obtain ⟨a1, _, a3, _, _⟩ := vcell_iff.1 (h2 i c hi)
    exact ⟨a1, a3.1, a3.2⟩
  intro c hc
  obtain ⟨i, hi⟩ := List.mem_iff_getElem?.1 hc
  obtain ⟨a1, _, a3, _, a5⟩ := vcell_iff.1 (h2 i c hi)
  refine ⟨a1, a3, fun x hx => ?_⟩
  unfold okEs at a5
  rw [List.all_eq_true] at a5
  exact okE_w (fun d hd => hN d (List.mem_of_mem_take hd)) a3.2 (a5 x hx)
/-- What Parse makes of a text: the netlist, and the error. -/
def parP (l : List UInt8) : List Cl × Int := if 4000 < l.length then ([], 4) else if vnet (netP l) = true ∧ netT (netP l) = l then (netP l, 0) else ([], 3)
def parR (l : List UInt8) : List Cl × Int := if 4000 < l.length then ([], 4) else if vnet (netR l) = true ∧ netT (netR l) = l then (netR l, 0) else ([], 3)
theorem par_same (l : List UInt8) : parP l = parR l := by
  unfold parP parR
  by_cases h0 : 4000 < l.length
  · rw [if_pos h0, if_pos h0]
  rw [if_neg h0, if_neg h0]
  by_cases hp : vnet (netP l) = true ∧ netT (netP l) = l
  · have e : netR l = netP l := by
      have := netR_text (vnet_w hp.1)
      rw [hp.2] at this
      exact this
    rw [if_pos hp, e, if_pos hp]
  · rw [if_neg hp]
    by_cases hr : vnet (netR l) = true ∧ netT (netR l) = l
    · have e : netP l = netR l := by
        have := netP_text (vnet_w hr.1)
        rw [hr.2] at this
        exact this
      rw [e] at hp
      exact absurd hr hp
    · rw [if_neg hr]
theorem parP_text {L : List Cl} (hv : vnet L = true) (hl : (netT L).length ≤ 4000) : parP (netT L) = (L, 0) := by
  unfold parP
  rw [if_neg (by omega), netP_text (vnet_w hv), if_pos ⟨hv, rfl⟩]
theorem parP_ok {l : List UInt8} {L : List Cl} (h : parP l = (L, 0)) : vnet L = true ∧ netT L = l ∧ l.length ≤ 4000 := by
  unfold parP at h
  by_cases h0 : 4000 < l.length
  · rw [if_pos h0] at h
    cases h
  rw [if_neg h0] at h
  by_cases hp : vnet (netP l) = true ∧ netT (netP l) = l
  · rw [if_pos hp] at h
    cases h
    exact ⟨hp.1, hp.2, by omega⟩
  · rw [if_neg hp] at h
    cases h
end Go.Proofs.YtdomlnhgafielaaGreatDoor
