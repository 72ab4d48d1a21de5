/- Layer 1, plainly: reading the text of a number, the program's way and the reference's. No condition. -/
import Derived.Test.YtdomlnhgafielaaGreatDoorAmpTxt
import Derived.Lib.Strings
namespace Go.Proofs.YtdomlnhgafielaaGreatDoor
open Go Go.RowKit Amp

def setC (A : C4) (i : Nat) (x : Int) : C4 := match i with | 0 => { A with a := x } | 1 => { A with b := x } | 2 => { A with c := x } | _ => { A with d := x }
def C0 : C4 := ⟨0, 0, 0, 0⟩
/-! ### The program's way -/
def headN (l : List UInt8) : Nat := (l.takeWhile sgB).length + ((l.dropWhile sgB).takeWhile dgB).length
def headVal (h : List UInt8) : Int × Bool :=
  if h = [] ∨ h = [43] then (1, true) else if h = [45] then (-1, true) else match Lib.atoiAll h with | .ok v => (v, true) | .syntax => (0, false) | .range => (Lib.atoiSat h, false)
def tailP (r : List UInt8) : Nat × List UInt8 :=
  if Lib.hasPrefix r [119, 51] = true then (3, Lib.trimPrefix r [119, 51]) else if Lib.hasPrefix r [119, 50] = true then (2, Lib.trimPrefix r [119, 50]) else if Lib.hasPrefix r [119] = true then (1, Lib.trimPrefix r [119]) else (0, r)
/-- The first term: its element, its index, what is behind it, whether it is one. -/
def termP (l : List UInt8) : Int × Nat × List UInt8 × Bool :=
  ((headVal (l.take (headN l))).1, (tailP (l.drop (headN l))).1, (tailP (l.drop (headN l))).2, (headVal (l.take (headN l))).2 && (decide (0 < (tailP (l.drop (headN l))).1) || decide (0 < headN l)))
def loopP : Nat → C4 → List UInt8 → C4 × List UInt8
  | 0, A, l => (A, l)
  | f + 1, A, l => if l = [] then (A, l) else if (termP l).2.2.2 = false ∨ (termP l).2.2.1 = l then (A, l) else loopP f (setC A (termP l).2.1 (termP l).1) (termP l).2.2.1
/-! ### The reference's way -/
def digN (l : List UInt8) : Nat := ((l.take 10).takeWhile dgB).length
def digV (l : List UInt8) : Nat := valD 0 (l.take (digN l))
/-- Behind the sign: the index and what is behind the term; none: it is no term. -/
def tailR (i : Nat) (l : List UInt8) : Option (Nat × List UInt8) :=
  match l with
  | 119 :: 50 :: t => some (2, t)
  | 119 :: 51 :: t => some (3, t)
  | 119 :: t => some (1, t)
  | _ => if i = 0 then none else some (0, l)
def signR (l : List UInt8) : Int × List UInt8 := match l with | 45 :: t => (-1, t) | 43 :: t => (1, t) | _ => (1, l)
def stepR (A : C4) (l : List UInt8) : Option (C4 × List UInt8) :=
  (tailR (digN (signR l).2) ((signR l).2.drop (digN (signR l).2))).map fun p => (setC A p.1 ((signR l).1 * (if digN (signR l).2 = 0 then 1 else (digV (signR l).2 : Int))), p.2)
def loopR : Nat → C4 → List UInt8 → Option (C4 × List UInt8)
  | 0, A, l => some (A, l)
  | f + 1, A, l => if l = [] ∨ l.head? = some 47 then some (A, l) else match stepR A l with | none => none | some p => loopR f p.1 p.2
def endR (A : C4) (l : List UInt8) : Option (C4 × Int) :=
  if l = [] then some (A, 0) else if digN l.tail = 0 ∨ digN l.tail + 1 ≠ l.length then none else some (A, (digV l.tail : Int))
def readR (l : List UInt8) : Option (C4 × Int) := match loopR (l.length + 1) C0 l with | none => none | some p => endR p.1 p.2

/-! ### One term -/
theorem tw_app {p : UInt8 → Bool} : ∀ {a b : List UInt8}, (∀ c ∈ a, p c = true) → (∀ c t, b = c :: t → p c = false) → (a ++ b).takeWhile p = a ∧ (a ++ b).dropWhile p = b
  | [], [], _, _ => ⟨rfl, rfl⟩
  | [], c :: t, _, hb => by
    have := hb c t rfl
    exact ⟨by simp [this], by simp [this]⟩
  | x :: a, b, ha, hb => by
    obtain ⟨h1, h2⟩ := tw_app (a := a) (b := b) (fun c hc => ha c (List.mem_cons_of_mem _ hc)) hb
    have hx := ha x List.mem_cons_self
    exact ⟨by simp [hx, h1], by simp [hx, h2]⟩
/-- What may stand behind a term. -/
def Behind1 (r : List UInt8) : Prop := r = [] ∨ ∃ c t, r = c :: t ∧ (c = 43 ∨ c = 45 ∨ c = 47)
theorem Behind1.head {r : List UInt8} (h : Behind1 r) : ∀ c t, r = c :: t → c = 43 ∨ c = 45 ∨ c = 47 := by
  intro c t e
  rcases h with rfl | ⟨c', t', rfl, h⟩
  · cases e
  · injection e with e1 e2
    subst e1
    exact h
theorem behind_dg {r : List UInt8} (h : Behind1 r) (i : Nat) : ∀ c t, nameT i ++ r = c :: t → dgB c = false := by
  intro c t e
  match i, e with
  | 0, e => rcases h.head c t e with rfl | rfl | rfl <;> decide
  | 1, e => injection e with e1 _; subst e1; decide
  | 2, e => injection e with e1 _; subst e1; decide
  | _ + 3, e => injection e with e1 _; subst e1; decide
theorem tail_name {r : List UInt8} (h : Behind1 r) {i : Nat} (hi : i < 4) : tailP (nameT i ++ r) = (i, r) := by
  have h51 : ∀ x : UInt8, ¬ (x = 43 ∨ x = 45 ∨ x = 47) → Lib.hasPrefix r [x] = false := fun x hx => by
    rcases h with rfl | ⟨c, t, rfl, hc⟩
    · rfl
    · have : (x == c) = false := by rw [beq_eq_false_iff_ne]; rintro rfl; exact hx hc
      simp [Lib.hasPrefix, List.isPrefixOf, this]
  have hp : ∀ (x : UInt8) (q : List UInt8), Lib.hasPrefix (119 :: r) [119, x] = Lib.hasPrefix r [x] := fun x q => by simp [Lib.hasPrefix, List.isPrefixOf]
  have h119 : ∀ q, Lib.hasPrefix r (119 :: q) = false := fun q => by
    rcases h with rfl | ⟨c, t, rfl, hc⟩
    · rfl
    · have : ((119 : UInt8) == c) = false := by rw [beq_eq_false_iff_ne]; rintro rfl; revert hc; decide
      simp [Lib.hasPrefix, List.isPrefixOf, this]
  match i, hi with
  | 0, _ => simp [tailP, nameT, h119]
  | 1, _ =>
    show tailP (119 :: r) = (1, r)
    unfold tailP
    rw [hp 51 r, hp 50 r, h51 51 (by decide), h51 50 (by decide)]
    simp [Lib.hasPrefix, Lib.trimPrefix, List.isPrefixOf]
  | 2, _ =>
    show tailP (119 :: 50 :: r) = (2, r)
    simp [tailP, Lib.hasPrefix, Lib.trimPrefix, List.isPrefixOf]
  | 3, _ =>
    show tailP (119 :: 51 :: r) = (3, r)
    simp [tailP, Lib.hasPrefix, Lib.trimPrefix, List.isPrefixOf]
theorem head_app {sg dg tl : List UInt8} (h1 : ∀ c ∈ sg, sgB c = true) (h2 : ∀ c t, dg ++ tl = c :: t → sgB c = false) (h3 : ∀ c ∈ dg, dgB c = true) (h4 : ∀ c t, tl = c :: t → dgB c = false) :
    headN (sg ++ (dg ++ tl)) = (sg ++ dg).length ∧ (sg ++ (dg ++ tl)).take (sg ++ dg).length = sg ++ dg ∧ (sg ++ (dg ++ tl)).drop (sg ++ dg).length = tl := by
  obtain ⟨a1, a2⟩ := tw_app h1 h2
  obtain ⟨b1, _⟩ := tw_app h3 h4
  refine ⟨?_, ?_, ?_⟩
  · unfold headN
    rw [a1, a2, b1, List.length_append]
  · rw [← List.append_assoc]
    exact List.take_left
  · rw [← List.append_assoc]
    exact List.drop_left
theorem dg_sg {c : UInt8} (h : dgB c = true) : sgB c = false := by
  have := dg_not_sign h
  unfold sgB
  rw [Bool.or_eq_false_iff, beq_eq_false_iff_ne, beq_eq_false_iff_ne]
  constructor
  · rintro rfl; exact this.2 (by decide)
  · rintro rfl; exact this.1 (.inl (by decide))
theorem termP_of {sg dg r : List UInt8} {i : Nat} {v : Int} (hr : Behind1 r) (hi : i < 4) (h1 : ∀ c ∈ sg, sgB c = true) (h2 : ∀ c t, dg ++ (nameT i ++ r) = c :: t → sgB c = false) (h3 : ∀ c ∈ dg, dgB c = true) (hv : headVal (sg ++ dg) = (v, true)) (hn : 0 < i ∨ 0 < (sg ++ dg).length) :
    termP (sg ++ (dg ++ (nameT i ++ r))) = (v, i, r, true) := by
  obtain ⟨e1, e2, e3⟩ := head_app h1 h2 h3 (behind_dg hr i)
  unfold termP
  rw [e1, e2, e3, tail_name hr hi, hv]
  dsimp only
  have : (decide (0 < i) || decide (0 < (sg ++ dg).length)) = true := by
    rw [Bool.or_eq_true, decide_eq_true_iff, decide_eq_true_iff]
    exact hn
  rw [this]
  rfl
theorem dec_cons (u : Nat) : ∃ c t, Lib.decDigits u = c :: t ∧ dgB c = true := by
  have h1 := dec_ne u
  have h2 := dec_digits u
  generalize Lib.decDigits u = l at *
  match l, h1 with
  | c :: t, _ => exact ⟨c, t, rfl, h2 c List.mem_cons_self⟩
theorem headVal_dec {u : Nat} (h : u < 10 ^ 18) : headVal (Lib.decDigits u) = ((u : Int), true) := by
  obtain ⟨c, t, e, hc⟩ := dec_cons u
  have hs := dg_sg hc
  unfold headVal
  rw [if_neg, if_neg, atoi_dec h]
  · rw [e]; rintro h; injection h with h1 _; subst h1; revert hs; decide
  · rw [e]; rintro (h | h)
    · cases h
    · injection h with h1 _; subst h1; revert hs; decide
theorem headVal_sg {u : Nat} (h : u < 10 ^ 18) {c : UInt8} (hc : c = 43 ∨ c = 45) : headVal (c :: Lib.decDigits u) = ((if c = 45 then -(u : Int) else u), true) := by
  have hn := dec_ne u
  unfold headVal
  rw [if_neg, if_neg, atoi_signed h c hc]
  · intro h; injection h with _ h; exact hn h
  · rintro (h | h)
    · cases h
    · injection h with _ h; exact hn h
/-- The program reads a term. -/
theorem termP_term {i : Nat} {x : Int} {r pre : List UInt8} (hr : Behind1 r) (hi : i < 4) (hx : -1000000000 ≤ x ∧ x ≤ 1000000000) (hp : pre = [] ∨ pre = [43] ∧ 0 < x) : termP (pre ++ (termT i x ++ r)) = (x, i, r, true) := by
  have hpS : ∀ c ∈ pre, sgB c = true := by
    rcases hp with rfl | ⟨rfl, _⟩
    · intro c hc; cases hc
    · intro c hc; rw [List.mem_singleton] at hc; subst hc; decide
  have hw : 0 < i → ∀ c t, nameT i ++ r = c :: t → sgB c = false := fun h c t e => by
    match i, h, e with
    | 1, _, e => injection e with e1 _; subst e1; decide
    | 2, _, e => injection e with e1 _; subst e1; decide
    | _ + 3, _, e => injection e with e1 _; subst e1; decide
  by_cases c1 : 0 < i ∧ x = 1
  · have e : termT i x = nameT i := by unfold termT; rw [if_pos c1]; rfl
    rw [e]
    have hv : headVal (pre ++ []) = (x, true) := by
      rw [c1.2, List.append_nil]
      unfold headVal
      rw [if_pos (by rcases hp with rfl | ⟨rfl, _⟩ <;> simp)]
    exact termP_of (dg := []) hr hi hpS (hw c1.1) (fun c hc => by cases hc) hv (.inl c1.1)
  by_cases c2 : 0 < i ∧ x = -1
  · have e : termT i x = [45] ++ nameT i := by unfold termT; rw [if_neg c1, if_pos c2]
    obtain rfl : pre = [] := hp.resolve_right fun h => by omega
    rw [e, List.append_assoc, List.nil_append]
    refine termP_of (sg := [45]) (dg := []) hr hi (fun c hc => by rw [List.mem_singleton] at hc; subst hc; decide) (hw c2.1) (fun c hc => by cases hc) ?_ (.inl c2.1)
    rw [c2.2]
    rfl
  have e : termT i x = Lib.itoa x ++ nameT i := by unfold termT; rw [if_neg c1, if_neg c2]
  have hdS : ∀ (u : Nat) c t, Lib.decDigits u ++ (nameT i ++ r) = c :: t → sgB c = false := fun u c t e => by
    obtain ⟨c', t', e', hc⟩ := dec_cons u
    rw [e'] at e
    injection e with e1 _
    subst e1
    exact dg_sg hc
  rw [e]
  by_cases hneg : x < 0
  · obtain rfl : pre = [] := hp.resolve_right fun h => by omega
    rw [itoa_neg hneg, List.nil_append, List.append_assoc]
    refine termP_of (sg := [45]) (dg := Lib.decDigits x.natAbs) hr hi (fun c hc => by rw [List.mem_singleton] at hc; subst hc; decide) (hdS _) (dec_digits _) ?_ (.inr (by simp))
    show headVal (45 :: Lib.decDigits x.natAbs) = _
    rw [headVal_sg (by omega) (.inr rfl), if_pos rfl]
    congr 1
    omega
  · rw [itoa_pos (by omega), List.append_assoc]
    refine termP_of (sg := pre) (dg := Lib.decDigits x.toNat) hr hi hpS (hdS _) (dec_digits _) ?_ (.inr (by have := dec_ne x.toNat; rw [List.length_append]; have := List.length_pos_iff.2 this; omega))
    rcases hp with rfl | ⟨rfl, _⟩
    · rw [List.nil_append, headVal_dec (by omega)]
      congr 1
      omega
    · show headVal (43 :: Lib.decDigits x.toNat) = _
      rw [headVal_sg (by omega) (.inl rfl), if_neg (by decide)]
      congr 1
      omega
/-- The reference's digits. -/
theorem digN_app {dg tl : List UInt8} (h3 : ∀ c ∈ dg, dgB c = true) (h4 : ∀ c t, tl = c :: t → dgB c = false) (hl : dg.length ≤ 10) : digN (dg ++ tl) = dg.length ∧ digV (dg ++ tl) = valD 0 dg ∧ (dg ++ tl).drop dg.length = tl := by
  have e : digN (dg ++ tl) = dg.length := by
    unfold digN
    rw [List.take_append, List.take_of_length_le hl]
    rw [(tw_app h3 (b := tl.take (10 - dg.length)) fun c t e => ?_).1]
    cases htl : tl with
    | nil => rw [htl] at e; simp at e
    | cons d u =>
      rw [htl] at e
      cases hk : 10 - dg.length with
      | zero => rw [hk] at e; cases e
      | succ k =>
        rw [hk, List.take_succ_cons] at e
        injection e with e1 _
        subst e1
        exact h4 _ u htl
  refine ⟨e, ?_, List.drop_left⟩
  unfold digV
  rw [e, List.take_left]
theorem tailR_name {r : List UInt8} (h : Behind1 r) {i n : Nat} (hi : i < 4) (hn : 0 < i ∨ 0 < n) : tailR n (nameT i ++ r) = some (i, r) := by
  match i, hi, hn with
  | 0, _, hn =>
    have hn : ¬ n = 0 := by omega
    show tailR n r = some (0, r)
    rcases h with rfl | ⟨c, t, rfl, rfl | rfl | rfl⟩
    · unfold tailR; simp [hn]
    · unfold tailR; simp [hn]
    · unfold tailR; simp [hn]
    · unfold tailR; simp [hn]
  | 1, _, _ =>
    rcases h with rfl | ⟨c, t, rfl, rfl | rfl | rfl⟩ <;> rfl
  | 2, _, _ => rfl
  | 3, _, _ => rfl
theorem stepR_of {A : C4} {dg r l : List UInt8} {i : Nat} {s : Int} (hr : Behind1 r) (hi : i < 4) (h3 : ∀ c ∈ dg, dgB c = true) (hl : dg.length ≤ 10) (hs : signR l = (s, dg ++ (nameT i ++ r))) (hn : 0 < i ∨ 0 < dg.length) :
    stepR A l = some (setC A i (s * (if dg.length = 0 then 1 else (valD 0 dg : Int))), r) := by
  obtain ⟨e1, e2, e3⟩ := digN_app h3 (behind_dg hr i) hl
  unfold stepR
  rw [hs]
  dsimp only
  rw [e1, e2, e3, tailR_name hr hi hn]
  rfl
theorem signR_none {l : List UInt8} (h : ∀ c t, l = c :: t → sgB c = false) : signR l = (1, l) := by
  unfold signR
  split
  · rename_i t; exact absurd (h 45 t rfl) (by decide)
  · rename_i t; exact absurd (h 43 t rfl) (by decide)
  · rfl
/-- The reference reads a term. -/
theorem stepR_term {A : C4} {i : Nat} {x : Int} {r pre : List UInt8} (hr : Behind1 r) (hi : i < 4) (hx : -1000000000 ≤ x ∧ x ≤ 1000000000) (hp : pre = [] ∨ pre = [43] ∧ 0 < x) : stepR A (pre ++ (termT i x ++ r)) = some (setC A i x, r) := by
  have hw : 0 < i → ∀ c t, nameT i ++ r = c :: t → sgB c = false := fun h c t e => by
    match i, h, e with
    | 1, _, e => injection e with e1 _; subst e1; decide
    | 2, _, e => injection e with e1 _; subst e1; decide
    | _ + 3, _, e => injection e with e1 _; subst e1; decide
  have hlen : ∀ u : Nat, u ≤ 1000000000 → (Lib.decDigits u).length ≤ 10 := fun u hu => dec_len 9 u (by omega)
  have hval : ∀ u : Nat, valD 0 (Lib.decDigits u) = u := fun u => by rw [val_dec, Nat.zero_mul, Nat.zero_add]
  have hpos : ∀ u : Nat, ¬ (Lib.decDigits u).length = 0 := fun u => by have := List.length_pos_iff.2 (dec_ne u); omega
  by_cases c1 : 0 < i ∧ x = 1
  · have e : termT i x = nameT i := by unfold termT; rw [if_pos c1]; rfl
    rw [e, c1.2]
    have hs : signR (pre ++ (nameT i ++ r)) = (1, [] ++ (nameT i ++ r)) := by
      rcases hp with rfl | ⟨rfl, _⟩
      · exact signR_none (hw c1.1)
      · rfl
    exact stepR_of (dg := []) hr hi (fun c hc => by cases hc) (by simp) hs (.inl c1.1)
  by_cases c2 : 0 < i ∧ x = -1
  · have e : termT i x = [45] ++ nameT i := by unfold termT; rw [if_neg c1, if_pos c2]
    obtain rfl : pre = [] := hp.resolve_right fun h => by omega
    rw [e, c2.2]
    exact stepR_of (dg := []) (s := -1) hr hi (fun c hc => by cases hc) (by simp) (show signR ([] ++ ([45] ++ nameT i ++ r)) = (-1, [] ++ (nameT i ++ r)) by rw [List.append_assoc]; rfl) (.inl c2.1)
  have e : termT i x = Lib.itoa x ++ nameT i := by unfold termT; rw [if_neg c1, if_neg c2]
  rw [e]
  by_cases hneg : x < 0
  · obtain rfl : pre = [] := hp.resolve_right fun h => by omega
    rw [itoa_neg hneg, List.nil_append, List.append_assoc]
    have := stepR_of (A := A) (dg := Lib.decDigits x.natAbs) (l := 45 :: (Lib.decDigits x.natAbs ++ (nameT i ++ r))) hr hi (dec_digits _) (hlen _ (by omega)) rfl (.inr (by have := hpos x.natAbs; omega))
    rw [if_neg (hpos _), hval] at this
    rw [show -1 * (x.natAbs : Int) = x by omega] at this
    exact this
  · rw [itoa_pos (by omega), List.append_assoc]
    have hs : signR (pre ++ (Lib.decDigits x.toNat ++ (nameT i ++ r))) = (1, Lib.decDigits x.toNat ++ (nameT i ++ r)) := by
      rcases hp with rfl | ⟨rfl, _⟩
      · refine signR_none fun c t e => ?_
        obtain ⟨c', t', e', hc⟩ := dec_cons x.toNat
        rw [e'] at e
        injection e with e1 _
        subst e1
        exact dg_sg hc
      · rfl
    have := stepR_of (A := A) hr hi (dec_digits _) (hlen _ (by omega)) hs (.inr (by have := hpos x.toNat; omega))
    rw [if_neg (hpos _), hval] at this
    rw [show 1 * (x.toNat : Int) = x by omega] at this
    exact this
end Go.Proofs.YtdomlnhgafielaaGreatDoor
