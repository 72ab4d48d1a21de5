/- Layer 1, plainly: both ways of reading a number's text agree, and read what was written. No condition. -/
import Derived.Test.YtdomlnhgafielaaGreatDoorAmpTxtB
namespace Go.Proofs.YtdomlnhgafielaaGreatDoor
open Go Go.RowKit Amp

def txt : Bool → List (Nat × Int) → List UInt8
  | _, [] => []
  | b, p :: t => (if b = false ∧ 0 < p.2 then [43] else []) ++ (termT p.1 p.2 ++ txt false t)
def okT (p : Nat × Int) : Prop := p.1 < 4 ∧ (-1000000000 ≤ p.2 ∧ p.2 ≤ 1000000000) ∧ p.2 ≠ 0
def setsC (A : C4) (ts : List (Nat × Int)) : C4 := ts.foldl (fun A p => setC A p.1 p.2) A
def termsL (x : C4) : List (Nat × Int) := [(0, x.a), (1, x.b), (2, x.c), (3, x.d)].filter fun p => decide (p.2 ≠ 0)
theorem itoa_ne (x : Int) : Lib.itoa x ≠ [] := by
  unfold Lib.itoa
  split
  · exact List.cons_ne_nil _ _
  · exact dec_ne _
theorem termT_ne {i : Nat} {x : Int} : termT i x ≠ [] := by
  unfold termT
  by_cases c1 : 0 < i ∧ x = 1
  · rw [if_pos c1, List.nil_append]
    match i, c1.1 with
    | 1, _ => exact List.cons_ne_nil _ _
    | 2, _ => exact List.cons_ne_nil _ _
    | _ + 3, _ => exact List.cons_ne_nil _ _
  · rw [if_neg c1]
    split
    · exact List.cons_ne_nil _ _
    · exact List.append_ne_nil_of_left_ne_nil (itoa_ne x) _
theorem termT_pos (i : Nat) (x : Int) : 0 < (termT i x).length := List.length_pos_iff.2 termT_ne
theorem termT_neg {i : Nat} {x : Int} (h : x < 0) : ∃ t, termT i x = 45 :: t := by
  unfold termT
  rw [if_neg (by omega)]
  split
  · exact ⟨_, rfl⟩
  · rw [itoa_neg h]
    exact ⟨_, rfl⟩
theorem txt_behind : ∀ {ts : List (Nat × Int)} {e : List UInt8}, (∀ p ∈ ts, okT p) → Behind1 e → Behind1 (txt false ts ++ e)
  | [], e, _, he => he
  | p :: t, e, h, _ => by
    have h0 := (h p List.mem_cons_self).2.2
    by_cases hp : 0 < p.2
    · refine .inr ⟨43, termT p.1 p.2 ++ txt false t ++ e, ?_, .inl rfl⟩
      show ((if false = false ∧ 0 < p.2 then [43] else []) ++ (termT p.1 p.2 ++ txt false t)) ++ e = _
      rw [if_pos ⟨rfl, hp⟩]
      rfl
    · obtain ⟨u, hu⟩ := termT_neg (i := p.1) (x := p.2) (by omega)
      refine .inr ⟨45, u ++ txt false t ++ e, ?_, .inr (.inl rfl)⟩
      show ((if false = false ∧ 0 < p.2 then [43] else []) ++ (termT p.1 p.2 ++ txt false t)) ++ e = _
      rw [if_neg (fun h => hp h.2), hu]
      rfl
def preT (b : Bool) (x : Int) : List UInt8 := if b = false ∧ 0 < x then [43] else []
theorem preT_or (b : Bool) (x : Int) : preT b x = [] ∨ preT b x = [43] ∧ 0 < x := by
  unfold preT
  split
  · rename_i h; exact .inr ⟨rfl, h.2⟩
  · exact .inl rfl
theorem txt_cons (b : Bool) (p : Nat × Int) (t : List (Nat × Int)) : txt b (p :: t) = preT b p.2 ++ (termT p.1 p.2 ++ txt false t) := rfl
theorem loopP_txt : ∀ (ts : List (Nat × Int)) (f : Nat) (A : C4) (b : Bool), (∀ p ∈ ts, okT p) → (txt b ts).length < f → loopP f A (txt b ts) = (setsC A ts, [])
  | [], f + 1, A, b, _, _ => by
    show loopP (f + 1) A [] = (A, [])
    unfold loopP
    rw [if_pos rfl]
  | p :: t, f + 1, A, b, h, hf => by
    obtain ⟨h1, h2, h3⟩ := h p List.mem_cons_self
    have hr : Behind1 (txt false t) := by
      have := txt_behind (e := []) (fun q hq => h q (List.mem_cons_of_mem _ hq)) (.inl rfl)
      rwa [List.append_nil] at this
    have ht := termP_term (r := txt false t) hr h1 h2 (preT_or b p.2)
    have hpos := termT_pos p.1 p.2
    rw [txt_cons] at hf ⊢
    have hl : (preT b p.2 ++ (termT p.1 p.2 ++ txt false t)).length = (preT b p.2).length + (termT p.1 p.2).length + (txt false t).length := by rw [List.length_append, List.length_append]; omega
    unfold loopP
    rw [if_neg (fun e => by rw [e] at hl; simp at hl; omega), ht]
    dsimp only
    rw [if_neg]
    · exact loopP_txt t f _ false (fun q hq => h q (List.mem_cons_of_mem _ hq)) (by omega)
    · rintro (h | h)
      · cases h
      · have := congrArg List.length h
        omega
theorem no47_dec (u : Nat) : ∀ c ∈ Lib.decDigits u, c ≠ 47 := fun c hc => by
  have := of_decide_eq_true (dec_digits u c hc)
  rintro rfl
  exact absurd this.1 (by decide)
theorem no47_term (i : Nat) (x : Int) : ∀ c ∈ termT i x, c ≠ 47 := by
  have hname : ∀ c ∈ nameT i, c ≠ 47 := by
    match i with
    | 0 => intro c hc; cases hc
    | 1 => intro c hc; rw [List.mem_singleton.1 hc]; decide
    | 2 => intro c hc; rcases List.mem_cons.1 hc with rfl | hc
           · decide
           · rw [List.mem_singleton.1 hc]; decide
    | _ + 3 => intro c hc; rcases List.mem_cons.1 hc with rfl | hc
               · decide
               · rw [List.mem_singleton.1 hc]; decide
  intro c hc
  unfold termT at hc
  rcases List.mem_append.1 hc with hc | hc
  · split at hc
    · cases hc
    · split at hc
      · rw [List.mem_singleton.1 hc]; decide
      · unfold Lib.itoa at hc
        split at hc
        · rcases List.mem_cons.1 hc with rfl | hc
          · decide
          · exact no47_dec _ c hc
        · exact no47_dec _ c hc
  · exact hname c hc
theorem no47_txt : ∀ (b : Bool) (ts : List (Nat × Int)), ∀ c ∈ txt b ts, c ≠ 47
  | _, [], c, hc => by cases hc
  | b, p :: t, c, hc => by
    rw [txt_cons] at hc
    rcases List.mem_append.1 hc with hc | hc
    · unfold preT at hc
      split at hc
      · rw [List.mem_singleton.1 hc]; decide
      · cases hc
    · rcases List.mem_append.1 hc with hc | hc
      · exact no47_term _ _ c hc
      · exact no47_txt false t c hc
theorem loopR_txt : ∀ (ts : List (Nat × Int)) (f : Nat) (A : C4) (b : Bool) (e : List UInt8), (∀ p ∈ ts, okT p) → (e = [] ∨ e.head? = some 47) → Behind1 e → (txt b ts ++ e).length < f → loopR f A (txt b ts ++ e) = some (setsC A ts, e)
  | [], f + 1, A, b, e, _, he, _, _ => by
    show loopR (f + 1) A e = some (A, e)
    unfold loopR
    rw [if_pos he]
  | p :: t, f + 1, A, b, e, h, he, hb, hf => by
    obtain ⟨h1, h2, h3⟩ := h p List.mem_cons_self
    have hr : Behind1 (txt false t ++ e) := txt_behind (fun q hq => h q (List.mem_cons_of_mem _ hq)) hb
    have ht := stepR_term (A := A) (r := txt false t ++ e) hr h1 h2 (preT_or b p.2)
    have hpos := termT_pos p.1 p.2
    have he2 : txt b (p :: t) ++ e = preT b p.2 ++ (termT p.1 p.2 ++ (txt false t ++ e)) := by rw [txt_cons, List.append_assoc, List.append_assoc]
    rw [he2] at hf ⊢
    have hl : (preT b p.2 ++ (termT p.1 p.2 ++ (txt false t ++ e))).length = (preT b p.2).length + (termT p.1 p.2).length + (txt false t ++ e).length := by rw [List.length_append, List.length_append]; omega
    unfold loopR
    rw [if_neg, ht]
    · exact loopR_txt t f _ false e (fun q hq => h q (List.mem_cons_of_mem _ hq)) he hb (by omega)
    · rintro (h | h)
      · rw [h] at hl; simp at hl; omega
      · have hm : (47 : UInt8) ∈ preT b p.2 ++ termT p.1 p.2 := by
          obtain ⟨c, u, hu⟩ : ∃ c u, preT b p.2 ++ termT p.1 p.2 = c :: u := List.exists_cons_of_ne_nil (List.append_ne_nil_of_right_ne_nil _ termT_ne)
          rw [← List.append_assoc, hu] at h
          injection h with h
          rw [hu, h]
          exact List.mem_cons_self
        rcases List.mem_append.1 hm with hm | hm
        · unfold preT at hm
          split at hm
          · exact absurd (List.mem_singleton.1 hm) (by decide)
          · cases hm
        · exact no47_term _ _ _ hm rfl
theorem okC_iff {x : Int} : okC x = true ↔ -1000000000 ≤ x ∧ x ≤ 1000000000 := by unfold okC; exact decide_eq_true_iff
theorem termsL_ok {x : C4} {k : Int} (h : validB x k = true) : ∀ p ∈ termsL x, okT p := by
  have hs := validB_small h
  unfold smallB at hs
  simp only [Bool.and_eq_true, okC_iff] at hs
  obtain ⟨⟨⟨ha, hb⟩, hc⟩, hd⟩ := hs
  intro p hp
  unfold termsL at hp
  obtain ⟨hp, h0⟩ := List.mem_filter.1 hp
  have h0 := of_decide_eq_true h0
  simp only [List.mem_cons, List.not_mem_nil, or_false] at hp
  rcases hp with rfl | rfl | rfl | rfl
  · exact ⟨show 0 < 4 by decide, ha, h0⟩
  · exact ⟨show 1 < 4 by decide, hb, h0⟩
  · exact ⟨show 2 < 4 by decide, hc, h0⟩
  · exact ⟨show 3 < 4 by decide, hd, h0⟩
theorem sets_terms (x : C4) : setsC C0 (termsL x) = x := by
  obtain ⟨a, b, c, d⟩ := x
  unfold termsL setsC C0
  by_cases ha : a = 0 <;> by_cases hb : b = 0 <;> by_cases hc : c = 0 <;> by_cases hd : d = 0 <;> simp [ha, hb, hc, hd, setC]
theorem addT_ne {i : Nat} {x : Int} {acc : List UInt8} (h : acc ≠ []) : addT i x acc = acc ++ txt false (if x = 0 then [] else [(i, x)]) ∧ addT i x acc ≠ [] := by
  unfold addT
  by_cases hx : x = 0
  · rw [if_pos hx, if_pos hx]
    exact ⟨(List.append_nil _).symm, h⟩
  · rw [if_neg hx, if_neg hx]
    refine ⟨?_, List.append_ne_nil_of_left_ne_nil h _⟩
    rw [txt_cons]
    unfold plusT preT
    by_cases hp : 0 < x
    · rw [if_pos ⟨hp, h⟩, if_pos ⟨rfl, hp⟩]
      show _ = acc ++ ([43] ++ (termT i x ++ []))
      rw [List.append_nil]
    · rw [if_neg (fun q => hp q.1), if_neg (fun q => hp q.2)]
      show _ = acc ++ ([] ++ (termT i x ++ []))
      rw [List.append_nil]
theorem addT_nil (i : Nat) (x : Int) : addT i x [] = txt true (if x = 0 then [] else [(i, x)]) := by
  unfold addT
  by_cases hx : x = 0
  · rw [if_pos hx, if_pos hx]
    rfl
  · rw [if_neg hx, if_neg hx, txt_cons]
    unfold plusT preT
    rw [if_neg (fun q => q.2 rfl), if_neg (fun q => by cases q.1)]
    show [] ++ ([] ++ termT i x) = [] ++ (termT i x ++ [])
    rw [List.append_nil]
    rfl
theorem txt_app : ∀ (b : Bool) (s t : List (Nat × Int)), s ≠ [] → txt b (s ++ t) = txt b s ++ txt false t
  | _, [], _, h => absurd rfl h
  | b, [p], t, _ => by
    show txt b (p :: t) = txt b [p] ++ txt false t
    rw [txt_cons, txt_cons]
    show _ = preT b p.2 ++ (termT p.1 p.2 ++ []) ++ txt false t
    rw [List.append_nil, List.append_assoc]
  | b, p :: q :: s, t, _ => by
    show txt b (p :: (q :: s ++ t)) = txt b (p :: q :: s) ++ txt false t
    rw [txt_cons, txt_cons, txt_app false (q :: s) t (List.cons_ne_nil _ _), List.append_assoc, List.append_assoc]
theorem addT_txt (i : Nat) (x : Int) (s : List (Nat × Int)) : addT i x (txt true s) = txt true (s ++ if x = 0 then [] else [(i, x)]) := by
  by_cases hs : s = []
  · subst hs
    exact addT_nil i x
  · have hne : txt true s ≠ [] := by
      match s, hs with
      | p :: t, _ =>
        rw [txt_cons]
        exact List.append_ne_nil_of_right_ne_nil _ (List.append_ne_nil_of_left_ne_nil termT_ne _)
    rw [(addT_ne hne).1, txt_app true s _ hs]
theorem bodyT_txt (x : C4) : bodyT x = txt true (termsL x) := by
  unfold bodyT
  rw [addT_nil, addT_txt, addT_txt, addT_txt]
  congr 1
  unfold termsL
  by_cases ha : x.a = 0 <;> by_cases hb : x.b = 0 <;> by_cases hc : x.c = 0 <;> by_cases hd : x.d = 0 <;> simp [ha, hb, hc, hd]
/-! ### The whole text -/
def bef (l : List UInt8) : List UInt8 := l.takeWhile fun c => c != 47
def aft (l : List UInt8) : List UInt8 := (l.dropWhile fun c => c != 47).tail
def has47 (l : List UInt8) : Bool := l.any fun c => c == 47
def kP (l : List UInt8) : Option Int := if has47 l = true then (match Lib.atoiAll (aft l) with | .ok k => some k | .syntax => none | .range => none) else some 0
def bodP (l : List UInt8) : C4 × List UInt8 := if l.length ≤ 100 then loopP (l.length + 1) C0 (bef l) else (C0, bef l)
def parseP (l : List UInt8) : C4 × Int × Int :=
  match kP l with
  | none => (C0, 0, 3)
  | some k => if (bodP l).2 ≠ [] ∨ validB (bodP l).1 k = false ∨ textT (bodP l).1 k ≠ l then (C0, 0, 3) else ((bodP l).1, k, 0)
def parseR (l : List UInt8) : C4 × Int × Int :=
  match readR l with
  | none => (C0, 0, 3)
  | some p => if validB p.1 p.2 = false ∨ textT p.1 p.2 ≠ l then (C0, 0, 3) else (p.1, p.2, 0)
theorem bef_app {a b : List UInt8} (ha : ∀ c ∈ a, c ≠ 47) : bef (a ++ 47 :: b) = a ∧ aft (a ++ 47 :: b) = b ∧ has47 (a ++ 47 :: b) = true := by
  obtain ⟨h1, h2⟩ := tw_app (p := fun c => c != 47) (a := a) (b := 47 :: b) (fun c hc => by simpa using ha c hc) (fun c t e => by injection e with e1 _; subst e1; decide)
  refine ⟨h1, ?_, by unfold has47; simp⟩
  unfold aft
  rw [h2]
  rfl
theorem bef_self {a : List UInt8} (ha : ∀ c ∈ a, c ≠ 47) : bef a = a ∧ has47 a = false := by
  obtain ⟨h1, _⟩ := tw_app (p := fun c => c != 47) (a := a) (b := []) (fun c hc => by simpa using ha c hc) (fun c t e => by cases e)
  rw [List.append_nil] at h1
  refine ⟨h1, ?_⟩
  unfold has47
  rw [List.any_eq_false]
  intro c hc
  simpa using ha c hc
theorem txt_len : ∀ (b : Bool) (ts : List (Nat × Int)), (∀ p ∈ ts, okT p) → (txt b ts).length ≤ 14 * ts.length
  | _, [], _ => Nat.le_refl _
  | b, p :: t, h => by
    have h1 := txt_len false t fun q hq => h q (List.mem_cons_of_mem _ hq)
    obtain ⟨_, h2, _⟩ := h p List.mem_cons_self
    have h3 : (termT p.1 p.2).length ≤ 13 := by
      unfold termT
      have hn : (nameT p.1).length ≤ 2 := by match p.1 with | 0 => decide | 1 => decide | 2 => decide | _ + 3 => exact Nat.le_refl _
      have hi : (Lib.itoa p.2).length ≤ 11 := by
        unfold Lib.itoa
        split
        · rw [List.length_cons]; have := dec_len 9 p.2.natAbs (by omega); omega
        · have := dec_len 9 p.2.toNat (by omega); omega
      rw [List.length_append]
      split
      · simp; omega
      · split
        · simp; omega
        · omega
    rw [txt_cons, List.length_append, List.length_append, List.length_cons]
    have h4 : (preT b p.2).length ≤ 1 := by unfold preT; split <;> simp
    omega
theorem termsL_length (x : C4) : (termsL x).length ≤ 4 := by unfold termsL; exact List.length_filter_le _ _
theorem zero_of_body {x : C4} (h : bodyT x = []) : x = C0 := by
  rw [bodyT_txt] at h
  have : termsL x = [] := by
    cases ht : termsL x with
    | nil => rfl
    | cons p t =>
      rw [ht, txt_cons] at h
      exact absurd h (List.append_ne_nil_of_right_ne_nil _ (List.append_ne_nil_of_left_ne_nil termT_ne _))
  have h2 := sets_terms x
  rw [this] at h2
  exact h2.symm
theorem k_zero {k : Int} (h : validB C0 k = true) : k = 0 := by
  unfold validB at h
  simp only [Bool.and_eq_true, Bool.or_eq_true, decide_eq_true_eq] at h
  rcases h.2 with h | h
  · exact h
  · exact absurd h (by decide)
theorem readR_text {x : C4} {k : Int} (h : validB x k = true) : readR (textT x k) = some (x, k) := by
  obtain ⟨hk0, hk1⟩ := validB_k h
  unfold textT
  by_cases hb : bodyT x = []
  · obtain rfl := zero_of_body hb
    obtain rfl := k_zero h
    rw [if_pos hb]
    decide
  · rw [if_neg hb]
    have hok := termsL_ok h
    have he : expT k = [] ∨ (expT k).head? = some 47 := by
      unfold expT
      split
      · exact .inr rfl
      · exact .inl rfl
    have hbe : Behind1 (expT k) := by
      unfold expT
      split
      · exact .inr ⟨47, _, rfl, .inr (.inr rfl)⟩
      · exact .inl rfl
    unfold readR
    rw [bodyT_txt, loopR_txt (termsL x) _ C0 true (expT k) hok he hbe (by omega), sets_terms]
    dsimp only
    unfold endR expT
    by_cases hk : 0 < k
    · rw [if_pos hk, if_neg (List.cons_ne_nil _ _), itoa_pos hk0]
      have hl := dec_len 1 k.toNat (by omega)
      obtain ⟨e1, e2, _⟩ := digN_app (dg := Lib.decDigits k.toNat) (tl := []) (dec_digits _) (fun c t e => by cases e) (by omega)
      rw [List.append_nil] at e1 e2
      have hp := List.length_pos_iff.2 (dec_ne k.toNat)
      show (if digN (Lib.decDigits k.toNat) = 0 ∨ digN (Lib.decDigits k.toNat) + 1 ≠ (Lib.decDigits k.toNat).length + 1 then none else some (x, (digV (Lib.decDigits k.toNat) : Int))) = some (x, k)
      rw [e1, e2, if_neg (by omega), val_dec, Nat.zero_mul, Nat.zero_add]
      congr 2
      omega
    · rw [if_neg hk, if_pos rfl]
      congr 2
      omega
theorem parseP_text {x : C4} {k : Int} (h : validB x k = true) : parseP (textT x k) = (x, k, 0) := by
  obtain ⟨hk0, hk1⟩ := validB_k h
  have hok := termsL_ok h
  have hlen : (textT x k).length ≤ 100 := by
    have h1 := txt_len true (termsL x) hok
    have h2 := termsL_length x
    unfold textT
    rw [bodyT_txt]
    split
    · decide
    · rw [List.length_append]
      have : (expT k).length ≤ 3 := by
        unfold expT
        split
        · rw [List.length_cons, itoa_pos hk0]
          have := dec_len 1 k.toNat (by omega)
          omega
        · decide
      omega
  have key : kP (textT x k) = some k ∧ bodP (textT x k) = (x, []) := by
    unfold textT at hlen ⊢
    by_cases hb : bodyT x = []
    · obtain rfl := zero_of_body hb
      obtain rfl := k_zero h
      rw [if_pos hb]
      decide
    · rw [if_neg hb] at hlen ⊢
      have hno := no47_txt true (termsL x)
      unfold kP bodP
      rw [bodyT_txt] at hlen ⊢
      rw [if_pos hlen]
      unfold expT at hlen ⊢
      by_cases hk : 0 < k
      · rw [if_pos hk] at hlen ⊢
        obtain ⟨e1, e2, e3⟩ := bef_app (b := Lib.itoa k) hno
        rw [e1, e2, e3, if_pos rfl, itoa_pos hk0, atoi_dec (by omega)]
        refine ⟨?_, ?_⟩
        · show some ((k.toNat : Nat) : Int) = some k
          congr 1
          omega
        · rw [loopP_txt (termsL x) _ C0 true hok (by rw [List.length_append]; omega), sets_terms]
      · rw [if_neg hk, List.append_nil] at hlen ⊢
        obtain ⟨e1, e2⟩ := bef_self hno
        rw [e1, e2, if_neg Bool.false_ne_true]
        refine ⟨?_, ?_⟩
        · congr 1
          omega
        · rw [loopP_txt (termsL x) _ C0 true hok (by omega), sets_terms]
  unfold parseP
  rw [key.1, key.2]
  dsimp only
  rw [if_neg]
  rintro (h1 | h1 | h1)
  · exact h1 rfl
  · rw [h] at h1; cases h1
  · exact h1 rfl
/-- Both ways of reading agree. -/
theorem parse_agree (l : List UInt8) : parseP l = parseR l := by
  by_cases hz : ∃ x k, validB x k = true ∧ textT x k = l
  · obtain ⟨x, k, h, rfl⟩ := hz
    rw [parseP_text h]
    unfold parseR
    rw [readR_text h]
    dsimp only
    rw [if_neg]
    rintro (h1 | h1)
    · rw [h] at h1; cases h1
    · exact h1 rfl
  · have h1 : parseP l = (C0, 0, 3) := by
      unfold parseP
      cases kP l with
      | none => rfl
      | some k =>
        dsimp only
        rw [if_pos]
        by_cases hv : validB (bodP l).1 k = true
        · exact .inr (.inr fun ht => hz ⟨_, _, hv, ht⟩)
        · exact .inr (.inl (by simpa using hv))
    have h2 : parseR l = (C0, 0, 3) := by
      unfold parseR
      cases readR l with
      | none => rfl
      | some p =>
        dsimp only
        rw [if_pos]
        by_cases hv : validB p.1 p.2 = true
        · exact .inr fun ht => hz ⟨_, _, hv, ht⟩
        · exact .inl (by simpa using hv)
    rw [h1, h2]
theorem parseP_ok {l : List UInt8} {x : C4} {k : Int} (h : parseP l = (x, k, 0)) : validB x k = true ∧ textT x k = l := by
  unfold parseP at h
  cases hk : kP l with
  | none => rw [hk] at h; simp at h
  | some j =>
    rw [hk] at h
    dsimp only at h
    split at h
    · simp at h
    · rename_i hn
      simp only [Prod.mk.injEq, and_true] at h
      obtain ⟨rfl, rfl⟩ := h
      refine ⟨?_, ?_⟩
      · cases hv : validB (bodP l).1 j with
        | true => rfl
        | false => exact absurd (.inr (.inl hv)) hn
      · exact Classical.byContradiction fun ht => hn (.inr (.inr ht))
theorem parseP_cases (l : List UInt8) : (∃ x k, parseP l = (x, k, 0)) ∨ parseP l = (C0, 0, 3) := by
  unfold parseP
  cases kP l with
  | none => exact .inr rfl
  | some j =>
    dsimp only
    split
    · exact .inr rfl
    · exact .inl ⟨_, _, rfl⟩
end Go.Proofs.YtdomlnhgafielaaGreatDoor
