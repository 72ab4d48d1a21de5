/- Layer 3, plainly: phases joined and double crossings taken out: the same map; nothing to do in what it made. No condition. -/
import Derived.Test.YtkglnnkghillpaaMshLin
import Derived.Laws.Strings
namespace Go.Proofs.Ytkglnnkghillpaa
open Go Amp Msh
/-- The place of the last element of a kind. -/
def lastIx {α : Type} (p : α → Bool) : List α → Option Nat
  | [] => none
  | a :: t => match lastIx p t with
    | some k => some (k + 1)
    | none => if p a = true then some 0 else none
theorem lastIx_none {α : Type} {p : α → Bool} : ∀ {l : List α}, lastIx p l = none → ∀ z ∈ l, p z = false
  | [], _, z, hz => by cases hz
  | a :: t, h, z, hz => by
    simp only [lastIx] at h
    cases ht : lastIx p t with
    | some k => rw [ht] at h; cases h
    | none =>
      rw [ht] at h
      by_cases ha : p a = true
      · simp [ha] at h
      · rcases List.mem_cons.1 hz with rfl | hz
        · simpa using ha
        · exact lastIx_none ht z hz
theorem lastIx_some {α : Type} {p : α → Bool} : ∀ {l : List α} {k : Nat}, lastIx p l = some k → ∃ A y B, l = A ++ y :: B ∧ A.length = k ∧ p y = true ∧ ∀ z ∈ B, p z = false
  | [], k, h => by cases h
  | a :: t, k, h => by
    simp only [lastIx] at h
    cases ht : lastIx p t with
    | some j =>
      rw [ht] at h
      obtain rfl : j + 1 = k := by injection h
      obtain ⟨A, y, B, h1, h2, h3, h4⟩ := lastIx_some ht
      exact ⟨a :: A, y, B, by rw [h1]; rfl, by rw [List.length_cons, h2], h3, h4⟩
    | none =>
      rw [ht] at h
      by_cases ha : p a = true
      · simp [ha] at h
        subst h
        exact ⟨[], a, t, rfl, rfl, ha, lastIx_none ht⟩
      · simp [ha] at h
theorem lastIx_nil {α : Type} {p : α → Bool} : ∀ {l : List α}, (∀ z ∈ l, p z = false) → lastIx p l = none
  | [], _ => rfl
  | a :: t, h => by
    simp only [lastIx]
    rw [lastIx_nil fun z hz => h z (List.mem_cons_of_mem _ hz), h a List.mem_cons_self]
    rfl
theorem lastIx_of {α : Type} {p : α → Bool} {y : α} {B : List α} (hy : p y = true) (hB : ∀ z ∈ B, p z = false) : ∀ A : List α, lastIx p (A ++ y :: B) = some A.length
  | [] => by
    show lastIx p (y :: B) = _
    simp only [lastIx]
    rw [lastIx_nil hB]
    simp [hy]
  | a :: t => by
    show lastIx p (a :: (t ++ y :: B)) = _
    simp only [lastIx]
    rw [lastIx_of hy hB t]
    rfl
theorem It.eq_iff {a b : It} : (a.kind = b.kind ∧ a.pos = b.pos ∧ a.n = b.n ∧ a.name.data = b.name.data) ↔ a = b := by
  constructor
  · rintro ⟨h1, h2, h3, h4⟩
    obtain ⟨_, _, _, ⟨_⟩⟩ := a
    obtain ⟨_, _, _, ⟨_⟩⟩ := b
    dsimp only at *
    subst h1
    subst h2
    subst h3
    subst h4
    rfl
  · rintro rfl
    exact ⟨rfl, rfl, rfl, rfl⟩
instance : DecidableEq It := fun _ _ => decidable_of_iff _ It.eq_iff
/-- One more item, tidied (the reference's way). -/
def stepR (out : List It) (x : It) : List It :=
  match lastIx (fun y => onB y x.pos) out with
  | none => out ++ [x]
  | some k =>
    match out[k]? with
    | none => out ++ [x]
    | some y =>
      if x.kind = 1 ∧ y.kind = 1 then (if (y.n + x.n) % 8 = 0 then out.eraseIdx k else out.set k ⟨y.kind, y.pos, (y.n + x.n) % 8, y.name⟩)
      else if x.kind = 3 ∧ y = x ∧ lastIx (fun y => onB y (x.pos + 1)) out = some k then out.eraseIdx k
      else out ++ [x]
def tidR (l : List It) : List It := l.foldl stepR []
theorem tidR_snoc (l : List It) (x : It) : tidR (l ++ [x]) = stepR (tidR l) x := by simp [tidR, List.foldl_append]
/-- What a step does, by cases. -/
theorem stepR_cases {g : Int} {out : List It} {x : It} (hg : g ≤ 6) (ho : okIts g out = true) (hx : okIt g x = true) :
    (stepR out x = out ++ [x]) ∨
    (∃ A y B, out = A ++ y :: B ∧ x.kind = 1 ∧ y.kind = 1 ∧ y.pos = x.pos ∧ (∀ z ∈ B, touchB x z = false) ∧ ((y.n + x.n) % 8 = 0 ∧ stepR out x = A ++ B ∨ (y.n + x.n) % 8 ≠ 0 ∧ stepR out x = A ++ ⟨y.kind, y.pos, (y.n + x.n) % 8, y.name⟩ :: B)) ∨
    (∃ A B, out = A ++ x :: B ∧ x.kind = 3 ∧ (∀ z ∈ B, touchB x z = false) ∧ stepR out x = A ++ B) := by
  unfold stepR
  cases hl : lastIx (fun y => onB y x.pos) out with
  | none => exact .inl rfl
  | some k =>
    obtain ⟨A, y, B, h1, h2, h3, h4⟩ := lastIx_some hl
    have hk : out[k]? = some y := by rw [h1, ← h2]; simp
    have hoy : okIt g y = true := okIts_at hk ho
    dsimp only
    rw [hk]
    dsimp only
    by_cases c1 : x.kind = 1 ∧ y.kind = 1
    · rw [if_pos c1]
      have hpos : y.pos = x.pos := by
        rcases (on_iff hoy _).1 h3 with e | e
        · exact e.symm
        · exact absurd c1.2 e.1
      have hB : ∀ z ∈ B, touchB x z = false := fun z hz => by
        cases ht : touchB x z with
        | false => rfl
        | true =>
          rcases (touch_iff hx hg).1 ht with e | e
          · rw [h4 z hz] at e; cases e
          · exact absurd c1.1 e.1
      refine .inr (.inl ⟨A, y, B, h1, c1.1, c1.2, hpos, hB, ?_⟩)
      by_cases hs : (y.n + x.n) % 8 = 0
      · rw [if_pos hs]
        exact .inl ⟨hs, by rw [h1, ← h2]; simp [List.eraseIdx_append_of_length_le]⟩
      · rw [if_neg hs]
        exact .inr ⟨hs, by rw [h1, ← h2]; simp⟩
    · rw [if_neg c1]
      by_cases c2 : x.kind = 3 ∧ y = x ∧ lastIx (fun y => onB y (x.pos + 1)) out = some k
      · rw [if_pos c2]
        obtain ⟨k3, rfl, h5⟩ := c2
        obtain ⟨A', y', B', g1, g2, g3, g4⟩ := lastIx_some h5
        have hBB : B' = B := by
          have e1 : out.drop (k + 1) = B := by rw [h1, ← h2]; simp
          have e2 : out.drop (k + 1) = B' := by rw [g1, ← g2]; simp
          rw [← e1, ← e2]
        refine .inr (.inr ⟨A, B, h1, k3, fun z hz => ?_, by rw [h1, ← h2]; simp [List.eraseIdx_append_of_length_le]⟩)
        cases ht : touchB y z with
        | false => rfl
        | true =>
          rcases (touch_iff hx hg).1 ht with e | e
          · rw [h4 z hz] at e; cases e
          · rw [← hBB] at hz; rw [g4 z hz] at e; exact absurd e.2 Bool.false_ne_true
      · rw [if_neg c2]; exact .inl rfl
theorem okIts_app {g : Int} {A B : List It} : okIts g (A ++ B) = true ↔ okIts g A = true ∧ okIts g B = true := by
  unfold okIts
  rw [List.all_append, Bool.and_eq_true]
theorem okIts_cons {g : Int} {y : It} {B : List It} : okIts g (y :: B) = true ↔ okIt g y = true ∧ okIts g B = true := by
  unfold okIts
  rw [List.all_cons, Bool.and_eq_true]
theorem ok_phase {g : Int} {y : It} (h : okIt g y = true) (hk : y.kind = 1) : 1 ≤ y.n ∧ y.n ≤ 7 := by
  obtain ⟨h1, _, _, _, _, h5⟩ := okIt_iff h
  unfold wid at h1
  by_cases hc : 1 ≤ y.n ∧ y.n ≤ 7
  · exact hc
  · rw [if_pos h5, if_neg (fun h => hc h.2), if_neg (by omega)] at h1
    exact absurd rfl h1
theorem ok_turned {g : Int} {y : It} (h : okIt g y = true) (hk : y.kind = 1) {s : Int} (h1 : 1 ≤ s) (h7 : s ≤ 7) : okIt g ⟨y.kind, y.pos, s, y.name⟩ = true := by
  obtain ⟨_, _, hp, hq, _, h5⟩ := okIt_iff h
  have ho : ownW y.kind = 1 := by unfold ownW; rw [if_pos hk]
  rw [ho] at hq
  have hw : wid y.kind s y.name = 1 := by unfold wid; rw [if_pos h5, if_pos ⟨hk, h1, h7⟩]
  unfold okIt
  simp only [hw, Bool.and_eq_true, decide_eq_true_eq]
  omega
theorem stepR_ok {g : Int} {out : List It} {x : It} (hg : g ≤ 6) (ho : okIts g out = true) (hx : okIt g x = true) : okIts g (stepR out x) = true ∧ (stepR out x).length ≤ out.length + 1 := by
  rcases stepR_cases hg ho hx with h | ⟨A, y, B, h1, hx1, hy1, hp, hB, ⟨hs, h⟩ | ⟨hs, h⟩⟩ | ⟨A, B, h1, hx3, hB, h⟩
  · rw [h, okIts_app]
    exact ⟨⟨ho, by unfold okIts; simp [hx]⟩, by simp⟩
  · rw [h1, okIts_app, okIts_cons] at ho
    rw [h, okIts_app]
    exact ⟨⟨ho.1, ho.2.2⟩, by rw [h1]; simp; omega⟩
  · rw [h1, okIts_app, okIts_cons] at ho
    rw [h, okIts_app, okIts_cons]
    have hy := ok_phase ho.2.1 hy1
    have hxx := ok_phase hx hx1
    exact ⟨⟨ho.1, ok_turned ho.2.1 hy1 (by omega) (by omega), ho.2.2⟩, by rw [h1]; simp⟩
  · rw [h1, okIts_app, okIts_cons] at ho
    rw [h, okIts_app]
    exact ⟨⟨ho.1, ho.2.2⟩, by rw [h1]; simp; omega⟩
theorem tidR_ok {g : Int} (hg : g ≤ 6) (l : List It) (h : okIts g l = true) : okIts g (tidR l) = true ∧ (tidR l).length ≤ l.length := by
  induction l using snoc_ind with
  | h0 => exact ⟨rfl, Nat.le_refl _⟩
  | h1 l x ih =>
    rw [okIts_app] at h
    obtain ⟨h1, h2⟩ := ih h.1
    have hx : okIt g x = true := by have := h.2; unfold okIts at this; simpa using this
    have := stepR_ok hg h1 hx
    rw [tidR_snoc, List.length_append]
    exact ⟨this.1, by simp; omega⟩
/-- Phases on one guide, one behind the other. -/
def chkJoin : Bool := (List.range 7).all fun n => (List.range 7).all fun p => !decide (1 ≤ p ∧ p + 1 ≤ n + 1) ||
  ((List.range 8).all fun a => (List.range 8).all fun b => (List.range n).all fun i =>
    decide (mulC ((placeN n p 1 [⟨turnC a ⟨1, 0, 0, 0⟩, 0⟩]).getD (i * n + i) noneZ).x ((placeN n p 1 [⟨turnC b ⟨1, 0, 0, 0⟩, 0⟩]).getD (i * n + i) noneZ).x = ((placeN n p 1 [⟨turnC ((a + b) % 8) ⟨1, 0, 0, 0⟩, 0⟩]).getD (i * n + i) noneZ).x))
theorem chk_join : chkJoin = true := by decide +kernel
def chkZero : Bool := (List.range 7).all fun n => (List.range 7).all fun p => !decide (1 ≤ p ∧ p + 1 ≤ n + 1) || decide (placeN n p 1 [⟨turnC 0 ⟨1, 0, 0, 0⟩, 0⟩] = idN n)
theorem chk_zero : chkZero = true := by decide +kernel
/-- The matrix of a phase. -/
def phM (n p s : Nat) (i k : Nat) : C4 := MV (placeN n p 1 [⟨turnC s ⟨1, 0, 0, 0⟩, 0⟩]) n i k
theorem PV_phase {n : Nat} {x : It} (hk : x.kind = 1) (i k : Nat) : PV n x i k = phM n x.pos.toNat (x.n % 8).toNat i k := by
  unfold PV phM
  rw [show ownW x.kind = 1 by unfold ownW; rw [if_pos hk], show ownM x.kind x.n = [⟨turnC (x.n % 8).toNat ⟨1, 0, 0, 0⟩, 0⟩] by unfold ownM; rw [if_pos hk]]
theorem phM_join {n p a b : Nat} (hn : n ≤ 6) (hp1 : 1 ≤ p) (hpn : p ≤ n) (ha : a < 8) (hb : b < 8) (i : Nat) (hi : i < n) : mulC (phM n p a i i) (phM n p b i i) = rpow 40 (phM n p ((a + b) % 8) i i) := by
  have h1 := chkAll_at (f := fun n p => (List.range 8).all fun a => (List.range 8).all fun b => (List.range n).all fun i => decide (mulC ((placeN n p 1 [⟨turnC a ⟨1, 0, 0, 0⟩, 0⟩]).getD (i * n + i) noneZ).x ((placeN n p 1 [⟨turnC b ⟨1, 0, 0, 0⟩, 0⟩]).getD (i * n + i) noneZ).x = ((placeN n p 1 [⟨turnC ((a + b) % 8) ⟨1, 0, 0, 0⟩, 0⟩]).getD (i * n + i) noneZ).x)) chk_join (n := n) (p := p) (by omega) (by omega) (by omega)
  rw [List.all_eq_true] at h1
  have h2 := h1 a (List.mem_range.2 ha)
  rw [List.all_eq_true] at h2
  have h3 := h2 b (List.mem_range.2 hb)
  rw [List.all_eq_true] at h3
  have h4 := of_decide_eq_true (h3 i (List.mem_range.2 hi))
  have hk : ∀ q, q < 8 → chkK0 (placeN n p 1 [⟨turnC q ⟨1, 0, 0, 0⟩, 0⟩]) = true := fun q hq => by
    have hc := chkE_phase
    rw [List.all_eq_true] at hc
    exact chkAll_at (f := fun n p => chkK0 (placeN n p 1 [⟨turnC q ⟨1, 0, 0, 0⟩, 0⟩])) (hc q (List.mem_range.2 hq)) (by omega) (by omega) (by omega)
  unfold phM MV
  rw [val_k0 (hk a ha), val_k0 (hk b hb), val_k0 (hk _ (by omega)), mul_rpow, mul_rpow', rpow_rpow, rpow_rpow, h4]
theorem phase_off {n : Nat} (hn : n ≤ 6) {x : It} (hx : okIt n x = true) (hk : x.kind = 1) {i k : Nat} (hi : i < n) (hk' : k < n) (hne : i ≠ k) : PV n x i k = zero := by
  rw [PV_out hn hx hi hk' ?_, if_neg hne]
  rintro ⟨h1, h2⟩
  rcases (on_iff hx _).1 h1 with e | e
  · rcases (on_iff hx _).1 h2 with e2 | e2
    · omega
    · exact e2.1 hk
  · exact e.1 hk
theorem phase_join {n : Nat} (hn : n ≤ 6) {x y : It} (hx : okIt n x = true) (hy : okIt n y = true) (hx1 : x.kind = 1) (hy1 : y.kind = 1) (hp : y.pos = x.pos) {i k : Nat} (hi : i < n) (hk : k < n) :
    sumC n (fun a => mulC (PV n x i a) (PV n y a k)) = rpow 40 (if i = k then phM n x.pos.toNat ((y.n + x.n) % 8).toNat i i else zero) := by
  have hxn := ok_phase hx hx1
  have hyn := ok_phase hy hy1
  obtain ⟨_, _, hp1, hpq, _, _⟩ := okIt_iff hx
  rw [show ownW x.kind = 1 by unfold ownW; rw [if_pos hx1]] at hpq
  have e : ∀ a, a < n → mulC (PV n x i a) (PV n y a k) = if i = a then mulC (PV n x i i) (PV n y i k) else zero := fun a ha => by
    by_cases h : i = a
    · subst h; rw [if_pos rfl]
    · rw [if_neg h, phase_off hn hx hx1 hi ha h, zero_mulC]
  rw [sum_congr e, sum_delta hi]
  by_cases h : i = k
  · subst h
    rw [if_pos rfl, PV_phase hx1, PV_phase hy1, hp, phM_join hn (by omega) (by omega) (by omega) (by omega) i hi]
    congr 2
    omega
  · rw [if_neg h, phase_off hn hy hy1 hi hk h, mulC_zero, rpow_zero]
theorem cross_twice {n : Nat} (hn : n ≤ 6) {x : It} (hx : okIt n x = true) (hx3 : x.kind = 3) {i k : Nat} (hi : i < n) (hk : k < n) : sumC n (fun a => mulC (PV n x i a) (PV n x a k)) = if i = k then rpow 80 oneC else zero := by
  obtain ⟨_, _, hp1, hpq, _, _⟩ := okIt_iff hx
  have ho : ownW x.kind = 2 := by unfold ownW; rw [if_neg (by omega)]
  have hm : ownM x.kind x.n = ownM 3 0 := by unfold ownM; rw [if_neg (by omega), if_pos hx3]; rfl
  have hu := placed_uni hn hx
  rw [ho] at hpq
  have hz := chkDag_at chk_cross' (n := n) (p := x.pos.toNat) (by omega) (by omega) (by omega)
  have hadj : ∀ a, a < n → PV n x a k = conjC (PV n x k a) := fun a ha => by
    have := MV_dag (placeN n x.pos.toNat 2 (ownM 3 0)) ha hk
    rw [← hz] at this
    unfold PV
    rw [ho, hm]
    exact this
  have e : ∀ a, a < n → mulC (PV n x i a) (PV n x a k) = mulC (PV n x i a) (conjC (PV n x k a)) := fun a ha => by rw [hadj a ha]
  rw [sum_congr e]
  exact hu.1 i k hi hk
/-- A step keeps the map. -/
theorem stepR_lin {n : Nat} (hn : n ≤ 6) {out : List It} {x : It} (ho : okIts n out = true) (hx : okIt n x = true) :
    ∃ d, (stepR out x).length + d = out.length + 1 ∧ ∀ i k, i < n → k < n → LM n (out ++ [x]) i k = rpow (40 * d) (LM n (stepR out x) i k) := by
  have mid : ∀ (A B C D : List It) (d : Nat), (∀ i k, i < n → k < n → LM n C i k = rpow (40 * d) (LM n D i k)) → ∀ i k, i < n → k < n → LM n (A ++ C ++ B) i k = rpow (40 * d) (LM n (A ++ D ++ B) i k) := fun A B C D d h i k hi hk => by
    rw [LM_append _ B i k hi hk, LM_append _ B i k hi hk, sum_rpow]
    refine sum_congr fun a ha => ?_
    rw [LM_append A C a k ha hk, LM_append A D a k ha hk, ← mul_rpow', sum_rpow]
    congr 1
    exact sum_congr fun b hb => by rw [h a b ha hb, mul_rpow]
  have past : ∀ (A B : List It) (y : It), okIts n B = true → (∀ z ∈ B, touchB x z = false) → ∀ i k, i < n → k < n → LM n (A ++ y :: B ++ [x]) i k = LM n (A ++ [y, x] ++ B) i k := fun A B y hB ht i k hi hk => by
    have e1 : A ++ y :: B ++ [x] = (A ++ [y]) ++ (B ++ [x]) := by simp
    have e2 : A ++ [y, x] ++ B = (A ++ [y]) ++ ([x] ++ B) := by simp
    rw [e1, e2, LM_append _ _ i k hi hk, LM_append _ _ i k hi hk]
    refine sum_congr fun a ha => ?_
    rw [LM_past hn hx B (fun z hz => ⟨by unfold okIts at hB; rw [List.all_eq_true] at hB; exact hB z hz, ht z hz⟩) i a hi ha]
  have pair : ∀ (y : It) i k, i < n → k < n → LM n [y, x] i k = sumC n (fun a => mulC (PV n x i a) (PV n y a k)) := fun y i k hi _ => by
    show sumC n (fun a => mulC (LM n [x] i a) (PV n y a k)) = _
    exact sum_congr fun a _ => by rw [LM_one x hi]
  rcases stepR_cases (show (n : Int) ≤ 6 by omega) ho hx with h | ⟨A, y, B, h1, hx1, hy1, hp, hB, ⟨hs, h⟩ | ⟨hs, h⟩⟩ | ⟨A, B, h1, hx3, hB, h⟩
  · exact ⟨0, by rw [h]; simp, fun i k _ _ => by rw [h]; rfl⟩
  · rw [h1, okIts_app, okIts_cons] at ho
    refine ⟨2, by rw [h, h1]; simp; omega, fun i k hi hk => ?_⟩
    rw [h, h1, past A B y ho.2.2 hB i k hi hk]
    have := mid A B [y, x] [] 2 (fun i k hi hk => ?_) i k hi hk
    · rwa [List.append_nil] at this
    · rw [pair y i k hi hk, phase_join hn hx ho.2.1 hx1 hy1 hp hi hk]
      show rpow 40 _ = rpow 80 (if i = k then oneC else zero)
      obtain ⟨_, _, hp1, hpq, _, _⟩ := okIt_iff hx
      rw [show ownW x.kind = 1 by unfold ownW; rw [if_pos hx1]] at hpq
      have hz := chkAll_at (f := fun n p => decide (placeN n p 1 [⟨turnC 0 ⟨1, 0, 0, 0⟩, 0⟩] = idN n)) chk_zero (n := n) (p := x.pos.toNat) (by omega) (by omega) (by omega)
      by_cases hik : i = k
      · subst hik
        rw [if_pos rfl, if_pos rfl, hs]
        unfold phM
        rw [show ((0 : Int)).toNat = 0 from rfl, of_decide_eq_true hz, MV_id hi hi, if_pos rfl, rpow_rpow]
      · rw [if_neg hik, if_neg hik, rpow_zero, rpow_zero]
  · rw [h1, okIts_app, okIts_cons] at ho
    refine ⟨1, by rw [h, h1]; simp, fun i k hi hk => ?_⟩
    rw [h, h1, past A B y ho.2.2 hB i k hi hk]
    have hy := ok_phase ho.2.1 hy1
    have hxx := ok_phase hx hx1
    have hot := ok_turned ho.2.1 hy1 (s := (y.n + x.n) % 8) (by omega) (by omega)
    have := mid A B [y, x] [⟨y.kind, y.pos, (y.n + x.n) % 8, y.name⟩] 1 (fun i k hi hk => ?_) i k hi hk
    · have e : A ++ [(⟨y.kind, y.pos, (y.n + x.n) % 8, y.name⟩ : It)] ++ B = A ++ ⟨y.kind, y.pos, (y.n + x.n) % 8, y.name⟩ :: B := by simp
      rwa [e] at this
    · rw [pair y i k hi hk, phase_join hn hx ho.2.1 hx1 hy1 hp hi hk, LM_one _ hi]
      congr 1
      by_cases hik : i = k
      · subst hik
        rw [if_pos rfl, PV_phase (x := ⟨y.kind, y.pos, (y.n + x.n) % 8, y.name⟩) hy1]
        dsimp only
        rw [hp]
        congr 1
        omega
      · rw [if_neg hik, phase_off hn hot hy1 hi hk hik]
  · rw [h1, okIts_app, okIts_cons] at ho
    refine ⟨2, by rw [h, h1]; simp; omega, fun i k hi hk => ?_⟩
    rw [h, h1, past A B x ho.2.2 hB i k hi hk]
    have := mid A B [x, x] [] 2 (fun i k hi hk => ?_) i k hi hk
    · rwa [List.append_nil] at this
    · rw [pair x i k hi hk, cross_twice hn hx hx3 hi hk]
      show _ = rpow 80 (if i = k then oneC else zero)
      by_cases hik : i = k
      · rw [if_pos hik, if_pos hik]
      · rw [if_neg hik, if_neg hik, rpow_zero]
theorem tidR_lin {n : Nat} (hn : n ≤ 6) (l : List It) (h : okIts n l = true) : ∃ d, (tidR l).length + d = l.length ∧ ∀ i k, i < n → k < n → LM n l i k = rpow (40 * d) (LM n (tidR l) i k) := by
  induction l using snoc_ind with
  | h0 => exact ⟨0, rfl, fun _ _ _ _ => rfl⟩
  | h1 l x ih =>
    rw [okIts_app] at h
    obtain ⟨d1, h1, h2⟩ := ih h.1
    have hx : okIt n x = true := by have := h.2; unfold okIts at this; simpa using this
    obtain ⟨d2, h3, h4⟩ := stepR_lin hn (tidR_ok (show (n : Int) ≤ 6 by omega) l h.1).1 hx
    refine ⟨d1 + d2, by rw [tidR_snoc, List.length_append]; simp; omega, fun i k hi hk => ?_⟩
    rw [LM_append l [x] i k hi hk, tidR_snoc, show 40 * (d1 + d2) = 40 * d1 + 40 * d2 by omega, ← rpow_rpow, ← h4 i k hi hk, LM_append (tidR l) [x] i k hi hk, sum_rpow]
    exact sum_congr fun a ha => by rw [h2 a k ha hk, mul_rpow']
theorem tidR_law {n : Nat} (hn : n ≤ 6) {l : List It} {A B : List Num} (hok : okIts n l = true) (hA : itsM n l (idN n) = (A, 0)) (hB : itsM n (tidR l) (idN n) = (B, 0)) : B = A := by
  have sA := itsM_shape l (idN n) (idN_valid n) (idN_length n) (by rw [hA])
  have sB := itsM_shape (tidR l) (idN n) (idN_valid n) (idN_length n) (by rw [hB])
  rw [hA] at sA
  rw [hB] at sB
  obtain ⟨d, h1, h2⟩ := tidR_lin hn l hok
  refine mat_ext sB.1 sA.1 sB.2 sA.2 fun i k hi hk => ?_
  apply rpow_inj (40 * l.length)
  have h3 := itsM_id (n := n) (its := l) (by rw [hA]) hi hk
  have h4 := itsM_id (n := n) (its := tidR l) (by rw [hB]) hi hk
  rw [hA] at h3
  rw [hB] at h4
  rw [h3, h2 i k hi hk, ← h1, show 40 * ((tidR l).length + d) = 40 * d + 40 * (tidR l).length by omega, ← rpow_rpow, h4, rpow_rpow, rpow_rpow, Nat.add_comm]
end Go.Proofs.Ytkglnnkghillpaa

/- Layer 3, plainly: tidying with places, flags and stacks; it is the reference's tidying; nothing to do in what it made. No condition. -/

namespace Go.Proofs.Ytkglnnkghillpaa
open Go Amp Msh
/-- The items with their flags: which are still there. -/
def alv (S : List (It × Bool)) : List It := (S.filter Prod.snd).map Prod.fst
theorem alv_app (S T : List (It × Bool)) : alv (S ++ T) = alv S ++ alv T := by simp [alv]
theorem alv_on (y : It) (T : List (It × Bool)) : alv ((y, true) :: T) = y :: alv T := by simp [alv]
theorem alv_off (y : It) (T : List (It × Bool)) : alv ((y, false) :: T) = alv T := by simp [alv]
def onS (g : Int) (s : It × Bool) : Bool := s.2 && onB s.1 g
theorem onS_alv {g : Int} {T : List (It × Bool)} (h : ∀ s ∈ T, onS g s = false) : ∀ z ∈ alv T, onB z g = false := fun z hz => by
  unfold alv at hz
  obtain ⟨s, hs, rfl⟩ := List.mem_map.1 hz
  obtain ⟨h1, h2⟩ := List.mem_filter.1 hs
  have := h s h1
  unfold onS at this
  rw [h2, Bool.true_and] at this
  exact this
theorem last_alv (g : Int) (S : List (It × Bool)) : (lastIx (onS g) S = none ∧ lastIx (fun y => onB y g) (alv S) = none) ∨ ∃ A y B, S = A ++ (y, true) :: B ∧ onB y g = true ∧ (∀ s ∈ B, onS g s = false) ∧ lastIx (onS g) S = some A.length ∧ lastIx (fun y => onB y g) (alv S) = some (alv A).length := by
  cases h : lastIx (onS g) S with
  | none => exact .inl ⟨rfl, lastIx_nil (onS_alv (lastIx_none h))⟩
  | some k =>
    obtain ⟨A, ⟨y, b⟩, B, h1, h2, h3, h4⟩ := lastIx_some h
    unfold onS at h3
    rw [Bool.and_eq_true] at h3
    obtain ⟨rfl, h5⟩ := h3
    refine .inr ⟨A, y, B, h1, h5, h4, by rw [h2], ?_⟩
    rw [h1, alv_app, alv_on]
    exact lastIx_of (p := fun y => onB y g) h5 (onS_alv h4) (alv A)
/-- One more item, tidied (the program's way). -/
def putS (S : List (It × Bool)) (x : It) : List (It × Bool) :=
  match lastIx (onS x.pos) S with
  | none => S ++ [(x, true)]
  | some k =>
    match S[k]? with
    | none => S ++ [(x, true)]
    | some s =>
      if s.1.kind = x.kind ∧ s.1.pos = x.pos then
        (if x.kind = 1 then S.set k (⟨s.1.kind, s.1.pos, (s.1.n + x.n) % 8, s.1.name⟩, decide ((s.1.n + x.n) % 8 ≠ 0))
        else if x.kind = 3 ∧ lastIx (onS (x.pos + 1)) S = some k then S.set k (s.1, false)
        else S ++ [(x, true)])
      else S ++ [(x, true)]
def tidS (l : List It) : List (It × Bool) := l.foldl putS []
theorem tidS_snoc (l : List It) (x : It) : tidS (l ++ [x]) = putS (tidS l) x := by simp [tidS, List.foldl_append]
theorem ok_cross {g : Int} {y : It} (h : okIt g y = true) (hk : y.kind = 3) : y.n = 0 ∧ y.name.toList = [] := by
  obtain ⟨h1, _, _, _, _, h5⟩ := okIt_iff h
  refine ⟨?_, h5⟩
  unfold wid at h1
  rw [if_pos h5, if_neg (by omega)] at h1
  by_cases hc : y.n = 0
  · exact hc
  · rw [if_neg (fun h => hc h.2)] at h1
    exact absurd rfl h1
theorem data_nil {s : ByteArray} (h : s.toList = []) : s.data = #[] := by
  rw [ByteArray.toList_eq] at h
  exact Array.toList_eq_nil_iff.1 h
theorem cross_eq {g : Int} {x y : It} (hx : okIt g x = true) (hy : okIt g y = true) (h3 : x.kind = 3) (hk : y.kind = x.kind) (hp : y.pos = x.pos) : y = x := by
  obtain ⟨n1, e1⟩ := ok_cross hx h3
  obtain ⟨n2, e2⟩ := ok_cross hy (by rw [hk]; exact h3)
  exact It.eq_iff.1 ⟨hk, hp, by omega, by rw [data_nil e1, data_nil e2]⟩
theorem putS_alv {g : Int} {S : List (It × Bool)} {x : It} (ho : okIts g (alv S) = true) (hx : okIt g x = true) : alv (putS S x) = stepR (alv S) x := by
  have app : alv (S ++ [(x, true)]) = alv S ++ [x] := by rw [alv_app, alv_on]; rfl
  unfold putS stepR
  rcases last_alv x.pos S with ⟨h1, h2⟩ | ⟨A, y, B, h1, h2, h3, h4, h5⟩
  · rw [h1, h2]
    exact app
  · rw [h4, h5]
    have e1 : S[A.length]? = some (y, true) := by rw [h1]; simp
    have e2 : alv S = alv A ++ y :: alv B := by rw [h1, alv_app, alv_on]
    have e3 : (alv S)[(alv A).length]? = some y := by rw [e2]; simp
    have hy : okIt g y = true := okIts_at e3 ho
    dsimp only
    rw [e1, e3]
    dsimp only
    have er : (alv S).eraseIdx (alv A).length = alv A ++ alv B := by rw [e2]; simp [List.eraseIdx_append_of_length_le]
    have es : ∀ z b, S.set A.length (z, b) = A ++ (z, b) :: B := fun z b => by rw [h1]; simp
    by_cases c1 : x.kind = 1 ∧ y.kind = 1
    · have hpos : y.pos = x.pos := by
        rcases (on_iff hy _).1 h2 with e | e
        · exact e.symm
        · exact absurd c1.2 e.1
      rw [if_pos ⟨by omega, hpos⟩, if_pos c1.1, if_pos c1, es]
      by_cases hs : (y.n + x.n) % 8 = 0
      · rw [if_pos hs, er, decide_eq_false (fun h => h hs), alv_app, alv_off]
      · rw [if_neg hs, decide_eq_true hs, alv_app, alv_on, e2]
        simp
    · rw [if_neg c1]
      by_cases c2 : y.kind = x.kind ∧ y.pos = x.pos
      · rw [if_pos c2, if_neg (fun h => c1 ⟨h, by omega⟩)]
        by_cases h3k : x.kind = 3
        · have hyx := cross_eq hx hy h3k c2.1 c2.2
          have hon1 : onB y (x.pos + 1) = true := (on_iff hy _).2 (.inr ⟨by omega, by rw [c2.2]⟩)
          have key : lastIx (onS (x.pos + 1)) S = some A.length ↔ lastIx (fun y => onB y (x.pos + 1)) (alv S) = some (alv A).length := by
            constructor
            · intro h
              obtain ⟨A', s', B', g1, g2, g3, g4⟩ := lastIx_some h
              have e : B' = B := by
                have x1 : S.drop (A.length + 1) = B := by rw [h1]; simp
                have x2 : S.drop (A.length + 1) = B' := by rw [g1, ← g2]; simp
                rw [← x1, ← x2]
              rw [e] at g4
              rw [e2]
              exact lastIx_of (p := fun y => onB y (x.pos + 1)) hon1 (onS_alv g4) (alv A)
            · intro h
              have hB : ∀ s ∈ B, onS (x.pos + 1) s = false := fun s hs => by
                cases hss : onS (x.pos + 1) s with
                | false => rfl
                | true =>
                  unfold onS at hss
                  rw [Bool.and_eq_true] at hss
                  obtain ⟨A', s', B', g1, g2, g3, g4⟩ := lastIx_some h
                  have e : B' = alv B := by
                    have x1 : (alv S).drop ((alv A).length + 1) = alv B := by rw [e2]; simp
                    have x2 : (alv S).drop ((alv A).length + 1) = B' := by rw [g1, ← g2]; simp
                    rw [← x1, ← x2]
                  have hm : s.1 ∈ alv B := by
                    unfold alv
                    exact List.mem_map.2 ⟨s, List.mem_filter.2 ⟨hs, hss.1⟩, rfl⟩
                  rw [← e] at hm
                  have := g4 _ hm
                  rw [hss.2] at this
                  cases this
              rw [h1]
              exact lastIx_of (p := onS (x.pos + 1)) (by unfold onS; rw [hon1]; rfl) hB A
          by_cases h6 : lastIx (onS (x.pos + 1)) S = some A.length
          · rw [if_pos ⟨h3k, h6⟩, if_pos ⟨h3k, hyx, key.1 h6⟩, es, er, alv_app, alv_off]
          · rw [if_neg (fun h => h6 h.2), if_neg (fun h => h6 (key.2 h.2.2)), app]
        · rw [if_neg (fun h => h3k h.1), if_neg (fun h => h3k h.1), app]
      · rw [if_neg c2, if_neg (fun h => c2 ⟨by rw [h.2.1], by rw [h.2.1]⟩), app]
theorem tidS_alv {g : Int} (hg : g ≤ 6) (l : List It) (h : okIts g l = true) : alv (tidS l) = tidR l := by
  induction l using snoc_ind with
  | h0 => rfl
  | h1 l x ih =>
    rw [okIts_app] at h
    have hx : okIt g x = true := by have := h.2; unfold okIts at this; simpa using this
    have e := ih h.1
    rw [tidS_snoc, tidR_snoc, putS_alv (by rw [e]; exact (tidR_ok hg l h.1).1) hx, e]
end Go.Proofs.Ytkglnnkghillpaa

/- Layer 3, plainly: the stacks of the places of the items on each guide. No condition. -/

namespace Go.Proofs.Ytkglnnkghillpaa
open Go Amp Msh
/-- The places, from o on, of the items that are still there on a guide. -/
def stkO (g : Int) : Nat → List (It × Bool) → List Int
  | _, [] => []
  | o, s :: t => (if onS g s = true then [(o : Int)] else []) ++ stkO g (o + 1) t
def stk (S : List (It × Bool)) (g : Int) : List Int := stkO g 0 S
theorem stkO_app (g : Int) : ∀ (A B : List (It × Bool)) (o : Nat), stkO g o (A ++ B) = stkO g o A ++ stkO g (o + A.length) B
  | [], B, o => rfl
  | s :: t, B, o => by
    show (if onS g s = true then [(o : Int)] else []) ++ stkO g (o + 1) (t ++ B) = _
    rw [stkO_app g t B (o + 1), List.length_cons, show o + (t.length + 1) = o + 1 + t.length by omega, ← List.append_assoc]
    rfl
theorem stkO_none {g : Int} : ∀ {B : List (It × Bool)} (o : Nat), (∀ s ∈ B, onS g s = false) → stkO g o B = []
  | [], _, _ => rfl
  | s :: t, o, h => by
    show (if onS g s = true then [(o : Int)] else []) ++ stkO g (o + 1) t = []
    rw [h s List.mem_cons_self, stkO_none (o + 1) fun z hz => h z (List.mem_cons_of_mem _ hz)]
    rfl
theorem stk_snoc (S : List (It × Bool)) (x : It) (g : Int) : stk (S ++ [(x, true)]) g = stk S g ++ if onB x g = true then [(S.length : Int)] else [] := by
  unfold stk
  rw [stkO_app, Nat.zero_add]
  congr 1
  show (if onS g (x, true) = true then [(S.length : Int)] else []) ++ [] = _
  unfold onS
  rw [Bool.true_and, List.append_nil]
/-- The place of the last item on a guide, or -1. -/
def topI (S : List (It × Bool)) (g : Int) : Int := match lastIx (onS g) S with | some k => k | none => -1
theorem stk_top (S : List (It × Bool)) (g : Int) : (stk S g = [] ∧ topI S g = -1 ∧ lastIx (onS g) S = none) ∨ ∃ (L : List Int) (k : Nat), stk S g = L ++ [(k : Int)] ∧ topI S g = k ∧ lastIx (onS g) S = some k ∧ k < S.length := by
  unfold topI
  cases h : lastIx (onS g) S with
  | none => exact .inl ⟨stkO_none 0 (lastIx_none h), rfl, rfl⟩
  | some k =>
    obtain ⟨A, s, B, h1, h2, h3, h4⟩ := lastIx_some h
    refine .inr ⟨stkO g 0 A, k, ?_, rfl, rfl, by rw [h1, ← h2]; simp⟩
    unfold stk
    rw [h1, stkO_app]
    congr 1
    show (if onS g s = true then [((0 + A.length : Nat) : Int)] else []) ++ stkO g (0 + A.length + 1) B = _
    rw [if_pos h3, stkO_none _ h4, Nat.zero_add, h2]
    rfl
/-- The last item on a guide is taken out. -/
theorem stk_drop {S : List (It × Bool)} {g : Int} {k : Nat} (h : lastIx (onS g) S = some k) (y : It) : stk (S.set k (y, false)) g = (stk S g).take ((stk S g).length - 1) ∧ 1 ≤ (stk S g).length := by
  obtain ⟨A, s, B, h1, h2, h3, h4⟩ := lastIx_some h
  have e1 : stk S g = stkO g 0 A ++ [(k : Int)] := by
    unfold stk
    rw [h1, stkO_app]
    congr 1
    show (if onS g s = true then [((0 + A.length : Nat) : Int)] else []) ++ stkO g (0 + A.length + 1) B = _
    rw [if_pos h3, stkO_none _ h4, Nat.zero_add, h2]
    rfl
  have e2 : S.set k (y, false) = A ++ (y, false) :: B := by rw [h1, ← h2]; simp
  have e3 : stk (S.set k (y, false)) g = stkO g 0 A := by
    unfold stk
    rw [e2, stkO_app]
    show stkO g 0 A ++ ((if onS g (y, false) = true then [((0 + A.length : Nat) : Int)] else []) ++ stkO g (0 + A.length + 1) B) = _
    rw [stkO_none _ h4]
    unfold onS
    simp
  rw [e3, e1]
  exact ⟨by simp, by simp⟩
/-- A change that leaves a guide alone. -/
theorem stk_same {S : List (It × Bool)} {g : Int} {k : Nat} {s s' : It × Bool} (hk : S[k]? = some s) (h : onS g s' = onS g s) : stk (S.set k s') g = stk S g := by
  obtain ⟨hlt, rfl⟩ := List.getElem?_eq_some_iff.1 hk
  have e : S = S.take k ++ S[k] :: S.drop (k + 1) := by simp
  have e2 : S.set k s' = S.take k ++ s' :: S.drop (k + 1) := by
    rw [List.set_eq_take_append_cons_drop, if_pos hlt]
  unfold stk
  rw [e2, stkO_app]
  conv => rhs; rw [e, stkO_app]
  congr 1
  show (if onS g s' = true then _ else []) ++ _ = (if onS g S[k] = true then _ else []) ++ _
  rw [h]
theorem stkO_bound {g : Int} : ∀ (S : List (It × Bool)) (o : Nat), ∀ c ∈ stkO g o S, (o : Int) ≤ c ∧ c < o + S.length
  | [], _, c, h => by cases h
  | s :: t, o, c, h => by
    rcases List.mem_append.1 h with h | h
    · split at h
      · rw [List.mem_singleton] at h; subst h; simp; omega
      · cases h
    · have := stkO_bound t (o + 1) c h
      simp
      omega
theorem stkO_length (g : Int) : ∀ (S : List (It × Bool)) (o : Nat), (stkO g o S).length ≤ S.length
  | [], _ => Nat.le_refl _
  | s :: t, o => by
    have := stkO_length g t (o + 1)
    show ((if onS g s = true then [(o : Int)] else []) ++ stkO g (o + 1) t).length ≤ _
    rw [List.length_append, List.length_cons]
    split <;> simp <;> omega
theorem putS_length (S : List (It × Bool)) (x : It) : (putS S x).length ≤ S.length + 1 := by
  unfold putS
  split
  · simp
  · split
    · simp
    · split
      · split
        · simp
        · split <;> simp
      · simp
end Go.Proofs.Ytkglnnkghillpaa

/- Layer 3, plainly: tidying finds nothing to do in what it made. No condition. -/

namespace Go.Proofs.Ytkglnnkghillpaa
open Go Amp Msh
/-- Something to do: an item that the next one joins. -/
def Bad (out : List It) (x : It) : Prop := ∃ A y B, out = A ++ y :: B ∧ onB y x.pos = true ∧ (∀ z ∈ B, onB z x.pos = false) ∧ ((x.kind = 1 ∧ y.kind = 1) ∨ (x.kind = 3 ∧ y = x ∧ ∀ z ∈ B, onB z (x.pos + 1) = false))
theorem stepR_bad {g : Int} {out : List It} {x : It} (hx : okIt g x = true) (h : Bad out x) : stepR out x ≠ out ++ [x] := by
  obtain ⟨A, y, B, h1, h2, h3, h4⟩ := h
  have e1 : lastIx (fun y => onB y x.pos) out = some A.length := by rw [h1]; exact lastIx_of (p := fun y => onB y x.pos) h2 h3 A
  have e2 : out[A.length]? = some y := by rw [h1]; simp
  have hlt : A.length < out.length := (List.getElem?_eq_some_iff.1 e2).1
  intro hc
  have hl := congrArg List.length hc
  unfold stepR at hl
  rw [e1] at hl
  dsimp only at hl
  rw [e2] at hl
  dsimp only at hl
  rw [List.length_append] at hl
  rcases h4 with h4 | ⟨h5, rfl, h6⟩
  · rw [if_pos h4] at hl
    split at hl
    · rw [List.length_eraseIdx, if_pos hlt] at hl; simp at hl
    · simp at hl
  · have e3 : lastIx (fun z => onB z (y.pos + 1)) out = some A.length := by
      rw [h1]
      exact lastIx_of (p := fun z => onB z (y.pos + 1)) ((on_iff hx _).2 (.inr ⟨by omega, rfl⟩)) h6 A
    rw [if_neg (by omega), if_pos ⟨h5, rfl, e3⟩, List.length_eraseIdx, if_pos hlt] at hl
    simp at hl
theorem stepR_good {g : Int} {out : List It} {x : It} (hg : g ≤ 6) (ho : okIts g out = true) (hx : okIt g x = true) (h : ¬ Bad out x) : stepR out x = out ++ [x] := by
  have tb : ∀ {z : It}, touchB x z = false → onB z x.pos = false ∧ (x.kind ≠ 1 → onB z (x.pos + 1) = false) := fun {z} ht => by
    have hi := touch_iff (y := z) hx hg
    rw [ht] at hi
    refine ⟨?_, fun hk => ?_⟩
    · cases hz : onB z x.pos with
      | false => rfl
      | true => exact absurd (hi.2 (.inl hz)) Bool.false_ne_true
    · cases hz : onB z (x.pos + 1) with
      | false => rfl
      | true => exact absurd (hi.2 (.inr ⟨hk, hz⟩)) Bool.false_ne_true
  rcases stepR_cases hg ho hx with h1 | ⟨A, y, B, h1, hx1, hy1, hp, hB, _⟩ | ⟨A, B, h1, hx3, hB, _⟩
  · exact h1
  · rw [h1, okIts_app, okIts_cons] at ho
    exact absurd ⟨A, y, B, h1, (on_iff ho.2.1 _).2 (.inl hp.symm), fun z hz => (tb (hB z hz)).1, .inl ⟨hx1, hy1⟩⟩ h
  · exact absurd ⟨A, x, B, h1, (on_iff hx _).2 (.inl rfl), fun z hz => (tb (hB z hz)).1, .inr ⟨hx3, rfl, fun z hz => (tb (hB z hz)).2 (by omega)⟩⟩ h
/-- Nothing to do anywhere. -/
def Neat (l : List It) : Prop := ∀ A x B, l = A ++ x :: B → ¬ Bad A x
theorem cut_app {α : Type} : ∀ {A B A' : List α} {x : α} {B' : List α}, A ++ B = A' ++ x :: B' → (∃ C, A = A' ++ x :: C ∧ B' = C ++ B) ∨ (∃ C, A' = A ++ C ∧ B = C ++ x :: B')
  | [], B, A', x, B', h => .inr ⟨A', rfl, h⟩
  | a :: t, B, [], x, B', h => by
    simp only [List.cons_append, List.nil_append, List.cons.injEq] at h
    obtain ⟨rfl, rfl⟩ := h
    exact .inl ⟨t, rfl, rfl⟩
  | a :: t, B, b :: A', x, B', h => by
    simp only [List.cons_append, List.cons.injEq] at h
    obtain ⟨rfl, h⟩ := h
    rcases cut_app h with ⟨C, h1, h2⟩ | ⟨C, h1, h2⟩
    · exact .inl ⟨C, by rw [h1]; rfl, h2⟩
    · exact .inr ⟨C, by rw [h1]; rfl, h2⟩
/-- Where an item lies that the next one does not meet, it plays no part. -/
theorem bad_more {A B : List It} {y x : It} (h1 : onB y x.pos = false) (h2 : x.kind = 3 → onB y (x.pos + 1) = false) (h : Bad (A ++ B) x) : Bad (A ++ y :: B) x := by
  obtain ⟨A', z, B', e, hz, hB, hk⟩ := h
  rcases cut_app e with ⟨C, e1, e2⟩ | ⟨C, e1, e2⟩
  · refine ⟨A', z, C ++ y :: B, by rw [e1]; simp, hz, fun u hu => ?_, ?_⟩
    · rcases List.mem_append.1 hu with hu | hu
      · exact hB u (by rw [e2]; exact List.mem_append_left _ hu)
      · rcases List.mem_cons.1 hu with rfl | hu
        · exact h1
        · exact hB u (by rw [e2]; exact List.mem_append_right _ hu)
    · rcases hk with hk | ⟨k3, hk, hk2⟩
      · exact .inl hk
      · refine .inr ⟨k3, hk, fun u hu => ?_⟩
        rcases List.mem_append.1 hu with hu | hu
        · exact hk2 u (by rw [e2]; exact List.mem_append_left _ hu)
        · rcases List.mem_cons.1 hu with rfl | hu
          · exact h2 k3
          · exact hk2 u (by rw [e2]; exact List.mem_append_right _ hu)
  · exact ⟨A ++ y :: C, z, B', by rw [e2]; simp, hz, hB, hk⟩
theorem neat_front {A B : List It} (h : Neat (A ++ B)) : Neat A := fun C x D e => h C x (D ++ B) (by rw [e]; simp)
theorem neat_step {g : Int} {out : List It} {x : It} (hg : g ≤ 6) (ho : okIts g out = true) (hx : okIt g x = true) (hn : Neat out) : Neat (stepR out x) := by
  have tb : ∀ {z : It}, okIt g z = true → touchB x z = false → ∀ q, onB x q = true → onB z q = false := fun {z} hz ht q hq => by
    cases hzq : onB z q with
    | false => rfl
    | true =>
      rcases (on_iff hx _).1 hq with e | e
      · have := (touch_iff (y := z) hx hg).2 (.inl (e ▸ hzq))
        rw [ht] at this; cases this
      · have := (touch_iff (y := z) hx hg).2 (.inr ⟨e.1, e.2 ▸ hzq⟩)
        rw [ht] at this; cases this
  by_cases hb : Bad out x
  case neg =>
    rw [stepR_good hg ho hx hb]
    intro A y B e
    rcases cut_app e with ⟨C, e1, _⟩ | ⟨C, e1, e2⟩
    · exact hn A y C e1
    · cases C with
      | nil =>
        simp at e2
        obtain ⟨rfl, _⟩ := e2
        rw [e1, List.append_nil]
        exact hb
      | cons c t => simp at e2
  case pos =>
    have offg : ∀ (y : It) (B : List It), (∀ q, onB y q = true → onB x q = true) → okIts g B = true → (∀ z ∈ B, touchB x z = false) → ∀ B1 z B2, B = B1 ++ z :: B2 → onB y z.pos = false ∧ (z.kind = 3 → onB y (z.pos + 1) = false) := fun y B hyx hoB hB B1 z B2 e => by
      have hz : z ∈ B := by rw [e]; simp
      have hoz : okIt g z = true := by unfold okIts at hoB; rw [List.all_eq_true] at hoB; exact hoB z hz
      have h1 := tb hoz (hB z hz)
      refine ⟨?_, fun hk => ?_⟩
      · cases h : onB y z.pos with
        | false => rfl
        | true =>
          have := h1 _ (hyx _ h)
          rw [(on_iff hoz _).2 (.inl rfl)] at this
          cases this
      · cases h : onB y (z.pos + 1) with
        | false => rfl
        | true =>
          have := h1 _ (hyx _ h)
          rw [(on_iff hoz _).2 (.inr ⟨by omega, rfl⟩)] at this
          cases this
    rcases stepR_cases hg ho hx with h | ⟨A, y, B, h1, hx1, hy1, hp, hB, hs⟩ | ⟨A, B, h1, hx3, hB, h⟩
    · exact absurd h (stepR_bad hx hb)
    · rw [h1] at hn
      rw [h1, okIts_app, okIts_cons] at ho
      have hyx : ∀ q, onB y q = true → onB x q = true := fun q hq => by
        rcases (on_iff ho.2.1 _).1 hq with e | e
        · exact (on_iff hx _).2 (.inl (by rw [e, hp]))
        · exact absurd hy1 e.1
      rcases hs with ⟨_, h⟩ | ⟨hs, h⟩
      · rw [h]
        intro C z D e
        rcases cut_app e with ⟨E, e1, _⟩ | ⟨E, e1, e2⟩
        · exact hn C z (E ++ y :: B) (by rw [e1]; simp)
        · obtain ⟨o1, o2⟩ := offg y B hyx ho.2.2 hB E z D e2
          rw [e1]
          intro hbad
          exact hn (A ++ y :: E) z D (by rw [e2]; simp) (bad_more o1 o2 hbad)
      · rw [h]
        have hyn := ok_phase ho.2.1 hy1
        have hxn := ok_phase hx hx1
        have hot := ok_turned ho.2.1 hy1 (s := (y.n + x.n) % 8) (by omega) (by omega)
        obtain ⟨y', hy'⟩ : ∃ y' : It, (⟨y.kind, y.pos, (y.n + x.n) % 8, y.name⟩ : It) = y' := ⟨_, rfl⟩
        have hk' : y'.kind = 1 := by rw [← hy']; exact hy1
        have hp' : y'.pos = y.pos := by rw [← hy']
        rw [hy'] at hot ⊢
        have hyx' : ∀ q, onB y' q = true → onB x q = true := fun q hq => by
          rcases (on_iff hot _).1 hq with e | e
          · exact (on_iff hx _).2 (.inl (by rw [e, hp', hp]))
          · exact absurd hk' e.1
        intro C z D e
        rcases cut_app e with ⟨E, e1, _⟩ | ⟨E, e1, e2⟩
        · exact hn C z (E ++ y :: B) (by rw [e1]; simp)
        · cases E with
          | nil =>
            simp only [List.nil_append, List.cons.injEq] at e2
            obtain ⟨e3, _⟩ := e2
            subst e3
            rw [e1, List.append_nil]
            rintro ⟨A', u, B', f1, f2, f3, f4⟩
            refine hn A y B rfl ⟨A', u, B', f1, by rw [← hp']; exact f2, fun v hv => by rw [← hp']; exact f3 v hv, .inl ⟨hy1, ?_⟩⟩
            rcases f4 with f4 | f4
            · exact f4.2
            · omega
          | cons c E =>
            simp only [List.cons_append, List.cons.injEq] at e2
            obtain ⟨e3, e4⟩ := e2
            obtain ⟨o1, o2⟩ := offg y B hyx ho.2.2 hB E z D e4
            obtain ⟨p1, p2⟩ := offg y' B hyx' ho.2.2 hB E z D e4
            rw [e1, ← e3]
            rintro ⟨A', u, B', f1, f2, f3, f4⟩
            refine hn (A ++ y :: E) z D (by rw [e4]; simp) (bad_more o1 o2 ?_)
            rcases cut_app f1 with ⟨F, g1, g2⟩ | ⟨F, g1, g2⟩
            · refine ⟨A', u, F ++ E, by rw [g1]; simp, f2, fun v hv => f3 v (by rw [g2]; rcases List.mem_append.1 hv with hv | hv; exact List.mem_append_left _ hv; exact List.mem_append_right _ (List.mem_cons_of_mem _ hv)), ?_⟩
              rcases f4 with f4 | ⟨k3, f5, f6⟩
              · exact .inl f4
              · exact .inr ⟨k3, f5, fun v hv => f6 v (by rw [g2]; rcases List.mem_append.1 hv with hv | hv; exact List.mem_append_left _ hv; exact List.mem_append_right _ (List.mem_cons_of_mem _ hv))⟩
            · cases F with
              | nil =>
                simp only [List.nil_append, List.cons.injEq] at g2
                rw [← g2.1, p1] at f2
                cases f2
              | cons d F =>
                simp only [List.cons_append, List.cons.injEq] at g2
                exact ⟨A ++ F, u, B', by rw [g2.2]; simp, f2, f3, f4⟩
    · rw [h1] at hn
      rw [h1, okIts_app, okIts_cons] at ho
      rw [h]
      intro C z D e
      rcases cut_app e with ⟨E, e1, _⟩ | ⟨E, e1, e2⟩
      · exact hn C z (E ++ x :: B) (by rw [e1]; simp)
      · obtain ⟨o1, o2⟩ := offg x B (fun _ h => h) ho.2.2 hB E z D e2
        rw [e1]
        intro hbad
        exact hn (A ++ x :: E) z D (by rw [e2]; simp) (bad_more o1 o2 hbad)
theorem tidR_neat {g : Int} (hg : g ≤ 6) (l : List It) (h : okIts g l = true) : Neat (tidR l) := by
  induction l using snoc_ind with
  | h0 => intro A x B e; have := congrArg List.length e; simp [tidR] at this
  | h1 l x ih =>
    rw [okIts_app] at h
    have hx : okIt g x = true := by have := h.2; unfold okIts at this; simpa using this
    rw [tidR_snoc]
    exact neat_step hg (tidR_ok hg l h.1).1 hx (ih h.1)
theorem neat_tidR {g : Int} (hg : g ≤ 6) (l : List It) (h : okIts g l = true) (hn : Neat l) : tidR l = l := by
  induction l using snoc_ind with
  | h0 => rfl
  | h1 l x ih =>
    have h' := okIts_app.1 h
    have hx : okIt g x = true := by have := h'.2; unfold okIts at this; simpa using this
    rw [tidR_snoc, ih h'.1 (neat_front hn)]
    exact stepR_good hg h'.1 hx (hn l x [] rfl)
/-- Tidying twice is tidying once. -/
theorem tidR_twice {g : Int} (hg : g ≤ 6) (l : List It) (h : okIts g l = true) : tidR (tidR l) = tidR l :=
  neat_tidR hg _ (tidR_ok hg l h).1 (tidR_neat hg l h)
end Go.Proofs.Ytkglnnkghillpaa
