/- House lemmas on regions that draw their order, continued: what stands at the end waits for all that stands before it, if need be by a chain of edges. No condition; no program in sight. -/
import Derived.Test.YtkglnnkghillpaaRegion
namespace Go.R3
open Go Go.RowKit

/-- An operation waits for another, by a chain of edges. -/
inductive Reach (l : List Oper) : Nat → Nat → Prop
  | one {i : Nat} {o : Oper} {e : Edge} : l[i]? = some o → e ∈ o.after → Region.binds .any e = true → Reach l i e.on
  | more {i j : Nat} {o : Oper} {e : Edge} : l[i]? = some o → e ∈ o.after → Region.binds .any e = true → Reach l e.on j → Reach l i j

def maskGo (acc : List Nat) : List Edge → Nat → Nat
  | [], m => m
  | e :: t, m => maskGo acc t (if Region.binds .any e = true then (m ||| (2 ^ e.on ||| acc.getD e.on 0)) else m)
def masksGo : List Oper → List Nat → List Nat
  | [], acc => acc
  | o :: t, acc => masksGo t (acc ++ [maskGo acc o.after.toList 0])

theorem maskGo_bit (acc : List Nat) (j : Nat) : ∀ (t : List Edge) (m : Nat), (maskGo acc t m).testBit j = true → m.testBit j = true ∨ ∃ e ∈ t, Region.binds .any e = true ∧ (e.on = j ∨ (acc.getD e.on 0).testBit j = true)
  | [], m, h => .inl h
  | e :: t, m, h => by
    unfold maskGo at h
    rcases maskGo_bit acc j t _ h with h1 | ⟨e', h1, h2⟩
    · split at h1
      · rename_i hb
        rw [Nat.testBit_or, Nat.testBit_or, Bool.or_eq_true, Bool.or_eq_true, Nat.testBit_two_pow, decide_eq_true_eq] at h1
        rcases h1 with h1 | h1
        · exact .inl h1
        · exact .inr ⟨e, List.mem_cons_self, hb, h1⟩
      · exact .inl h1
    · exact .inr ⟨e', List.mem_cons_of_mem _ h1, h2⟩
theorem masksGo_reach (full : List Oper) : ∀ (t : List Oper) (pre : List Oper) (acc : List Nat), full = pre ++ t → acc.length = pre.length → (∀ i j, (acc.getD i 0).testBit j = true → Reach full i j) → ∀ i j, ((masksGo t acc).getD i 0).testBit j = true → Reach full i j
  | [], _, _, _, _, h => h
  | o :: t, pre, acc, hf, hl, h => by
    unfold masksGo
    refine masksGo_reach full t (pre ++ [o]) _ (by rw [hf, List.append_assoc]; rfl) (by simp [hl]) fun i j hb => ?_
    rcases Nat.lt_trichotomy i acc.length with hi | hi | hi
    · rw [List.getD_eq_getElem?_getD, List.getElem?_append_left hi, ← List.getD_eq_getElem?_getD] at hb
      exact h i j hb
    · subst hi
      rw [List.getD_eq_getElem?_getD, List.getElem?_append_right (Nat.le_refl _), Nat.sub_self] at hb
      have ho : full[acc.length]? = some o := by rw [hf, hl, List.getElem?_append_right (Nat.le_refl _), Nat.sub_self]; rfl
      rcases maskGo_bit acc j _ _ hb with h1 | ⟨e, he, hbi, h1⟩
      · rw [Nat.zero_testBit] at h1; cases h1
      · rw [Array.mem_toList_iff] at he
        rcases h1 with h1 | h1
        · rw [← h1]; exact .one ho he hbi
        · exact .more ho he hbi (h _ _ h1)
    · rw [List.getD_eq_getElem?_getD, List.getElem?_eq_none (by simp; omega)] at hb
      rw [show (none : Option Nat).getD 0 = 0 from rfl, Nat.zero_testBit] at hb
      cases hb

/-- What is asked of the region's edges: they point back; whatever stands from n on waits for all that stands before it, by chains of edges; no guard ahead of n looks at what stands from n on. -/
def tailB (n : Nat) (l : List Oper) : Bool :=
  l.zipIdx.all fun (o, i) => (o.after.all fun e => !Region.binds .any e || decide (e.on < i)) && (decide (i < n) || (masksGo l []).getD i 0 == 2 ^ i - 1) &&
    (decide (n ≤ i) || match o.guard with | none => true | some (j, _) => decide (j < n))

/-- Whatever has come up came up behind all that it waits for. -/
def Down (l : List Oper) (listed : Array Bool) : Prop := ∀ i o, l[i]? = some o → listed.getD i false = true → ∀ e ∈ o.after, Region.binds .any e = true → listed.getD e.on false = true
theorem Down.reach {l : List Oper} {listed : Array Bool} (h : Down l listed) : ∀ {i j : Nat}, Reach l i j → (∀ o, l[i]? = some o → ∀ e ∈ o.after, Region.binds .any e = true → listed.getD e.on false = true) → listed.getD j false = true := by
  intro i j hr
  induction hr with
  | one ho he hb => intro hp; exact hp _ ho _ he hb
  | more ho he hb _ ih =>
    intro hp
    have h1 := hp _ ho _ he hb
    exact ih fun o' ho' e' he' hb' => h _ _ ho' h1 _ he' hb'

section
variable {P : Program} {n : Nat} {l : List Oper}

theorem tailB_at (h : tailB n l = true) {i : Nat} {o : Oper} (ho : l[i]? = some o) :
    (∀ e ∈ o.after, Region.binds .any e = true → e.on < i) ∧ (n ≤ i → ∀ j, j < i → Reach l i j) ∧ (i < n → ∀ j b, o.guard = some (j, b) → j < n) := by
  unfold tailB at h
  rw [List.all_eq_true] at h
  have := h (o, i) (by rw [List.mem_zipIdx_iff_getElem?]; exact ho)
  simp only [Bool.and_eq_true, Bool.or_eq_true, decide_eq_true_eq, Array.all_eq_true_iff_forall_mem, Bool.not_eq_true'] at this
  obtain ⟨⟨h1, h2⟩, h3⟩ := this
  refine ⟨fun e he hb => ?_, fun hn j hj => ?_, fun hn j b hg => ?_⟩
  · rcases h1 e he with h | h
    · rw [hb] at h; cases h
    · exact h
  · rcases h2 with h | h
    · omega
    · refine masksGo_reach l l [] [] rfl rfl (fun i j hb => ?_) i j ?_
      · rw [show (([] : List Nat).getD i 0) = 0 by simp, Nat.zero_testBit] at hb; cases hb
      · rw [beq_iff_eq.1 h, Nat.testBit_two_pow_sub_one]; exact decide_eq_true hj
  · rcases h3 with h | h
    · omega
    · simpa [hg] using h

theorem ready_strike {listed : Array Bool} {i : Nat} : i ∈ Region.ready .any (strike n l).toArray listed ↔ i ∈ Region.ready .any l.toArray listed := by
  rw [mem_ready, mem_ready]
  simp only [List.getElem?_toArray]
  by_cases h : i < n
  · rw [strike_get_lt h]
  · rw [strike_get_ge (by omega)]
    cases l[i]? with
    | none => simp
    | some o => simp [strikeOp]

/-- Some operation that has not come up may come up. -/
theorem ready_some (h : tailB n l = true) {listed : Array Bool} : ∀ (i : Nat), i < l.length → listed.getD i true = false → listed.size = l.length → Region.ready .any l.toArray listed ≠ [] := by
  intro i
  induction i using Nat.strongRecOn with
  | _ i ih =>
    intro hi hun hsz
    by_cases hall : ∀ j, j < i → listed.getD j true = true
    · have ho : l[i]? = some l[i] := List.getElem?_eq_getElem hi
      have hm : i ∈ Region.ready .any l.toArray listed := by
        rw [mem_ready]
        refine ⟨hun, l[i], by simp [hi], fun e he hb => ?_⟩
        have hlt := (tailB_at h ho).1 e he hb
        have := hall e.on hlt
        have hs : e.on < listed.size := by omega
        simpa [hs] using this
      intro h0
      rw [h0] at hm
      cases hm
    · have ⟨j, hj⟩ := Classical.not_forall.1 hall
      have ⟨hj1, hj2⟩ := Classical.not_imp.1 hj
      exact ih j hj1 (by omega) (by simpa using hj2) hsz

/-- Just the first k have come up. -/
def Upto (k : Nat) (listed : Array Bool) : Prop := listed.size = l.length ∧ ∀ j, j < l.length → listed.getD j true = decide (j < k)

theorem Upto.down {k : Nat} {listed : Array Bool} (h : tailB n l = true) (hu : Upto (l := l) k listed) : Down l listed := by
  intro i o ho hi e he hb
  have hil := (List.getElem?_eq_some_iff.1 ho).1
  have hlt := (tailB_at h ho).1 e he hb
  have his : i < listed.size := by rw [hu.1]; exact hil
  have h1 := hu.2 i hil
  simp [his] at hi h1
  rw [hi] at h1
  have hik : i < k := by simpa using h1.symm
  have hes : e.on < listed.size := by omega
  have h2 := hu.2 e.on (by omega)
  simp [hes] at h2 ⊢
  rw [h2]
  simpa using Nat.lt_trans hlt hik
theorem Upto.ready {k : Nat} {listed : Array Bool} (h : tailB n l = true) (hk : n ≤ k) (hu : Upto (l := l) k listed) {i : Nat} (hi : i ∈ Region.ready .any l.toArray listed) : i = k := by
  obtain ⟨h0, o, ho, hall⟩ := mem_ready.1 hi
  have hil : i < l.length := by
    have := (Array.getElem?_eq_some_iff.1 ho).1
    simpa using this
  have hl : l[i]? = some o := by simpa using ho
  rw [hu.2 i hil] at h0
  have hki : k ≤ i := by simpa using h0
  by_cases he : i = k
  · exact he
  · have hr := (tailB_at h hl).2.1 (by omega) k (by omega)
    have := (hu.down h).reach hr fun o' ho' e he hb => by
      rw [hl] at ho'
      obtain rfl := Option.some.inj ho'
      exact hall e he hb
    have hks : k < listed.size := by rw [hu.1]; omega
    have h4 := hu.2 k (by omega)
    simp [hks] at this h4
    rw [this] at h4
    cases h4

theorem Upto.set {k : Nat} {listed : Array Bool} (hu : Upto (l := l) k listed) (hk : k < l.length) : Upto (l := l) (k + 1) (listed.setIfInBounds k true) := by
  refine ⟨by simp [hu.1], fun j hj => ?_⟩
  by_cases hjk : k = j
  · subst hjk
    simp [hu.1, hk]
  · rw [getD_set_ne true hjk, hu.2 j hj]
    congr 1
    simp only [eq_iff_iff]
    omega

/-- The tail, one operation behind the other. -/
theorem Upto.none_ready {k : Nat} {listed : Array Bool} (h : tailB n l = true) (hk : n ≤ k) (hkl : l.length ≤ k) (hu : Upto (l := l) k listed) : Region.ready .any l.toArray listed = [] := by
  cases hr : Region.ready .any l.toArray listed with
  | nil => rfl
  | cons i t =>
    have hi : i ∈ Region.ready .any l.toArray listed := by rw [hr]; exact List.mem_cons_self
    have := hu.ready h hk hi
    obtain ⟨_, o, ho, _⟩ := mem_ready.1 hi
    have := (Array.getElem?_eq_some_iff.1 ho).1
    simp at this
    omega
theorem ready_none_strike {listed : Array Bool} : Region.ready .any (strike n l).toArray listed = [] ↔ Region.ready .any l.toArray listed = [] := by
  constructor
  · intro h0
    cases hr : Region.ready .any l.toArray listed with
    | nil => rfl
    | cons i t =>
      have hi : i ∈ Region.ready .any l.toArray listed := by rw [hr]; exact List.mem_cons_self
      have := (ready_strike (n := n)).2 hi
      rw [h0] at this
      cases this
  · intro h0
    cases hr : Region.ready .any (strike n l).toArray listed with
    | nil => rfl
    | cons i t =>
      have hi : i ∈ Region.ready .any (strike n l).toArray listed := by rw [hr]; exact List.mem_cons_self
      have := ready_strike.1 hi
      rw [h0] at this
      cases this

theorem tail_run (h : tailB n l = true) {Q : Exit → Act → World → Prop} : ∀ (fuel k : Nat) (listed : Array Bool) (a : Act) (w : World), n ≤ k → l.length ≤ k + fuel → Upto (l := l) k listed →
    wpList P l.toArray Q (l.drop k) a w → wpAny P .any l.toArray Q fuel listed a w := by
  intro fuel
  induction fuel with
  | zero =>
    intro k listed a w hk hf hu hw
    rw [List.drop_of_length_le (by omega)] at hw
    exact ⟨hu.none_ready h hk (by omega), hw⟩
  | succ fuel ih =>
    intro k listed a w hk hf hu hw
    rcases Nat.lt_or_ge k l.length with hkl | hkl
    case inr =>
      rw [List.drop_of_length_le hkl] at hw
      have h0 := hu.none_ready h hk hkl
      exact ⟨fun _ => hw, fun i hi => by rw [h0] at hi; cases hi⟩
    refine ⟨fun h0 => absurd h0 (ready_some h k hkl (by rw [hu.2 k hkl]; simp) hu.1), fun i hi => ?_⟩
    have hik := hu.ready h hk hi
    subst hik
    rw [List.drop_eq_getElem_cons hkl] at hw
    unfold wpOp
    rw [show l.toArray[i]? = some l[i] by simp [hkl]]
    simp only
    unfold wpList at hw
    split
    · rename_i hwant
      rw [if_pos hwant] at hw
      rcases hw with hw | hw
      · exact .inl (Oper.wp_mono (fun a w hh => ih (i + 1) _ a w (by omega) (by omega) (hu.set hkl) hh) hw)
      · exact .inr hw
    · rename_i hwant
      rw [if_neg hwant] at hw
      exact ih (i + 1) _ _ w (by omega) (by omega) (hu.set hkl) hw

theorem nops_done (h : tailB n l = true) {C : World → Prop} {Q : Act → Prop} : ∀ (fuel k : Nat) (listed : Array Bool) (a : Act), n ≤ k → Upto (l := l) k listed →
    wpAnyQ P .any (strike n l).toArray C Q fuel listed a → Q a ∧ l.length ≤ k + fuel := by
  intro fuel
  induction fuel with
  | zero =>
    intro k listed a hk hu hw
    refine ⟨hw.2, ?_⟩
    rcases Nat.lt_or_ge k l.length with hkl | hkl
    · exact absurd (ready_none_strike.1 hw.1) (ready_some h k hkl (by rw [hu.2 k hkl]; simp) hu.1)
    · omega
  | succ fuel ih =>
    intro k listed a hk hu hw
    rcases Nat.lt_or_ge k l.length with hkl | hkl
    case inr => exact ⟨hw.1 (ready_none_strike.2 (hu.none_ready h hk hkl)), by omega⟩
    have hr : k ∈ Region.ready .any (strike n l).toArray listed := by
      rw [ready_strike]
      cases hr : Region.ready .any l.toArray listed with
      | nil => exact absurd hr (ready_some h k hkl (by rw [hu.2 k hkl]; simp) hu.1)
      | cons i t =>
        have hi : i ∈ Region.ready .any l.toArray listed := by rw [hr]; exact List.mem_cons_self
        have := hu.ready h hk hi
        subst this
        exact List.mem_cons_self
    have h1 := hw.2 k hr
    unfold qOp at h1
    rw [show (strike n l).toArray[k]? = some (strikeOp l[k]) by simp [strike_get_ge hk, hkl]] at h1
    simp only [strikeOp, Region.wanted, if_true] at h1
    obtain ⟨v, _, h2⟩ := h1
    have := ih (k + 1) _ _ (by omega) (hu.set hkl) h2
    exact ⟨this.1, by omega⟩

theorem yielded_strike {tmps : Array Value} {j : Nat} (h : j < n) : yielded (strike n l).toArray tmps j = yielded l.toArray tmps j := by
  unfold yielded
  simp only [List.getElem?_toArray, strike_get_lt h]

theorem wanted_strike (h : tailB n l = true) {i : Nat} {o : Oper} (hi : i < n) (ho : l[i]? = some o) {tmps : Array Value} : Region.wanted o (yielded (strike n l).toArray tmps) = Region.wanted o (yielded l.toArray tmps) := by
  unfold Region.wanted
  cases hg : o.guard with
  | none => rfl
  | some p =>
    obtain ⟨j, b⟩ := p
    simp only [yielded_strike ((tailB_at h ho).2.2 hi j b hg)]

theorem Down.set {listed : Array Bool} {i : Nat} {o : Oper} (hd : Down l listed) (ho : l[i]? = some o) (hp : ∀ e ∈ o.after, Region.binds .any e = true → listed.getD e.on false = true) : Down l (listed.setIfInBounds i true) := by
  have mono : ∀ j, listed.getD j false = true → (listed.setIfInBounds i true).getD j false = true := fun j hj => by
    by_cases hij : i = j
    · subst hij
      have : i < listed.size := by
        rcases Nat.lt_or_ge i listed.size with h' | h'
        · exact h'
        · simp [Array.getElem?_eq_none h'] at hj
      simp [this]
    · rw [getD_set_ne false hij]; exact hj
  intro i' o' ho' hi' e he hb
  by_cases hii : i = i'
  · subst hii
    rw [ho] at ho'
    obtain rfl := Option.some.inj ho'
    exact mono _ (hp e he hb)
  · rw [getD_set_ne false hii] at hi'
    exact mono _ (hd _ _ ho' hi' e he hb)

theorem head_run (h : tailB n l = true) {C : World → Prop} {Q : Exit → Act → World → Prop} : ∀ (fuel : Nat) (listed : Array Bool) (a : Act) (w : World), C w → listed.size = l.length → Down l listed → (∀ j, n ≤ j → j < l.length → listed.getD j true = false) →
    wpAnyQ P .any (strike n l).toArray C (fun a' => ∀ w', C w' → wpList P l.toArray Q (l.drop n) a' w') fuel listed a → wpAny P .any l.toArray Q fuel listed a w := by
  intro fuel
  induction fuel with
  | zero =>
    intro listed a w hC hsz hdn ht hw
    have hr : Region.ready .any l.toArray listed = [] := ready_none_strike.1 hw.1
    refine ⟨hr, ?_⟩
    have hn : l.length ≤ n := by
      rcases Nat.lt_or_ge n l.length with h' | h'
      · exact absurd hr (ready_some h n h' (ht n (Nat.le_refl _) h') hsz)
      · exact h'
    have := hw.2 w hC
    rwa [List.drop_of_length_le hn] at this
  | succ fuel ih =>
    intro listed a w hC hsz hdn ht hw
    refine ⟨fun h0 => ?_, fun i hi => ?_⟩
    · have hn : l.length ≤ n := by
        rcases Nat.lt_or_ge n l.length with h' | h'
        · exact absurd h0 (ready_some h n h' (ht n (Nat.le_refl _) h') hsz)
        · exact h'
      have := hw.1 (ready_none_strike.2 h0) w hC
      rwa [List.drop_of_length_le hn] at this
    · obtain ⟨h0, o, ho, hall⟩ := mem_ready.1 hi
      have hl : l[i]? = some o := by simpa using ho
      have hil : i < l.length := (List.getElem?_eq_some_iff.1 hl).1
      rcases Nat.lt_or_ge i n with hin | hin
      · have h1 := hw.2 i (ready_strike.2 hi)
        unfold qOp at h1
        rw [show (strike n l).toArray[i]? = some o by simp [strike_get_lt hin, hl]] at h1
        simp only [wanted_strike h hin hl] at h1
        unfold wpOp
        rw [ho]
        simp only
        have next : ∀ a' w', C w' → wpAnyQ P .any (strike n l).toArray C (fun a' => ∀ w', C w' → wpList P l.toArray Q (l.drop n) a' w') fuel (listed.setIfInBounds i true) a' → wpAny P .any l.toArray Q fuel (listed.setIfInBounds i true) a' w' :=
          fun a' w' hC' hq => ih _ a' w' hC' (by simp [hsz]) (hdn.set hl fun e he hb => hall e he hb) (fun j hj hjl => by rw [getD_set_ne true (by omega)]; exact ht j hj hjl) hq
        split
        · rename_i hwant
          rw [if_pos hwant] at h1
          exact .inl (Oper.wp_of_quiet hC next h1)
        · rename_i hwant
          rw [if_neg hwant] at h1
          exact next _ _ hC h1
      · have hbefore : ∀ j, j < i → listed.getD j false = true := fun j hj => by
          exact hdn.reach ((tailB_at h hl).2.1 hin j hj) fun o' ho' e he hb => by
            rw [hl] at ho'
            obtain rfl := Option.some.inj ho'
            exact hall e he hb
        have hin' : i = n := by
          rcases Nat.lt_or_ge n i with h' | h'
          · have h1 := hbefore n h'
            have h2 := ht n (Nat.le_refl _) (by omega)
            have hns : n < listed.size := by omega
            simp [hns] at h1 h2
            rw [h1] at h2
            cases h2
          · omega
        subst hin'
        have hu : Upto (l := l) i listed := by
          refine ⟨hsz, fun j hj => ?_⟩
          by_cases hjn : j < i
          · have h1 := hbefore j hjn
            have hjs : j < listed.size := by omega
            simp [hjs] at h1
            simp [hjs, hjn, h1]
          · rw [ht j (by omega) hj]; simp; omega
        have hd := nops_done h (fuel + 1) i listed a (Nat.le_refl _) hu hw
        exact (tail_run h (fuel + 1) i listed a w (Nat.le_refl _) hd.2 hu (hd.1 w hC)).2 i hi

/-- A region that draws its order: the first n operations only read, or call what only makes new memory; the rest stand one behind the other. -/
theorem wp_region_gentle_tail {id : Nat} {Q : Exit → Act → World → Prop} {a : Act} {w : World} (n : Nat) (hm : P.follows .mixedOrders = true) (h : tailB n l = true) (hB : Region.lexB .any (strike n l).toArray = true)
    (hw : wpQuiet P l.toArray (fun w' => ∃ p : GN, w' = (w.grow p.g).drewN p.n) (fun a' => ∀ w', Grew w w' → wpList P l.toArray Q (l.drop n) a' w') (l.take n) a) : (Code.region id l.toArray true).wp P Q a w := by
  have hw := wpQuiet_imp (Q' := fun a' => ∀ w', (∃ p : GN, w' = (w.grow p.g).drewN p.n) → wpList P l.toArray Q (l.drop n) a' w') (fun _ (h : ∀ w', Grew w w' → wpList P l.toArray Q (l.drop n) _ w') w' (hw' : (∃ p : GN, w' = (w.grow p.g).drewN p.n)) => h w' (Grew.pair hw')) _ _ hw
  refine wp_region_any hm ?_
  have hC : (fun w' => ∃ p : GN, w' = (w.grow p.g).drewN p.n) { w with drawn := w.drawn + 1 } := ⟨⟨[], 1⟩, by rw [World.grow_nil]; rfl⟩
  have hsz : l.toArray.size = l.length := by simp
  rw [hsz]
  refine head_run (n := n) (C := fun w' => ∃ p : GN, w' = (w.grow p.g).drewN p.n) h _ _ _ _ hC (by simp) (fun i o ho hi => by have := (List.getElem?_eq_some_iff.1 ho).1; simp [this] at hi) (fun j _ hj => by simp [hj]) ?_
  simp only [Region.lexB, Bool.and_eq_true] at hB
  have key : wpAnyQ P .any (strike n l).toArray (fun w' => ∃ p : GN, w' = (w.grow p.g).drewN p.n) (fun a' => ∀ w', (∃ p : GN, w' = (w.grow p.g).drewN p.n) → wpList P l.toArray Q (l.drop n) a' w') (strike n l).length (Array.replicate (strike n l).length false) a := by
    refine wpAnyQ_lex hB.1 (strike n l) 0 _ _ (by simp) (by simpa using hB.2) ?_
    unfold strike
    have nops : ∀ (t : List Oper) (a : Act) (Q : Act → Prop), Q a → wpQuiet P (l.take n ++ (l.drop n).map strikeOp).toArray (fun w' => ∃ p : GN, w' = (w.grow p.g).drewN p.n) Q (t.map strikeOp) a := by
      intro t
      induction t with
      | nil => intro a Q hQ; exact hQ
      | cons o t ih =>
        intro a Q hQ
        simp only [List.map_cons, wpQuiet, strikeOp, Region.wanted, if_true]
        exact ⟨undef, fun w' _ => ⟨rfl, rfl⟩, ih _ _ hQ⟩
    have pre : ∀ (t : List Oper) (i : Nat) (a : Act) (Q : Act → Prop), (∀ j o, t[j]? = some o → l[i + j]? = some o ∧ i + j < n) → wpQuiet P l.toArray (fun w' => ∃ p : GN, w' = (w.grow p.g).drewN p.n) Q t a →
        wpQuiet P (strike n l).toArray (fun w' => ∃ p : GN, w' = (w.grow p.g).drewN p.n) Q (t ++ (l.drop n).map strikeOp) a := by
      intro t
      induction t with
      | nil => intro i a Q _ hq; exact nops _ _ _ hq
      | cons o t ih =>
        intro i a Q ht hq
        have h0 := ht 0 o rfl
        have ht' : ∀ j o, t[j]? = some o → l[i + 1 + j]? = some o ∧ i + 1 + j < n := fun j o hj => by
          have := ht (j + 1) o (by simpa using hj)
          rwa [show i + 1 + j = i + (j + 1) by omega]
        simp only [List.cons_append, wpQuiet] at hq ⊢
        rw [wanted_strike h (by omega) h0.1]
        split
        · rename_i hwant
          rw [if_pos hwant] at hq
          exact Oper.quiet_mono (fun a' => ih (i + 1) a' Q ht') hq
        · rename_i hwant
          rw [if_neg hwant] at hq
          exact ih (i + 1) _ Q ht' hq
    exact pre (l.take n) 0 a _ (fun j o hj => by
      have hjn : j < n := by
        have := (List.getElem?_eq_some_iff.1 hj).1
        simp at this; omega
      rw [List.getElem?_take_of_lt hjn] at hj
      exact ⟨by simpa using hj, by omega⟩) hw
  rwa [strike_length] at key
end
end Go.R3
