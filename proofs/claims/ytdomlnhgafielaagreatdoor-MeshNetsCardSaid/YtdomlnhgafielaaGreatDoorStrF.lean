/- Texts that are cut at a byte, split, trimmed; numbers of texts. Conditions: the text's length is within the reach, the variables are laid. -/
import Derived.Test.YtdomlnhgafielaaGreatDoorStrE
import Derived.Test.YtdomlnhgafielaaGreatDoorMshTxt
import Derived.Lib.CutLaws
import Derived.Lib.SplitLaws
import Derived.RangeFuncNested
import Derived.RangeFuncBox
import Derived.RangeFuncBound
import Derived.RangeFuncCalls
import Derived.RangeFuncLeaves
import Derived.WalkKit
import Derived.OwnWalkIn
import Derived.TacticsInMore
import Derived.LoopNIn
import Derived.LoopIn
import Derived.Shelf.Abstract


namespace Go.Proofs.YtdomlnhgafielaaGreatDoor
open Go Go.RowKit Amp Msh

theorem mem_cut {c : UInt8} {l : List UInt8} (h : c ∈ l) : ∃ a b, l = a ++ c :: b ∧ c ∉ a := by
  obtain ⟨a, b, e, h2⟩ := List.eq_append_cons_of_mem h
  exact ⟨a, b, e, h2⟩
theorem pre_one (c x : UInt8) (l : List UInt8) : [c].isPrefixOf (x :: l) = (c == x) := by simp [List.isPrefixOf]
theorem index_app {c : UInt8} : ∀ {a b : List UInt8}, c ∉ a → Lib.index (a ++ c :: b) [c] = a.length
  | [], b, _ => by
    show (if [c].isPrefixOf (c :: b) then (0 : Int) else _) = _
    rw [pre_one, beq_self_eq_true, if_pos rfl]
    rfl
  | x :: a, b, h => by
    rw [List.mem_cons, not_or] at h
    show (if [c].isPrefixOf (x :: (a ++ c :: b)) then (0 : Int) else if Lib.index (a ++ c :: b) [c] == -1 then -1 else Lib.index (a ++ c :: b) [c] + 1) = _
    rw [pre_one, beq_eq_false_iff_ne.2 h.1, if_neg (by simp), index_app h.2, if_neg (by simp), List.length_cons]
    omega
theorem index_none {c : UInt8} : ∀ {l : List UInt8}, c ∉ l → Lib.index l [c] = -1
  | [], _ => rfl
  | x :: l, h => by
    rw [List.mem_cons, not_or] at h
    show (if [c].isPrefixOf (x :: l) then (0 : Int) else if Lib.index l [c] == -1 then -1 else Lib.index l [c] + 1) = _
    rw [pre_one, beq_eq_false_iff_ne.2 h.1, if_neg (by simp), index_none h.2]
    rfl
theorem cut_one (c : UInt8) (l : List UInt8) : Lib.cut l [c] = (befB c l, aftB c l, hasB c l) := by
  unfold Lib.cut
  by_cases h : c ∈ l
  · obtain ⟨a, b, rfl, ha⟩ := mem_cut h
    obtain ⟨h1, h2, h3⟩ := befB_app (m := b) ha
    rw [index_app ha, if_pos (by omega), h1, h2, h3]
    simp
  · obtain ⟨h1, h2, h3⟩ := befB_none h
    rw [index_none h, if_neg (by omega), h1, h2, h3]
theorem split_one (c : UInt8) : ∀ (n : Nat) (l : List UInt8), l.count c = n → Lib.splitB ⟨#[c]⟩ 0 n (strB l) = (spl c l).map strB ∧ (spl c l).length = n + 1
  | 0, l, h => by
    have hc : c ∉ l := fun hm => by have := List.count_pos_iff.2 hm; omega
    rw [spl_none hc]
    exact ⟨rfl, rfl⟩
  | n + 1, l, h => by
    have hc : c ∈ l := List.count_pos_iff.1 (by omega)
    obtain ⟨a, b, rfl, ha⟩ := mem_cut hc
    have hb : b.count c = n := by
      rw [List.count_append, List.count_cons_self, List.count_eq_zero.2 ha] at h
      omega
    obtain ⟨h1, h2⟩ := split_one c n b hb
    have hi : Lib.indexB (strB (a ++ c :: b)) ⟨#[c]⟩ = (a.length : Nat) := by
      show Lib.index (strB (a ++ c :: b)).data.toList [c] = _
      rw [strB_of]
      exact index_app ha
    rw [Lib.splitB_hit _ _ _ _ _ hi, spl_app ha]
    refine ⟨?_, by rw [List.length_cons, h2]⟩
    rw [List.map_cons, ← h1]
    congr 1
    · rw [strB_extract]
      congr 1
      simp
    · rw [strB_extract]
      congr 2
      rw [strB_size, List.take_length]
      show (a ++ c :: b).drop (a.length + 1) = b
      rw [← List.drop_drop, List.drop_left']
      · rfl
      · rfl
/-- What the program's text lays, and what every start has. -/
structure LaidN (w : World) : Prop where
  lay : LaidW w
  max : ∃ m, w.cell? ⟨0, 0, none⟩ = some (.int .i64 m)
theorem cell_lt {w : World} {b i : Nat} {v : Value} (h : w.cell? ⟨b, i, none⟩ = some v) : b < w.heap.size := by
  rcases Nat.lt_or_ge b w.heap.size with h' | h'
  · exact h'
  · unfold World.cell? at h
    rw [Array.getElem?_eq_none h'] at h
    cases h
theorem LaidN.below {w w' : World} (h : LaidN w) (hb : Below w.heap.size w w') : LaidN w' := by
  obtain ⟨h1, m, h2⟩ := h
  exact ⟨h1.below hb, m, (hb.cell (p := ⟨_, 0, none⟩) (cell_lt h2)).trans h2⟩
theorem countB_one (c : UInt8) (l : List UInt8) : Lib.countB (strB l) ⟨#[c]⟩ = l.count c := by
  show Lib.count (strB l).data.toList [c] = _
  rw [strB_of, Lib.count_one]
theorem cutB_any (c : UInt8) (l : List UInt8) (w : World) (hl : l.length ≤ 100000) (hL : LaidN w) :
    Calls Tryz.prog 43 #[.string (strB l), .string ⟨#[c]⟩] w fun e w' => e = .returned (.tuple #[.string (strB (befB c l)), .string (strB (aftB c l)), .bool (hasB c l)]) ∧ Grew w w' := by
  obtain ⟨_, m, hm⟩ := hL
  have := Tryz.strings_Cut (strB l) ⟨#[c]⟩ m w (by rw [strB_size]; omega) hm
  rw [strB_of, show (⟨#[c]⟩ : ByteArray).data.toList = [c] from rfl, cut_one] at this
  refine this.mono ?_
  rintro e w' ⟨rfl, n, rfl⟩
  exact ⟨rfl, (Grew.refl w).drewN n⟩
/-- The cells of a list of texts. -/
def strsV (l : List (List UInt8)) : Array Value := (l.map fun p => Value.string (strB p)).toArray
theorem splitB_any (c : UInt8) (l : List UInt8) (w : World) (hl : l.length ≤ 100000) (hL : LaidN w) :
    Calls Tryz.prog 44 #[.string (strB l), .string ⟨#[c]⟩] w fun e w' => e = .returned (.slice (some ⟨w.heap.size, 0, none⟩) (spl c l).length (spl c l).length) ∧ w' = w.alloc (.cells (strsV (spl c l)) 9) := by
  obtain ⟨_, m, hm⟩ := hL
  obtain ⟨h1, h2⟩ := split_one c _ l rfl
  have := Tryz.strings_Split (strB l) ⟨#[c]⟩ m w (by rw [strB_size]; omega) hm (Nat.le_refl 1)
  rw [countB_one, h1] at this
  rw [h2]
  unfold strsV
  rw [List.map_map] at this
  exact this
theorem trimp_any (c : UInt8) (l : List UInt8) (w : World) :
    Calls Tryz.prog 47 #[.string (strB l), .string ⟨#[c]⟩] w fun e w' => e = .returned (.string (strB (cutHd c l))) ∧ w' = w := by
  have := Tryz.strings_TrimPrefix (strB l) ⟨#[c]⟩ w
  rw [strB_of, show (⟨#[c]⟩ : ByteArray).data.toList = [c] from rfl] at this
  have e : Lib.trimPrefix l [c] = cutHd c l := by
    unfold Lib.trimPrefix Lib.hasPrefix cutHd
    cases l with
    | nil => rfl
    | cons x r =>
      rw [pre_one]
      by_cases h : x = c
      · subst h
        simp
      · rw [beq_eq_false_iff_ne.2 fun q => h q.symm, if_neg Bool.false_ne_true]
        exact (if_neg h).symm
  rw [e] at this
  exact this
theorem trims_any (c : UInt8) (l : List UInt8) (w : World) (hl : l.length ≤ 100000) :
    Calls Tryz.prog 25 #[.string (strB l), .string ⟨#[c]⟩] w fun e w' => e = .returned (.string (strB (cutTl c l))) ∧ w' = w := by
  have := Tryz.strings_TrimSuffix (strB l) ⟨#[c]⟩ w (by rw [strB_size]; omega)
  rw [strB_of, show (⟨#[c]⟩ : ByteArray).data.toList = [c] from rfl] at this
  have e : Lib.trimSuffix l [c] = cutTl c l := by
    unfold Lib.trimSuffix Lib.hasSuffix cutTl
    by_cases h : l.getLast? = some c
    · obtain ⟨r, rfl⟩ : ∃ r, l = r ++ [c] := by
        rw [List.getLast?_eq_some_iff] at h
        exact h
      rw [if_pos h, if_pos (by rw [List.isSuffixOf_iff_suffix]; exact List.suffix_append _ _)]
      simp
    · rw [if_neg h, if_neg]
      rw [List.isSuffixOf_iff_suffix]
      rintro ⟨r, rfl⟩
      simp at h
  rw [e] at this
  exact this
set_option maxHeartbeats 800000 in
theorem number_any (l : List UInt8) (w : World) (hl : l.length ≤ 100000) (hL : LaidN w) :
    Calls Tryz.prog 45 #[.string (strB l)] w fun e w' => e = .returned (.int .i64 (numP l)) ∧ Below w.heap.size w w' := by
  have HA := hid (atoi_any l w (by omega) hL.lay)
  have HP := hid (show numP l = if okA l = true then numA l else -1 by
    unfold numP okA numA
    cases Lib.atoiAll l <;> rfl)
  obtain ⟨ok, hok⟩ : ∃ ok, okA l = ok := ⟨_, rfl⟩
  obtain ⟨v, hv⟩ : ∃ v, numA l = v := ⟨_, rfl⟩
  rw [hok, hv] at HP
  rw [hok, hv] at HA
  clear hok hv hL
  go_enter Tryz.func45, Tryz.ntmps45
  go_wp2_with fail
  refine HA.out.mono ?_
  rintro e w1 ⟨⟨er, rfl, he⟩, hb⟩
  unfold ErrIs at he
  cases ok with
  | true =>
    rw [if_pos rfl] at he HP
    subst he
    go_wp2_with fail
    go_ret
    rw [HP.out]
    exact ⟨rfl, hb⟩
  | false =>
    rw [if_neg Bool.false_ne_true] at he HP
    obtain ⟨N, rfl⟩ := he
    go_wp2_with fail
    go_ret
    rw [HP.out]
    exact ⟨rfl, hb⟩

end Go.Proofs.YtdomlnhgafielaaGreatDoor

/- A range over a function whose iterator keeps what is left in a block of its own; the lines of a text and its parts. Condition: the text's length is within the reach. -/

namespace Go.Proofs.YtdomlnhgafielaaGreatDoor
open Go Go.RowKit Amp Msh

attribute [local go_sem] Oper.semAt_some
section
variable {α : Type} {P : Program}
/-- The iterator hands over xs one by one; it turns the blocks bs alone; the rounds keep the blocks ks. -/
def Runs (n : Nat) (P : Program) (g : Nat) (lb : Array Value) (bs ks : List Nat) (encs : α → Array Value) (xs : List α) (w0 : World) : Prop :=
  ∀ (l : Nat) (J : List α → World → Prop) (W : World), (∀ b ∈ ks, W.heap[b]? = w0.heap[b]?) → Below w0.heap.size w0 W →
    (∀ pre A B b, J pre A → b ∈ bs → A.grownBy B (some b) → J pre B) →
    (∀ pre x W1, J pre W1 → (∃ r, xs = pre ++ x :: r) → YieldAt Fence.wide (n - 1) P l (encs x) W1 fun e W' => e = .returned (.bool true) ∧ J (pre ++ [x]) W' ∧ ∀ b ∈ ks, W'.heap[b]? = W1.heap[b]?) →
    J [] W → CallsIn Fence.wide n P g (#[.func (.yield l) #[] #[]] ++ lb) W fun e W' => (∃ v, e = .returned v) ∧ J xs W'
/-- How a round ends. -/
def runPost (B : Nat) (ks : List Nat) (I : List α → World → Prop) (xs : List α) (W : World) : Exit → Act → World → Prop
  | .normal, _, W' => KeepsFrom B W W' ∧ (∀ b ∈ ks, W'.heap[b]? = W.heap[b]?) ∧ I xs W'
  | _, _, _ => False
/-- What the loop's own book-keeping, and the iterator, may turn. -/
def Steady (B : Nat) (bs : List Nat) (I : List α → World → Prop) : Prop :=
  ∀ pre X Y row, I pre X → X.grownBy Y row → (∀ r, row = some r → r ∈ bs ∨ (B ≤ r ∧ ∃ o : Obj, X.heap[r]? = some o ∧ o.isCells = false)) → I pre Y
theorem wpIn_rangeFunc_run {n : Nat} {g : Operand} {ps : Array Tmp} {assign body : Code} {Q : Exit → Act → World → Prop} {a : Act} {w : World} (h1 : 1 ≤ n)
    {gf : Nat} {lb : Array Value} (hg : a.eval g = .func (.func gf) #[] lb) (eg : ∀ args w, (callFunc gf args).run P w = .ok (.enter gf args) w)
    {bs ks : List Nat} {encs : α → Array Value} {xs : List α} (hseq : Runs (n - 1) P gf lb bs ks encs xs w) (hbs : ∀ b ∈ bs, b < w.heap.size) (hks : ∀ b ∈ ks, b < w.heap.size) (hps : ∀ x, (encs x).size = ps.size)
    (I : List α → World → Prop) (hI : Steady w.heap.size bs I) (h0 : I [] w) (a₁ : α → Act)
    (hassign : ∀ (l : Nat) (x : α) (W : World) (K : Act → World → Prop), K (a₁ x) W →
      assign.wpIn (Fence.wide.inRound l) (n - 1 - 1) P (Exit.then K (fun _ _ _ => False)) { tmps := (ps.zip (encs x)).foldl (fun t (p, v) => t.setIfInBounds p v) a.tmps, defers := [] } W)
    (hbody : ∀ (l : Nat) (pre : List α) (x : α) (W : World), I pre W → (∃ r, xs = pre ++ x :: r) → body.wpIn (Fence.wide.inRound l) (n - 1 - 1) P (runPost w.heap.size ks I (pre ++ [x]) W) (a₁ x) W)
    (hdone : ∀ (D : Nat) (W : World), w.heap.size ≤ D → I xs W → W.heap[D]? = some (.deferred (some [])) → Q .normal { a with defers := { target := .collected D, args := #[] } :: a.defers } W) :
    (Code.rangeFunc g ps assign body).wpIn Fence.wide n P Q a w := by
  refine wpIn_rangeFunc ?_
  intro fn hfn
  rw [show Fence.wide.round = none from rfl]
  obtain ⟨rec, hrec⟩ : ∃ rec : LoopState → Loop, rec = fun st => { state := st, pending := none, fn, tmps := a.tmps, params := ps, assign, body, defers := w.heap.size } := ⟨_, rfl⟩
  obtain ⟨W1, hW1⟩ : ∃ W1, (w.alloc (.deferred (some []))).alloc (.loop (rec .ready)) = W1 := ⟨_, rfl⟩
  have hL1 : W1.heap[w.heap.size + 1]? = some (.loop (rec .ready)) := by
    have := World.alloc_heap_new (w.alloc (.deferred (some []))) (.loop (rec .ready))
    rw [World.size_alloc] at this
    rw [← hW1]
    exact this
  have hK1 : W1.heap[w.heap.size]? = some (.deferred (some [])) := by
    rw [← hW1]
    exact (Below.heap_alloc _ _ _ (by simp)).trans (World.alloc_heap_new w _)
  have hgr : w.grownBy W1 none := by
    rw [← hW1]
    exact (((Grew.refl w).alloc _).alloc _).grownBy none
  have hI1 : I [] W1 := hI _ _ _ none h0 hgr (fun _ e => by cases e)
  have hb1 : Below w.heap.size w W1 := (Below.refl _ w).grown hgr (Nat.le_refl _) (fun _ e => by cases e)
  refine ⟨w.heap.size + 1, [{ target := .collected w.heap.size, args := #[] }], W1, { target := .fn (.func gf) lb, args := #[.func (.yield (w.heap.size + 1)) #[] #[]] }, W1, gf,
    #[.func (.yield (w.heap.size + 1)) #[] #[]] ++ lb, W1, ?_, ?_, ?_, ?_, fun _ => h1, ?_⟩
  · rw [← hW1, hrec]
    exact run_enterLoop_outer _ _ _ _ _
  · simp only [resolve, hg]
    simp [go_sem]
  · intro _ _
    trivial
  · simp [invoke, go_sem, eg]
  refine (hseq (w.heap.size + 1) (fun pre W => I pre W ∧ W.heap[w.heap.size + 1]? = some (.loop (rec .ready)) ∧ W.heap[w.heap.size]? = some (.deferred (some []))) W1 (fun b hb => hb1.block b (hks b hb)) hb1 ?_ ?_ ⟨hI1, hL1, hK1⟩).mono ?_
  · rintro pre A B b ⟨hi, hl, hk⟩ hb hg'
    have hlt := hbs b hb
    exact ⟨hI _ _ _ _ hi hg' (fun r e => by cases e; exact .inl hb), (hg'.block _ (Array.getElem?_eq_some_iff.1 hl).1 (fun e => by injection e with e; omega)).trans hl, (hg'.block _ (Array.getElem?_eq_some_iff.1 hk).1 (fun e => by injection e with e; omega)).trans hk⟩
  · rintro pre x W ⟨hi, hl, hk⟩ hr
    have hlt : w.heap.size + 1 < W.heap.size := (Array.getElem?_eq_some_iff.1 hl).1
    have hy := run_yield (P := P) (args := encs x) hl (by rw [hrec]; exact hps x)
    rw [hrec] at hy
    have put : ∀ {V : World} {o o' : Obj}, V.heap[w.heap.size + 1]? = some o → o.isCells = false → ∀ {p : List α}, I p V → I p (V.putObj (w.heap.size + 1) o') := fun {V o o'} ho hc {p} hp =>
      hI _ _ _ _ hp (grownBy_putObj' V (w.heap.size + 1) o') (fun r e => by cases e; exact .inr ⟨by omega, _, ho, hc⟩)
    refine ⟨fn, _, assign, body, hy, roundIn_of_wpIn hfn (hassign _ x W _ ⟨_, run_beginRound hl (by rw [hrec]), ?_⟩)⟩
    have hl2 : (W.putObj (w.heap.size + 1) (.loop { rec .ready with state := .busy })).heap[w.heap.size + 1]? = some (.loop { rec .ready with state := .busy }) := World.putObj_heap_same hlt
    have hk2 : (W.putObj (w.heap.size + 1) (.loop { rec .ready with state := .busy })).heap[w.heap.size]? = some (.deferred (some [])) := (World.putObj_heap_other (by omega)).trans hk
    refine wpIn_mono (hbody _ pre x _ (put hl rfl hi) hr) ?_
    rintro e a3 W3 hp
    cases e with
    | normal =>
      obtain ⟨hk3, hb3, hi3⟩ := hp
      have hl3 := hk3.same _ _ (by omega) hl2 rfl
      have he := run_endRound (P := P) none hl3
      rw [hrec] at he hl3
      have hl4 : (W3.putObj (w.heap.size + 1) (.loop (rec .ready))).heap[w.heap.size + 1]? = some (.loop (rec .ready)) := World.putObj_heap_same (Array.getElem?_eq_some_iff.1 hl3).1
      have hk4 : (W3.putObj (w.heap.size + 1) (.loop (rec .ready))).heap[w.heap.size]? = some (.deferred (some [])) := (World.putObj_heap_other (by omega)).trans (hk3.same _ _ (Nat.le_refl _) hk2 rfl)
      refine ⟨_, _, he, rfl, ⟨put hl3 rfl hi3, ?_, ?_⟩, fun b hb => ?_⟩
      · rw [hrec] at hl4
        rw [hrec]
        exact hl4
      · rw [hrec] at hk4
        exact hk4
      · have hne : b ≠ w.heap.size + 1 := by have := hks b hb; omega
        exact (World.putObj_heap_other (by omega)).trans ((hb3 b hb).trans (World.putObj_heap_other (by omega)))
    | _ => exact hp.elim
  · rintro e W2 ⟨⟨v, rfl⟩, hi, hl, hk⟩
    have he := run_endLoop (P := P) hl (by rw [hrec]; simp)
    rw [hrec] at he
    exact ⟨none, _, he, hdone _ _ (Nat.le_refl _) (hI _ _ _ _ hi (grownBy_putObj' W2 (w.heap.size + 1) _) (fun r e => by cases e; exact .inr ⟨by omega, _, hl, rfl⟩)) ((World.putObj_heap_other (by omega)).trans hk)⟩
end

/-! ### The lines of a text -/
theorem index_any (r : List UInt8) (w : World) : Calls Tryz.prog 42 #[.string (strB r), .int .u8 10] w fun e w' => e = .returned (.int .i64 (Lib.indexByte r 10)) ∧ w' = w := by
  have := Tryz.strings_IndexByte (strB r) 10 w
  rw [strB_of] at this
  exact this
theorem indexByte_app {c : UInt8} : ∀ {a b : List UInt8}, c ∉ a → Lib.indexByte (a ++ c :: b) c = a.length
  | [], b, _ => by
    show (if c == c then (0 : Int) else _) = _
    rw [beq_self_eq_true, if_pos rfl]
    rfl
  | x :: a, b, h => by
    rw [List.mem_cons, not_or] at h
    show (if x == c then (0 : Int) else if Lib.indexByte (a ++ c :: b) c == -1 then -1 else Lib.indexByte (a ++ c :: b) c + 1) = _
    rw [beq_eq_false_iff_ne.2 (fun e => h.1 e.symm), if_neg (by simp), indexByte_app h.2, if_neg (by simp), List.length_cons]
    omega
theorem indexByte_none {c : UInt8} : ∀ {l : List UInt8}, c ∉ l → Lib.indexByte l c = -1
  | [], _ => rfl
  | x :: l, h => by
    rw [List.mem_cons, not_or] at h
    show (if x == c then (0 : Int) else if Lib.indexByte l c == -1 then -1 else Lib.indexByte l c + 1) = _
    rw [beq_eq_false_iff_ne.2 (fun e => h.1 e.symm), if_neg (by simp), indexByte_none h.2]
    rfl
theorem lns_none : ∀ {l : List UInt8}, (10 : UInt8) ∉ l → l ≠ [] → lns l = [l]
  | [], _, h => absurd rfl h
  | [x], h, _ => by
    rw [List.mem_singleton] at h
    rw [lns, if_neg fun e => h e.symm]
    rfl
  | x :: y :: l, h, _ => by
    rw [List.mem_cons, not_or] at h
    rw [lns, if_neg fun e => h.1 e.symm, lns_none h.2 (List.cons_ne_nil _ _)]
    rfl
def encS (p : List UInt8) : Array Value := #[.string (strB p)]
def leftW (b : Nat) (w : World) : Nat := match w.cell? ⟨b, 0, none⟩ with | some (.string s) => s.size | _ => 0
theorem leftW_eq {b : Nat} {w : World} {l : List UInt8} (h : w.heap[b]? = some (.cells #[.string (strB l)] 9 (0, 0))) : leftW b w = l.length := by
  unfold leftW
  have : w.cell? ⟨b, 0, none⟩ = some (.string (strB l)) := by simp [World.cell?, h]
  rw [this]
  exact strB_size l
theorem box_set {b : Nat} {w : World} {v v' : Value} {t : TypeId} (h : w.heap[b]? = some (.cells #[v] t (0, 0))) : (w.setCell ⟨b, 0, none⟩ v').heap[b]? = some (.cells #[v'] t (0, 0)) := by
  unfold World.setCell
  rw [Array.getElem?_modify, if_pos rfl, h]
  rfl
theorem grownBy_drewN (w : World) (n : Nat) (b : Nat) : w.grownBy (w.drewN n) (some b) := ((Grew.refl w).drewN n).grownBy _
theorem grownBy_setGrew (w : World) (gg : List Obj) (n b i : Nat) (v : Value) : w.grownBy (((w.setCell ⟨b, i, none⟩ v).grow gg).drewN n) (some b) := by
  have g := grownBy_set w b i v
  have h : Grew (w.setCell ⟨b, i, none⟩ v) (((w.setCell ⟨b, i, none⟩ v).grow gg).drewN n) := ⟨gg, n, rfl⟩
  have k := h.grownBy none
  exact ⟨k.os.trans g.os, k.tape.trans g.tape, k.output.trans g.output, Nat.le_trans g.size k.size, fun j hj hn => (k.block j (Nat.lt_of_lt_of_le hj g.size) (fun e => by cases e)).trans (g.block j hj hn)⟩
@[local go_sem 100000] theorem run_str_toS (l : List UInt8) (i : Nat) (w : World) (h : i + 1 ≤ l.length) : (Instr.sliceAt 9 (.string (strB l)) none (some (.int .i64 ((i : Int) + 1))) none).run Tryz.prog w = .ok (.string (strB (l.take (i + 1)))) w := run_str_to l (i + 1) w h
theorem grownBy_drewSet (w : World) (n b i : Nat) (v : Value) : w.grownBy ((w.drewN n).setCell ⟨b, i, none⟩ v) (some b) := by
  have g := grownBy_set (w.drewN n) b i v
  exact ⟨g.os, g.tape, g.output, g.size, g.block⟩
set_option maxRecDepth 100000 in
set_option maxHeartbeats 4000000 in
theorem lines1_runs (n : Nat) (hn : 1 ≤ n) (bS : Nat) (l : List UInt8) (hl : l.length ≤ 100000) (w : World) (hx : w.heap[bS]? = some (.cells #[.string (strB l)] 9 (0, 0))) :
    Runs n Tryz.prog 41 #[.pointer (some ⟨bS, 0, none⟩)] [bS] [bS] encS (lns l) w := by
  intro lp J W hbW hW hJ hY h0
  have hb0 := (hbW bS (List.mem_singleton.2 rfl)).trans hx
  clear hbW hW hx
  refine callsIn_of_wp Tryz.func41 rfl trivial ?_ rfl
  simp only [Tryz.ntmps41, List.size_toArray, List.length_cons, List.length_nil, Nat.reduceAdd, Nat.reduceSub, Array.replicate_succ, Array.replicate_zero, List.push_toArray, List.append_toArray, List.nil_append, List.cons_append]
  gi_wp2
  gi_loopw [3, 4] (fun _ _ wr => ∃ (pre : List (List UInt8)) (r : List UInt8), lns l = pre ++ lns r ∧ r.length ≤ 100000 ∧ wr.heap[bS]? = some (.cells #[.string (strB r)] 9 (0, 0)) ∧ J pre wr) (fun _ _ wr => leftW bS wr)
  case atStart => exact ⟨[], l, rfl, hl, hb0, h0⟩
  case round =>
    obtain ⟨pre, r, hpr, hrl, hb, hJr⟩ := hrel
    have hc : wr.cell? ⟨bS, 0, none⟩ = some (.string (strB r)) := by simp [World.cell?, hb]
    have hf : wr.frozen? ⟨bS, 0, none⟩ = false := by simp [World.frozen?, hb]
    have hbl := (Array.getElem?_eq_some_iff.1 hb).1
    have HB := hid hb
    have HJR := hid hJr
    have HPR := hid hpr
    have HRL := hid hrl
    clear hb hJr hpr hrl h0 hb0 hl
    by_cases hr0 : r = []
    case pos =>
      subst hr0
      gi_wp2
      go_end0
      refine ⟨⟨_, rfl⟩, ?_⟩
      have := HPR.out
      rw [show lns [] = [] from rfl, List.append_nil] at this
      rw [this]
      exact HJR.out
    case neg =>
      have hp : 0 < (r.length : Int) := by have := List.length_pos_iff.2 hr0; omega
      have HI := hid fun w => index_any r w
      by_cases h10 : (10 : UInt8) ∈ r
      case pos =>
        obtain ⟨a, b, rfl, ha⟩ := mem_cut h10
        rw [indexByte_app ha] at HI
        have ht : (a ++ 10 :: b).take (a.length + 1) = a ++ [10] := by rw [List.take_append, List.take_of_length_le (by omega), Nat.add_sub_cancel_left]; rfl
        have hd : (a ++ 10 :: b).drop (a.length + 1) = b := by rw [← List.drop_drop, List.drop_left' rfl]; rfl
        have hla : a.length + 1 ≤ (a ++ 10 :: b).length := by rw [List.length_append, List.length_cons]; omega
        have hlb : b.length < (a ++ 10 :: b).length := by rw [List.length_append, List.length_cons]; omega
        have HLN := hid (lns_app (m := b) ha)
        have HHD := hid (And.intro ht (And.intro hd (And.intro hlb HRL.out)))
        obtain ⟨R, hR⟩ : ∃ R, a ++ 10 :: b = R := ⟨_, rfl⟩
        rw [hR] at HHD HLN HPR HB hc hp HI hla
        obtain ⟨i, hi⟩ : ∃ i, a.length = i := ⟨_, rfl⟩
        rw [hi] at HHD HI hla
        have hi9 : i < 9223372036854775806 := by have := HHD.out.2.2.2; omega
        clear hR ht hd hlb ha h10 hr0 hi HRL
        gi_wp2
        refine ⟨trivial, (callsIn_wide.2 (HI.out _)).mono ?_⟩
        rintro e w' ⟨rfl, rfl⟩
        gi_wp2
        refine wpIn_wide.2 ?_
        refine R3.wp_region_gentle_tail 9 (by kernel_rfl) (by kernel_rfl) (by kernel_rfl) ?_
        simp only [List.take_succ_cons, List.take_zero, List.drop_succ_cons, List.drop_zero]
        repeat (first | go_big_quiet_skip | (go_big_quiet_want; go_big_quiet_op; first | go_big_quiet_on | fail))
        refine wpQuiet_nil ?_
        rintro _ ⟨gg, ng, rfl⟩
        rw [HHD.out.1, HHD.out.2.1]
        go_wp2_with fail
        have hgr : w'.grownBy (((w'.setCell ⟨bS, 0, none⟩ (.string (strB b))).grow gg).drewN ng) (some bS) := grownBy_setGrew w' gg ng bS 0 _
        have hb1 : (((w'.setCell ⟨bS, 0, none⟩ (.string (strB b))).grow gg).drewN ng).heap[bS]? = some (.cells #[.string (strB b)] 9 (0, 0)) := (Grew.block ⟨gg, ng, rfl⟩ bS (Nat.lt_of_lt_of_le hbl (KeepsWalks.setCell w' _ _).size)).trans (box_set HB.out)
        obtain ⟨W1, hW1⟩ : ∃ W1, ((w'.setCell ⟨bS, 0, none⟩ (.string (strB b))).grow gg).drewN ng = W1 := ⟨_, rfl⟩
        rw [hW1] at hgr hb1
        rw [hW1]
        have hJ1 := hJ _ _ _ bS HJR.out (List.mem_singleton.2 rfl) hgr
        have hm := (leftW_eq HB.out)
        obtain ⟨fn, tmps, assign, body, hy, hR⟩ := hY pre (a ++ [10]) W1 hJ1 ⟨lns b, by rw [HPR.out, HLN.out]⟩
        simp only [encS] at hy
        have HM := hid hm
        have HB1 := hid hb1
        clear hgr hW1 hJ1 hb1 hc hf hbl HB HJR hm
        gi_wp2
        refine hR.mono ?_
        rintro e W3 ⟨rfl, hJ3, hk3⟩
        gi_wp2
        go_roundw
        case rel => exact ⟨pre ++ [a ++ [10]], b, by rw [HPR.out, HLN.out, List.append_assoc]; rfl, by have := HHD.out; omega, (hk3 bS (List.mem_singleton.2 rfl)).trans HB1.out, hJ3⟩
        case measure => rw [leftW_eq ((hk3 bS (List.mem_singleton.2 rfl)).trans HB1.out), HM.out]; exact HHD.out.2.2.1
      case neg =>
        rw [indexByte_none h10] at HI
        have HLN := hid (lns_none h10 hr0)
        have HR0 := hid (List.length_pos_iff.2 hr0)
        clear h10 hr0
        gi_wp2
        refine ⟨trivial, (callsIn_wide.2 (HI.out _)).mono ?_⟩
        rintro e w' ⟨rfl, rfl⟩
        gi_wp2
        have hgr : w'.grownBy (w'.setCell ⟨bS, 0, none⟩ (.string ⟨#[]⟩)) (some bS) := grownBy_set w' bS 0 _
        have hb1 : (w'.setCell ⟨bS, 0, none⟩ (.string ⟨#[]⟩)).heap[bS]? = some (.cells #[.string (strB [])] 9 (0, 0)) := box_set HB.out
        obtain ⟨W1, hW1⟩ : ∃ W1, w'.setCell ⟨bS, 0, none⟩ (.string ⟨#[]⟩) = W1 := ⟨_, rfl⟩
        rw [hW1] at hgr hb1
        rw [hW1]
        have hJ1 := hJ _ _ _ bS HJR.out (List.mem_singleton.2 rfl) hgr
        have hm := (leftW_eq HB.out)
        obtain ⟨fn, tmps, assign, body, hy, hR⟩ := hY pre r W1 hJ1 ⟨[], by rw [HPR.out, HLN.out]⟩
        simp only [encS] at hy
        have HM := hid hm
        have HB1 := hid hb1
        clear hgr hW1 hJ1 hb1 hc hf hbl HB HJR hm
        gi_wp2
        rw [hy, Oper.uponIn_round]
        refine ⟨fun _ => hn, hR.mono ?_⟩
        rintro e W3 ⟨rfl, hJ3, hk3⟩
        gi_wp2
        go_roundw
        case rel => exact ⟨pre ++ [r], [], by rw [HPR.out, HLN.out, show lns [] = [] from rfl, List.append_nil], Nat.zero_le _, (hk3 bS (List.mem_singleton.2 rfl)).trans HB1.out, hJ3⟩
        case measure => rw [leftW_eq ((hk3 bS (List.mem_singleton.2 rfl)).trans HB1.out), HM.out]; exact HR0.out
theorem lines_any (l : List UInt8) (w : World) : Calls Tryz.prog 23 #[.string (strB l)] w fun e w' => e = .returned (.func (.func 41) #[] #[.pointer (some ⟨w.heap.size, 0, none⟩)]) ∧ w' = w.alloc (.cells #[.string (strB l)] 9) := by
  go_enter Tryz.func23, Tryz.ntmps23
  go_wp2
  go_ret
  exact ⟨rfl, rfl⟩

/-! ### The parts of a text between separators of two bytes -/
theorem pre_two (c d x y : UInt8) (l : List UInt8) : [c, d].isPrefixOf (x :: y :: l) = (c == x && d == y) := by simp [List.isPrefixOf]
theorem spl2_index (c d : UInt8) : ∀ l : List UInt8, (∃ i : Nat, Lib.index l [c, d] = i ∧ i + 2 ≤ l.length ∧ spl2 c d l = l.take i :: spl2 c d (l.drop (i + 2))) ∨ (Lib.index l [c, d] = -1 ∧ spl2 c d l = [l])
  | [] => .inr ⟨rfl, rfl⟩
  | [x] => .inr ⟨by
    show (if [c, d].isPrefixOf [x] then (0 : Int) else if Lib.index [] [c, d] == -1 then -1 else Lib.index [] [c, d] + 1) = -1
    rw [show [c, d].isPrefixOf [x] = false by simp [List.isPrefixOf], if_neg Bool.false_ne_true]
    rfl, rfl⟩
  | x :: y :: l => by
    have e : Lib.index (x :: y :: l) [c, d] = if [c, d].isPrefixOf (x :: y :: l) then (0 : Int) else if Lib.index (y :: l) [c, d] == -1 then -1 else Lib.index (y :: l) [c, d] + 1 := rfl
    rw [e, pre_two]
    by_cases h : x = c ∧ y = d
    · obtain ⟨rfl, rfl⟩ := h
      refine .inl ⟨0, ?_, by simp, ?_⟩
      · rw [beq_self_eq_true, beq_self_eq_true]
        rfl
      · rw [spl2, if_pos ⟨rfl, rfl⟩]
        rfl
    · have hb : (c == x && d == y) = false := by
        rw [Bool.and_eq_false_iff]
        by_cases hx : c = x
        · exact .inr (beq_eq_false_iff_ne.2 fun hy => h ⟨hx.symm, hy.symm⟩)
        · exact .inl (beq_eq_false_iff_ne.2 hx)
      rw [hb, if_neg Bool.false_ne_true, spl2, if_neg h]
      rcases spl2_index c d (y :: l) with ⟨i, h1, h2, h3⟩ | ⟨h1, h2⟩
      · refine .inl ⟨i + 1, ?_, ?_, ?_⟩
        · rw [h1, if_neg (by simp)]
          omega
        · rw [List.length_cons]; omega
        · rw [h3]
          rfl
      · refine .inr ⟨?_, ?_⟩
        · rw [h1]
          rfl
        · rw [h2]
          rfl
theorem index2_any (r : List UInt8) (w : World) (hl : r.length ≤ 100000) (hm : ∃ m, w.cell? ⟨0, 0, none⟩ = some (.int .i64 m)) : Calls Tryz.prog 82 #[.string (strB r), .string ⟨#[59, 32]⟩] w fun e w' => e = .returned (.int .i64 (Lib.index r [59, 32])) ∧ w' = w := by
  obtain ⟨m, hm⟩ := hm
  have := Tryz.strings_Index (strB r) ⟨#[59, 32]⟩ m w (by rw [strB_size]; omega) hm
  rw [strB_of] at this
  exact this
@[local go_sem 100000] theorem run_str_from2 (l : List UInt8) (i : Nat) (w : World) (h : i + 2 ≤ l.length) : (Instr.sliceAt 9 (.string (strB l)) (some (.int .i64 ((i : Int) + 2))) none none).run Tryz.prog w = .ok (.string (strB (l.drop (i + 2)))) w := run_str_from l (i + 2) w h
theorem cell_of_one {w : World} {b : Nat} {v : Value} {t : TypeId} (h : w.heap[b]? = some (.cells #[v] t (0, 0))) : w.cell? ⟨b, 0, none⟩ = some v := by simp [World.cell?, h]
theorem frozen_of_one {w : World} {b : Nat} {v : Value} {t : TypeId} (h : w.heap[b]? = some (.cells #[v] t (0, 0))) : w.frozen? ⟨b, 0, none⟩ = false := by simp [World.frozen?, h]
/-- What the iterator over parts holds: what is left, the separator, how much of it is kept; and the library's own bound. -/
structure SeqAt (bS : Nat) (r : List UInt8) (w : World) : Prop where
  s : w.heap[bS]? = some (.cells #[.string (strB r)] 9 (0, 0))
  sep : w.heap[bS + 1]? = some (.cells #[.string ⟨#[59, 32]⟩] 9 (0, 0))
  save : w.heap[bS + 2]? = some (.cells #[.int .i64 0] 3 (0, 0))
  max : ∃ m, w.cell? ⟨0, 0, none⟩ = some (.int .i64 m)
def seqB (bS : Nat) : List Nat := [bS, bS + 1, bS + 2, 0]
theorem SeqAt.kept {bS : Nat} {r : List UInt8} {w w' : World} (h : SeqAt bS r w) (hk : ∀ b ∈ seqB bS, w'.heap[b]? = w.heap[b]?) : SeqAt bS r w' := by
  refine ⟨(hk _ (by simp [seqB])).trans h.s, (hk _ (by simp [seqB])).trans h.sep, (hk _ (by simp [seqB])).trans h.save, ?_⟩
  obtain ⟨m, hm⟩ := h.max
  exact ⟨m, by rw [← hm]; simp only [World.cell?]; rw [hk 0 (by simp [seqB])]⟩
theorem SeqAt.set {bS : Nat} {r r' : List UInt8} {w : World} (h : SeqAt bS r w) (hz : bS ≠ 0) : SeqAt bS r' (w.setCell ⟨bS, 0, none⟩ (.string (strB r'))) := by
  have o : ∀ b, b ≠ bS → (w.setCell ⟨bS, 0, none⟩ (.string (strB r'))).heap[b]? = w.heap[b]? := fun b hb => Below.heap_setCell _ _ _ b hb
  refine ⟨box_set h.s, (o _ (by omega)).trans h.sep, (o _ (by omega)).trans h.save, ?_⟩
  obtain ⟨m, hm⟩ := h.max
  exact ⟨m, by rw [← hm]; simp only [World.cell?]; rw [o _ (Ne.symm hz)]⟩
set_option maxRecDepth 100000 in
set_option maxHeartbeats 4000000 in
theorem split1_runs (n : Nat) (hn : 1 ≤ n) (bS : Nat) (hz : bS ≠ 0) (l : List UInt8) (hl : l.length ≤ 100000) (w : World) (hx : SeqAt bS l w) :
    Runs n Tryz.prog 85 #[.pointer (some ⟨bS + 1, 0, none⟩), .pointer (some ⟨bS, 0, none⟩), .pointer (some ⟨bS + 2, 0, none⟩)] [bS] (seqB bS) encS (spl2 59 32 l) w := by
  intro lp J W hbW hW hJ hY h0
  have hb0 := hx.kept hbW
  clear hbW hW hx
  have c1 := cell_of_one hb0.sep
  refine callsIn_of_wp Tryz.func85 rfl trivial ?_ rfl
  simp only [Tryz.ntmps85, List.size_toArray, List.length_cons, List.length_nil, Nat.reduceAdd, Nat.reduceSub, Array.replicate_succ, Array.replicate_zero, List.push_toArray, List.append_toArray, List.nil_append, List.cons_append]
  gi_wp2
  clear c1
  gi_loopw [7, 8] (fun _ _ wr => ∃ (pre : List (List UInt8)) (r : List UInt8), spl2 59 32 l = pre ++ spl2 59 32 r ∧ r.length ≤ 100000 ∧ SeqAt bS r wr ∧ J pre wr) (fun _ _ wr => leftW bS wr)
  case atStart => exact ⟨[], l, rfl, hl, hb0, h0⟩
  case round =>
    obtain ⟨pre, r, hpr, hrl, hb, hJr⟩ := hrel
    have c0 := cell_of_one hb.s
    have c1 := cell_of_one hb.sep
    have c2 := cell_of_one hb.save
    have HB := hid hb
    have HJR := hid hJr
    have HPR := hid hpr
    have HRL := hid hrl
    have HZ := hid hz
    have HI := hid (index2_any r wr hrl hb.max)
    clear hb hJr hpr hrl h0 hb0 hl hz
    rcases spl2_index 59 32 r with ⟨i, h1, h2, h3⟩ | ⟨h1, h2⟩
    · rw [h1] at HI
      have hi9 : i + 2 < 9223372036854775806 := by have := HRL.out; omega
      have hil : i ≤ r.length := by omega
      have H2 := hid h2
      have H3 := hid h3
      clear h1 h2 h3
      gi_wp2
      refine ⟨trivial, (callsIn_wide.2 HI.out).mono ?_⟩
      rintro e w' ⟨rfl, rfl⟩
      obtain ⟨fn, tmps, assign, body, hy, hR⟩ := hY pre (r.take i) w' HJR.out ⟨spl2 59 32 (r.drop (i + 2)), by rw [HPR.out, H3.out]⟩
      simp only [encS] at hy
      have HS := hid (leftW_eq HB.out.s)
      gi_wp2
      refine hR.mono ?_
      rintro e W3 ⟨rfl, hJ3, hk3⟩
      have hb3 := HB.out.kept hk3
      have c0 := cell_of_one hb3.s
      have c1 := cell_of_one hb3.sep
      have f0 := frozen_of_one hb3.s
      have h2 := H2.out
      have HB3 := hid hb3
      clear hb3 hk3
      gi_wp2
      refine ⟨⟨pre ++ [r.take i], r.drop (i + 2), by rw [HPR.out, H3.out, List.append_assoc]; rfl, by rw [List.length_drop]; have := HRL.out; omega, HB3.out.set HZ.out, hJ _ _ _ bS hJ3 (List.mem_singleton.2 rfl) (grownBy_set _ _ _ _)⟩, ?_⟩
      rw [leftW_eq (HB3.out.set HZ.out).s, HS.out, List.length_drop]
      omega
    · rw [h1] at HI
      have H2 := hid h2
      clear h1 h2
      gi_wp2
      refine ⟨trivial, (callsIn_wide.2 HI.out).mono ?_⟩
      rintro e w' ⟨rfl, rfl⟩
      obtain ⟨fn, tmps, assign, body, hy, hR⟩ := hY pre r w' HJR.out ⟨[], by rw [HPR.out, H2.out]⟩
      simp only [encS] at hy
      gi_wp2
      try (rw [hy, Oper.uponIn_round]; refine ⟨fun _ => hn, ?_⟩)
      refine hR.mono ?_
      rintro e W3 ⟨rfl, hJ3, hk3⟩
      gi_wp2
      go_end0
      refine ⟨⟨_, rfl⟩, ?_⟩
      rw [HPR.out, H2.out]
      exact hJ3
theorem splitSeq_any (l : List UInt8) (w : World) : Calls Tryz.prog 46 #[.string (strB l), .string ⟨#[59, 32]⟩] w fun e w' => e = .returned (.func (.func 85) #[] #[.pointer (some ⟨w.heap.size + 1, 0, none⟩), .pointer (some ⟨w.heap.size, 0, none⟩), .pointer (some ⟨w.heap.size + 2, 0, none⟩)]) ∧
      w' = ((w.alloc (.cells #[.string (strB l)] 9)).alloc (.cells #[.string ⟨#[59, 32]⟩] 9)).alloc (.cells #[.int .i64 0] 3) := by
  have H : ∀ w, Calls Tryz.prog 65 #[.string (strB l), .string ⟨#[59, 32]⟩, .int .i64 0] w fun e w' => e = .returned (.func (.func 85) #[] #[.pointer (some ⟨w.heap.size + 1, 0, none⟩), .pointer (some ⟨w.heap.size, 0, none⟩), .pointer (some ⟨w.heap.size + 2, 0, none⟩)]) ∧
      w' = ((w.alloc (.cells #[.string (strB l)] 9)).alloc (.cells #[.string ⟨#[59, 32]⟩] 9)).alloc (.cells #[.int .i64 0] 3) := by
    intro w
    go_enter Tryz.func65, Tryz.ntmps65
    go_wp2
    go_ret
    exact ⟨rfl, rfl⟩
  have HH := hid H
  clear H
  go_enter Tryz.func46, Tryz.ntmps46
  go_wp2_with fail
  refine (HH.out _).mono ?_
  rintro e w' ⟨rfl, rfl⟩
  go_wp2
  go_ret
  exact ⟨rfl, rfl⟩
theorem seqAt_new (l : List UInt8) (w : World) (hm : ∃ m, w.cell? ⟨0, 0, none⟩ = some (.int .i64 m)) :
    SeqAt w.heap.size l (((w.alloc (.cells #[.string (strB l)] 9)).alloc (.cells #[.string ⟨#[59, 32]⟩] 9)).alloc (.cells #[.int .i64 0] 3)) := by
  obtain ⟨W1, h1⟩ : ∃ W, W = w.alloc (.cells #[.string (strB l)] 9) := ⟨_, rfl⟩
  obtain ⟨W2, h2⟩ : ∃ W, W = W1.alloc (.cells #[.string ⟨#[59, 32]⟩] 9) := ⟨_, rfl⟩
  rw [← h1, ← h2]
  have s1 : W1.heap.size = w.heap.size + 1 := by rw [h1, World.size_alloc]
  have s2 : W2.heap.size = w.heap.size + 2 := by rw [h2, World.size_alloc, s1]
  have a1 : W1.heap[w.heap.size]? = some (.cells #[.string (strB l)] 9 (0, 0)) := by rw [h1]; exact World.alloc_heap_new w _
  have a2 : W2.heap[w.heap.size + 1]? = some (.cells #[.string ⟨#[59, 32]⟩] 9 (0, 0)) := by rw [h2, ← s1]; exact World.alloc_heap_new W1 _
  have a3 : (W2.alloc (.cells #[.int .i64 0] 3)).heap[w.heap.size + 2]? = some (.cells #[.int .i64 0] 3 (0, 0)) := by rw [← s2]; exact World.alloc_heap_new W2 _
  have a12 : W2.heap[w.heap.size]? = some (.cells #[.string (strB l)] 9 (0, 0)) := by rw [h2]; exact (Below.heap_alloc _ _ _ (by omega)).trans a1
  refine ⟨(Below.heap_alloc _ _ _ (by omega)).trans a12, (Below.heap_alloc _ _ _ (by omega)).trans a2, a3, ?_⟩
  obtain ⟨m, hm⟩ := hm
  refine ⟨m, ?_⟩
  have g : Grew w (W2.alloc (.cells #[.int .i64 0] 3)) := by rw [h2, h1]; exact (((Grew.refl w).alloc _).alloc _).alloc _
  exact (g.cell (i := 0) (cell_lt hm)).trans hm
end Go.Proofs.YtdomlnhgafielaaGreatDoor
