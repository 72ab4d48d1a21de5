/- House lemmas on regions that draw their order, continued: each of the first n operations, whenever it comes up, makes a value of which something is known that stays true as the world grows; the rest stand one behind the other. No condition; no program in sight. -/
import Derived.Test.YtkglnnkghillpaaRegionC
namespace Go.R4
open Go Go.RowKit Go.R3

/-- Whose values an operation takes. -/
def needs (o : Oper) : List Nat := (o.after.toList.filter fun e => Region.binds .any e && (match e.ground with | .data => true | .guard => true | _ => false)).map fun e => e.on

/-- What an operation waits for at first hand. -/
def waits (o : Oper) : List Nat := (o.after.toList.filter fun e => Region.binds .any e).map fun e => e.on
theorem waits_mem {o : Oper} {j : Nat} (h : j ∈ waits o) : ∃ e ∈ o.after, Region.binds .any e = true ∧ e.on = j := by
  unfold waits at h
  simp only [List.mem_map, List.mem_filter, Array.mem_toList_iff] at h
  obtain ⟨e, ⟨h1, h2⟩, h3⟩ := h
  exact ⟨e, h1, h2, h3⟩
theorem down_waits {l : List Oper} {L : Nat → Prop} (h : ∀ j o', l[j]? = some o' → L j → ∀ e ∈ o'.after, Region.binds .any e = true → L e.on) (j : Nat) {i : Nat} {o' : Oper} (ho : l[j]? = some o') (hL : L j) (hi : i ∈ waits o') : L i := by
  obtain ⟨e, he1, he2, he3⟩ := waits_mem hi
  have := h j o' ho hL e he1 he2
  rwa [he3] at this

/-- What is asked of the region's edges and slots. -/
def slotG (n : Nat) (l : List Oper) : Bool :=
  R3.tailB n l && l.zipIdx.all fun (o, i) => decide (n ≤ i) ||
    ((match o.op with | .select .. => false | _ => true) &&
      l.zipIdx.all fun (o', j) => decide (n ≤ j) || decide (i = j) || match o'.dst with
        | none => true
        | some d => o.dst != some d && (!(o.looksAt l.toArray).contains d || (needs o).contains j))

/-- The same; and no operation has a guard. -/
def slotB (n : Nat) (l : List Oper) : Bool := slotG n l && l.zipIdx.all fun (o, i) => decide (n ≤ i) || o.guard.isNone
theorem slotB_none {n : Nat} {l : List Oper} (h : slotB n l = true) {i : Nat} {o : Oper} (hi : i < n) (ho : l[i]? = some o) : o.guard = none := by
  unfold slotB at h
  rw [Bool.and_eq_true, List.all_eq_true] at h
  have := h.2 (o, i) (by rw [List.mem_zipIdx_iff_getElem?]; exact ho)
  simp only [Bool.or_eq_true, decide_eq_true_eq] at this
  rcases this with h1 | h1
  · omega
  · simpa using h1

structure SlotAt (n : Nat) (l : List Oper) (i : Nat) (o : Oper) : Prop where
  sel : ∀ cs b, o.op ≠ .select cs b
  dst : ∀ j o', l[j]? = some o' → j < n → i ≠ j → ∀ d, o'.dst = some d → o.dst ≠ some d
  looks : ∀ j o', l[j]? = some o' → j < n → i ≠ j → ∀ d, o'.dst = some d → d ∈ o.looksAt l.toArray → j ∈ needs o

theorem slotB_at {n : Nat} {l : List Oper} (h : slotG n l = true) {i : Nat} {o : Oper} (hi : i < n) (ho : l[i]? = some o) : SlotAt n l i o := by
  unfold slotG at h
  rw [Bool.and_eq_true, List.all_eq_true] at h
  have := h.2 (o, i) (by rw [List.mem_zipIdx_iff_getElem?]; exact ho)
  simp only [Bool.or_eq_true, decide_eq_true_eq, Bool.and_eq_true, List.all_eq_true] at this
  rcases this with h1 | ⟨h2, h3⟩
  · omega
  refine ⟨fun cs b he => by simp [he] at h2, fun j o' hj hjn hne d hd => ?_, fun j o' hj hjn hne d hd hl => ?_⟩
  · have := h3 (o', j) (by rw [List.mem_zipIdx_iff_getElem?]; exact hj)
    simp only [hd] at this
    rcases this with (h | h) | h
    · omega
    · exact absurd h hne
    · simp only [Bool.and_eq_true, bne_iff_ne] at h
      exact h.1
  · have := h3 (o', j) (by rw [List.mem_zipIdx_iff_getElem?]; exact hj)
    simp only [hd] at this
    rcases this with (h | h) | h
    · omega
    · exact absurd h hne
    · simp only [Bool.and_eq_true, Bool.or_eq_true, Bool.not_eq_true', List.contains_eq_mem, decide_eq_false_iff_not, decide_eq_true_eq] at h
      rcases h.2 with h | h
      · exact absurd hl h
      · exact h

theorem needs_mem {o : Oper} {j : Nat} (h : j ∈ needs o) : ∃ e ∈ o.after, Region.binds .any e = true ∧ e.on = j := by
  unfold needs at h
  simp only [List.mem_map, List.mem_filter, Array.mem_toList_iff, Bool.and_eq_true] at h
  obtain ⟨e, ⟨h1, h2, _⟩, h3⟩ := h
  exact ⟨e, h1, h2, h3⟩

def Oper.slotUpon (P : Program) (V : Value → World → Prop) : Result Next → Prop
  | .ok (.value v) w' => V v w'
  | .ok .skip w' => V undef w'
  | .ok (.enter f args) w' => Calls P f args w' (fun e w'' => ∃ v, e = .returned v ∧ V v w'')
  | _ => False
/-- The operation makes a value of which V is known then. -/
def Oper.slotAt (P : Program) (o : Oper) (a : Act) (w : World) (V : Value → World → Prop) : Prop := Oper.slotUpon P V ((execOp a.eval o).run P w)
attribute [go_sem] Oper.slotUpon Oper.slotAt

theorem wp_of_slot {P : Program} {o : Oper} {a x : Act} {w : World} {V : Value → World → Prop} {K : Act → World → Prop} {Q : Exit → Act → World → Prop} (he : execOp x.eval o = execOp a.eval o) (hh : Oper.slotAt P o a w V) (h : ∀ v w', V v w' → K (x.put o.dst v) w') : o.wp P x w K Q := by
  unfold Oper.slotAt at hh
  rw [← he] at hh
  unfold Oper.wp
  generalize (execOp x.eval o).run P w = r at *
  cases r with
  | ok k w' =>
    cases k <;> simp only [Oper.slotUpon] at hh <;> simp only [Oper.upon]
    case value u => exact h _ _ hh
    case skip => exact h _ _ hh
    case enter f args => exact hh.mono fun e w'' ⟨v, he, hv⟩ => by subst he; exact h _ _ hv
  | halt x w' => simp only [Oper.slotUpon] at hh

/-- The values with one more known. -/
def upd (vs : Nat → Value) (k : Nat) (v : Value) : Nat → Value := fun i => if i = k then v else vs i
theorem upd_same (vs : Nat → Value) (k : Nat) (v : Value) : upd vs k v k = v := by simp [upd]
theorem upd_other (vs : Nat → Value) {k i : Nat} (v : Value) (h : i ≠ k) : upd vs k v i = vs i := by simp [upd, h]

/-- A new block of k cells of the type T, from block B on. -/
def NewBlk (B : Nat) (T : TypeId) (k : Nat) (v : Value) (w : World) : Prop := ∃ (b : Nat) (cs : Array Value), v = .pointer (some ⟨b, 0, none⟩) ∧ B ≤ b ∧ cs.size = k ∧ w.heap[b]? = some (.cells cs T)
theorem NewBlk.grew {B : Nat} {T : TypeId} {k : Nat} {v : Value} {w w' : World} (h : NewBlk B T k v w) (g : Grew w w') : NewBlk B T k v w' := by
  obtain ⟨b, cs, h1, h2, h3, h4⟩ := h
  exact ⟨b, cs, h1, h2, h3, (g.block b (Array.getElem?_eq_some_iff.1 h4).1).trans h4⟩
theorem NewBlk.fresh {B : Nat} {T : TypeId} {cs : Array Value} {w : World} {b : Nat} (hb : b = w.heap.size) (hB : B ≤ w.heap.size) : NewBlk B T cs.size (.pointer (some ⟨b, 0, none⟩)) (w.alloc (.cells cs T)) := by
  subst hb
  refine ⟨_, cs, rfl, hB, rfl, ?_⟩
  show (w.heap.push _)[w.heap.size]? = _
  simp
/-- The block that a slot points to. -/
def HasBlk (o : Obj) (v : Value) (w : World) : Prop := ∃ b : Nat, v = .pointer (some ⟨b, 0, none⟩) ∧ w.heap[b]? = some o
theorem HasBlk.grew {o : Obj} {v : Value} {w w' : World} (h : HasBlk o v w) (g : Grew w w') : HasBlk o v w' := by
  obtain ⟨b, h1, h4⟩ := h
  exact ⟨b, h1, (g.block b (Array.getElem?_eq_some_iff.1 h4).1).trans h4⟩
theorem set5 {w : World} {b : Nat} {x0 x1 x2 x3 x4 : Value} {T : TypeId} (h : w.heap[b]? = some (.cells #[x0, x1, x2, x3, x4] T)) (v0 v1 v2 v3 v4 : Value) :
    (((((w.setCell ⟨b, 0, none⟩ v0).setCell ⟨b, 1, none⟩ v1).setCell ⟨b, 2, none⟩ v2).setCell ⟨b, 3, none⟩ v3).setCell ⟨b, 4, none⟩ v4).heap[b]? = some (.cells #[v0, v1, v2, v3, v4] T) ∧
    ∀ j, j ≠ b → (((((w.setCell ⟨b, 0, none⟩ v0).setCell ⟨b, 1, none⟩ v1).setCell ⟨b, 2, none⟩ v2).setCell ⟨b, 3, none⟩ v3).setCell ⟨b, 4, none⟩ v4).heap[j]? = w.heap[j]? := by
  refine ⟨?_, fun j hj => ?_⟩
  · rw [heap_setCell_same _ _ _ _ _ _ (heap_setCell_same _ _ _ _ _ _ (heap_setCell_same _ _ _ _ _ _ (heap_setCell_same _ _ _ _ _ _ (heap_setCell_same _ _ _ _ _ _ h))))]
    simp
  · rw [heap_setCell_other _ _ _ _ hj, heap_setCell_other _ _ _ _ hj, heap_setCell_other _ _ _ _ hj, heap_setCell_other _ _ _ _ hj, heap_setCell_other _ _ _ _ hj]
theorem set2 {w : World} {b : Nat} {x0 x1 : Value} {T : TypeId} (h : w.heap[b]? = some (.cells #[x0, x1] T)) (v0 v1 : Value) :
    ((w.setCell ⟨b, 0, none⟩ v0).setCell ⟨b, 1, none⟩ v1).heap[b]? = some (.cells #[v0, v1] T) ∧
    ∀ j, j ≠ b → ((w.setCell ⟨b, 0, none⟩ v0).setCell ⟨b, 1, none⟩ v1).heap[j]? = w.heap[j]? := by
  refine ⟨?_, fun j hj => ?_⟩
  · rw [heap_setCell_same _ _ _ _ _ _ (heap_setCell_same _ _ _ _ _ _ h)]
    simp
  · rw [heap_setCell_other _ _ _ _ hj, heap_setCell_other _ _ _ _ hj]
/-- A block's cells set anew. -/
theorem NewBlk.other {B : Nat} {T : TypeId} {k : Nat} {v : Value} {w w' : World} {b : Nat} {cs cs' : Array Value} {T' : TypeId} (h : NewBlk B T k v w) (hw : ∀ j, j ≠ b → w'.heap[j]? = w.heap[j]?) (hb : w.heap[b]? = some (.cells cs T')) (hb' : w'.heap[b]? = some (.cells cs' T')) (hs : cs'.size = cs.size) : NewBlk B T k v w' := by
  obtain ⟨c, ds, h1, h2, h3, h4⟩ := h
  by_cases hc : c = b
  · subst hc
    rw [hb] at h4
    injection h4 with h4
    injection h4 with h5 h6
    subst h5
    subst h6
    exact ⟨c, cs', h1, h2, hs.trans h3, hb'⟩
  · exact ⟨c, ds, h1, h2, h3, (hw c hc).trans h4⟩

section
variable {P : Program} {n : Nat} {l : List Oper}

/-- Where the walk stands while the first n operations come up in whatever order. -/
structure Mid (n : Nat) (l : List Oper) (V : Nat → (Nat → Value) → World → Prop) (C : (Nat → Prop) → World → Prop) (a0 : Act) (vs : Nat → Value) (listed : Array Bool) (x : Act) (w : World) : Prop where
  size : listed.size = l.length
  cls : C (fun j => listed.getD j false = true) w
  down : Down l listed
  tail : ∀ j, n ≤ j → j < l.length → listed.getD j true = false
  defers : x.defers = a0.defers
  tsize : x.tmps.size = a0.tmps.size
  old : ∀ t, (∀ i o, i < n → l[i]? = some o → listed.getD i false = true → o.dst ≠ some t) → x.tmps[t]? = a0.tmps[t]?
  new : ∀ i o d, i < n → l[i]? = some o → listed.getD i false = true → o.dst = some d → d < a0.tmps.size → x.tmps[d]? = some (vs i)
  good : ∀ i, i < n → i < l.length → listed.getD i false = true → V i vs w

theorem Mid.put (h : slotG n l = true) {V : Nat → (Nat → Value) → World → Prop} (hdep : ∀ i o vs vs' w, i < n → l[i]? = some o → V i vs w → vs' i = vs i → (∀ j ∈ needs o, vs' j = vs j) → V i vs' w) {C : (Nat → Prop) → World → Prop} {a0 : Act} {vs : Nat → Value} {listed : Array Bool} {x : Act} {w w' : World} (A : Mid n l V C a0 vs listed x w)
    {k : Nat} {o : Oper} (hk : k < n) (ho : l[k]? = some o) {v : Value} (hg : C (fun j => listed.getD j false = true ∨ j = k) w') (hv : V k (upd vs k v) w') (hpr : ∀ j, j < n → listed.getD j false = true → V j vs w') (hun : listed.getD k true = false) (hp : ∀ e ∈ o.after, Region.binds .any e = true → listed.getD e.on false = true) :
    Mid n l V C a0 (upd vs k v) (listed.setIfInBounds k true) (x.put o.dst v) w' := by
  have hkl : k < l.length := (List.getElem?_eq_some_iff.1 ho).1
  have G := slotB_at h hk ho
  have hset : (listed.setIfInBounds k true).getD k false = true := by simp [A.size, hkl]
  have hcl : (fun j => (listed.setIfInBounds k true).getD j false = true) = (fun j => listed.getD j false = true ∨ j = k) := by
    funext j
    simp only [eq_iff_iff]
    constructor
    · intro h'
      exact (getD_set_iff h').elim .inr .inl
    · rintro (h' | rfl)
      · by_cases hjk : k = j
        · subst hjk; exact hset
        · rw [getD_set_ne false hjk]; exact h'
      · exact hset
  refine ⟨by simp [A.size], by rw [hcl]; exact hg, A.down.set ho hp, fun j hj hjl => by rw [getD_set_ne true (by omega)]; exact A.tail j hj hjl, (put_defers' _ _ _).trans A.defers, (put_size _ _ _).trans A.tsize, fun t ht => ?_, fun i o' d hi ho' hl hd hds => ?_, fun i hi hil hl => ?_⟩
  · rw [put_old _ _ _ _ (ht k o hk ho hset)]
    refine A.old t fun i o' hi ho' hl => ht i o' hi ho' ?_
    by_cases hki : k = i
    · subst hki; exact hset
    · rw [getD_set_ne false hki]; exact hl
  · by_cases hki : i = k
    · subst hki
      obtain rfl : o' = o := Option.some.inj (ho'.symm.trans ho)
      rw [hd, put_new _ _ _ (by rw [A.tsize]; exact hds), upd_same]
    · rw [upd_other _ _ hki]
      rcases getD_set_iff hl with h1 | hl
      · exact absurd h1 hki
      · rw [put_old _ _ _ _ (G.dst i o' ho' hi (Ne.symm hki) d hd), A.new i o' d hi ho' hl hd hds]
  · by_cases hki : i = k
    · subst hki; exact hv
    · rcases getD_set_iff hl with h1 | hl2
      · exact absurd h1 hki
      · have ho' : l[i]? = some l[i] := List.getElem?_eq_getElem hil
        refine hdep i l[i] vs _ w' hi ho' (hpr i hi hl2) (upd_other _ _ hki) fun j hj => upd_other _ _ fun hjk => ?_
        subst hjk
        obtain ⟨e, he1, he2, he3⟩ := needs_mem hj
        have := A.down i _ ho' hl2 e he1 he2
        rw [he3] at this
        have hjs : j < listed.size := by rw [A.size]; exact hkl
        simp [hjs] at this hun
        rw [this] at hun
        cases hun

/-- The values, put into their slots in the order of the text. -/
def putsV (n : Nat) (l : List Oper) (vs : Nat → Value) (a : Act) : Act := putsL ((l.take n).zipIdx.map fun q => (q.1, vs q.2)) a
/-- The values that an operation waits for, put into their slots. -/
def putsN (l : List Oper) (o : Oper) (vs : Nat → Value) (a : Act) : Act := putsL ((needs o).map fun j => (l.getD j o, vs j)) a

theorem mid_end (h : slotG n l = true) {V : Nat → (Nat → Value) → World → Prop} {C : (Nat → Prop) → World → Prop} {a0 : Act} {vs : Nat → Value} {listed : Array Bool} {x : Act} {w : World} (A : Mid n l V C a0 vs listed x w) (hall : ∀ i, i < n → i < l.length → listed.getD i false = true) :
    x = putsV n l vs a0 := by
  have hsz : (putsV n l vs a0).tmps.size = a0.tmps.size := puts_size _ _
  have hdf : (putsV n l vs a0).defers = a0.defers := puts_defers _ _
  suffices ht : x.tmps = (putsV n l vs a0).tmps by
    have hd := A.defers.trans hdf.symm
    cases x; cases hz : putsV n l vs a0
    rw [hz] at ht hd
    simp only at ht hd
    rw [ht, hd]
  apply Array.ext_getElem?
  intro t
  rcases Nat.lt_or_ge t a0.tmps.size with hts | hts
  case inr => rw [Array.getElem?_eq_none (by rw [A.tsize]; exact hts), Array.getElem?_eq_none (by rw [hsz]; exact hts)]
  have get : ∀ (k : Nat) (q : Oper × Value), ((l.take n).zipIdx.map fun q => (q.1, vs q.2))[k]? = some q → l[k]? = some q.1 ∧ k < n ∧ q.2 = vs k := fun k q hq => by
    rw [List.getElem?_map, Option.map_eq_some_iff] at hq
    obtain ⟨⟨o, i⟩, h1, h2⟩ := hq
    rw [List.getElem?_zipIdx, Option.map_eq_some_iff] at h1
    obtain ⟨o', h3, h4⟩ := h1
    simp only [Prod.mk.injEq] at h4
    obtain ⟨rfl, rfl⟩ := h4
    subst h2
    have hk : k < n := by
      have := (List.getElem?_eq_some_iff.1 h3).1
      simp at this; omega
    rw [List.getElem?_take_of_lt hk] at h3
    exact ⟨h3, hk, by simp⟩
  by_cases hex : ∃ i o, i < n ∧ l[i]? = some o ∧ o.dst = some t
  · obtain ⟨i, o, hin, ho, hd⟩ := hex
    have hil : i < l.length := (List.getElem?_eq_some_iff.1 ho).1
    rw [A.new i o t hin ho (hall i hin hil) hd hts]
    refine (puts_new t o (vs i) hd _ a0 i ?_ (fun j q hj hne => ?_) hts).symm
    · rw [List.getElem?_map, Option.map_eq_some_iff]
      refine ⟨(o, i), ?_, rfl⟩
      rw [List.getElem?_zipIdx, Option.map_eq_some_iff]
      exact ⟨o, by rw [List.getElem?_take_of_lt hin]; exact ho, by simp⟩
    · obtain ⟨h1, h2, _⟩ := get j q hj
      exact fun he => (slotB_at h hin ho).dst j q.1 h1 h2 (Ne.symm hne) t he hd
  · have hno : ∀ i o, i < n → l[i]? = some o → o.dst ≠ some t := fun i o him ho hd => hex ⟨i, o, him, ho, hd⟩
    rw [A.old t fun i o him ho _ => hno i o him ho]
    refine (puts_old t _ _ fun q hq => ?_).symm
    obtain ⟨k, hk⟩ := List.getElem?_of_mem hq
    obtain ⟨h1, h2, _⟩ := get k q hk
    exact hno _ _ h2 h1

theorem mid_agree (h : slotG n l = true) {V : Nat → (Nat → Value) → World → Prop} {C : (Nat → Prop) → World → Prop} {a0 : Act} {vs : Nat → Value} {listed : Array Bool} {x : Act} {w : World} (A : Mid n l V C a0 vs listed x w) {i : Nat} {o : Oper} (hin : i < n) (ho : l[i]? = some o) (hun : listed.getD i false = false)
    (hp : ∀ e ∈ o.after, Region.binds .any e = true → listed.getD e.on false = true) : ∀ t, t ∈ o.looksAt l.toArray → x.tmps[t]? = (putsN l o vs a0).tmps[t]? := by
  intro t ht
  have hT := (slotB_at h hin ho)
  have hB : R3.tailB n l = true := by unfold slotG at h; rw [Bool.and_eq_true] at h; exact h.1
  have get : ∀ (k : Nat) (q : Oper × Value), ((needs o).map fun j => (l.getD j o, vs j))[k]? = some q → ∃ j, (needs o)[k]? = some j ∧ j < i ∧ l[j]? = some q.1 ∧ q.2 = vs j := fun k q hq => by
    rw [List.getElem?_map, Option.map_eq_some_iff] at hq
    obtain ⟨j, h1, rfl⟩ := hq
    obtain ⟨e, he1, he2, he3⟩ := needs_mem (List.mem_of_getElem? h1)
    have hlt := (R3.tailB_at hB ho).1 e he1 he2
    have hil : i < l.length := (List.getElem?_eq_some_iff.1 ho).1
    refine ⟨j, h1, by omega, ?_, rfl⟩
    have : j < l.length := by omega
    simp [this]
  by_cases hex : ∃ j o', j < n ∧ j ≠ i ∧ l[j]? = some o' ∧ o'.dst = some t
  · obtain ⟨j, o', hjn, hji, hj, hd⟩ := hex
    have hne := hT.looks j o' hj hjn (Ne.symm hji) t hd ht
    obtain ⟨e, he1, he2, he3⟩ := needs_mem hne
    have hlj : listed.getD j false = true := by have := hp e he1 he2; rwa [he3] at this
    rcases Nat.lt_or_ge t a0.tmps.size with hts | hts
    case inr => rw [Array.getElem?_eq_none (by rw [A.tsize]; exact hts), Array.getElem?_eq_none (by rw [putsN, puts_size]; exact hts)]
    rw [A.new j o' t hjn hj hlj hd hts]
    -- the last place where j stands among the needs
    have key : ∀ (N : List Nat) (a : Act), (∀ q ∈ N, q < i) → (∀ q ∈ N, q = j ∨ ∀ o2, l[q]? = some o2 → o2.dst ≠ some t) → t < a.tmps.size → (j ∈ N ∨ a.tmps[t]? = some (vs j)) → (putsL (N.map fun j => (l.getD j o, vs j)) a).tmps[t]? = some (vs j) := by
      intro N
      induction N with
      | nil => intro a _ _ _ hj; exact hj.resolve_left (by simp)
      | cons q N ih =>
        intro a h1 h2 h3 h4
        unfold putsL
        simp only [List.map_cons, List.foldl_cons]
        refine ih _ (fun q hq => h1 q (List.mem_cons_of_mem _ hq)) (fun q hq => h2 q (List.mem_cons_of_mem _ hq)) (by rw [put_size]; exact h3) ?_
        have hil : i < l.length := (List.getElem?_eq_some_iff.1 ho).1
        have hq : q < l.length := by have := h1 q List.mem_cons_self; omega
        rcases h2 q List.mem_cons_self with rfl | h5
        · right
          have : l.getD q o = o' := by simp [hj]
          rw [this, hd]
          exact put_new _ _ _ h3
        · have hqd : (l.getD q o).dst ≠ some t := by
            have : l[q]? = some (l.getD q o) := by simp [hq]
            exact h5 _ this
          rcases h4 with h4 | h4
          · rcases List.mem_cons.1 h4 with rfl | h4
            · exact absurd hd (h5 _ hj)
            · exact .inl h4
          · right
            rw [put_old _ _ _ _ hqd]; exact h4
    refine (key (needs o) a0 (fun q hq => ?_) (fun q hq => ?_) hts (.inl hne)).symm
    · obtain ⟨e, he1, he2, he3⟩ := needs_mem hq
      have := (R3.tailB_at hB ho).1 e he1 he2
      omega
    · by_cases hqj : q = j
      · exact .inl hqj
      · right
        intro o2 ho2 hd2
        obtain ⟨e, he1, he2, he3⟩ := needs_mem hq
        have hlt := (R3.tailB_at hB ho).1 e he1 he2
        exact (slotB_at h hjn hj).dst q o2 ho2 (by omega) (Ne.symm hqj) t hd2 hd
  · have hno : ∀ j o', j < n → j ≠ i → l[j]? = some o' → o'.dst ≠ some t := fun j o' h1 h2 h3 h4 => hex ⟨j, o', h1, h2, h3, h4⟩
    rw [A.old t fun j o' hjn hj hlj => by
      by_cases hji : j = i
      · subst hji; rw [hun] at hlj; cases hlj
      · exact hno j o' hjn hji hj]
    refine (puts_old t _ _ fun q hq => ?_).symm
    obtain ⟨k, hk⟩ := List.getElem?_of_mem hq
    obtain ⟨j, _, h2, h3, _⟩ := get k q hk
    exact hno j q.1 (by omega) (by omega) h3

theorem mid_run (h : slotG n l = true) {V : Nat → (Nat → Value) → World → Prop} {C : (Nat → Prop) → World → Prop} (hst : ∀ i vs w w', V i vs w → Grew w w' → V i vs w') (hdep : ∀ i o vs vs' w, i < n → l[i]? = some o → V i vs w → vs' i = vs i → (∀ j ∈ needs o, vs' j = vs j) → V i vs' w) {a0 : Act} {Q : Exit → Act → World → Prop}
    (hop : ∀ i o, i < n → l[i]? = some o → ∀ (vs : Nat → Value) (W : World) (L : Nat → Prop), C L W → ¬ L i → (∀ j ∈ needs o, L j ∧ V j vs W) → (∀ j, j < n → L j → V j vs W) → (∀ j o', l[j]? = some o' → L j → ∀ e ∈ o'.after, Region.binds .any e = true → L e.on) →
      if Region.wanted o (yielded l.toArray (putsN l o vs a0).tmps) = true then Oper.slotAt P o (putsN l o vs a0) W (fun v W' => C (fun j => L j ∨ j = i) W' ∧ V i (upd vs i v) W' ∧ (Grew W W' ∨ ∀ j, j < n → L j → V j vs W')) else C (fun j => L j ∨ j = i) W ∧ V i (upd vs i undef) W)
    (hQ : ∀ (vs : Nat → Value) (W : World), C (fun j => j < n ∧ j < l.length) W → (∀ i, i < n → i < l.length → V i vs W) → wpList P l.toArray Q (l.drop n) (putsV n l vs a0) W) :
    ∀ (fuel : Nat) (vs : Nat → Value) (listed : Array Bool) (x : Act) (w : World), Mid n l V C a0 vs listed x w → cnt listed l.length ≤ fuel → wpAny P .any l.toArray Q fuel listed x w := by
  have hB : R3.tailB n l = true := by unfold slotG at h; rw [Bool.and_eq_true] at h; exact h.1
  have isT : ∀ {listed : Array Bool} {i : Nat}, listed.size = l.length → i < l.length → listed.getD i true = true → listed.getD i false = true := fun {listed i} hs hi ht => by
    have hh : i < listed.size := by rw [hs]; exact hi
    simpa [hh] using ht
  have fin : ∀ (vs : Nat → Value) (listed : Array Bool) (x : Act) (w : World), Mid n l V C a0 vs listed x w → (∀ i, i < n → i < l.length → listed.getD i false = true) → wpList P l.toArray Q (l.drop n) x w := fun vs listed x w A hall => by
    rw [mid_end h A hall]
    have hcl : (fun j => listed.getD j false = true) = (fun j => j < n ∧ j < l.length) := by
      funext j
      simp only [eq_iff_iff]
      constructor
      · intro hj
        have hjl : j < l.length := by
          rcases Nat.lt_or_ge j listed.size with h' | h'
          · rw [A.size] at h'; exact h'
          · simp [Array.getElem?_eq_none h'] at hj
        rcases Nat.lt_or_ge j n with h' | h'
        · exact ⟨h', hjl⟩
        · have h1 := A.tail j h' hjl
          have hjs : j < listed.size := by rw [A.size]; exact hjl
          simp [hjs] at hj h1
          rw [hj] at h1
          cases h1
      · intro hj; exact hall j hj.1 hj.2
    have := A.cls
    rw [hcl] at this
    exact hQ vs w this fun i h1 h2 => A.good i h1 h2 (hall i h1 h2)
  have done : ∀ (vs : Nat → Value) (listed : Array Bool) (x : Act) (w : World), Mid n l V C a0 vs listed x w → (∀ i, i < l.length → listed.getD i true = true) → Q .normal x w := fun vs listed x w A hall => by
    have := fin vs listed x w A fun i _ hi => isT A.size hi (hall i hi)
    have hml : l.length ≤ n := by
      rcases Nat.lt_or_ge n l.length with h' | h'
      · have h1 := A.tail n (Nat.le_refl _) h'
        rw [hall n h'] at h1
        cases h1
      · exact h'
    rwa [List.drop_of_length_le hml] at this
  intro fuel
  induction fuel with
  | zero =>
    intro vs listed x w A hc
    have hall : ∀ i, i < l.length → listed.getD i true = true := fun i hi => cnt_zero (by omega) hi
    refine ⟨?_, done vs listed x w A hall⟩
    cases hr : Region.ready .any l.toArray listed with
    | nil => rfl
    | cons i t =>
      have hi : i ∈ Region.ready .any l.toArray listed := by rw [hr]; exact List.mem_cons_self
      obtain ⟨h0, o, ho, _⟩ := mem_ready.1 hi
      have := (Array.getElem?_eq_some_iff.1 ho).1
      rw [hall i (by simpa using this)] at h0
      cases h0
  | succ fuel ih =>
    intro vs listed x w A hc
    refine ⟨fun h0 => done vs listed x w A fun i hi => ?_, fun i hi => ?_⟩
    · cases hu : listed.getD i true with
      | true => rfl
      | false => exact absurd h0 (R3.ready_some hB i hi hu A.size)
    obtain ⟨hun, o, ho, hall⟩ := mem_ready.1 hi
    have hl : l[i]? = some o := by simpa using ho
    have hil : i < l.length := (List.getElem?_eq_some_iff.1 hl).1
    have hc' : cnt (listed.setIfInBounds i true) l.length ≤ fuel := by
      have := cnt_set (N := l.length) hil hun (by rw [A.size]; exact hil)
      omega
    have notl : listed.getD i false = false := by
      have : i < listed.size := by rw [A.size]; exact hil
      simpa [this] using hun
    rcases Nat.lt_or_ge i n with hin | hin
    · have G := slotB_at h hin hl
      have agree := mid_agree h A hin hl notl hall
      obtain ⟨he, hwant⟩ := exec_agree G.sel agree
      unfold wpOp
      rw [ho]
      simp only
      have hA : ∀ j ∈ needs o, listed.getD j false = true ∧ V j vs w := fun j hj => by
        obtain ⟨e, he1, he2, he3⟩ := needs_mem hj
        have hlt := (R3.tailB_at hB hl).1 e he1 he2
        have := hall e he1 he2
        rw [he3] at this hlt
        exact ⟨this, A.good j (by omega) (by omega) this⟩
      have hG : ∀ j, j < n → listed.getD j false = true → V j vs w := fun j hj hlj => by
        refine A.good j hj ?_ hlj
        rcases Nat.lt_or_ge j listed.size with h' | h'
        · rw [A.size] at h'; exact h'
        · simp [Array.getElem?_eq_none h'] at hlj
      have H := hop i o hin hl vs w (fun j => listed.getD j false = true) A.cls (by rw [notl]; exact Bool.false_ne_true) hA hG (fun j o' ho' hlj e he hb => A.down j o' ho' hlj e he hb)
      rw [hwant]
      by_cases hw : Region.wanted o (yielded l.toArray (putsN l o vs a0).tmps) = true
      · rw [if_pos hw] at H ⊢
        refine .inl (wp_of_slot he H fun v w' hv => ?_)
        obtain ⟨h3, h1, h2⟩ := hv
        have h4 : ∀ j, j < n → listed.getD j false = true → V j vs w' := fun j hj hlj => by
          rcases h2 with h2 | h2
          · exact hst _ _ _ _ (hG j hj hlj) h2
          · exact h2 j hj hlj
        exact ih _ _ _ _ (A.put h hdep hin hl h3 h1 h4 hun hall) hc'
      · rw [if_neg hw] at H ⊢
        exact ih _ _ _ _ (A.put h hdep hin hl H.1 H.2 hG hun hall) hc'
    · have hbefore : ∀ j, j < i → listed.getD j false = true := fun j hj => by
        exact A.down.reach ((R3.tailB_at hB hl).2.1 hin j hj) fun o' ho' e he hb => by
          rw [hl] at ho'
          obtain rfl := Option.some.inj ho'
          exact hall e he hb
      have hin' : i = n := by
        rcases Nat.lt_or_ge n i with h' | h'
        · have h1 := hbefore n h'
          have h2 := A.tail n (Nat.le_refl _) (by omega)
          have hns : n < listed.size := by rw [A.size]; omega
          simp [hns] at h1 h2
          rw [h1] at h2
          cases h2
        · omega
      subst hin'
      have hu : R3.Upto (l := l) i listed := by
        refine ⟨A.size, fun j hj => ?_⟩
        by_cases hjn : j < i
        · have h1 := hbefore j hjn
          have hjs : j < listed.size := by rw [A.size]; omega
          simp [hjs] at h1
          simp [hjs, hjn, h1]
        · rw [A.tail j (by omega) hj]; simp; omega
      have hcu : cnt listed l.length = l.length - i := Go.cnt_upto (l := l) ⟨hu.1, hu.2⟩
      exact (R3.tail_run hB (fuel + 1) i listed x w (Nat.le_refl _) (by omega) hu (fin vs listed x w A fun j hj _ => hbefore j hj)).2 i hi

/-- A region that draws its order: the first n operations each make a value of which something is known that stays true as the world grows; the world stays in a class; the rest stand one behind the other. -/
theorem wp_region_slotsG {id : Nat} {Q : Exit → Act → World → Prop} {a0 : Act} {w : World} (n : Nat) (V : Nat → (Nat → Value) → World → Prop) (C : (Nat → Prop) → World → Prop) (hm : P.follows .mixedOrders = true) (h : slotG n l = true)
    (hst : ∀ i vs w w', V i vs w → Grew w w' → V i vs w')
    (hdep : ∀ i o vs vs' w, i < n → l[i]? = some o → V i vs w → vs' i = vs i → (∀ j ∈ needs o, vs' j = vs j) → V i vs' w)
    (h0 : C (fun _ => False) w.drew)
    (hop : ∀ i o, i < n → l[i]? = some o → ∀ (vs : Nat → Value) (W : World) (L : Nat → Prop), C L W → ¬ L i → (∀ j ∈ needs o, L j ∧ V j vs W) → (∀ j, j < n → L j → V j vs W) → (∀ j o', l[j]? = some o' → L j → ∀ e ∈ o'.after, Region.binds .any e = true → L e.on) →
      if Region.wanted o (yielded l.toArray (putsN l o vs a0).tmps) = true then Oper.slotAt P o (putsN l o vs a0) W (fun v W' => C (fun j => L j ∨ j = i) W' ∧ V i (upd vs i v) W' ∧ (Grew W W' ∨ ∀ j, j < n → L j → V j vs W')) else C (fun j => L j ∨ j = i) W ∧ V i (upd vs i undef) W)
    (hQ : ∀ (vs : Nat → Value) (W : World), C (fun j => j < n ∧ j < l.length) W → (∀ i, i < n → i < l.length → V i vs W) → wpList P l.toArray Q (l.drop n) (putsV n l vs a0) W) : (Code.region id l.toArray true).wp P Q a0 w := by
  refine wp_region_any hm ?_
  have hsz : l.toArray.size = l.length := by simp
  rw [hsz]
  have no : ∀ (N i : Nat), (Array.replicate N false).getD i false = false := fun N i => by
    rcases Nat.lt_or_ge i N with h | h
    · simp [h]
    · simp [h]
  refine mid_run h hst hdep hop hQ _ (fun _ => undef) _ _ _ ⟨by simp, ?_, fun i o _ hl => ?_, fun j _ hj => by simp [hj], rfl, rfl, fun _ _ => rfl, fun i o d _ _ hl => ?_, fun i _ _ hl => ?_⟩ ?_
  · have : (fun j => (Array.replicate l.length false).getD j false = true) = (fun _ => False) := by
      funext j
      rw [no]
      simp
    rw [this]
    exact h0
  · rw [no] at hl; cases hl
  · rw [no] at hl; cases hl
  · rw [no] at hl; cases hl
  · unfold cnt
    exact Nat.le_trans (List.length_filter_le _ _) (by simp)
/-- The same without guards: a region that draws its order: the first n operations each make a value of which something is known that stays true as the world grows; the world stays in a class; the rest stand one behind the other. -/
theorem wp_region_slotsC {id : Nat} {Q : Exit → Act → World → Prop} {a0 : Act} {w : World} (n : Nat) (V : Nat → (Nat → Value) → World → Prop) (C : (Nat → Prop) → World → Prop) (hm : P.follows .mixedOrders = true) (h : slotB n l = true)
    (hst : ∀ i vs w w', V i vs w → Grew w w' → V i vs w')
    (hdep : ∀ i o vs vs' w, i < n → l[i]? = some o → V i vs w → vs' i = vs i → (∀ j ∈ needs o, vs' j = vs j) → V i vs' w)
    (h0 : C (fun _ => False) w.drew)
    (hop : ∀ i o, i < n → l[i]? = some o → ∀ (vs : Nat → Value) (W : World) (L : Nat → Prop), C L W → ¬ L i → (∀ j ∈ needs o, L j ∧ V j vs W) → (∀ j, j < n → L j → V j vs W) → (∀ j o', l[j]? = some o' → L j → ∀ e ∈ o'.after, Region.binds .any e = true → L e.on) →
      Oper.slotAt P o (putsN l o vs a0) W (fun v W' => C (fun j => L j ∨ j = i) W' ∧ V i (upd vs i v) W' ∧ (Grew W W' ∨ ∀ j, j < n → L j → V j vs W')))
    (hQ : ∀ (vs : Nat → Value) (W : World), C (fun j => j < n ∧ j < l.length) W → (∀ i, i < n → i < l.length → V i vs W) → wpList P l.toArray Q (l.drop n) (putsV n l vs a0) W) : (Code.region id l.toArray true).wp P Q a0 w := by
  refine wp_region_slotsG n V C hm (by unfold slotB at h; rw [Bool.and_eq_true] at h; exact h.1) hst hdep h0 (fun i o hi ho vs W L h1 h2 h3 h4 h5 => ?_) hQ
  rw [if_pos (by simp [Region.wanted, slotB_none h hi ho])]
  exact hop i o hi ho vs W L h1 h2 h3 h4 h5
/-- The same where the world grows. -/
theorem wp_region_slots {id : Nat} {Q : Exit → Act → World → Prop} {a : Act} {w : World} (n : Nat) (V : Nat → (Nat → Value) → World → Prop) (hm : P.follows .mixedOrders = true) (h : slotB n l = true)
    (hst : ∀ i vs w w', V i vs w → Grew w w' → V i vs w')
    (hdep : ∀ i o vs vs' w, i < n → l[i]? = some o → V i vs w → vs' i = vs i → (∀ j ∈ needs o, vs' j = vs j) → V i vs' w)
    (hop : ∀ i o, i < n → l[i]? = some o → ∀ (vs : Nat → Value) (W : World) (L : Nat → Prop), Grew w W → ¬ L i → (∀ j ∈ needs o, L j ∧ V j vs W) → (∀ j, j < n → L j → V j vs W) → Oper.slotAt P o (putsN l o vs a) W (fun v W' => V i (upd vs i v) W' ∧ (Grew W W' ∨ (Grew w W' ∧ ∀ j, j < n → L j → V j vs W'))))
    (hQ : ∀ (vs : Nat → Value) (W : World), Grew w W → (∀ i, i < n → i < l.length → V i vs W) → wpList P l.toArray Q (l.drop n) (putsV n l vs a) W) : (Code.region id l.toArray true).wp P Q a w := by
  refine wp_region_slotsC n V (fun _ W => Grew w W) hm h hst hdep (Grew.refl w).drew (fun i o hi ho vs W L hg hL hn hall _ => ?_) hQ
  have := hop i o hi ho vs W L hg hL hn hall
  unfold Oper.slotAt at this ⊢
  generalize (execOp (putsN l o vs a).eval o).run P W = r at *
  have key : ∀ v W', (V i (upd vs i v) W' ∧ (Grew W W' ∨ (Grew w W' ∧ ∀ j, j < n → L j → V j vs W'))) → Grew w W' ∧ V i (upd vs i v) W' ∧ (Grew W W' ∨ ∀ j, j < n → L j → V j vs W') := fun v W' ⟨h1, h2⟩ =>
    ⟨h2.elim (fun h => hg.trans h) (fun h => h.1), h1, h2.imp (fun h => h) (fun h => h.2)⟩
  cases r with
  | ok k w' =>
    cases k <;> simp only [Oper.slotUpon] at this ⊢
    case value u => exact key _ _ this
    case skip => exact key _ _ this
    case enter f args => exact this.mono fun e w'' ⟨v, he, hv⟩ => ⟨v, he, key _ _ hv⟩
  | halt x w' => simp only [Oper.slotUpon] at this
end
end Go.R4
