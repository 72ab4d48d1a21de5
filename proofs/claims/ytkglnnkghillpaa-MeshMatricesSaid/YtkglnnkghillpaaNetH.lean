/- Layer 3: matrices whose numbers lie in blocks of numbers; lists of matrices of a call's own. No condition. -/
import Derived.Test.YtkglnnkghillpaaMshU
import Derived.Test.YtkglnnkghillpaaNetD
import Derived.Test.YtkglnnkghillpaaNetG
namespace Go.Proofs.Ytkglnnkghillpaa
open Go Go.RowKit Amp Msh

/-- Numbers in a block of numbers. -/
def NmsK (w : World) (a0 : Option Addr) (l : List Num) : Prop := Nms w a0 l ∧ ∀ q, a0 = some q → ∃ cs fz, w.heap[q.block]? = some (.cells cs 53 fz)
theorem NmsK.grew {w w' : World} {a0 : Option Addr} {l : List Num} (h : NmsK w a0 l) (g : Grew w w') : NmsK w' a0 l := by
  refine ⟨h.1.grew g, fun q hq => ?_⟩
  obtain ⟨cs, fz, h1⟩ := h.2 q hq
  exact ⟨cs, fz, (g.block _ (Array.getElem?_eq_some_iff.1 h1).1).trans h1⟩
theorem NmsK.turned {W w : World} {b : Nat} {a0 : Option Addr} {l : List Num} {cs : Array Value} {T : TypeId} {fz : Nat × Nat} (h : NmsK W a0 l) (ht : Turned W w b) (hb : W.heap[b]? = some (.cells cs T fz)) (hT : T ≠ 53) : NmsK w a0 l := by
  have hne : ∀ q, a0 = some q → q.block ≠ b := fun q hq e => by
    obtain ⟨cs', fz', h1⟩ := h.2 q hq
    rw [e, hb] at h1
    simp at h1
    exact hT h1.2.1
  refine ⟨h.1.al (b := b) (fun b1 o1 e _ => hne _ e) (fun k hk hks => ht.block hks hk) ht.size, fun q hq => ?_⟩
  obtain ⟨cs', fz', h1⟩ := h.2 q hq
  exact ⟨cs', fz', (ht.block (Array.getElem?_eq_some_iff.1 h1).1 (hne q hq)).trans h1⟩
theorem NmsK.nil (w : World) : NmsK w none [] := ⟨.inl rfl, fun q hq => by cases hq⟩
theorem OwnN.nmsK {w : World} {base : Nat} {a0 : Option Addr} {k0 : Nat} {l : List Num} (h : OwnN w base a0 k0 l) : NmsK w a0 l := by
  refine ⟨h.nms, fun q hq => ?_⟩
  rcases h.2 with ⟨h1, _⟩ | ⟨g, cap, cur, h1, h2, h3, _⟩
  · injection h1 with e1; rw [e1] at hq; cases hq
  · injection h1 with e1 e2 e3
    subst e1
    injection hq with hq
    subst hq
    exact ⟨cur, _, h3⟩
def MatVK (v : Value) (w : World) (n : Int) (l : List Num) : Prop := ∃ (a0 : Option Addr) (k0 : Nat), v = .agg #[.int .i64 n, .slice a0 l.length k0] ∧ NmsK w a0 l
theorem MatVK.grew {v : Value} {w w' : World} {n : Int} {l : List Num} (h : MatVK v w n l) (g : Grew w w') : MatVK v w' n l := by
  obtain ⟨a0, k0, h1, h2⟩ := h; exact ⟨a0, k0, h1, h2.grew g⟩
theorem MatVK.turned {v : Value} {W w : World} {n : Int} {l : List Num} {b : Nat} {cs : Array Value} {fz : Nat × Nat} (h : MatVK v W n l) (ht : Turned W w b) (hb : W.heap[b]? = some (.cells cs 28 fz)) : MatVK v w n l := by
  obtain ⟨a0, k0, h1, h2⟩ := h; exact ⟨a0, k0, h1, h2.turned ht hb (by decide)⟩
def MatEK (v : Value) (w : World) (n : Int) (r : List Num × Int) : Prop := ∃ (a0 : Option Addr) (k0 : Nat), v = .tuple #[.agg #[.int .i64 n, .slice a0 r.1.length k0], .int .i64 r.2] ∧ NmsK w a0 r.1
theorem MatEK.grew {v : Value} {w w' : World} {n : Int} {r : List Num × Int} (h : MatEK v w n r) (g : Grew w w') : MatEK v w' n r := by
  obtain ⟨a0, k0, h1, h2⟩ := h; exact ⟨a0, k0, h1, h2.grew g⟩
theorem MatEK.turned {v : Value} {W w : World} {n : Int} {r : List Num × Int} {b : Nat} {cs : Array Value} {fz : Nat × Nat} (h : MatEK v W n r) (ht : Turned W w b) (hb : W.heap[b]? = some (.cells cs 28 fz)) : MatEK v w n r := by
  obtain ⟨a0, k0, h1, h2⟩ := h; exact ⟨a0, k0, h1, h2.turned ht hb (by decide)⟩
def MatBK (b : Nat) (n : Int) (l : List Num) (w : World) : Prop := ∃ (a9 : Option Addr) (k9 : Nat), w.heap[b]? = some (.cells #[.int .i64 n, .slice a9 l.length k9] 28) ∧ NmsK w a9 l
theorem MatBK.grew {b : Nat} {n : Int} {l : List Num} {w w' : World} (h : MatBK b n l w) (g : Grew w w') : MatBK b n l w' := by
  obtain ⟨a, k, h1, h2⟩ := h
  exact ⟨a, k, (g.block b (Array.getElem?_eq_some_iff.1 h1).1).trans h1, h2.grew g⟩
def HasMatK (v : Value) (n : Int) (l : List Num) (w : World) : Prop := ∃ b : Nat, v = .pointer (some ⟨b, 0, none⟩) ∧ MatBK b n l w
theorem HasMatK.grew {v : Value} {n : Int} {l : List Num} {w w' : World} (h : HasMatK v n l w) (g : Grew w w') : HasMatK v n l w' := by
  obtain ⟨b, h1, h2⟩ := h
  exact ⟨b, h1, h2.grew g⟩
/-- A matrix's header, as it lies in a list. -/
structure MV where
  N : Int
  a : Option Addr
  len : Nat
  k : Nat
def mvC (m : MV) : List Value := [.int .i64 m.N, .slice m.a m.len m.k]
def mvCells (V : List MV) : List Value := V.flatMap mvC
theorem mvCells_length (V : List MV) : (mvCells V).length = V.length * 2 := by
  unfold mvCells
  induction V with
  | nil => rfl
  | cons m t ih => simp [List.flatMap_cons, mvC] at *; omega
theorem mvCells_app (V : List MV) (m : MV) : mvCells V ++ mvC m = mvCells (V ++ [m]) := by simp [mvCells]
theorem mvCells_at : ∀ (V : List MV) (i : Nat) (m : MV), V[i]? = some m → ∀ j, j < 2 → (mvCells V)[i * 2 + j]? = (mvC m)[j]?
  | [], i, z, h, _, _ => by simp at h
  | y :: t, 0, z, h, j, hj => by
    simp at h; subst h
    simp only [mvCells, List.flatMap_cons, Nat.zero_mul, Nat.zero_add]
    rw [List.getElem?_append_left (by simpa [mvC] using hj)]
  | y :: t, i + 1, z, h, j, hj => by
    simp at h
    have := mvCells_at t i z h j hj
    simp only [mvCells, List.flatMap_cons] at *
    rw [List.getElem?_append_right (by simp [mvC]; omega), ← this]
    congr 1
    simp [mvC]; omega
theorem info_mat : (Try.prog.info? 28).map (fun i => (i.zero, i.size, i.bytes)) = some (some (.agg #[.int .i64 0, .slice none 0 0]), 2, 32) := by kernel_rfl
/-- A list of matrices of the call's own. -/
def OwnMs (w : World) (base : Nat) (a0 : Option Addr) (k0 : Nat) (V : List MV) : Prop := w.ownsRow base 28 2 (.slice a0 V.length k0) V.length (mvCells V)
theorem OwnMs.nil (w : World) (base : Nat) : OwnMs w base none 0 [] := World.ownsRow_nil w base 28 2
theorem OwnMs.grew {w w' : World} {base : Nat} {a0 : Option Addr} {k0 : Nat} {V : List MV} (h : OwnMs w base a0 k0 V) (g : Grew w w') : OwnMs w' base a0 k0 V := World.ownsRow.grew h g
theorem OwnMs.cells {w : World} {base : Nat} {a0 : Option Addr} {k0 : Nat} {V : List MV} (h : OwnMs w base a0 k0 V) {j : Nat} {m : MV} (hm : V[j]? = some m) : ∃ g, a0 = some ⟨g, 0, none⟩ ∧ g < w.heap.size ∧ w.cell? ⟨g, j * 2, none⟩ = some (.int .i64 m.N) ∧ w.cell? ⟨g, j * 2 + 1, none⟩ = some (.slice m.a m.len m.k) := by
  have hj := (List.getElem?_eq_some_iff.1 hm).1
  rcases h.2 with ⟨_, h2⟩ | ⟨g, cap, cur, h1, h2, h3, h4⟩
  · omega
  · injection h1 with e1 e2 e3
    subst e1
    subst e3
    refine ⟨g, rfl, (Array.getElem?_eq_some_iff.1 h3).1, ?_, ?_⟩
    · rw [World.ownsRow.cellAt h (j * 2) (by omega), show j * 2 = j * 2 + 0 from rfl, mvCells_at V j m hm 0 (by decide)]
      rfl
    · rw [World.ownsRow.cellAt h (j * 2 + 1) (by omega), mvCells_at V j m hm 1 (by decide)]
      rfl
theorem OwnMs.setCell {w : World} {base : Nat} {a0 : Option Addr} {k0 : Nat} {V : List MV} (h : OwnMs w base a0 k0 V) {b : Nat} (hb : ∀ q, a0 = some q → q.block ≠ b) (i : Nat) (u : Value) : OwnMs (w.setCell ⟨b, i, none⟩ u) base a0 k0 V :=
  World.ownsRow.kept h (grownBy_set w b i u) (by
    cases hv : (Value.slice a0 V.length k0).ownBlock with
    | none => exact .inl rfl
    | some k =>
      right
      intro e
      cases a0 with
      | none => simp [Value.ownBlock] at hv
      | some q =>
        simp [Value.ownBlock] at hv
        exact hb q rfl (by rw [hv]; exact Option.some.inj e))
theorem wpList_append_mv {w : World} {ops : Array Oper} {rest : List Oper} {o : Oper} {a : Act} {Q : Exit → Act → World → Prop} (hgd : o.guard = none) (s x : Operand)
    (ho : o.op = .call { callee := .builtin .append, args := #[s, x], argTypes := #[76, 76] })
    (base : Nat) (a0 : Option Addr) (k0 : Nat) (V : List MV) (hs : a.eval s = .slice a0 V.length k0) (hown : OwnMs w base a0 k0 V)
    (bx c : Nat) (m : MV) (hx : a.eval x = .slice (some ⟨bx, 0, none⟩) 1 c) (hb : w.heap[bx]? = some (.cells #[.int .i64 m.N, .slice m.a m.len m.k] 28))
    (hmax : V.length + 1 ≤ 100000) (hbase : base ≤ w.heap.size)
    (h : ∀ a2 k2 w', OwnMs w' base a2 k2 (V ++ [m]) → w.grownBy w' (Value.slice a0 V.length k0).ownBlock → w.drawn ≤ w'.drawn → wpList Try.prog ops Q rest (a.put o.dst (.slice a2 (V ++ [m]).length k2)) w') :
    wpList Try.prog ops Q (o :: rest) a w := by
  obtain ⟨i0, hi, hz0, hz1, hz2⟩ := info_parts info_mat
  refine wpList_append_behind hgd s x 76 ho base 28 i0 (.agg #[.int .i64 0, .slice none 0 0]) 2 32 Try.underlying76 hi hz0 hz1 hz2 rfl (by decide) _ _ (mvCells V) hs hown ⟨bx, 0, none⟩ 1 c (mvC m) hx rfl (fun j u hj => by
    match j, hj with
    | 0, hj => simp [mvC] at hj; subst hj; simp [Addr.add, World.cell?, hb]
    | 1, hj => simp [mvC] at hj; subst hj; simp [Addr.add, World.cell?, hb]
    | j + 2, hj => simp [mvC] at hj) (fun u hu => by simp [mvC] at hu; rcases hu with rfl | rfl <;> rfl) (by unfold maxLen; omega) (by omega) hbase fun v' w' hown' hgrow _ hdr => ?_
  obtain ⟨a2, k2, rfl⟩ := ownsRow_slice hown'
  rw [show V.length + 1 = (V ++ [m]).length by simp, mvCells_app] at hown'
  rw [show V.length + 1 = (V ++ [m]).length by simp]
  exact h a2 k2 w' hown' hgrow hdr
/-- The list holds the matrices of the cells. -/
def MsIn (w : World) (V : List MV) (C : List Cl) (Ms : List (List Num)) : Prop := V.length = Ms.length ∧ ∀ (j : Nat) (m : MV) (M : List Num) (c : Cl), V[j]? = some m → Ms[j]? = some M → C[j]? = some c → m.N = c.gd ∧ m.len = M.length ∧ NmsK w m.a M
theorem MsIn.grew {w w' : World} {V : List MV} {C : List Cl} {Ms : List (List Num)} (h : MsIn w V C Ms) (g : Grew w w') : MsIn w' V C Ms :=
  ⟨h.1, fun j m M c h1 h2 h3 => by
    obtain ⟨e1, e2, e3⟩ := h.2 j m M c h1 h2 h3
    exact ⟨e1, e2, e3.grew g⟩⟩
theorem MsIn.turned {w w' : World} {V : List MV} {C : List Cl} {Ms : List (List Num)} {b : Nat} {cs : Array Value} {fz : Nat × Nat} (h : MsIn w V C Ms) (ht : Turned w w' b) (hb : w.heap[b]? = some (.cells cs 28 fz)) : MsIn w' V C Ms :=
  ⟨h.1, fun j m M c h1 h2 h3 => by
    obtain ⟨e1, e2, e3⟩ := h.2 j m M c h1 h2 h3
    exact ⟨e1, e2, e3.turned ht hb (by decide)⟩⟩
theorem MsIn.snoc {w : World} {V : List MV} {C : List Cl} {Ms : List (List Num)} (h : MsIn w V C Ms) (hl : C.length = Ms.length) {m : MV} {M : List Num} {c : Cl} (h1 : m.N = c.gd) (h2 : m.len = M.length) (h3 : NmsK w m.a M) : MsIn w (V ++ [m]) (C ++ [c]) (Ms ++ [M]) := by
  refine ⟨by rw [List.length_append, List.length_append, h.1]; rfl, fun j m' M' c' e1 e2 e3 => ?_⟩
  by_cases hj : j < C.length
  · rw [List.getElem?_append_left (by have := h.1; omega)] at e1
    rw [List.getElem?_append_left (by omega)] at e2
    rw [List.getElem?_append_left hj] at e3
    exact h.2 j m' M' c' e1 e2 e3
  · have hj0 : j - C.length = 0 := by
      have := (List.getElem?_eq_some_iff.1 e3).1
      simp at this
      omega
    rw [List.getElem?_append_right (by have := h.1; omega), show j - V.length = 0 by have := h.1; omega] at e1
    rw [List.getElem?_append_right (by omega), show j - Ms.length = 0 by omega] at e2
    rw [List.getElem?_append_right (by omega), hj0] at e3
    simp at e1 e2 e3
    subst e1
    subst e2
    subst e3
    exact ⟨h1, h2, h3⟩

set_option maxRecDepth 100000 in
set_option maxHeartbeats 8000000 in
theorem of_cell (p n : Int) (s : ByteArray) (w : World) :
    Calls Try.prog 56 #[.agg #[.int .i64 4, .int .i64 p, .int .i64 n, .string s]] w (MatP 1 (ownM 1 n) w) := by
  have HT := hid fun w => rTurn_any ⟨1, 0, 0, 0⟩ 0 n w
  have hv : validB ⟨1, 0, 0, 0⟩ 0 = true := by decide
  rw [hv] at HT
  simp only [changeR, if_true] at HT
  obtain ⟨y, hy⟩ : ∃ y, turnC (n % 8).toNat ⟨1, 0, 0, 0⟩ = y := ⟨_, rfl⟩
  rw [hy] at HT
  have Hy := hid hy
  clear hy hv
  go_enter Try.func56, Try.ntmps56
  go_wp2_with fail
  refine R4.wp_region_slots 9 (fun ix vs W => match ix with | 0 => vs 0 = .agg #[.int .i64 1, .int .i64 0, .int .i64 0, .int .i64 0, .int .i64 0] | 1 => vs 1 = .pointer (some ⟨w.heap.size, 2, none⟩) | 2 => vs 2 = .int .i64 n | 3 => vs 3 = .tuple #[.agg #[.int .i64 y.a, .int .i64 y.b, .int .i64 y.c, .int .i64 y.d, .int .i64 0], .int .i64 0] | 4 => vs 4 = .tuple #[.agg #[.int .i64 y.a, .int .i64 y.b, .int .i64 y.c, .int .i64 y.d, .int .i64 0], .int .i64 0] | 5 => vs 5 = .agg #[.int .i64 y.a, .int .i64 y.b, .int .i64 y.c, .int .i64 y.d, .int .i64 0] | 6 => vs 6 = .int .i64 0 | 7 => R4.NewBlk (w.heap.size + 4) 53 5 (vs 7) W | 8 => R4.HasBlk (.cells #[.int .i64 y.a, .int .i64 y.b, .int .i64 y.c, .int .i64 y.d, .int .i64 0] 53) (vs 7) W | _ => True) (by kernel_rfl) (by kernel_rfl) ?slst ?sldep ?slop ?slq
  case slst =>
    intro ix vs W W' h hg
    match ix, h with
    | 0, h => exact h
    | 1, h => exact h
    | 2, h => exact h
    | 3, h => exact h
    | 4, h => exact h
    | 5, h => exact h
    | 6, h => exact h
    | 7, h => exact R4.NewBlk.grew h hg
    | 8, h => exact R4.HasBlk.grew h hg
    | _ + 9, _ => trivial
  case sldep =>
    intro ix o vs vs' W hix ho h hv hn
    match ix, hix, ho, h, hv with
    | 0, _, _, h, hv => exact Eq.trans hv h
    | 1, _, _, h, hv => exact Eq.trans hv h
    | 2, _, _, h, hv => exact Eq.trans hv h
    | 3, _, _, h, hv => exact Eq.trans hv h
    | 4, _, _, h, hv => exact Eq.trans hv h
    | 5, _, _, h, hv => exact Eq.trans hv h
    | 6, _, _, h, hv => exact Eq.trans hv h
    | 7, _, _, h, hv => show R4.NewBlk (w.heap.size + 4) 53 5 (vs' 7) W; rw [hv]; exact h
    | 8, _, ho, h, hv => obtain rfl := Option.some.inj ho; show R4.HasBlk _ (vs' 7) _; rw [hn 7 (by decide)]; exact h
    | kx + 9, hix, _, _, _ => exact absurd hix (by omega)
  case slop =>
    intro ix o hix ho vs W L hg hL hn hall
    match ix, hix, ho, hL with
    | 0, _, ho, _ =>
      obtain rfl := Option.some.inj ho
      change R4.Oper.slotAt _ _ { tmps := _, defers := _ } _ _
      obtain ⟨gq, nq, rfl⟩ := hg
      go_simp
      refine (rone_any _).mono ?_
      rintro e w' ⟨rfl, gr⟩
      exact ⟨_, rfl, R4.upd_same _ _ _, .inl gr⟩
    | 1, _, ho, _ =>
      obtain rfl := Option.some.inj ho
      change R4.Oper.slotAt _ _ { tmps := _, defers := _ } _ _
      obtain ⟨gq, nq, rfl⟩ := hg
      go_simp
      exact ⟨R4.upd_same _ _ _, .inl (by repeat (first | exact Grew.refl _ | refine Grew.drewN ?_ _ | refine Grew.grow ?_ _ | refine Grew.alloc ?_ _ | refine Grew.drew ?_))⟩
    | 2, _, ho, _ =>
      obtain rfl := Option.some.inj ho
      have hn1 := (hn 1 (by decide)).2
      try dsimp only at hn1
      change R4.Oper.slotAt _ _ (Act.put _ (some 31) (vs 1)) _ _
      conv => arg 3; rw [hn1]
      clear hn1
      obtain ⟨gq, nq, rfl⟩ := hg
      go_simp
      exact ⟨R4.upd_same _ _ _, .inl (by repeat (first | exact Grew.refl _ | refine Grew.drewN ?_ _ | refine Grew.grow ?_ _ | refine Grew.alloc ?_ _ | refine Grew.drew ?_))⟩
    | 3, _, ho, _ =>
      obtain rfl := Option.some.inj ho
      have hn0 := (hn 0 (by decide)).2
      have hn2 := (hn 2 (by decide)).2
      try dsimp only at hn0 hn2
      change R4.Oper.slotAt _ _ (Act.put (Act.put _ (some 30) (vs 0)) (some 32) (vs 2)) _ _
      conv => arg 3; rw [hn0, hn2]
      clear hn0 hn2
      obtain ⟨gq, nq, rfl⟩ := hg
      go_simp
      refine (HT.out _).mono ?_
      rintro e w' ⟨rfl, gr⟩
      exact ⟨_, rfl, R4.upd_same _ _ _, .inl gr⟩
    | 4, _, ho, _ =>
      obtain rfl := Option.some.inj ho
      have hn3 := (hn 3 (by decide)).2
      try dsimp only at hn3
      change R4.Oper.slotAt _ _ (Act.put _ (some 33) (vs 3)) _ _
      conv => arg 3; rw [hn3]
      clear hn3
      obtain ⟨gq, nq, rfl⟩ := hg
      go_simp
      exact ⟨R4.upd_same _ _ _, .inl (by repeat (first | exact Grew.refl _ | refine Grew.drewN ?_ _ | refine Grew.grow ?_ _ | refine Grew.alloc ?_ _ | refine Grew.drew ?_))⟩
    | 5, _, ho, _ =>
      obtain rfl := Option.some.inj ho
      have hn4 := (hn 4 (by decide)).2
      try dsimp only at hn4
      change R4.Oper.slotAt _ _ (Act.put _ (some 29) (vs 4)) _ _
      conv => arg 3; rw [hn4]
      clear hn4
      obtain ⟨gq, nq, rfl⟩ := hg
      go_simp
      exact ⟨R4.upd_same _ _ _, .inl (by repeat (first | exact Grew.refl _ | refine Grew.drewN ?_ _ | refine Grew.grow ?_ _ | refine Grew.alloc ?_ _ | refine Grew.drew ?_))⟩
    | 6, _, ho, _ =>
      obtain rfl := Option.some.inj ho
      have hn4 := (hn 4 (by decide)).2
      try dsimp only at hn4
      change R4.Oper.slotAt _ _ (Act.put _ (some 29) (vs 4)) _ _
      conv => arg 3; rw [hn4]
      clear hn4
      obtain ⟨gq, nq, rfl⟩ := hg
      go_simp
      exact ⟨R4.upd_same _ _ _, .inl (by repeat (first | exact Grew.refl _ | refine Grew.drewN ?_ _ | refine Grew.grow ?_ _ | refine Grew.alloc ?_ _ | refine Grew.drew ?_))⟩
    | 7, _, ho, _ =>
      obtain rfl := Option.some.inj ho
      change R4.Oper.slotAt _ _ { tmps := _, defers := _ } _ _
      obtain ⟨gq, nq, rfl⟩ := hg
      go_simp
      exact ⟨by rw [R4.upd_same]; exact R4.NewBlk.fresh (cs := #[.int .i64 0, .int .i64 0, .int .i64 0, .int .i64 0, .int .i64 0]) (by simp [go_sem]) (by simp [go_sem] <;> omega) |>.grew ((Grew.refl _).drewN _), .inl ((Grew.refl _).alloc _)⟩
    | 8, _, ho, hL =>
      obtain rfl := Option.some.inj ho
      have hn7 := (hn 7 (by decide)).2
      have hn5 := (hn 5 (by decide)).2
      try dsimp only at hn7 hn5
      change R4.Oper.slotAt _ _ (Act.put (Act.put _ (some 5) (vs 7)) (some 34) (vs 5)) _ _
      conv => arg 3; rw [hn5]
      clear hn5
      obtain ⟨b, cs, hb1, hb2, hb4, hb3⟩ := hn7
      conv => arg 3; rw [hb1]
      have Hb1 := hid hb1
      clear hb1
      obtain ⟨x0, x1, x2, x3, x4, rfl⟩ : ∃ x0 x1 x2 x3 x4, cs = #[x0, x1, x2, x3, x4] := by
        obtain ⟨l⟩ := cs
        obtain ⟨x0, x1, x2, x3, x4, rfl⟩ := list5 (l := l) (by simpa using hb4)
        exact ⟨x0, x1, x2, x3, x4, rfl⟩
      have hc : W.cell? ⟨b, 0, none⟩ = some x0 ∧ W.cell? ⟨b, 1, none⟩ = some x1 ∧ W.cell? ⟨b, 2, none⟩ = some x2 ∧ W.cell? ⟨b, 3, none⟩ = some x3 ∧ W.cell? ⟨b, 4, none⟩ = some x4 := by simp [World.cell?, hb3]
      have hf : ∀ i, W.frozen? ⟨b, i, none⟩ = false := fun i => by simp [World.frozen?, hb3]
      obtain ⟨c0, c1, c2, c3, c4⟩ := hc
      have f0 := hf 0
      have f1 := hf 1
      have f2 := hf 2
      have f3 := hf 3
      have f4 := hf 4
      go_simp
      obtain ⟨s1, s2⟩ := R4.set5 hb3 (.int .i64 y.a) (.int .i64 y.b) (.int .i64 y.c) (.int .i64 y.d) (.int .i64 0)
      exact ⟨by rw [R4.upd_other _ _ (by decide)]; exact ⟨b, Hb1.out, s1⟩, .inr ⟨by repeat (first | exact hg | refine Grew.set ?_ (by simp [go_sem] <;> omega) _ _), fun jx hjx hLj => by
        have hv := hall jx hjx hLj
        match jx, hjx, hv, hLj with
        | 0, _, hv, _ => exact hv
        | 1, _, hv, _ => exact hv
        | 2, _, hv, _ => exact hv
        | 3, _, hv, _ => exact hv
        | 4, _, hv, _ => exact hv
        | 5, _, hv, _ => exact hv
        | 6, _, hv, _ => exact hv
        | 7, _, hv, _ => exact R4.NewBlk.other (show R4.NewBlk _ _ _ _ _ from hv) s2 hb3 s1 rfl
        | 8, _, hv, hLj => exact absurd hLj hL
        | kx + 9, hjx, _, _ => exact absurd hjx (by omega)⟩⟩
    | kx + 9, hix, _, _ => exact absurd hix (by omega)
  case slq =>
    intro vs W hg hn
    have hn0 := hn 0 (by decide) (by decide)
    have hn1 := hn 1 (by decide) (by decide)
    have hn2 := hn 2 (by decide) (by decide)
    have hn3 := hn 3 (by decide) (by decide)
    have hn4 := hn 4 (by decide) (by decide)
    have hn5 := hn 5 (by decide) (by decide)
    have hn6 := hn 6 (by decide) (by decide)
    have hn7 := hn 7 (by decide) (by decide)
    have hn8 := hn 8 (by decide) (by decide)
    change wpList _ _ _ _ (Act.put (Act.put (Act.put (Act.put (Act.put (Act.put (Act.put (Act.put (Act.put _ (some 30) (vs 0)) (some 31) (vs 1)) (some 32) (vs 2)) (some 33) (vs 3)) (some 29) (vs 4)) (some 34) (vs 5)) (some 35) (vs 6)) (some 5) (vs 7)) none (vs 8)) _
    rw [hn0, hn1, hn2, hn3, hn4, hn5, hn6]
    clear hn hn0 hn1 hn2 hn3 hn4 hn5 hn6
    obtain ⟨b, cs, hb1, hb2, _, _⟩ := hn7
    obtain ⟨b2, hb3, hb4⟩ := hn8
    rw [hb1] at hb3
    obtain rfl : b = b2 := by injection hb3 with h; injection h with h; injection h
    rw [hb1]
    obtain ⟨g1, g2, kk, e1, rfl⟩ := hg.at_block (by simp [go_sem] <;> omega) hb4
    subst e1
    clear hb1 hb3 hb4 hb2 hg
    simp only [Act.put, List.setIfInBounds_toArray, List.set_cons_zero, List.set_cons_succ, List.drop_succ_cons, List.drop_zero]
    go_wp2_with fail
    rw [show ownM 1 n = [⟨y, 0⟩] by unfold ownM; rw [if_pos rfl, Hy.out]]
    exact bodyPost_ret (v := .agg #[.int .i64 1, .slice (some ⟨_, 0, none⟩) 1 1]) (by simp [results, Try.results56, go_sem]; rfl) rfl ⟨⟨_, _, rfl, OwnN.lit (by repeat (first | exact blk_new (by simp [go_sem] <;> omega) | rw [World.heap_drewN] | rw [World.grow_heap_lt _ _ _ (by simp [go_sem] <;> omega)] | rw [blk_past (by simp [go_sem] <;> omega)])) (by rfl) (by show _ ≤ 9223372036854775807; exact Nat.le_of_ble_eq_true rfl) (by first | omega | (simp [go_sem] <;> omega))⟩, (by repeat (first | exact Grew.refl _ | refine Grew.drewN ?_ _ | refine Grew.grow ?_ _ | refine Grew.alloc ?_ _ | refine Grew.drew ?_ | refine Grew.set ?_ (Nat.le_refl _) _ _ | refine Grew.set ?_ (by omega) _ _))⟩

end Go.Proofs.Ytkglnnkghillpaa
