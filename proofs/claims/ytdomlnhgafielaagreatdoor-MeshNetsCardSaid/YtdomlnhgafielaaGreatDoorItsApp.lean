/- Layer 3: a list of items of the call's own, while items are appended. No condition. -/
import Derived.Test.YtdomlnhgafielaaGreatDoorMshJ
import Derived.Test.YtdomlnhgafielaaGreatDoorMshX
import Derived.Test.YtdomlnhgafielaaGreatDoorMshA
import Derived.Lib.LazyBuf
import Derived.Laws.AppendOwnNone
import Derived.OwnWalk
namespace Go.Proofs.YtdomlnhgafielaaGreatDoor
open Go Go.RowKit Amp Msh

def itCells (z : It) : List Value := [.int .i64 z.kind, .int .i64 z.pos, .int .i64 z.n, .string z.name]
def itsCells (l : List It) : List Value := l.flatMap itCells
theorem itsCells_length (l : List It) : (itsCells l).length = l.length * 4 := by
  unfold itsCells
  induction l with
  | nil => rfl
  | cons z t ih => simp [List.flatMap_cons, itCells] at *; omega
theorem itsCells_app (l m : List It) : itsCells (l ++ m) = itsCells l ++ itsCells m := by simp [itsCells]
theorem itsCells_one' (z : It) : itsCells [z] = itCells z := by simp [itsCells]
theorem itsCells_at : ∀ (l : List It) (i : Nat) (z : It), l[i]? = some z → ∀ j, j < 4 → (itsCells l)[i * 4 + j]? = (itCells z)[j]?
  | [], i, z, h, _, _ => by simp at h
  | y :: t, 0, z, h, j, hj => by
    simp at h; subst h
    simp only [itsCells, List.flatMap_cons, Nat.zero_mul, Nat.zero_add]
    rw [List.getElem?_append_left (by simpa [itCells] using hj)]
  | y :: t, i + 1, z, h, j, hj => by
    simp at h
    have := itsCells_at t i z h j hj
    simp only [itsCells, List.flatMap_cons] at *
    rw [List.getElem?_append_right (by simp [itCells]; omega), ← this]
    congr 1
    simp [itCells]; omega
theorem info_it : (Tryz.prog.info? 38).map (fun i => (i.zero, i.size, i.bytes)) = some (some (.agg #[.int .i64 0, .int .i64 0, .int .i64 0, .string ⟨#[]⟩]), 4, 40) := by kernel_rfl
theorem itCells_one {z : It} {u : Value} (hu : u ∈ itCells z) : u.oneCell' = true := by
  simp [itCells] at hu
  rcases hu with rfl | rfl | rfl | rfl <;> rfl
theorem itsCells_one {l : List It} {u : Value} (hu : u ∈ itsCells l) : u.oneCell' = true := by
  unfold itsCells at hu
  obtain ⟨z, _, hz⟩ := List.mem_flatMap.1 hu
  exact itCells_one hz
theorem itCells_in {w : World} {b : Nat} {z : It} (h0 : w.cell? ⟨b, 0, none⟩ = some (.int .i64 z.kind)) (h1 : w.cell? ⟨b, 1, none⟩ = some (.int .i64 z.pos)) (h2 : w.cell? ⟨b, 2, none⟩ = some (.int .i64 z.n)) (h3 : w.cell? ⟨b, 3, none⟩ = some (.string z.name)) :
    ∀ j u, (itCells z)[j]? = some u → w.cell? ((⟨b, 0, none⟩ : Addr).add j) = some u := by
  intro j u hj
  match j, hj with
  | 0, hj => simp [itCells] at hj; subst hj; simpa [Addr.add] using h0
  | 1, hj => simp [itCells] at hj; subst hj; simpa [Addr.add] using h1
  | 2, hj => simp [itCells] at hj; subst hj; simpa [Addr.add] using h2
  | 3, hj => simp [itCells] at hj; subst hj; simpa [Addr.add] using h3
  | j + 4, hj => simp [itCells] at hj
/-- A list of items of the call's own. -/
def OwnI (w : World) (base : Nat) (a0 : Option Addr) (k0 : Nat) (l : List It) : Prop := w.ownsRow base 38 4 (.slice a0 l.length k0) l.length (itsCells l)
theorem OwnI.nil (w : World) (base : Nat) : OwnI w base none 0 [] := World.ownsRow_nil w base 38 4
theorem OwnI.grew {w w' : World} {base : Nat} {a0 : Option Addr} {k0 : Nat} {l : List It} (h : OwnI w base a0 k0 l) (g : Grew w w') : OwnI w' base a0 k0 l := World.ownsRow.grew h g
theorem OwnI.its {w : World} {base : Nat} {a0 : Option Addr} {k0 : Nat} {l : List It} (h : OwnI w base a0 k0 l) : Its w a0 l := by
  rcases h.2 with ⟨h1, h2⟩ | ⟨g, cap, cur, h1, h2, h3, h4⟩
  · exact .inl (List.eq_nil_of_length_eq_zero h2)
  · injection h1 with e1 e2 e3
    subst e1
    subst e3
    refine .inr ⟨g, 0, rfl, (Array.getElem?_eq_some_iff.1 h3).1, fun i z hz => ?_⟩
    have hi : i < l.length := (List.getElem?_eq_some_iff.1 hz).1
    have key : ∀ j, j < 4 → w.cell? ⟨g, 0 + i * 4 + j, none⟩ = (itCells z)[j]? := fun j hj => by
      rw [Nat.zero_add]
      rw [World.ownsRow.cellAt h (i * 4 + j) (by omega)]
      exact itsCells_at l i z hz j hj
    exact ⟨key 0 (by decide), key 1 (by decide), key 2 (by decide), key 3 (by decide)⟩
theorem its_news {w : World} {a0 : Option Addr} {l : List It} (h : Its w a0 l) : ∀ ad, a0 = some ad → ∀ j u, (itsCells l)[j]? = some u → w.cell? (ad.add j) = some u := by
  intro ad ha j u hj
  rcases h with rfl | ⟨b, off, rfl, hb, hc⟩
  · simp [itsCells] at hj
  obtain rfl := Option.some.inj ha
  have hjl : j < (itsCells l).length := (List.getElem?_eq_some_iff.1 hj).1
  rw [itsCells_length] at hjl
  have hi : j / 4 < l.length := by omega
  have hz : l[j / 4]? = some l[j / 4] := List.getElem?_eq_getElem hi
  obtain ⟨c0, c1, c2, c3⟩ := hc _ _ hz
  have hc : j % 4 < 4 := Nat.mod_lt _ (by decide)
  have e := itsCells_at l _ _ hz (j % 4) hc
  rw [show j / 4 * 4 + j % 4 = j by omega, hj] at e
  have ha : (⟨b, off, none⟩ : Addr).add j = ⟨b, off + j, none⟩ := by
    unfold Addr.add
    by_cases h0 : j = 0
    · simp [h0]
    · simp [h0]
  rw [ha]
  rw [show off + j = off + j / 4 * 4 + j % 4 by omega]
  match h5 : j % 4, hc, e with
  | 0, _, e => simp [itCells] at e; subst e; exact c0
  | 1, _, e => simp [itCells] at e; subst e; exact c1
  | 2, _, e => simp [itCells] at e; subst e; exact c2
  | 3, _, e => simp [itCells] at e; subst e; exact c3
theorem ownI_empty {w : World} {base b : Nat} (hb : b = w.heap.size) (hB : base ≤ b) : OwnI (w.alloc (.cells #[] 38)) base (some ⟨b, 0, none⟩) 0 [] := by
  subst hb
  exact World.ownsRow_lit (base := base) (e := 38) (size := 4) w #[] 0 hB (by decide) rfl
/-- append onto a list of items of the call's own, whatever is appended. -/
theorem wpList_append_its {w : World} {ops : Array Oper} {rest : List Oper} {o : Oper} {a : Act} {Q : Exit → Act → World → Prop} (hgd : o.guard = none) (s x : Operand)
    (ho : o.op = .call { callee := .builtin .append, args := #[s, x], argTypes := #[33, 33] })
    (base : Nat) (a0 : Option Addr) (k0 : Nat) (xs : List It) (hs : a.eval s = .slice a0 xs.length k0) (hown : OwnI w base a0 k0 xs)
    (ao : Option Addr) (c : Nat) (l : List It) (hx : a.eval x = .slice ao l.length c) (hnone : ao = none → l.length = 0 ∧ c = 0) (hnews : ∀ ad, ao = some ad → ∀ j u, (itsCells l)[j]? = some u → w.cell? (ad.add j) = some u)
    (hmax : xs.length + l.length ≤ 100000) (hbase : base ≤ w.heap.size)
    (h : ∀ a2 k2 w', OwnI w' base a2 k2 (xs ++ l) → w.grownBy w' (Value.slice a0 xs.length k0).ownBlock → w.drawn ≤ w'.drawn → wpList Tryz.prog ops Q rest (a.put o.dst (.slice a2 (xs ++ l).length k2)) w') :
    wpList Tryz.prog ops Q (o :: rest) a w := by
  obtain ⟨i0, hi, hz0, hz1, hz2⟩ := info_parts info_it
  cases ao with
  | some ad =>
    refine wpList_append_behind hgd s x 33 ho base 38 i0 (.agg #[.int .i64 0, .int .i64 0, .int .i64 0, .string ⟨#[]⟩]) 4 40 Tryz.underlying33 hi hz0 hz1 hz2 rfl (by decide) _ _ (itsCells xs) hs hown ad l.length c (itsCells l) hx (itsCells_length l) (hnews ad rfl) (fun u hu => itsCells_one hu) (by unfold maxLen; omega) (by omega) hbase fun v' w' hown' hgrow _ hdr => ?_
    obtain ⟨a2, k2, rfl⟩ := ownsRow_slice hown'
    rw [show xs.length + l.length = (xs ++ l).length by simp] at hown' ⊢
    rw [← itsCells_app] at hown'
    exact h a2 k2 w' hown' hgrow hdr
  | none =>
    obtain ⟨hl, rfl⟩ := hnone rfl
    obtain rfl := List.eq_nil_of_length_eq_zero hl
    refine wpList_append_own_none hgd s x 33 ho base 38 i0 4 Tryz.underlying33 hi _ _ (itsCells xs) hs hown hx ?_
    have h1 := h a0 k0 w (by rw [List.append_nil]; exact hown) (World.grownBy.refl _ _) (Nat.le_refl _)
    rw [List.append_nil] at h1
    exact h1

end Go.Proofs.YtdomlnhgafielaaGreatDoor
