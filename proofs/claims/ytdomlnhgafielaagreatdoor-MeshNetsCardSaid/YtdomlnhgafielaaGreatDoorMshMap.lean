/- Layer 3: maps keyed by texts that the call makes: which value stands at which key. No condition. -/
import Derived.Test.YtdomlnhgafielaaGreatDoorMshA
import Derived.StringKeys
import Derived.Test.YtdomlnhgafielaaGreatDoorHouseB
import Derived.MapKept
import Derived.Maps.OwnSet
namespace Go.Proofs.YtdomlnhgafielaaGreatDoor
open Go Go.RowKit Go.Maps

def gR (v : Value) : Option (DataW Value × List MemPlace) := some (.held v, [])
/-- Block b is a map of at most n entries; f tells the value at each key. -/
def MapV (w : World) (b n : Nat) (f : ByteArray → Option Value) : Prop :=
  ∃ D : DataW Value, w.ownsMap Tryz.prog 9 gR b n D ∧ ∀ s : ByteArray, s.size ≤ maxLen → ∀ zd, D.atKey (.string s.data.toList) zd = match f s with | some v => .held v | none => zd
theorem MapV.lt {w : World} {b n : Nat} {f : ByteArray → Option Value} (h : MapV w b n f) : b < w.heap.size := by
  obtain ⟨D, h1, _⟩ := h
  exact h1.lt
theorem MapV.kept {w w' : World} {b n : Nat} {f : ByteArray → Option Value} {row : Option Nat} (h : MapV w b n f) (hg : w.grownBy w' row) (hne : some b ≠ row) : MapV w' b n f := by
  obtain ⟨D, h1, h2⟩ := h
  exact ⟨D, h1.kept hg hne, h2⟩
theorem MapV.grew {w w' : World} {b n : Nat} {f : ByteArray → Option Value} (h : MapV w b n f) (g : Grew w w') : MapV w' b n f := h.kept (g.grownBy none) (by simp)
theorem MapV.setCell {w : World} {b n : Nat} {f : ByteArray → Option Value} (h : MapV w b n f) {a : Addr} (ha : b ≠ a.block) (u : Value) : MapV (w.setCell a u) b n f := by
  obtain ⟨D, h1, h2⟩ := h
  exact ⟨D, h1.setCell ha u, h2⟩
theorem MapV.made {w : World} {b : Nat} (hb : b = w.heap.size) : MapV (w.alloc (.map #[] 0)) b 0 fun _ => none := by
  subst hb
  exact ⟨_, World.ownsMap_made w _ _ _, fun s _ zd => rfl⟩
theorem MapV.congr {w : World} {b n : Nat} {f g : ByteArray → Option Value} (h : MapV w b n f) (e : ∀ s : ByteArray, s.size ≤ maxLen → f s = g s) : MapV w b n g := by
  obtain ⟨D, h1, h2⟩ := h
  exact ⟨D, h1, fun s hs zd => by rw [h2 s hs zd, e s hs]⟩
theorem MapV.look {w : World} {b n : Nat} {f : ByteArray → Option Value} (h : MapV w b n f) {t e : TypeId} (ht : Tryz.prog.underlying t = some (.map 9 e)) {z : Value} (hz : (zeroValue e).run Tryz.prog w = .ok z w) (s : ByteArray) (hs : s.size ≤ maxLen) (c : Bool) :
    (Instr.lookup t (.map (some b)) (.string s) c).run Tryz.prog w = .ok (match f s with | some v => if c then .tuple #[v, .bool true] else v | none => if c then .tuple #[z, .bool false] else z) w := by
  obtain ⟨D, ⟨es, clock, hb, F, _, rfl⟩, h2⟩ := h
  have hkey := WideMaps.keyOf_string_mk (P := Tryz.prog) (k := 9) Tryz.underlying9 hs
  rcases Maps.fit_look c (string_keyed Tryz.underlying9) ht hz hb F hkey with ⟨hrun, _, hat⟩ | ⟨e0, y, _, _, hrun, hR, hat, _⟩
  · rw [hrun]
    cases hf : f s with
    | none => rfl
    | some v =>
      have e1 := h2 s hs .nil
      rw [hat .nil, hf] at e1
      cases e1
  · rw [hrun]
    have hR' : (DataW.held e0.val, []) = y := Option.some.inj hR
    subst hR'
    cases hf : f s with
    | none =>
      have e1 := h2 s hs .nil
      rw [hat .nil, hf] at e1
      cases e1
    | some v =>
      have e1 := h2 s hs .nil
      rw [hat .nil, hf] at e1
      have e2 : DataW.held e0.val = DataW.held v := e1
      rw [DataW.held.inj e2]
theorem isKeyLit_string (l : List UInt8) : WideAt.IsKeyLit (.string l) := trivial
theorem MapV.store {w : World} {b n : Nat} {f : ByteArray → Option Value} (h : MapV w b n f) {t e : TypeId} (ht : Tryz.prog.underlying t = some (.map 9 e)) (hn : n < maxLen) (s : ByteArray) (hs : s.size ≤ maxLen) (val : Value) :
    ∃ w', (Instr.mapUpdate t (.map (some b)) (.string s) val).run Tryz.prog w = .ok () w' ∧ MapV w' b (n + 1) (fun q => if q = s then some val else f q) ∧ w.grownBy w' (some b) ∧ w.drawn ≤ w'.drawn := by
  obtain ⟨D, h1, h2⟩ := h
  have hkey := WideMaps.keyOf_string_mk (P := Tryz.prog) (k := 9) Tryz.underlying9 hs
  obtain ⟨w', hrun, r1, r2⟩ := h1.store (string_keyed Tryz.underlying9) ht hn hkey (show gR val = some (.held val, []) from rfl)
  refine ⟨w', hrun, ⟨_, r1, fun q hq zd => ?_⟩, r2.grown, ?_⟩
  · by_cases he : q = s
    · subst he
      show _ = (match (if q = q then some val else f q) with | some v => DataW.held v | none => zd)
      rw [if_pos rfl]
      exact atKey_put_same h1.isMap (isKeyLit_string _) _ _
    · show _ = (match (if q = s then some val else f q) with | some v => DataW.held v | none => zd)
      rw [if_neg he, atKey_put_other (fun e => he ?_) _ _]
      · exact h2 q hq zd
      · have e2 : q.data = s.data := Array.toList_inj.1 (Lit.string.inj e)
        obtain ⟨qd⟩ := q
        obtain ⟨sd⟩ := s
        dsimp only at e2
        rw [e2]
  · obtain ⟨_, _, _, _, _, rfl⟩ := r2
    exact Nat.le_refl _
theorem wpList_mapUpdate_v {w : World} {ops : Array Oper} {rest : List Oper} {o : Oper} {a : Act} {Q : Exit → Act → World → Prop} (hg : o.guard = none) (m x v : Operand) (t : TypeId) (hop : o.op = Op.mapUpdate t m x v) {e : TypeId} (ht : Tryz.prog.underlying t = some (.map 9 e))
    (b n : Nat) (f : ByteArray → Option Value) (hm : a.eval m = .map (some b)) (h : MapV w b n f) (hn : n < maxLen) (s : ByteArray) (hs : s.size ≤ maxLen) (val : Value) (hx : a.eval x = .string s) (hv : a.eval v = val)
    (hK : ∀ w', MapV w' b (n + 1) (fun q => if q = s then some val else f q) → w.grownBy w' (some b) → w.drawn ≤ w'.drawn → wpList Tryz.prog ops Q rest (a.put o.dst undef) w') :
    wpList Tryz.prog ops Q (o :: rest) a w := by
  refine wpList_plain hg fun K' hK' => ?_
  obtain ⟨w', hrun, r1, r2, r3⟩ := h.store ht hn s hs val
  unfold Oper.wp
  simp [execOp, hop, hm, hx, hv, hrun, Result.andThen]
  exact hK' _ _ (hK w' r1 r2 r3)
end Go.Proofs.YtdomlnhgafielaaGreatDoor
