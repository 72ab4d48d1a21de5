/- A builder that is carried along: what each call makes of it. Condition: at most 2^47 bytes. -/
import Derived.Test.YtdomlnhgafielaaGreatDoorStrC
import Derived.Test.YtdomlnhgafielaaGreatDoorShelf
import Derived.Test.YtdomlnhgafielaaGreatDoorAmpTxt
namespace Go.Proofs.YtdomlnhgafielaaGreatDoor
open Go Go.RowKit

/-- The table of powers of ten, as the program's text lays it. -/
def Tab (w : World) : Prop := Lib.TabIs Tryz.prog w "internal/strconv.uint64pow10" .u64 Lib.pow10Tab
theorem var_below {n : String} {cs : Array Value} {w w' : World} (h : w.var? Tryz.prog n = some cs) (hb : Below w.heap.size w w') : w'.var? Tryz.prog n = some cs := by
  unfold World.var? at *
  cases hg : Tryz.prog.globalNamed n with
  | none => rw [hg] at h; cases h
  | some g =>
    rw [hg] at h
    have h2 : (match w.heap[g]? with | some (.cells cs _ _) => some cs | _ => none) = some cs := h
    have hlt : g < w.heap.size := by
      rcases Nat.lt_or_ge g w.heap.size with h' | h'
      · exact h'
      · rw [Array.getElem?_eq_none h'] at h2; cases h2
    show (match w'.heap[g]? with | some (.cells cs _ _) => some cs | _ => none) = some cs
    rw [hb.block g hlt]
    exact h2
theorem Tab.below {w w' : World} (h : Tab w) (hb : Below w.heap.size w w') : Tab w' := var_below h hb
theorem isB_grew {B b : Nat} {bs : List Value} {w w' : World} (h : Lib.IsBuilder 65 5 B b bs w) (g : Grew w w') : Lib.IsBuilder 65 5 B b bs w' := by
  have key : ∀ p, Lib.BuilderAt 65 5 B b p bs w → Lib.BuilderAt 65 5 B b p bs w' := by
    rintro p ⟨hB, v, hb, hown, hne⟩
    exact ⟨hB, v, (g.block b (Array.getElem?_eq_some_iff.1 hb).1).trans hb, hown.grew g, hne⟩
  exact h.imp (key _) (key _)
/-- Since W0 a builder has been made, that holds l; nothing that lay below has turned. -/
structure BldW (W0 : World) (b : Nat) (l : List UInt8) (w : World) : Prop where
  is : Lib.IsBuilder 65 5 W0.heap.size b (Lib.byteCells l) w
  below : Below W0.heap.size W0 w
  tab : Tab W0
theorem BldW.grew {W0 w w' : World} {b : Nat} {l : List UInt8} (h : BldW W0 b l w) (g : Grew w w') : BldW W0 b l w' :=
  ⟨isB_grew h.is g, h.below.trans (g.below.mono h.below.size), h.tab⟩
theorem wstrW (W0 : World) (b : Nat) (l m : List UInt8) (w : World) (h : BldW W0 b l w) (hl : l.length ≤ 100000) (hm : m.length ≤ 100000) :
    Calls Tryz.prog 29 #[.pointer (some ⟨b, 0, none⟩), .string (strB m)] w fun e w' => (∃ n, e = .returned (.tuple #[.int .i64 n, .nilIface])) ∧ BldW W0 b (l ++ m) w' := by
  refine (wstr_any W0.heap.size b (Lib.byteCells l) (strB m) w h.is (by rw [Lib.byteCells_length, strB_size]; omega) h.below.size).mono ?_
  rintro e w' ⟨he, h1, h2⟩
  refine ⟨he, ?_, h.below.trans h2, h.tab⟩
  have : Lib.byteCells (l ++ m) = Lib.byteCells l ++ Lib.strCells (strB m) := by
    simp [Lib.byteCells, Lib.strCells, strB_of]
  rw [this]
  exact h1
theorem bstrW (W0 : World) (b : Nat) (l : List UInt8) (w : World) (h : BldW W0 b l w) :
    Calls Tryz.prog 32 #[.pointer (some ⟨b, 0, none⟩)] w fun e w' => e = .returned (.string (strB l)) ∧ Below W0.heap.size W0 w' := by
  refine (Tryz.Builder_String_any W0.heap.size b l w h.is h.below.size).mono ?_
  rintro e w' ⟨rfl, h2⟩
  exact ⟨rfl, h.below.trans h2⟩
theorem itoa_any (n : Int) (w : World) (h0 : -9223372036854775808 ≤ n) (h1 : n ≤ 9223372036854775807) (ht : Tab w) :
    Calls Tryz.prog 30 #[.int .i64 n] w fun e w' => e = .returned (.string (strB (Lib.itoa n))) ∧ Grew w w' := by
  refine (Tryz.strconv_Itoa n h0 h1 w ht).mono ?_
  rintro e w' ⟨rfl, k, os, rfl⟩
  refine ⟨rfl, os.toList, k, ?_⟩
  rw [← World.grow_drewN]
  unfold World.grow
  rw [Array.toArray_toList]
  rfl
theorem itoaW (n : Int) (W0 : World) (b : Nat) (l : List UInt8) (w : World) (h : BldW W0 b l w) (h0 : -9223372036854775808 ≤ n) (h1 : n ≤ 9223372036854775807) :
    Calls Tryz.prog 30 #[.int .i64 n] w fun e w' => e = .returned (.string (strB (Lib.itoa n))) ∧ BldW W0 b l w' := by
  refine (itoa_any n w h0 h1 (h.tab.below h.below)).mono ?_
  rintro e w' ⟨rfl, g⟩
  exact ⟨rfl, h.grew g⟩

theorem bld_new (w : World) (hT : Tab w) : BldW w w.heap.size [] (w.alloc (.cells #[.pointer none, .slice none 0 0] 65)) :=
  ⟨.inl ⟨Nat.le_refl _, .slice none 0 0, blk_new rfl, World.ownsRow_nil _ _ _ _, by simp [Value.ownBlock]⟩, (Below.refl _ w).alloc (Nat.le_refl _) _, hT⟩
end Go.Proofs.YtdomlnhgafielaaGreatDoor
