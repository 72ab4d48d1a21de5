/- Format and Parse: the program. Conditions: the text's length is within the reach, the variables are laid. -/
import Derived.Test.YtmjnjghhdkoljaaDoorAmpTxtR
import Derived.Test.YtmjnjghhdkoljaaDoorAmpTxtQ
import Derived.Test.YtmjnjghhdkoljaaDoorAmpC
namespace Go.Proofs.YtmjnjghhdkoljaaDoor
open Go Go.RowKit Amp

def fmtT (x : C4) (k : Int) : List UInt8 × Int := if validB x k = true then (textT x k, 0) else ([], 10)
/-- A number lies in a block of its own. -/
def NumAt (b : Nat) (x : C4) (k : Int) (w : World) : Prop := w.heap[b]? = some (.cells #[.int .i64 x.a, .int .i64 x.b, .int .i64 x.c, .int .i64 x.d, .int .i64 k] 24 (0, 0))
theorem NumAt.below {b : Nat} {x : C4} {k : Int} {w w' : World} {B : Nat} (h : NumAt b x k w) (hb : Below B w w') (hlt : b < B) : NumAt b x k w' := (hb.block b hlt).trans h
theorem NumAt.lt {b : Nat} {x : C4} {k : Int} {w : World} (h : NumAt b x k w) : b < w.heap.size := (Array.getElem?_eq_some_iff.1 h).1
theorem NumAt.cells {b : Nat} {x : C4} {k : Int} {w : World} (h : NumAt b x k w) : w.cell? ⟨b, 0, none⟩ = some (.int .i64 x.a) ∧ w.cell? ⟨b, 1, none⟩ = some (.int .i64 x.b) ∧ w.cell? ⟨b, 2, none⟩ = some (.int .i64 x.c) ∧ w.cell? ⟨b, 3, none⟩ = some (.int .i64 x.d) ∧ w.cell? ⟨b, 4, none⟩ = some (.int .i64 k) ∧
    w.frozen? ⟨b, 0, none⟩ = false ∧ w.frozen? ⟨b, 1, none⟩ = false ∧ w.frozen? ⟨b, 2, none⟩ = false ∧ w.frozen? ⟨b, 3, none⟩ = false ∧ w.frozen? ⟨b, 4, none⟩ = false := by
  unfold NumAt at h
  refine ⟨?_, ?_, ?_, ?_, ?_, ?_, ?_, ?_, ?_, ?_⟩
  iterate 5 (· simp [World.cell?, h])
  iterate 5 (· simp [World.frozen?, h])
theorem blk_set {w : World} {b i : Nat} {cs : Array Value} {t : TypeId} {f : Nat × Nat} (h : w.heap[b]? = some (.cells cs t f)) (v : Value) : (w.setCell ⟨b, i, none⟩ v).heap[b]? = some (.cells (cs.setIfInBounds i v) t f) := by
  unfold World.setCell
  rw [Array.getElem?_modify, if_pos rfl, h]
  rfl
theorem NumAt.other {b c i : Nat} {x : C4} {k : Int} {w : World} (h : NumAt b x k w) (hne : c ≠ b) (v : Value) : NumAt b x k (w.setCell ⟨c, i, none⟩ v) := by
  unfold NumAt at *
  unfold World.setCell
  rw [Array.getElem?_modify, if_neg hne, h]
theorem NumAt.setK {b : Nat} {x : C4} {k : Int} {w : World} (h : NumAt b x k w) (v : Int) : NumAt b x v (w.setCell ⟨b, 4, none⟩ (.int .i64 v)) := blk_set h _
theorem NumAt.setA {b : Nat} {x : C4} {k : Int} {w : World} (h : NumAt b x k w) (v : Int) : NumAt b (setC x 0 v) k (w.setCell ⟨b, 0, none⟩ (.int .i64 v)) := blk_set h _
theorem NumAt.setB {b : Nat} {x : C4} {k : Int} {w : World} (h : NumAt b x k w) (v : Int) : NumAt b (setC x 1 v) k (w.setCell ⟨b, 1, none⟩ (.int .i64 v)) := blk_set h _
theorem NumAt.setC {b : Nat} {x : C4} {k : Int} {w : World} (h : NumAt b x k w) (v : Int) : NumAt b (setC x 2 v) k (w.setCell ⟨b, 2, none⟩ (.int .i64 v)) := blk_set h _
theorem NumAt.setD {b : Nat} {x : C4} {k : Int} {w : World} (h : NumAt b x k w) (v : Int) : NumAt b (Go.Proofs.YtmjnjghhdkoljaaDoor.setC x 3 v) k (w.setCell ⟨b, 3, none⟩ (.int .i64 v)) := blk_set h _
theorem num_new {w : World} {n : Nat} (hn : n = w.heap.size) : NumAt n C0 0 (w.alloc (.cells #[.int .i64 0, .int .i64 0, .int .i64 0, .int .i64 0, .int .i64 0] 24)) := blk_new hn
set_option maxHeartbeats 1000000 in
set_option maxRecDepth 100000 in
theorem aformat_any (x : C4) (k : Int) (w : World) (hT : Tab w) :
    Calls Tryd.prog 4 #[.agg #[.int .i64 x.a, .int .i64 x.b, .int .i64 x.c, .int .i64 x.d, .int .i64 k]] w fun e w' => e = .returned (.tuple #[.string (strB (fmtT x k).1), .int .i64 (fmtT x k).2]) ∧ Below w.heap.size w w' := by
  have HV := hid fun w => aValid_any x k w
  unfold fmtT
  by_cases hv : validB x k = true
  · rw [if_pos hv]
    have HX := hid fun w h => text_any x k w hv h
    rw [hv] at HV
    clear hv
    go_enter Tryd.func4, Tryd.ntmps4
    go_wp2_with fail
    refine (HV.out _).mono ?_
    rintro e w1 ⟨rfl, g1⟩
    have hb := ((Below.refl _ w).alloc (Nat.le_refl _) _).trans (g1.below.mono (by simp [go_sem]))
    have hbx := g1.below.block w.heap.size (by simp [go_sem])
    have hN : NumAt w.heap.size x k w1 := hbx.trans (blk_new rfl)
    obtain ⟨c0, c1, c2, c3, c4, _⟩ := hN.cells
    have HB := hid hb
    clear hbx hN g1 hb
    go_wp2_with fail
    refine (HX.out _ (hT.below HB.out)).mono ?_
    rintro e w2 ⟨rfl, g2⟩
    go_wp2_with fail
    go_ret2
    exact ⟨rfl, HB.out.trans (g2.mono HB.out.size)⟩
  · rw [if_neg hv]
    rw [show validB x k = false by simpa using hv] at HV
    clear hv
    go_enter Tryd.func4, Tryd.ntmps4
    go_wp2_with fail
    refine (HV.out _).mono ?_
    rintro e w1 ⟨rfl, g1⟩
    have hb := ((Below.refl _ w).alloc (Nat.le_refl _) _).trans (g1.below.mono (by simp [go_sem]))
    go_wp2_with fail
    go_ret2
    exact ⟨rfl, hb⟩

end Go.Proofs.YtmjnjghhdkoljaaDoor
