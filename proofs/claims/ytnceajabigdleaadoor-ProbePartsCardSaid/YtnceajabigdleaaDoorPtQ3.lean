/- Layer 9, in main's ghost: which tests fit. Condition: they lie in memory. -/
import Derived.Test.YtnceajabigdleaaDoorPtQ2
namespace Go.Proofs.Qm
open Go Go.Pt Go.RowKit
structure Tst where
  a : Option Addr
  len : Nat
  cap : Nat
  i : Int
  o : Int
def TsAt (w : World) (b off : Nat) (l : List Tst) : Prop := ∀ i z, l[i]? = some z → (w.cell? ⟨b, off + i * 3, none⟩ = some (.slice z.a z.len z.cap) ∧ w.cell? ⟨b, off + i * 3 + 1, none⟩ = some (.int .i64 z.i) ∧ w.cell? ⟨b, off + i * 3 + 2, none⟩ = some (.int .i64 z.o)) ∧ z.len ≤ 9223372036854775807
theorem TsAt.grew {w w' : World} {b off : Nat} {l : List Tst} (h : TsAt w b off l) (hb : b < w.heap.size) (hg : Grew w w') : TsAt w' b off l := fun i z hz => by
  obtain ⟨⟨c0, c1, c2⟩, h3⟩ := h i z hz
  exact ⟨⟨(hg.cell hb _).trans c0, (hg.cell hb _).trans c1, (hg.cell hb _).trans c2⟩, h3⟩
theorem btwG (a n b : Int) (w : World) : Calls prog 32 #[.int .i64 a, .int .i64 n, .int .i64 b] w fun e w' => e = .returned (.bool (decide (a ≤ n) && decide (n ≤ b))) ∧ Grew w w' := (btw_any a n b w).mono fun e w' ⟨h1, h2⟩ => ⟨h1, h2 ▸ Grew.refl _⟩
open Go Go.Pt Go.RowKit
end Go.Proofs.Qm
