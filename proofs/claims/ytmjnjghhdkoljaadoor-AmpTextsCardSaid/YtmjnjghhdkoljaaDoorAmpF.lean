/- The program's valid, over a list of numbers that lies in memory. Condition: the list lies there. -/
import Derived.Test.YtmjnjghhdkoljaaDoorAmpC
import Derived.Test.YtmjnjghhdkoljaaDoorHouseB
import Derived.Test.YtmjnjghhdkoljaaDoorAmpPlain
import Derived.Test.YtmjnjghhdkoljaaDoorRowAid
namespace Go.Proofs.YtmjnjghhdkoljaaDoor
open Go Go.RowKit Amp

def allV (l : List Num) : Bool := l.all fun z => validB z.x z.k
/-- The numbers of a list lie one behind the other. -/
def NumsAt (w : World) (b off : Nat) (l : List Num) : Prop := ∀ i z, l[i]? = some z → (w.cell? ⟨b, off + i * 5, none⟩ = some (.int .i64 z.x.a) ∧ w.cell? ⟨b, off + i * 5 + 1, none⟩ = some (.int .i64 z.x.b) ∧ w.cell? ⟨b, off + i * 5 + 2, none⟩ = some (.int .i64 z.x.c) ∧ w.cell? ⟨b, off + i * 5 + 3, none⟩ = some (.int .i64 z.x.d) ∧ w.cell? ⟨b, off + i * 5 + 4, none⟩ = some (.int .i64 z.k))

theorem allV_take {l : List Num} {i : Nat} {z : Num} (h : l[i]? = some z) : allV (l.take (i + 1)) = (allV (l.take i) && validB z.x z.k) := by
  unfold allV
  rw [List.take_add_one, h]
  simp
theorem allV_cut {l : List Num} {i : Nat} {z : Num} (h : l[i]? = some z) (hz : validB z.x z.k = false) : allV l = false := by
  unfold allV
  rw [List.all_eq_false]
  exact ⟨z, List.mem_of_getElem? h, by simp [hz]⟩

end Go.Proofs.YtmjnjghhdkoljaaDoor

/- Conjugates and products of the program and of the reference. Conditions: elements in range. -/

namespace Go.Proofs.YtmjnjghhdkoljaaDoor
open Go Go.RowKit Amp

@[go_sem] theorem eq5_self (x : C4) (k : Int) : eq5 x k x k = true := eq5_iff.2 ⟨rfl, rfl⟩
@[go_sem] theorem eq4_self (x : C4) : eq4 x x = true := eq4_iff.2 rfl

def realB (x : C4) : Bool := eq4 x (conjC x)
end Go.Proofs.YtmjnjghhdkoljaaDoor

/- The reference's product. Condition: elements in range. -/

namespace Go.Proofs.YtmjnjghhdkoljaaDoor
open Go Go.RowKit Amp

end Go.Proofs.YtmjnjghhdkoljaaDoor
