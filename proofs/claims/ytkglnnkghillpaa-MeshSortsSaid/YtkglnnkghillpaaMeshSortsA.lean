/- The law MeshSorts returns true. Condition: the items lie in memory. -/
import Derived.Test.YtkglnnkghillpaaColD
import Derived.Test.YtkglnnkghillpaaMshUsed
import Derived.Test.YtkglnnkghillpaaMshX
import Derived.Test.YtkglnnkghillpaaMshR
import Derived.Test.YtkglnnkghillpaaItsApp
namespace Go.Proofs.Ytkglnnkghillpaa
open Go Go.RowKit Amp Msh

theorem cells_newS (W : World) (b : Nat) (hb : b = W.heap.size) (cs : Array Value) (t : TypeId) : ∀ j u, cs.toList[j]? = some u → (W.alloc (.cells cs t)).cell? ((⟨b, 0, none⟩ : Addr).add j) = some u := by
  intro j u hj
  subst hb
  have e : (W.alloc (.cells cs t)).heap[W.heap.size]? = some (.cells cs t (0, 0)) := heap_new W _
  have ha : (⟨W.heap.size, 0, none⟩ : Addr).add j = ⟨W.heap.size, j, none⟩ := by
    unfold Addr.add
    by_cases h0 : j = 0
    · simp [h0]
    · simp [h0]
  rw [ha]
  simp only [World.cell?, e]
  simpa using hj
/-- The block of the guides in use is not the list's own. -/
theorem ownI_ne {w : World} {base b k0 : Nat} {a0 : Option Addr} {l : List It} {cs : Array Value} (h : OwnI w base a0 k0 l) (hb : w.heap[b]? = some (.cells cs 49)) : some b ≠ (Value.slice a0 l.length k0).ownBlock := by
  rcases h.2 with ⟨h1, _⟩ | ⟨g, cap, cur, h1, _, hg, _⟩
  · rw [h1]; simp [Value.ownBlock]
  · rw [h1]
    intro e
    have e1 : b = g := by simpa [Value.ownBlock] using e
    subst e1
    rw [hg] at hb
    simp at hb
theorem OwnI.set_ne {w : World} {base b k0 i : Nat} {u : Value} {a0 : Option Addr} {l : List It} {cs : Array Value} (h : OwnI w base a0 k0 l) (hb : w.heap[b]? = some (.cells cs 49)) : OwnI (w.setCell ⟨b, i, none⟩ u) base a0 k0 l :=
  World.ownsRow.kept h (grownBy_set w b i u) (.inr (ownI_ne h hb).symm)

set_option maxRecDepth 100000 in
set_option maxHeartbeats 800000 in
theorem sorts_long (g : Int) (a0 : Option Addr) (cap : Nat) (its : List It) (w : World) (hl : its.length ≤ 9223372036854775807) (_hc : Its w a0 its) (h : 60 < its.length) :
    Calls Try.prog 7 #[.int .i64 g, .slice a0 its.length cap] w fun e w' => e = .returned (.bool true) ∧ Grew w w' := by
  have e1 : decide ((60 : Int) < its.length) = true := decide_eq_true (by omega)
  clear _hc hl h
  go_enter Try.func7, Try.ntmps7
  go_wp2_with fail
  refine (awake_any _).mono ?_
  rintro e w' ⟨rfl, ga, na, rfl⟩
  go_wp2_with fail
  go_ret
  exact ⟨rfl, (by repeat (first | exact Grew.refl _ | refine Grew.drewN ?_ _ | refine Grew.grow ?_ _ | refine Grew.alloc ?_ _ | refine Grew.drew ?_))⟩

set_option maxRecDepth 100000 in
set_option maxHeartbeats 800000 in
theorem sorts_chk (g : Int) (a0 : Option Addr) (cap : Nat) (its : List It) (w : World) (hl : its.length ≤ 9223372036854775807) (hc : Its w a0 its) (h : its.length ≤ 60) (hk : ¬ chkIts g its = 0) :
    Calls Try.prog 7 #[.int .i64 g, .slice a0 its.length cap] w fun e w' => e = .returned (.bool true) ∧ Grew w w' := by
  have e1 : decide ((60 : Int) < its.length) = false := decide_eq_false (by omega)
  have HK1 := hid fun w' (h : Grew w w') => asked_any g a0 cap its w' hl (hc.grew h)
  obtain ⟨E, hE⟩ : ∃ E, chkIts g its = E := ⟨_, rfl⟩
  rw [hE] at HK1 hk
  have e2 : (E != 0) = true := by simpa using hk
  clear h hl hc hE hk
  go_enter Try.func7, Try.ntmps7
  go_wp2_with fail
  refine (HK1.out _ (by repeat (first | exact Grew.refl _ | refine Grew.drewN ?_ _ | refine Grew.grow ?_ _ | refine Grew.alloc ?_ _ | refine Grew.drew ?_))).mono ?_
  rintro e w' ⟨rfl, g1, m1, rfl⟩
  go_wp2_with fail
  refine (awake_any _).mono ?_
  rintro e w' ⟨rfl, ga, na, rfl⟩
  go_wp2_with fail
  go_ret
  exact ⟨rfl, (by repeat (first | exact Grew.refl _ | refine Grew.drewN ?_ _ | refine Grew.grow ?_ _ | refine Grew.alloc ?_ _ | refine Grew.drew ?_))⟩

end Go.Proofs.Ytkglnnkghillpaa
