/- House lemmas, continued: the block that has just been made. No condition; no program in sight. -/
import Derived.Test.YtecnidnaokbaiaaHouseB
namespace Go
open Go.RowKit
theorem blk_new {w : World} {o : Obj} {n : Nat} (hn : n = w.heap.size) : (w.alloc o).heap[n]? = some o := by
  subst hn
  show (w.heap.push o)[w.heap.size]? = _
  simp
theorem blk_new_drewN {w : World} {o : Obj} {n k : Nat} (hn : n = w.heap.size) : ((w.alloc o).drewN k).heap[n]? = some o := blk_new hn

section
variable (W : World) (q : GN) (g0 g1 g2 g3 g4 g' : List Obj) (c n' : Nat)
theorem gentle_fin_2 : ∃ p : GN, (((W.grow (g0 ++ (g1 ++ q.g))).drewN q.n).grow g').drewN n' = (W.grow (g0 ++ (g1 ++ p.g))).drewN p.n :=
  ⟨⟨q.g ++ g', q.n + n'⟩, by simp only [World.grow_drewN, World.grow_grow, World.drewN_drewN, List.append_assoc]⟩
theorem gentle_fin_2c : ∃ p : GN, (((W.grow (g0 ++ (g1 ++ q.g))).drewN (c + q.n)).grow g').drewN n' = (W.grow (g0 ++ (g1 ++ p.g))).drewN (c + p.n) :=
  ⟨⟨q.g ++ g', q.n + n'⟩, by simp only [World.grow_drewN, World.grow_grow, World.drewN_drewN, List.append_assoc, Nat.add_assoc]⟩
theorem gentle_fin_3 : ∃ p : GN, (((W.grow (g0 ++ (g1 ++ (g2 ++ q.g)))).drewN q.n).grow g').drewN n' = (W.grow (g0 ++ (g1 ++ (g2 ++ p.g)))).drewN p.n :=
  ⟨⟨q.g ++ g', q.n + n'⟩, by simp only [World.grow_drewN, World.grow_grow, World.drewN_drewN, List.append_assoc]⟩
theorem gentle_fin_3c : ∃ p : GN, (((W.grow (g0 ++ (g1 ++ (g2 ++ q.g)))).drewN (c + q.n)).grow g').drewN n' = (W.grow (g0 ++ (g1 ++ (g2 ++ p.g)))).drewN (c + p.n) :=
  ⟨⟨q.g ++ g', q.n + n'⟩, by simp only [World.grow_drewN, World.grow_grow, World.drewN_drewN, List.append_assoc, Nat.add_assoc]⟩
theorem gentle_fin_4 : ∃ p : GN, (((W.grow (g0 ++ (g1 ++ (g2 ++ (g3 ++ q.g))))).drewN q.n).grow g').drewN n' = (W.grow (g0 ++ (g1 ++ (g2 ++ (g3 ++ p.g))))).drewN p.n :=
  ⟨⟨q.g ++ g', q.n + n'⟩, by simp only [World.grow_drewN, World.grow_grow, World.drewN_drewN, List.append_assoc]⟩
theorem gentle_fin_4c : ∃ p : GN, (((W.grow (g0 ++ (g1 ++ (g2 ++ (g3 ++ q.g))))).drewN (c + q.n)).grow g').drewN n' = (W.grow (g0 ++ (g1 ++ (g2 ++ (g3 ++ p.g))))).drewN (c + p.n) :=
  ⟨⟨q.g ++ g', q.n + n'⟩, by simp only [World.grow_drewN, World.grow_grow, World.drewN_drewN, List.append_assoc, Nat.add_assoc]⟩
theorem gentle_fin_5 : ∃ p : GN, (((W.grow (g0 ++ (g1 ++ (g2 ++ (g3 ++ (g4 ++ q.g)))))).drewN q.n).grow g').drewN n' = (W.grow (g0 ++ (g1 ++ (g2 ++ (g3 ++ (g4 ++ p.g)))))).drewN p.n :=
  ⟨⟨q.g ++ g', q.n + n'⟩, by simp only [World.grow_drewN, World.grow_grow, World.drewN_drewN, List.append_assoc]⟩
theorem gentle_fin_5c : ∃ p : GN, (((W.grow (g0 ++ (g1 ++ (g2 ++ (g3 ++ (g4 ++ q.g)))))).drewN (c + q.n)).grow g').drewN n' = (W.grow (g0 ++ (g1 ++ (g2 ++ (g3 ++ (g4 ++ p.g)))))).drewN (c + p.n) :=
  ⟨⟨q.g ++ g', q.n + n'⟩, by simp only [World.grow_drewN, World.grow_grow, World.drewN_drewN, List.append_assoc, Nat.add_assoc]⟩
end
end Go
