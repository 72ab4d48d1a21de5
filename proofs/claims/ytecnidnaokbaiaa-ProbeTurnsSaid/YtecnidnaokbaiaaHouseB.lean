/- House lemmas, continued. No condition; no program in sight. -/
import Derived.Test.YtecnidnaokbaiaaRegion
namespace Go
open Go.RowKit
instance : Inhabited GN := ⟨⟨[], 0⟩⟩

/-- A callee's contract, met in a world of the class, however the class is spelled. -/
theorem Calls.gentle_of {P : Program} {f : FuncId} {args : Array Value} {W : World} {v : Value} {F : GN → World}
    (h : Calls P f args W fun e w' => e = .returned v ∧ Grew W w') (hF : ∀ w', Grew W w' → ∃ p, w' = F p) : Calls P f args W fun e w'' => e = .returned v ∧ ∃ p, w'' = F p :=
  h.mono fun _ _ ⟨he, h⟩ => ⟨he, hF _ h⟩

section
variable (W : World) (q : GN) (g0 g' : List Obj) (c n' : Nat)
theorem gentle_fin : ∃ p : GN, (((W.grow q.g).drewN q.n).grow g').drewN n' = (W.grow p.g).drewN p.n :=
  ⟨⟨q.g ++ g', q.n + n'⟩, by simp only [World.grow_drewN, World.grow_grow, World.drewN_drewN]⟩
theorem gentle_fin_c : ∃ p : GN, (((W.grow q.g).drewN (c + q.n)).grow g').drewN n' = (W.grow p.g).drewN (c + p.n) :=
  ⟨⟨q.g ++ g', q.n + n'⟩, by simp only [World.grow_drewN, World.grow_grow, World.drewN_drewN, Nat.add_assoc]⟩
theorem gentle_fin_g : ∃ p : GN, (((W.grow (g0 ++ q.g)).drewN q.n).grow g').drewN n' = (W.grow (g0 ++ p.g)).drewN p.n :=
  ⟨⟨q.g ++ g', q.n + n'⟩, by simp only [World.grow_drewN, World.grow_grow, World.drewN_drewN, List.append_assoc]⟩
theorem gentle_fin_gc : ∃ p : GN, (((W.grow (g0 ++ q.g)).drewN (c + q.n)).grow g').drewN n' = (W.grow (g0 ++ p.g)).drewN (c + p.n) :=
  ⟨⟨q.g ++ g', q.n + n'⟩, by simp only [World.grow_drewN, World.grow_grow, World.drewN_drewN, Nat.add_assoc, List.append_assoc]⟩
end
end Go
