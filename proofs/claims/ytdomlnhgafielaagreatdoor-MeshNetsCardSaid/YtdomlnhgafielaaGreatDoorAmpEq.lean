/- Equality of arrays of four integers and of numbers, as the walk meets it. No condition. -/
import Derived.Test.YtdomlnhgafielaaGreatDoorAmpA
namespace Go.Proofs.YtdomlnhgafielaaGreatDoor
open Go Go.RowKit Amp
/-! Equality of arrays of four and of numbers. -/
def eq4 (x y : C4) : Bool := x.a == y.a && x.b == y.b && x.c == y.c && x.d == y.d
def eq5 (x : C4) (k : Int) (y : C4) (j : Int) : Bool := eq4 x y && k == j
theorem eq4_iff {x y : C4} : eq4 x y = true ↔ x = y := by
  cases x; cases y; simp [eq4, and_assoc]
theorem eq5_iff {x y : C4} {k j : Int} : eq5 x k y j = true ↔ x = y ∧ k = j := by
  simp [eq5, eq4_iff]
set_option maxRecDepth 10000 in
theorem eqArr (d : Nat) (t : Nat) (ht : Tryz.prog.underlying t = some (.array 4 3)) (x y : C4) (w : World) : (Op.equalIn (d + 2) t (.agg #[.int .i64 x.a, .int .i64 x.b, .int .i64 x.c, .int .i64 x.d]) (.agg #[.int .i64 y.a, .int .i64 y.b, .int .i64 y.c, .int .i64 y.d])).run Tryz.prog w = .ok (eq4 x y) w := by
  obtain ⟨a0, a1, a2, a3⟩ := x
  obtain ⟨b0, b1, b2, b3⟩ := y
  have h3 : Tryz.prog.underlying 3 = some (.int .i64) := by kernel_rfl
  have hs : ∀ w, (sizeOf 3).run Tryz.prog w = .ok 1 w := fun w => by kernel_rfl
  have hp0 : ∀ (x0 x1 x2 x3 : Value) w, (part 3 #[x0, x1, x2, x3] 0).run Tryz.prog w = .ok x0 w := fun _ _ _ _ w => by kernel_rfl
  have hp1 : ∀ (x0 x1 x2 x3 : Value) w, (part 3 #[x0, x1, x2, x3] 1).run Tryz.prog w = .ok x1 w := fun _ _ _ _ w => by kernel_rfl
  have hp2 : ∀ (x0 x1 x2 x3 : Value) w, (part 3 #[x0, x1, x2, x3] 2).run Tryz.prog w = .ok x2 w := fun _ _ _ _ w => by kernel_rfl
  have hp3 : ∀ (x0 x1 x2 x3 : Value) w, (part 3 #[x0, x1, x2, x3] 3).run Tryz.prog w = .ok x3 w := fun _ _ _ _ w => by kernel_rfl
  have he : ∀ (a b : Int) w, (Op.equalIn (d + 1) 3 (.int .i64 a) (.int .i64 b)).run Tryz.prog w = .ok (a == b) w := fun a b w => by
    simp [Op.equalIn, run_underlying h3]
  have hr : List.range' 0 4 = [0, 1, 2, 3] := by decide
  rw [Op.equalIn]
  simp [run_underlying ht, hs, hr, List.forIn_cons, hp0, hp1, hp2, hp3, he, eq4]
  by_cases e0 : a0 = b0
  case neg => simp [e0]
  by_cases e1 : a1 = b1
  case neg => simp [e0, e1]
  by_cases e2 : a2 = b2
  case neg => simp [e0, e1, e2]
  by_cases e3 : a3 = b3 <;> simp [e0, e1, e2, e3]

@[go_sem high] theorem run_eql_arr (a0 a1 a2 a3 b0 b1 b2 b3 : Int) (w : World) : (binOp .eql 51 (.agg #[.int .i64 a0, .int .i64 a1, .int .i64 a2, .int .i64 a3]) (.agg #[.int .i64 b0, .int .i64 b1, .int .i64 b2, .int .i64 b3])).run Tryz.prog w = .ok (.bool (eq4 ⟨a0, a1, a2, a3⟩ ⟨b0, b1, b2, b3⟩)) w := by
  have h := eqArr 9998 51 (by kernel_rfl) ⟨a0, a1, a2, a3⟩ ⟨b0, b1, b2, b3⟩ w
  rw [run_eql_struct, h]; rfl
@[go_sem high] theorem run_neq_arr (a0 a1 a2 a3 b0 b1 b2 b3 : Int) (w : World) : (binOp .neq 51 (.agg #[.int .i64 a0, .int .i64 a1, .int .i64 a2, .int .i64 a3]) (.agg #[.int .i64 b0, .int .i64 b1, .int .i64 b2, .int .i64 b3])).run Tryz.prog w = .ok (.bool (!eq4 ⟨a0, a1, a2, a3⟩ ⟨b0, b1, b2, b3⟩)) w := by
  have h := eqArr 9998 51 (by kernel_rfl) ⟨a0, a1, a2, a3⟩ ⟨b0, b1, b2, b3⟩ w
  rw [run_neq_struct, h]; rfl
theorem eqNum (x y : C4) (k j : Int) (w : World) : (Op.equalIn 10000 53 (.agg #[.int .i64 x.a, .int .i64 x.b, .int .i64 x.c, .int .i64 x.d, .int .i64 k]) (.agg #[.int .i64 y.a, .int .i64 y.b, .int .i64 y.c, .int .i64 y.d, .int .i64 j])).run Tryz.prog w = .ok (eq5 x k y j) w := by
  have h22 := fun w => eqArr 9997 51 (by kernel_rfl) x y w
  simp [go_sem, h22, eq5]
  cases eq4 x y
  · simp
  · by_cases hk : k = j <;> simp [hk]
@[go_sem high] theorem run_eql_num (a0 a1 a2 a3 k b0 b1 b2 b3 j : Int) (w : World) : (binOp .eql 53 (.agg #[.int .i64 a0, .int .i64 a1, .int .i64 a2, .int .i64 a3, .int .i64 k]) (.agg #[.int .i64 b0, .int .i64 b1, .int .i64 b2, .int .i64 b3, .int .i64 j])).run Tryz.prog w = .ok (.bool (eq5 ⟨a0, a1, a2, a3⟩ k ⟨b0, b1, b2, b3⟩ j)) w := by
  have h := eqNum ⟨a0, a1, a2, a3⟩ ⟨b0, b1, b2, b3⟩ k j w
  rw [run_eql_struct, h]; rfl
@[go_sem high] theorem run_neq_num (a0 a1 a2 a3 k b0 b1 b2 b3 j : Int) (w : World) : (binOp .neq 53 (.agg #[.int .i64 a0, .int .i64 a1, .int .i64 a2, .int .i64 a3, .int .i64 k]) (.agg #[.int .i64 b0, .int .i64 b1, .int .i64 b2, .int .i64 b3, .int .i64 j])).run Tryz.prog w = .ok (.bool (!eq5 ⟨a0, a1, a2, a3⟩ k ⟨b0, b1, b2, b3⟩ j)) w := by
  have h := eqNum ⟨a0, a1, a2, a3⟩ ⟨b0, b1, b2, b3⟩ k j w
  rw [run_neq_struct, h]; rfl
end Go.Proofs.YtdomlnhgafielaaGreatDoor
