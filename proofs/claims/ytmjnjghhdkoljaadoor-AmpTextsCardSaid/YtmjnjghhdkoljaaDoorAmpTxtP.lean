/- The text of a number: the program. Conditions: the number is valid, the table of powers of ten is laid. -/
import Derived.Test.YtmjnjghhdkoljaaDoorStrD
import Derived.Test.YtmjnjghhdkoljaaDoorAmpTxt
import Derived.Test.YtmjnjghhdkoljaaDoorAmpC
namespace Go.Proofs.YtmjnjghhdkoljaaDoor
open Go Go.RowKit Amp

def nthC (x : C4) (i : Nat) : Int := match i with | 0 => x.a | 1 => x.b | 2 => x.c | _ => x.d
theorem idxS_0 (w : World) : (Instr.index 55 (.agg #[.string ⟨#[]⟩, .string ⟨#[119]⟩, .string ⟨#[119, 50]⟩, .string ⟨#[119, 51]⟩]) (.int .i64 0)).run Tryd.prog w = .ok (.string ⟨#[]⟩) w := by kernel_rfl
theorem idxS_1 (w : World) : (Instr.index 55 (.agg #[.string ⟨#[]⟩, .string ⟨#[119]⟩, .string ⟨#[119, 50]⟩, .string ⟨#[119, 51]⟩]) (.int .i64 1)).run Tryd.prog w = .ok (.string ⟨#[119]⟩) w := by kernel_rfl
theorem idxS_2 (w : World) : (Instr.index 55 (.agg #[.string ⟨#[]⟩, .string ⟨#[119]⟩, .string ⟨#[119, 50]⟩, .string ⟨#[119, 51]⟩]) (.int .i64 2)).run Tryd.prog w = .ok (.string ⟨#[119, 50]⟩) w := by kernel_rfl
theorem idxS_3 (w : World) : (Instr.index 55 (.agg #[.string ⟨#[]⟩, .string ⟨#[119]⟩, .string ⟨#[119, 50]⟩, .string ⟨#[119, 51]⟩]) (.int .i64 3)).run Tryd.prog w = .ok (.string ⟨#[119, 51]⟩) w := by kernel_rfl
@[go_sem 100000] theorem run_idx4 (a b c d : Int) (i : Nat) (w : World) (h : i < 4) : (Instr.index 22 (.agg #[.int .i64 a, .int .i64 b, .int .i64 c, .int .i64 d]) (.int .i64 (i : Int))).run Tryd.prog w = .ok (.int .i64 (nthC ⟨a, b, c, d⟩ i)) w := by
  match i, h with
  | 0, _ => exact idxA_0 _ _ _ _ w
  | 1, _ => exact idxA_1 _ _ _ _ w
  | 2, _ => exact idxA_2 _ _ _ _ w
  | 3, _ => exact idxA_3 _ _ _ _ w
@[go_sem 100000] theorem run_idxS (i : Nat) (w : World) (h : i < 4) : (Instr.index 55 (.agg #[.string ⟨#[]⟩, .string ⟨#[119]⟩, .string ⟨#[119, 50]⟩, .string ⟨#[119, 51]⟩]) (.int .i64 (i : Int))).run Tryd.prog w = .ok (.string (strB (nameT i))) w := by
  match i, h with
  | 0, _ => exact idxS_0 w
  | 1, _ => exact idxS_1 w
  | 2, _ => exact idxS_2 w
  | 3, _ => exact idxS_3 w
theorem names_any (w : World) : Calls Tryd.prog 24 #[] w fun e w' => e = .returned (.agg #[.string ⟨#[]⟩, .string ⟨#[119]⟩, .string ⟨#[119, 50]⟩, .string ⟨#[119, 51]⟩]) ∧ Grew w w' := by
  go_enter Tryd.func24, Tryd.ntmps24
  go_wp2
  exact bodyPost_ret (v := .agg #[.string ⟨#[]⟩, .string ⟨#[119]⟩, .string ⟨#[119, 50]⟩, .string ⟨#[119, 51]⟩]) (by simp [results, Tryd.results24, go_sem]) rfl ⟨rfl, (by repeat (first | exact Grew.refl _ | refine Grew.drewN ?_ _ | refine Grew.grow ?_ _ | refine Grew.alloc ?_ _ | refine Grew.drew ?_))⟩
/-- The text of the first i terms. -/
def accT (x : C4) : Nat → List UInt8
  | 0 => []
  | i + 1 => addT i (nthC x i) (accT x i)
theorem accT_body (x : C4) : accT x 4 = bodyT x := rfl
theorem itoa_len {x : Int} (h : -1000000000 ≤ x ∧ x ≤ 1000000000) : (Lib.itoa x).length ≤ 11 := by
  unfold Lib.itoa
  split
  · rw [List.length_cons]; have := dec_len 9 x.natAbs (by omega); omega
  · have := dec_len 9 x.toNat (by omega); omega
theorem nameT_len (i : Nat) : (nameT i).length ≤ 2 := by match i with | 0 => decide | 1 => decide | 2 => decide | _ + 3 => exact Nat.le_refl _
theorem accT_len {x : C4} (h : ∀ i, -1000000000 ≤ nthC x i ∧ nthC x i ≤ 1000000000) : ∀ i, (accT x i).length ≤ 14 * i
  | 0 => Nat.le_refl _
  | i + 1 => by
    have h1 := accT_len h i
    have h2 := itoa_len (h i)
    have h3 := nameT_len i
    show (addT i (nthC x i) (accT x i)).length ≤ _
    unfold addT plusT termT
    split
    · omega
    · rw [List.length_append, List.length_append, List.length_append]
      have h4 : (if 0 < nthC x i ∧ accT x i ≠ [] then [43] else ([] : List UInt8)).length ≤ 1 := by split <;> simp
      have h5 : (if 0 < i ∧ nthC x i = 1 then [] else if 0 < i ∧ nthC x i = -1 then [45] else Lib.itoa (nthC x i)).length ≤ 11 := by
        split
        · simp
        · split
          · simp
          · exact h2
      omega
theorem nth_ok {x : C4} {k : Int} (h : validB x k = true) : ∀ i, -1000000000 ≤ nthC x i ∧ nthC x i ≤ 1000000000 := by
  have hs := validB_small h
  unfold smallB okC at hs
  simp only [Bool.and_eq_true, decide_eq_true_eq] at hs
  obtain ⟨⟨⟨ha, hb⟩, hc⟩, hd⟩ := hs
  intro i
  match i with
  | 0 => exact ha
  | 1 => exact hb
  | 2 => exact hc
  | _ + 3 => exact hd
end Go.Proofs.YtmjnjghhdkoljaaDoor
