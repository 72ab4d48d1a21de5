/- Reading a text, plainly: the reference. No condition. -/
import Derived.Test.YtmjnjghhdkoljaaDoorAmpTxtV
namespace Go.Proofs.YtmjnjghhdkoljaaDoor
open Go Go.RowKit Amp

def dropB (i : Nat) (l : List UInt8) : List UInt8 := l.drop i
theorem dropB_one (m : List UInt8) : dropB 1 m = m.tail := List.drop_one
theorem dropB_len (i : Nat) (m : List UInt8) : (dropB i m).length = m.length - i := List.length_drop
@[go_sem 200000] theorem run_str_fromB (l : List UInt8) (i : Nat) (w : World) (h : i ≤ l.length) : (Instr.sliceAt 9 (.string (strB l)) (some (.int .i64 (i : Int))) none none).run Tryd.prog w = .ok (.string (strB (dropB i l))) w := run_str_from l i w h
@[go_sem 200000] theorem run_str_fromB1 (l : List UInt8) (w : World) (h : 0 < l.length) : (Instr.sliceAt 9 (.string (strB l)) (some (.int .i64 1)) none none).run Tryd.prog w = .ok (.string (strB (dropB 1 l))) w := run_str_from1 l w h
def readV (l : List UInt8) : C4 × Int × Bool := match readR l with | none => (C0, 0, false) | some p => (p.1, p.2, true)
theorem byteI_cons (c : UInt8) (t : List UInt8) : byteI (c :: t) 0 = (c.toNat : Int) := rfl
theorem byte_eq {c d : UInt8} (h : (c.toNat : Int) = (d.toNat : Int)) : c = d := UInt8.toNat_inj.1 (by omega)
theorem sign_cases (m : List UInt8) (h : m ≠ []) : (byteI m 0 = 45 ∧ signR m = (-1, dropB 1 m)) ∨ (byteI m 0 = 43 ∧ signR m = (1, dropB 1 m)) ∨ ((byteI m 0 == 45) = false ∧ (byteI m 0 == 43) = false ∧ signR m = (1, m)) := by
  match m, h with
  | c :: t, _ =>
    rw [byteI_cons]
    by_cases h45 : c = 45
    · subst h45; exact .inl ⟨rfl, rfl⟩
    by_cases h43 : c = 43
    · subst h43; exact .inr (.inl ⟨rfl, rfl⟩)
    refine .inr (.inr ⟨?_, ?_, ?_⟩)
    · exact beq_eq_false_iff_ne.2 fun q => h45 (byte_eq (d := 45) q)
    · exact beq_eq_false_iff_ne.2 fun q => h43 (byte_eq (d := 43) q)
    · unfold signR
      split
      · rename_i e; injection e with e _; exact absurd e h45
      · rename_i e; injection e with e _; exact absurd e h43
      · rfl
theorem tail_cases2 (n : Nat) (q : List UInt8) :
    (q = [] ∧ tailR n q = if n = 0 then none else some (0, q)) ∨ (q ≠ [] ∧ (byteI q 0 == 119) = false ∧ tailR n q = if n = 0 then none else some (0, q)) ∨
    (q ≠ [] ∧ byteI q 0 = 119 ∧ dropB 1 q = [] ∧ tailR n q = some (1, dropB 1 q)) ∨ (q ≠ [] ∧ byteI q 0 = 119 ∧ dropB 1 q ≠ [] ∧ byteI (dropB 1 q) 0 = 50 ∧ tailR n q = some (2, dropB 1 (dropB 1 q))) ∨
    (q ≠ [] ∧ byteI q 0 = 119 ∧ dropB 1 q ≠ [] ∧ byteI (dropB 1 q) 0 = 51 ∧ tailR n q = some (3, dropB 1 (dropB 1 q))) ∨ (q ≠ [] ∧ byteI q 0 = 119 ∧ dropB 1 q ≠ [] ∧ (byteI (dropB 1 q) 0 == 50) = false ∧ (byteI (dropB 1 q) 0 == 51) = false ∧ tailR n q = some (1, dropB 1 q)) := by
  match q with
  | [] => exact .inl ⟨rfl, rfl⟩
  | c :: t =>
    by_cases hc : c = 119
    · subst hc
      match t with
      | [] => exact .inr (.inr (.inl ⟨List.cons_ne_nil _ _, rfl, rfl, rfl⟩))
      | d :: t =>
        by_cases h50 : d = 50
        · subst h50; exact .inr (.inr (.inr (.inl ⟨List.cons_ne_nil _ _, rfl, List.cons_ne_nil _ _, rfl, rfl⟩)))
        by_cases h51 : d = 51
        · subst h51; exact .inr (.inr (.inr (.inr (.inl ⟨List.cons_ne_nil _ _, rfl, List.cons_ne_nil _ _, rfl, rfl⟩))))
        refine .inr (.inr (.inr (.inr (.inr ⟨List.cons_ne_nil _ _, rfl, List.cons_ne_nil _ _, ?_, ?_, ?_⟩))))
        · exact beq_eq_false_iff_ne.2 fun q => h50 (byte_eq (d := 50) q)
        · exact beq_eq_false_iff_ne.2 fun q => h51 (byte_eq (d := 51) q)
        · unfold tailR
          split
          · rename_i e; injection e with _ e; injection e with e _; exact absurd e h50
          · rename_i e; injection e with _ e; injection e with e _; exact absurd e h51
          · rename_i e; injection e with _ e; rw [← e]; rfl
          · rename_i e; exact absurd rfl (e _)
    · refine .inr (.inl ⟨List.cons_ne_nil _ _, beq_eq_false_iff_ne.2 fun q => hc (byte_eq (d := 119) q), ?_⟩)
      unfold tailR
      split
      · rename_i e; injection e with e _; exact absurd e hc
      · rename_i e; injection e with e _; exact absurd e hc
      · rename_i e; injection e with e _; exact absurd e hc
      · rfl
theorem head47 {m : List UInt8} (h : m ≠ []) : (byteI m 0 = 47 ∧ m.head? = some 47) ∨ ((byteI m 0 == 47) = false ∧ m.head? ≠ some 47) := by
  match m, h with
  | c :: t, _ =>
    by_cases hc : c = 47
    · subst hc; exact .inl ⟨rfl, rfl⟩
    · exact .inr ⟨beq_eq_false_iff_ne.2 fun q => hc (byte_eq (d := 47) q), fun q => hc (Option.some.inj q)⟩
theorem pos_of_ne {m : List UInt8} (h : m ≠ []) : 0 < m.length := List.length_pos_iff.2 h
theorem digV_lt (l : List UInt8) : digV l < 10000000000 := Nat.lt_of_lt_of_le (val_lt l _ (Nat.le_refl _)) (Nat.pow_le_pow_right (n := 10) (by decide) (digN_le l).1)
theorem step_of {A : C4} {m m1 : List UInt8} {s : Int} (hs : signR m = (s, m1)) : stepR A m = (tailR (digN m1) (dropB (digN m1) m1)).map fun p => (setC A p.1 (s * (if digN m1 = 0 then 1 else (digV m1 : Int))), p.2) := by
  unfold stepR
  rw [hs]
  rfl
end Go.Proofs.YtmjnjghhdkoljaaDoor
