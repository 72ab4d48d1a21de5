/- Texts as lists of bytes: what the operations on them yield. No condition. -/
import Derived.Test.YtdomlnhgafielaaGreatDoorRows
import Derived.Test.YtdomlnhgafielaaGreatDoorHouseB
import Derived.WalkKit
import Derived.Lib.Strings
namespace Go.Proofs.YtdomlnhgafielaaGreatDoor
open Go Go.RowKit

/-- A text of some bytes. -/
def strB (l : List UInt8) : ByteArray := ⟨l.toArray⟩
theorem strB_data (s : ByteArray) : strB s.data.toList = s := by unfold strB; simp
theorem strB_of (l : List UInt8) : (strB l).data.toList = l := by unfold strB; simp
theorem strB_list (l : List UInt8) : (strB l).toList = l := by
  rw [ByteArray.toList_eq]
  exact strB_of l
@[go_sem high, simp] theorem strB_size (l : List UInt8) : (strB l).size = l.length := by unfold strB; simp [ByteArray.size]
theorem strB_inj {a b : List UInt8} (h : strB a = strB b) : a = b := by rw [← strB_of a, h, strB_of]
def eqL (a b : List UInt8) : Bool := a == b
theorem eqL_iff {a b : List UInt8} : eqL a b = true ↔ a = b := by unfold eqL; exact beq_iff_eq
theorem eqL_not {a b : List UInt8} (h : a ≠ b) : eqL a b = false := by unfold eqL; exact beq_eq_false_iff_ne.2 h
theorem eqL_same {a b : List UInt8} (h : a = b) : eqL a b = true := eqL_iff.2 h
@[go_sem 100000] theorem run_str_eql (a b : List UInt8) (w : World) : (binOp .eql 9 (.string (strB a)) (.string (strB b))).run Tryz.prog w = .ok (.bool (eqL a b)) w := by
  simp [go_sem, strB_list, eqL]
@[go_sem 100000] theorem run_str_neq (a b : List UInt8) (w : World) : (binOp .neq 9 (.string (strB a)) (.string (strB b))).run Tryz.prog w = .ok (.bool (!eqL a b)) w := by
  simp [go_sem, strB_list, eqL]
@[go_sem 100000] theorem strB_append (a b : List UInt8) : strB a ++ strB b = strB (a ++ b) := by
  apply ByteArray.ext
  rw [ByteArray.data_append]
  unfold strB
  simp
@[go_sem 100000] theorem run_str_add (a b : List UInt8) (w : World) (h : a.length + b.length ≤ 9223372036854775807) : (binOp .add 9 (.string (strB a)) (.string (strB b))).run Tryz.prog w = .ok (.string (strB (a ++ b))) w := by
  simp [go_sem, strB_append]
  omega
@[go_sem 100000] theorem strB_appc (c : UInt8) (b : List UInt8) : (⟨#[c]⟩ : ByteArray) ++ strB b = strB (c :: b) := strB_append [c] b
@[go_sem 100000] theorem strB_appr (a : List UInt8) (c : UInt8) : strB a ++ (⟨#[c]⟩ : ByteArray) = strB (a ++ [c]) := strB_append a [c]
@[go_sem 100000] theorem run_str_addc (c : UInt8) (b : List UInt8) (w : World) (h : b.length ≤ 4611686018427387903) : (binOp .add 9 (.string ⟨#[c]⟩) (.string (strB b))).run Tryz.prog w = .ok (.string (strB (c :: b))) w :=
  run_str_add [c] b w (by simp; omega)
@[go_sem 100000] theorem run_str_addr (a : List UInt8) (c : UInt8) (w : World) (h : a.length ≤ 4611686018427387903) : (binOp .add 9 (.string (strB a)) (.string ⟨#[c]⟩)).run Tryz.prog w = .ok (.string (strB (a ++ [c]))) w :=
  run_str_add a [c] w (by simp; omega)
@[go_sem 100000] theorem run_str_eql0 (a : List UInt8) (w : World) : (binOp .eql 9 (.string (strB a)) (.string ⟨#[]⟩)).run Tryz.prog w = .ok (.bool (eqL a [])) w := run_str_eql a [] w
@[go_sem 100000] theorem run_str_neq0 (a : List UInt8) (w : World) : (binOp .neq 9 (.string (strB a)) (.string ⟨#[]⟩)).run Tryz.prog w = .ok (.bool (!eqL a [])) w := run_str_neq a [] w
@[go_sem 100000] theorem run_str_eql1 (a : List UInt8) (c : UInt8) (w : World) : (binOp .eql 9 (.string (strB a)) (.string ⟨#[c]⟩)).run Tryz.prog w = .ok (.bool (eqL a [c])) w := run_str_eql a [c] w
theorem idx_get {l : List UInt8} {i : Nat} (h : i < l.length) : (strB l)[i]? = some (l.getD i 0) := by
  rw [List.getD_eq_getElem?_getD, List.getElem?_eq_getElem h]
  have hs : i < (strB l).size := by rw [strB_size]; exact h
  rw [getElem?_pos (strB l) i hs]
  rfl
@[go_sem 100000] theorem run_str_index (l : List UInt8) (i : Nat) (w : World) (h : i < l.length) : (Instr.index 9 (.string (strB l)) (.int .i64 (i : Int))).run Tryz.prog w = .ok (.int .u8 ((l.getD i 0).toNat : Int)) w := by
  unfold Instr.index
  simp only [go_sem]
  simp [idx_get h]
@[go_sem 100000] theorem run_str_index0 (l : List UInt8) (w : World) (h : 0 < l.length) : (Instr.index 9 (.string (strB l)) (.int .i64 0)).run Tryz.prog w = .ok (.int .u8 ((l.getD 0 0).toNat : Int)) w := run_str_index l 0 w h
theorem strB_extract (l : List UInt8) (i j : Nat) : (strB l).extract i j = strB ((l.take j).drop i) := by
  apply ByteArray.ext
  unfold strB
  rw [ByteArray.data_extract]
  apply Array.toList_inj.1
  simp [List.extract_eq_take_drop]
  rw [List.drop_take]
@[go_sem 100000] theorem run_str_from (l : List UInt8) (i : Nat) (w : World) (h : i ≤ l.length) : (Instr.sliceAt 9 (.string (strB l)) (some (.int .i64 (i : Int))) none none).run Tryz.prog w = .ok (.string (strB (l.drop i))) w := by
  unfold Instr.sliceAt Instr.slice
  simp only [go_sem]
  simp [Instr.sliceBound, go_sem, strB_extract]
  intro hh
  omega
@[go_sem 100000] theorem run_str_from1 (l : List UInt8) (w : World) (h : 0 < l.length) : (Instr.sliceAt 9 (.string (strB l)) (some (.int .i64 1)) none none).run Tryz.prog w = .ok (.string (strB (l.drop 1))) w := run_str_from l 1 w h
@[go_sem 100000] theorem run_str_to (l : List UInt8) (i : Nat) (w : World) (h : i ≤ l.length) : (Instr.sliceAt 9 (.string (strB l)) none (some (.int .i64 (i : Int))) none).run Tryz.prog w = .ok (.string (strB (l.take i))) w := by
  unfold Instr.sliceAt Instr.slice
  simp only [go_sem]
  simp [Instr.sliceBound, go_sem, strB_extract]
  intro hh
  omega
end Go.Proofs.YtdomlnhgafielaaGreatDoor
