/- Layer 3: the matrix of an item on its own guides. Condition: it is one. -/
import Derived.Test.YtdomlnhgafielaaGreatDoorMshJ
import Derived.Test.YtdomlnhgafielaaGreatDoorRegion
import Derived.Test.YtdomlnhgafielaaGreatDoorAmpK


namespace Go.Proofs.YtdomlnhgafielaaGreatDoor
open Go Go.RowKit Amp Msh

theorem OwnN.lit {w : World} {base b : Nat} {cs : Array Value} {l : List Num} (hb : w.heap[b]? = some (.cells cs 53)) (hc : cs.toList = numsCells l) (hl : l.length ≤ maxLen) (hbase : base ≤ b) : OwnN w base (some ⟨b, 0, none⟩) l.length l := by
  have hs : cs.size = l.length * 5 := by rw [← numsCells_length, ← hc]; simp
  refine ⟨numsCells_length l, .inr ⟨b, l.length, cs, rfl, hbase, hb, Nat.le_refl _, hl, hs, ?_⟩⟩
  rw [hc, List.take_of_length_le (by rw [numsCells_length]; exact Nat.le_refl _)]
theorem blk_past {w : World} {o : Obj} {k : Nat} (h : k < w.heap.size) : (w.alloc o).heap[k]? = w.heap[k]? := by
  show (w.heap.push o)[k]? = _
  rw [Array.getElem?_push, if_neg (by omega)]
/-- What a function answers that makes a matrix and no error. -/
def MatP (n : Nat) (l : List Num) (w : World) (e : Ending) (w' : World) : Prop := (∃ (a0 : Option Addr) (k0 : Nat), e = .returned (.agg #[.int .i64 n, .slice a0 l.length k0]) ∧ OwnN w' w.heap.size a0 k0 l) ∧ Grew w w'

theorem World.heap_drewN (w : World) (n : Nat) : (w.drewN n).heap = w.heap := rfl

set_option maxRecDepth 100000 in
set_option maxHeartbeats 800000 in
theorem own_cross (p n : Int) (s : ByteArray) (w : World) :
    Calls Tryz.prog 58 #[.agg #[.int .i64 3, .int .i64 p, .int .i64 n, .string s]] w (MatP 2 (ownM 3 n) w) := by
  go_enter Tryz.func58, Tryz.ntmps58
  go_wp2_with fail
  exact bodyPost_ret (v := .agg #[.int .i64 2, .slice (some ⟨_, 0, none⟩) 4 4]) (by simp [results, Tryz.results58, go_sem]; rfl) rfl ⟨⟨_, _, rfl, OwnN.lit (by repeat (first | exact blk_new (by simp [go_sem] <;> omega) | rw [World.heap_drewN] | rw [World.grow_heap_lt _ _ _ (by simp [go_sem] <;> omega)] | rw [blk_past (by simp [go_sem] <;> omega)])) (by rfl) (by show _ ≤ 9223372036854775807; exact Nat.le_of_ble_eq_true rfl) (by first | omega | (simp [go_sem] <;> omega))⟩, (by repeat (first | exact Grew.refl _ | refine Grew.drewN ?_ _ | refine Grew.grow ?_ _ | refine Grew.alloc ?_ _ | refine Grew.drew ?_ | refine Grew.set ?_ (Nat.le_refl _) _ _ | refine Grew.set ?_ (by omega) _ _))⟩

set_option maxRecDepth 100000 in
set_option maxHeartbeats 800000 in
theorem own_couple (p n : Int) (s : ByteArray) (w : World) :
    Calls Tryz.prog 58 #[.agg #[.int .i64 2, .int .i64 p, .int .i64 n, .string s]] w (MatP 2 (ownM 2 n) w) := by
  go_enter Tryz.func58, Tryz.ntmps58
  go_wp2_with fail
  exact bodyPost_ret (v := .agg #[.int .i64 2, .slice (some ⟨_, 0, none⟩) 4 4]) (by simp [results, Tryz.results58, go_sem]; rfl) rfl ⟨⟨_, _, rfl, OwnN.lit (by repeat (first | exact blk_new (by simp [go_sem] <;> omega) | rw [World.heap_drewN] | rw [World.grow_heap_lt _ _ _ (by simp [go_sem] <;> omega)] | rw [blk_past (by simp [go_sem] <;> omega)])) (by rfl) (by show _ ≤ 9223372036854775807; exact Nat.le_of_ble_eq_true rfl) (by first | omega | (simp [go_sem] <;> omega))⟩, (by repeat (first | exact Grew.refl _ | refine Grew.drewN ?_ _ | refine Grew.grow ?_ _ | refine Grew.alloc ?_ _ | refine Grew.drew ?_ | refine Grew.set ?_ (Nat.le_refl _) _ _ | refine Grew.set ?_ (by omega) _ _))⟩

set_option maxRecDepth 100000 in
set_option maxHeartbeats 800000 in
theorem own_phase (p n : Int) (s : ByteArray) (w : World) :
    Calls Tryz.prog 58 #[.agg #[.int .i64 1, .int .i64 p, .int .i64 n, .string s]] w (MatP 1 (ownM 1 n) w) := by
  have HT := hid fun w => aTurn_any ⟨1, 0, 0, 0⟩ 0 n w
  have hv : validB ⟨1, 0, 0, 0⟩ 0 = true := by decide
  rw [hv] at HT
  simp only [changeR, if_true] at HT
  obtain ⟨y, hy⟩ : ∃ y, turnC (n % 8).toNat ⟨1, 0, 0, 0⟩ = y := ⟨_, rfl⟩
  rw [hy] at HT
  have Hy := hid hy
  clear hy hv
  go_enter Tryz.func58, Tryz.ntmps58
  go_wp2_with fail
  refine (HT.out _).mono ?_
  rintro e w' ⟨rfl, g, n', rfl⟩
  go_wp2_with fail
  rw [show ownM 1 n = [⟨y, 0⟩] by unfold ownM; rw [if_pos rfl, Hy.out]]
  exact bodyPost_ret (v := .agg #[.int .i64 1, .slice (some ⟨_, 0, none⟩) 1 1]) (by simp [results, Tryz.results58, go_sem]; rfl) rfl ⟨⟨_, _, rfl, OwnN.lit (by repeat (first | exact blk_new (by simp [go_sem] <;> omega) | rw [World.heap_drewN] | rw [World.grow_heap_lt _ _ _ (by simp [go_sem] <;> omega)] | rw [blk_past (by simp [go_sem] <;> omega)])) (by rfl) (by show _ ≤ 9223372036854775807; exact Nat.le_of_ble_eq_true rfl) (by first | omega | (simp [go_sem] <;> omega))⟩, (by repeat (first | exact Grew.refl _ | refine Grew.drewN ?_ _ | refine Grew.grow ?_ _ | refine Grew.alloc ?_ _ | refine Grew.drew ?_ | refine Grew.set ?_ (Nat.le_refl _) _ _ | refine Grew.set ?_ (by omega) _ _))⟩

theorem own_any (x : It) (w : World) (hw : wid x.kind x.n x.name ≠ 0) :
    Calls Tryz.prog 58 #[.agg #[.int .i64 x.kind, .int .i64 x.pos, .int .i64 x.n, .string x.name]] w (MatP (ownW x.kind) (ownM x.kind x.n) w) := by
  obtain ⟨kind, p, n, s⟩ := x
  dsimp only at *
  unfold wid at hw
  split at hw
  case isFalse => exact absurd rfl hw
  split at hw
  case isTrue h => obtain ⟨rfl, _⟩ := h; exact own_phase p n s w
  split at hw
  case isFalse => exact absurd rfl hw
  case isTrue h =>
    obtain ⟨rfl | rfl, _⟩ := h
    · exact own_couple p n s w
    · exact own_cross p n s w

end Go.Proofs.YtdomlnhgafielaaGreatDoor

/- Layer 3, the statements' side: the matrix of an item on its own guides. Condition: it is one. -/

namespace Go.Proofs.YtdomlnhgafielaaGreatDoor
open Go Go.RowKit Amp Msh

end Go.Proofs.YtdomlnhgafielaaGreatDoor
