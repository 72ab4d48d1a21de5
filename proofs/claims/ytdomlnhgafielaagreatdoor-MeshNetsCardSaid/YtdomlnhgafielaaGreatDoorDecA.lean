/- Decimal: the reference. Condition: the number is not too large. -/
import Derived.Test.YtdomlnhgafielaaGreatDoorStrA
import Derived.Test.YtdomlnhgafielaaGreatDoorAmpTxt
import Derived.Test.YtdomlnhgafielaaGreatDoorRegion
import Derived.Lib.Builder
namespace Go.Proofs.YtdomlnhgafielaaGreatDoor
open Go Go.RowKit Amp

theorem dec_cons10 (u : Nat) (h : ¬ u < 10) : Lib.decDigits u = Lib.decDigits (u / 10) ++ Lib.decDigits (u % 10) := by
  rw [Lib.decDigits, dif_neg h]
  congr 1
  rw [Lib.decDigits, dif_pos (Nat.mod_lt _ (by decide))]
theorem dec_one (u : Nat) (h : u < 10) : Lib.decDigits u = [UInt8.ofNat (48 + u)] := by rw [Lib.decDigits, dif_pos h]
theorem conv_one (u : Nat) (h : u < 10) (w : World) : (convert 63 9 (.slice (some ⟨w.heap.size, 0, none⟩) 1 1)).run Tryz.prog (w.alloc (.cells #[.int .u8 (48 + (u : Int))] 5)) = .ok (.string (strB (Lib.decDigits u))) (w.alloc (.cells #[.int .u8 (48 + (u : Int))] 5)) := by
  have hn : ((UInt8.ofNat (48 + u)).toNat : Int) = 48 + (u : Int) := by rw [(dg_small h).2]; omega
  have := run_convert_bytes_back (P := Tryz.prog) (w.alloc (.cells #[.int .u8 (48 + (u : Int))] 5)) 63 9 5 ⟨w.heap.size, 0, none⟩ 1 [UInt8.ofNat (48 + u)] Tryz.underlying63 Tryz.underlying5 Tryz.underlying9 (fun j hj => by
    obtain rfl : j = 0 := by simpa using hj
    show _ = some (Value.int .u8 ((UInt8.ofNat (48 + u)).toNat : Int))
    rw [hn]
    show (w.alloc (.cells #[.int .u8 (48 + (u : Int))] 5)).cell? ⟨w.heap.size, 0, none⟩ = _
    rw [Lib.cell_of_heap (blk_new rfl)]
    rfl)
  rw [dec_one u h]
  exact this
set_option maxHeartbeats 1000000 in
set_option maxRecDepth 100000 in
theorem decN_any (u : Nat) : u ≤ 1000000000 → ∀ w : World, Calls Tryz.prog 14 #[.int .i64 (u : Int)] w fun e w' => e = .returned (.string (strB (Lib.decDigits u))) ∧ Grew w w' := by
  induction u using Nat.strongRecOn with
  | _ u ih =>
    intro hu w
    by_cases h10 : u < 10
    case pos =>
      have HC := hid (conv_one u h10 w)
      clear ih
      go_enter Tryz.func14, Tryz.ntmps14
      go_wp2_with fail
      rw [HC.out]
      simp only [Result.andThen]
      rw [Oper.upon_value]
      go_wp2_with fail
      go_ret
      exact ⟨rfl, (by repeat (first | exact Grew.refl _ | refine Grew.drewN ?_ _ | refine Grew.grow ?_ _ | refine Grew.alloc ?_ _ | refine Grew.drew ?_))⟩
    case neg =>
      rw [dec_cons10 u h10]
      have h1 := ih (u / 10) (by omega) (by omega)
      have h2 := ih (u % 10) (by omega) (by omega)
      rw [Int.natCast_ediv] at h1
      rw [Int.natCast_emod] at h2
      have H1 := hid h1
      have H2 := hid h2
      clear ih h1 h2
      have hl1 := dec_len 9 (u / 10) (by omega)
      have hl2 := dec_len 9 (u % 10) (by omega)
      go_enter Tryz.func14, Tryz.ntmps14
      go_wp2_with fail
      refine (H1.out _).mono ?_
      rintro e w1 ⟨rfl, g1, n1, rfl⟩
      go_wp2_with fail
      refine (H2.out _).mono ?_
      rintro e w1 ⟨rfl, g1, n1, rfl⟩
      go_wp2_with fail
      go_ret
      exact ⟨rfl, (by repeat (first | exact Grew.refl _ | refine Grew.drewN ?_ _ | refine Grew.grow ?_ _ | refine Grew.alloc ?_ _ | refine Grew.drew ?_))⟩
theorem itoa_neg' {x : Int} (h : x < 0) : Lib.itoa x = 45 :: Lib.decDigits (-x).toNat := by
  rw [itoa_neg h]
  congr 2
  omega
set_option maxHeartbeats 1000000 in
set_option maxRecDepth 100000 in
theorem dec_any (x : Int) (w : World) (h0 : -1000000000 ≤ x) (h1 : x ≤ 1000000000) : Calls Tryz.prog 14 #[.int .i64 x] w fun e w' => e = .returned (.string (strB (Lib.itoa x))) ∧ Grew w w' := by
  by_cases hx : x < 0
  · rw [itoa_neg' hx]
    have H := hid (decN_any (-x).toNat (by omega))
    rw [show (((-x).toNat : Nat) : Int) = -x by omega] at H
    have hl1 := dec_len 9 (-x).toNat (by omega)
    go_enter Tryz.func14, Tryz.ntmps14
    go_wp2_with fail
    refine (H.out _).mono ?_
    rintro e w1 ⟨rfl, g1, n1, rfl⟩
    go_wp2_with fail
    go_ret
    exact ⟨rfl, (by repeat (first | exact Grew.refl _ | refine Grew.drewN ?_ _ | refine Grew.grow ?_ _ | refine Grew.alloc ?_ _ | refine Grew.drew ?_))⟩
  · rw [itoa_pos (by omega)]
    have H := decN_any x.toNat (by omega) w
    rw [show ((x.toNat : Nat) : Int) = x by omega] at H
    exact H

end Go.Proofs.YtdomlnhgafielaaGreatDoor
