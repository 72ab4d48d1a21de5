/- Layer 3: names of cells. No condition. -/
import Derived.Test.YtdomlnhgafielaaGreatDoorMshA
import Derived.Test.YtdomlnhgafielaaGreatDoorMshNet
import Derived.Test.YtdomlnhgafielaaGreatDoorMshE
import Derived.Laws.IdiomStrings
import Derived.Test.YtdomlnhgafielaaGreatDoorMshCls


namespace Go.Proofs.YtdomlnhgafielaaGreatDoor
open Go Go.RowKit Amp Msh

/-- Bytes, nil or in memory. -/
def Bys (w : World) (a0 : Option Addr) (l : List UInt8) : Prop := l = [] ∨ ∃ b off : Nat, a0 = some ⟨b, off, none⟩ ∧ b < w.heap.size ∧ ∀ i z, l[i]? = some z → w.cell? ⟨b, off + i, none⟩ = some (.int .u8 z.toNat)
theorem Bys.grew {w w' : World} {a0 : Option Addr} {l : List UInt8} (h : Bys w a0 l) (hg : Grew w w') : Bys w' a0 l := by
  rcases h with h | ⟨b, off, h, hb, hc⟩
  · exact .inl h
  · exact .inr ⟨b, off, h, Nat.lt_of_lt_of_le hb hg.size, fun i z hz => (hg.cell hb _).trans (hc i z hz)⟩
theorem Bys.cells {w : World} {a0 : Option Addr} {l : List UInt8} {i : Nat} {z : UInt8} (h : Bys w a0 l) (hz : l[i]? = some z) : ∃ b off : Nat, a0 = some ⟨b, off, none⟩ ∧ b < w.heap.size ∧ w.cell? ⟨b, off + i, none⟩ = some (.int .u8 z.toNat) := by
  rcases h with rfl | ⟨b, off, h, hb, hc⟩
  · simp at hz
  · exact ⟨b, off, h, hb, hc i z hz⟩
/-- The world behind a text's turning into bytes. -/
def bysW (w : World) (s : ByteArray) : World := w.drew.alloc (.cells (bytesRow s (grownCap w s.size 0 5)) 5 ((bytesRow s (grownCap w s.size 0 5)).size, (bytesRow s (grownCap w s.size 0 5)).size + 1))
theorem bysW_grew (w : World) (s : ByteArray) : Grew w (bysW w s) := (Grew.refl w).drew.alloc _
theorem bysW_run (w : World) (s : ByteArray) : (convert 9 63 (.string s)).run Tryz.prog w = .ok (.slice (some ⟨w.heap.size, 0, none⟩) s.size (grownCap w s.size 0 5)) (bysW w s) :=
  run_bytes_of_string w 9 63 5 s Tryz.underlying9 Tryz.underlying63 Tryz.underlying5
theorem bysW_bys (w : World) (s : ByteArray) : Bys (bysW w s) (some ⟨w.heap.size, 0, none⟩) s.data.toList := by
  have hb : (bysW w s).heap[w.heap.size]? = some (.cells (bytesRow s (grownCap w s.size 0 5)) 5 ((bytesRow s (grownCap w s.size 0 5)).size, (bytesRow s (grownCap w s.size 0 5)).size + 1)) := by
    show (w.heap.push _)[w.heap.size]? = _
    simp
  refine .inr ⟨_, 0, rfl, (Array.getElem?_eq_some_iff.1 hb).1, fun i z hz => ?_⟩
  rw [Array.getElem?_toList] at hz
  obtain ⟨hi, rfl⟩ := Array.getElem?_eq_some_iff.1 hz
  rw [Nat.zero_add]
  simp only [World.cell?, hb]
  exact bytesRow_at s _ i hi
def allB (l : List UInt8) : Bool := l.all letB
theorem allB_step {l : List UInt8} {i : Nat} {z : UInt8} (h : l[i]? = some z) (hz : letB z = true) (hp : allB (l.take i) = true) : allB (l.take (i + 1)) = true := by
  unfold allB at *
  rw [List.take_add_one, h, List.all_append, hp]
  simp [hz]
theorem allB_cut {l : List UInt8} {i : Nat} {z : UInt8} (h : l[i]? = some z) (hz : letB z = false) : allB l = false := by
  unfold allB
  rw [List.all_eq_false]
  exact ⟨z, List.mem_of_getElem? h, by rw [hz]; exact Bool.false_ne_true⟩

set_option maxHeartbeats 800000 in
theorem nameP_any (z : UInt8) (w : World) :
    Calls Tryz.prog 34 #[.int .u8 z.toNat] w fun e w' => e = .returned (.bool (!letB z)) ∧ Grew w w' := by
  have hz : letB z = (decide (97 ≤ z.toNat) && decide (z.toNat ≤ 122)) := rfl
  rw [hz]
  obtain ⟨m, hm⟩ : ∃ m, z.toNat = m := ⟨_, rfl⟩
  rw [hm]
  clear hz hm
  by_cases h1 : 97 ≤ m
  case neg =>
    have e1 : decide ((m : Int) < 97) = true := decide_eq_true (by omega)
    rw [decide_eq_false h1]
    clear h1
    go_enter Tryz.func34, Tryz.ntmps34
    go_wp2_with fail
    go_ret
    exact ⟨rfl, (by repeat (first | exact Grew.refl _ | refine Grew.drewN ?_ _ | refine Grew.grow ?_ _ | refine Grew.alloc ?_ _ | refine Grew.drew ?_))⟩
  have e1 : decide ((m : Int) < 97) = false := decide_eq_false (by omega)
  rw [decide_eq_true h1]
  by_cases h2 : m ≤ 122
  · have e2 : decide ((122 : Int) < m) = false := decide_eq_false (by omega)
    rw [decide_eq_true h2]
    clear h1 h2
    go_enter Tryz.func34, Tryz.ntmps34
    go_wp2_with fail
    go_ret
    exact ⟨rfl, (by repeat (first | exact Grew.refl _ | refine Grew.drewN ?_ _ | refine Grew.grow ?_ _ | refine Grew.alloc ?_ _ | refine Grew.drew ?_))⟩
  · have e2 : decide ((122 : Int) < m) = true := decide_eq_true (by omega)
    rw [decide_eq_false h2]
    clear h1 h2
    go_enter Tryz.func34, Tryz.ntmps34
    go_wp2_with fail
    go_ret
    exact ⟨rfl, (by repeat (first | exact Grew.refl _ | refine Grew.drewN ?_ _ | refine Grew.grow ?_ _ | refine Grew.alloc ?_ _ | refine Grew.drew ?_))⟩

set_option maxHeartbeats 800000 in
theorem idxB_any (a0 : Option Addr) (cap : Nat) (l : List UInt8) (w : World) (hl : l.length ≤ 9223372036854775807) (hc : Bys w a0 l) :
    Calls Tryz.prog 54 #[.slice a0 l.length cap, .func (.func 34) #[] #[]] w (IdxI (allB l) w) := by
  have HC := hid hc
  clear hc
  go_enter Tryz.func54, Tryz.ntmps54
  go_wp2_with fail
  go_loopw [8] (fun n wr => ∃ i : Nat, i ≤ l.length ∧ n = .int .i64 i ∧ Hid (allB (l.take i) = true) ∧ Grew w wr) (fun n _ => l.length - (intOf n).toNat)
  case atStart => exact ⟨0, Nat.zero_le _, rfl, rfl, Grew.refl _⟩
  case round =>
    obtain ⟨i, hi, rfl, hp, g', n, rfl⟩ := hrel
    by_cases hlt : i < l.length
    · obtain ⟨z, hz⟩ : ∃ z, l[i]? = some z := ⟨l[i], List.getElem?_eq_getElem hlt⟩
      obtain ⟨b, off, rfl, hb, c0⟩ := HC.out.cells hz
      have hb1 := fun m0 : Nat => Nat.lt_add_right m0 (hb)
      have hb2 := fun m0 m1 : Nat => Nat.lt_add_right m1 (hb1 m0)
      have hb3 := fun m0 m1 m2 : Nat => Nat.lt_add_right m2 (hb2 m0 m1)
      have Hz := hid hz
      clear hz
      go_wp2_with fail
      refine (nameP_any z _).mono ?_
      rintro e w' ⟨rfl, g1, n1, rfl⟩
      by_cases hv : letB z = true
      · rw [hv]
        have Hv := hid hv
        clear hv
        go_wp2_with fail
        go_roundw
        case rel => exact ⟨i + 1, by omega, by go_num, allB_step Hz.out Hv.out hp.out, (by repeat (first | exact Grew.refl _ | refine Grew.drewN ?_ _ | refine Grew.grow ?_ _ | refine Grew.alloc ?_ _ | refine Grew.drew ?_))⟩
        case measure => simp [intOf]; omega
      · have Hv : Hid (allB l = false) := allB_cut Hz.out (by simpa using hv)
        rw [show letB z = false by simpa using hv]
        clear hv
        go_wp2_with fail
        go_ret
        exact ⟨⟨i, rfl, by rw [Hv.out]; simp⟩, (by repeat (first | exact Grew.refl _ | refine Grew.drewN ?_ _ | refine Grew.grow ?_ _ | refine Grew.alloc ?_ _ | refine Grew.drew ?_))⟩
    · obtain rfl : i = l.length := by omega
      have hp' : Hid (allB l = true) := by have := hp.out; rw [List.take_length] at this; exact this
      clear hp
      go_wp2_with fail
      go_ret
      exact ⟨⟨-1, rfl, by rw [hp'.out]; rfl⟩, (by repeat (first | exact Grew.refl _ | refine Grew.drewN ?_ _ | refine Grew.grow ?_ _ | refine Grew.alloc ?_ _ | refine Grew.drew ?_))⟩

set_option maxHeartbeats 800000 in
theorem hasB_any (a0 : Option Addr) (cap : Nat) (l : List UInt8) (w : World) (hl : l.length ≤ 9223372036854775807) (hc : Bys w a0 l) :
    Calls Tryz.prog 33 #[.slice a0 l.length cap, .func (.func 34) #[] #[]] w fun e w' => e = .returned (.bool (!allB l)) ∧ Grew w w' := by
  have HI := hid fun w' (hg : Grew w w') => idxB_any a0 cap l w' hl (hc.grew hg)
  clear hc
  go_enter Tryz.func33, Tryz.ntmps33
  go_wp2_with fail
  refine (HI.out _ (by repeat (first | exact Grew.refl _ | refine Grew.drewN ?_ _ | refine Grew.grow ?_ _ | refine Grew.alloc ?_ _ | refine Grew.drew ?_))).mono ?_
  rintro e w' ⟨⟨r, rfl, hr⟩, g', n, rfl⟩
  have HR := hid hr
  clear hr
  go_wp2_with fail
  go_ret
  exact ⟨by rw [← HR.out]; rfl, (by repeat (first | exact Grew.refl _ | refine Grew.drewN ?_ _ | refine Grew.grow ?_ _ | refine Grew.alloc ?_ _ | refine Grew.drew ?_))⟩

set_option maxHeartbeats 800000 in
theorem name_any (s : ByteArray) (w : World) (hs : s.size ≤ 9223372036854775807) :
    Calls Tryz.prog 17 #[.string s] w fun e w' => e = .returned (.bool (nameB s)) ∧ Grew w w' := by
  have hv : nameB s = (decide (1 ≤ s.size ∧ s.size ≤ 8) && allB s.data.toList) := rfl
  rw [hv]
  have HM := hid fun w => mbtw_any 1 s.size 8 w
  by_cases hg : 1 ≤ s.size ∧ s.size ≤ 8
  case neg =>
    rw [decide_eq_false hg]
    rw [decide_eq_false (show ¬ ((1 : Int) ≤ s.size ∧ (s.size : Int) ≤ 8) by omega)] at HM
    clear hg hv
    go_enter Tryz.func17, Tryz.ntmps17
    go_wp2_with fail
    refine (HM.out _).mono ?_
    rintro e w' ⟨rfl, g', n, rfl⟩
    go_wp2_with fail
    go_ret
    exact ⟨rfl, (by repeat (first | exact Grew.refl _ | refine Grew.drewN ?_ _ | refine Grew.grow ?_ _ | refine Grew.alloc ?_ _ | refine Grew.drew ?_))⟩
  rw [decide_eq_true hg, Bool.true_and]
  rw [decide_eq_true (show ((1 : Int) ≤ s.size ∧ (s.size : Int) ≤ 8) by omega)] at HM
  have hlen : s.data.toList.length = s.size := by simp
  have HCV := fun w' => bysW_run w' s
  have HAS := hid fun (w' : World) (b c : Nat) (hb : b = w'.heap.size) => hasB_any (some ⟨b, 0, none⟩) c s.data.toList (bysW w' s) (by omega) (by rw [hb]; exact bysW_bys w' s)
  obtain ⟨L, hL⟩ : ∃ L, s.data.toList = L := ⟨_, rfl⟩
  rw [hL] at HAS hlen ⊢
  rw [hlen] at HAS
  clear hL hlen hg hv
  go_enter Tryz.func17, Tryz.ntmps17
  go_wp2_with fail
  refine (HM.out _).mono ?_
  rintro e w' ⟨rfl, g', n, rfl⟩
  go_wp2_with fail
  refine (HAS.out _ _ _ (by simp [go_sem])).mono ?_
  rintro e w' ⟨rfl, hg⟩
  have HG := hid hg
  clear hg
  go_wp2_with fail
  go_ret
  exact ⟨by simp, ((Grew.refl w).grow _ |>.drewN _ |>.trans (bysW_grew _ _)).trans (HG.out.trans (by repeat (first | exact Grew.refl _ | refine Grew.drewN ?_ _ | refine Grew.grow ?_ _ | refine Grew.alloc ?_ _ | refine Grew.drew ?_)))⟩

set_option maxHeartbeats 800000 in
theorem isName_any (s : ByteArray) (w : World) (hs : s.size ≤ 9223372036854775807) :
    Calls Tryz.prog 19 #[.string s] w fun e w' => e = .returned (.bool (nameB s)) ∧ Grew w w' := by
  have HV : Hid (nameB s = (decide (1 ≤ s.size ∧ s.size ≤ 8) && allB s.data.toList)) := rfl
  obtain ⟨R, hR⟩ : ∃ R, nameB s = R := ⟨_, rfl⟩
  rw [hR] at HV ⊢
  clear hR
  go_enter Tryz.func19, Tryz.ntmps19
  go_wp2_with fail
  go_loopw [6] (fun n wr => ∃ i : Nat, i ≤ s.size ∧ n = .int .i64 i ∧ Hid (allB (s.data.toList.take i) = true) ∧ Grew w wr) (fun n _ => s.size - (intOf n).toNat)
  case atStart => exact ⟨0, Nat.zero_le _, rfl, rfl, Grew.refl _⟩
  case round =>
    obtain ⟨i, hi, rfl, hp, hg⟩ := hrel
    by_cases hlt : i < s.size
    · have hz : s.data.toList[i]? = some s[i] := by
        rw [Array.getElem?_toList]
        exact Array.getElem?_eq_getElem hlt
      obtain ⟨z, hz1⟩ : ∃ z, s[i] = z := ⟨_, rfl⟩
      rw [hz1] at hz
      have HIX : ∀ w', (Instr.index 9 (.string s) (.int .i64 i)).run Tryz.prog w' = .ok (.int .u8 z.toNat) w' := fun w' => by
        rw [run_index_string (P := Tryz.prog) w' _ _ _ _ Tryz.underlying9, dif_pos ⟨by omega, by omega⟩]
        simp only [Int.toNat_natCast, hz1]
      obtain ⟨m, hm⟩ : ∃ m, z.toNat = m := ⟨_, rfl⟩
      have hlz : letB z = (decide (97 ≤ m) && decide (m ≤ 122)) := by rw [← hm]; rfl
      rw [hm] at HIX
      have Hz := hid hz
      have HG := hid hg
      clear hz hz1 hg hm
      by_cases hv : 97 ≤ m ∧ m ≤ 122
      · have e1 : decide ((m : Int) < 97) = false := decide_eq_false (by omega)
        have e2 : decide ((122 : Int) < m) = false := decide_eq_false (by omega)
        have Hv : Hid (letB z = true) := hid (by rw [hlz, decide_eq_true hv.1, decide_eq_true hv.2]; rfl)
        clear hv hlz
        go_wp2_with fail
        go_roundw
        case rel => exact ⟨i + 1, by omega, by go_num, allB_step Hz.out Hv.out hp.out, HG.out.trans (by repeat (first | exact Grew.refl _ | refine Grew.drewN ?_ _ | refine Grew.grow ?_ _ | refine Grew.alloc ?_ _ | refine Grew.drew ?_))⟩
        case measure => simp [intOf]; omega
      · have Hv : Hid (R = false) := hid (by
          rw [HV.out, allB_cut Hz.out (by rw [hlz, ← Bool.decide_and]; exact decide_eq_false hv), Bool.and_false])
        by_cases h1 : 97 ≤ m
        · have e1 : decide ((m : Int) < 97) = false := decide_eq_false (by omega)
          have e2 : decide ((122 : Int) < m) = true := decide_eq_true (by omega)
          clear hv hlz h1
          go_wp2_with fail
          go_ret
          exact ⟨by rw [Hv.out]; rfl, HG.out.trans (by repeat (first | exact Grew.refl _ | refine Grew.drewN ?_ _ | refine Grew.grow ?_ _ | refine Grew.alloc ?_ _ | refine Grew.drew ?_))⟩
        · have e1 : decide ((m : Int) < 97) = true := decide_eq_true (by omega)
          clear hv hlz h1
          go_wp2_with fail
          go_ret
          exact ⟨by rw [Hv.out]; rfl, HG.out.trans (by repeat (first | exact Grew.refl _ | refine Grew.drewN ?_ _ | refine Grew.grow ?_ _ | refine Grew.alloc ?_ _ | refine Grew.drew ?_))⟩
    · obtain rfl : i = s.size := by omega
      have hp' : allB s.data.toList = true := by
        have := hp.out
        rwa [List.take_of_length_le (by simp)] at this
      have HG := hid hg
      have HV2 := HV.out
      rw [hp', Bool.and_true] at HV2
      clear hp hp' hg
      by_cases h1 : 1 ≤ s.size
      · by_cases h2 : s.size ≤ 8
        · have Hv : Hid (R = true) := hid (by rw [HV2, decide_eq_true ⟨h1, h2⟩])
          have e1 : decide ((1 : Int) ≤ s.size) = true := decide_eq_true (by omega)
          have e2 : decide ((s.size : Int) ≤ 8) = true := decide_eq_true (by omega)
          clear HV2 h1 h2
          go_wp2_with fail
          go_ret
          exact ⟨by rw [Hv.out]; rfl, HG.out.trans (by repeat (first | exact Grew.refl _ | refine Grew.drewN ?_ _ | refine Grew.grow ?_ _ | refine Grew.alloc ?_ _ | refine Grew.drew ?_))⟩
        · have Hv : Hid (R = false) := hid (by rw [HV2, decide_eq_false (fun h => h2 h.2)])
          have e1 : decide ((1 : Int) ≤ s.size) = true := decide_eq_true (by omega)
          have e2 : decide ((s.size : Int) ≤ 8) = false := decide_eq_false (by omega)
          clear HV2 h1 h2
          go_wp2_with fail
          go_ret
          exact ⟨by rw [Hv.out]; rfl, HG.out.trans (by repeat (first | exact Grew.refl _ | refine Grew.drewN ?_ _ | refine Grew.grow ?_ _ | refine Grew.alloc ?_ _ | refine Grew.drew ?_))⟩
      · have Hv : Hid (R = false) := hid (by rw [HV2, decide_eq_false (fun h => h1 h.1)])
        have e1 : decide ((1 : Int) ≤ s.size) = false := decide_eq_false (by omega)
        clear HV2 h1
        go_wp2_with fail
        go_ret
        exact ⟨by rw [Hv.out]; rfl, HG.out.trans (by repeat (first | exact Grew.refl _ | refine Grew.drewN ?_ _ | refine Grew.grow ?_ _ | refine Grew.alloc ?_ _ | refine Grew.drew ?_))⟩

end Go.Proofs.YtdomlnhgafielaaGreatDoor

/- Layer 3: the width of an item among cells; which items fit. Condition: the map of cells lies in memory. -/

namespace Go.Proofs.YtdomlnhgafielaaGreatDoor
open Go Go.RowKit Amp Msh

def gdV (C : List Cl) : ByteArray → Option Value := fun s => (C.find? (hasN s)).map fun c => .int .i64 c.gd
theorem zero_int (w : World) : (zeroValue 3).run Tryz.prog w = .ok (.int .i64 0) w := by kernel_rfl
theorem look_gd {w : World} {b n : Nat} {C : List Cl} (h : MapV w b n (gdV C)) (s : ByteArray) (hs : s.size ≤ maxLen) :
    (Instr.lookup 41 (.map (some b)) (.string s) false).run Tryz.prog w = .ok (.int .i64 (gdF C s)) w := by
  rw [h.look Tryz.underlying41 (zero_int w) s hs false]
  unfold gdV gdF
  cases C.find? (hasN s) with
  | none => rfl
  | some c => rfl
theorem look_gd_ok {w : World} {b n : Nat} {C : List Cl} (h : MapV w b n (gdV C)) (s : ByteArray) (hs : s.size ≤ maxLen) :
    (Instr.lookup 41 (.map (some b)) (.string s) true).run Tryz.prog w = .ok (.tuple #[.int .i64 (gdF C s), .bool (C.find? (hasN s)).isSome]) w := by
  rw [h.look Tryz.underlying41 (zero_int w) s hs true]
  unfold gdV gdF
  cases C.find? (hasN s) with
  | none => rfl
  | some c => rfl

set_option maxRecDepth 100000 in
set_option maxHeartbeats 800000 in
theorem widthM_named (kind p n : Int) (s : ByteArray) (bm : Nat) (w : World) (hs : ¬ s.toList = []) (hk : ¬ kind = 4) :
    Calls Tryz.prog 37 #[.agg #[.int .i64 kind, .int .i64 p, .int .i64 n, .string s], .map (some bm)] w fun e w' => e = .returned (.int .i64 0) ∧ Grew w w' := by
  have e1 : (kind == 4) = false := by simpa using hk
  have e2 : (kind != 4) = true := by simpa using hk
  clear hk
  go_enter Tryz.func37, Tryz.ntmps37
  go_wp2_with fail
  go_ret
  exact ⟨rfl, (by repeat (first | exact Grew.refl _ | refine Grew.drewN ?_ _ | refine Grew.grow ?_ _ | refine Grew.alloc ?_ _ | refine Grew.drew ?_))⟩

set_option maxRecDepth 100000 in
set_option maxHeartbeats 800000 in
theorem widthM_cellN (p n : Int) (s : ByteArray) (bm : Nat) (w : World) (hn : ¬ n = 0) :
    Calls Tryz.prog 37 #[.agg #[.int .i64 4, .int .i64 p, .int .i64 n, .string s], .map (some bm)] w fun e w' => e = .returned (.int .i64 0) ∧ Grew w w' := by
  have e1 : (n == 0) = false := by simpa using hn
  have e2 : (n != 0) = true := by simpa using hn
  clear hn
  go_enter Tryz.func37, Tryz.ntmps37
  go_wp2_with fail
  go_ret
  exact ⟨rfl, (by repeat (first | exact Grew.refl _ | refine Grew.drewN ?_ _ | refine Grew.grow ?_ _ | refine Grew.alloc ?_ _ | refine Grew.drew ?_))⟩

set_option maxRecDepth 100000 in
set_option maxHeartbeats 800000 in
theorem widthM_phase (p n : Int) (s : ByteArray) (bm : Nat) (w : World) (hs : s.toList = []) (h1 : 1 ≤ n) (h2 : n ≤ 7) :
    Calls Tryz.prog 37 #[.agg #[.int .i64 1, .int .i64 p, .int .i64 n, .string s], .map (some bm)] w fun e w' => e = .returned (.int .i64 1) ∧ Grew w w' := by
  go_enter Tryz.func37, Tryz.ntmps37
  go_wp2_with fail
  refine (mbtw_yes _ _ _ _ h1 h2).mono ?_
  rintro e w' ⟨rfl, g, n', rfl⟩
  go_wp2_with fail
  go_ret
  exact ⟨rfl, (by repeat (first | exact Grew.refl _ | refine Grew.drewN ?_ _ | refine Grew.grow ?_ _ | refine Grew.alloc ?_ _ | refine Grew.drew ?_))⟩

set_option maxRecDepth 100000 in
set_option maxHeartbeats 800000 in
theorem widthM_phaseL (p n : Int) (s : ByteArray) (bm : Nat) (w : World) (hs : s.toList = []) (h1 : n < 1) :
    Calls Tryz.prog 37 #[.agg #[.int .i64 1, .int .i64 p, .int .i64 n, .string s], .map (some bm)] w fun e w' => e = .returned (.int .i64 0) ∧ Grew w w' := by
  go_enter Tryz.func37, Tryz.ntmps37
  go_wp2_with fail
  refine (mbtw_low _ _ _ _ h1).mono ?_
  rintro e w' ⟨rfl, g, n', rfl⟩
  go_wp2_with fail
  go_ret
  exact ⟨rfl, (by repeat (first | exact Grew.refl _ | refine Grew.drewN ?_ _ | refine Grew.grow ?_ _ | refine Grew.alloc ?_ _ | refine Grew.drew ?_))⟩

set_option maxRecDepth 100000 in
set_option maxHeartbeats 800000 in
theorem widthM_phaseH (p n : Int) (s : ByteArray) (bm : Nat) (w : World) (hs : s.toList = []) (h1 : 7 < n) :
    Calls Tryz.prog 37 #[.agg #[.int .i64 1, .int .i64 p, .int .i64 n, .string s], .map (some bm)] w fun e w' => e = .returned (.int .i64 0) ∧ Grew w w' := by
  go_enter Tryz.func37, Tryz.ntmps37
  go_wp2_with fail
  refine (mbtw_high _ _ _ _ h1).mono ?_
  rintro e w' ⟨rfl, g, n', rfl⟩
  go_wp2_with fail
  go_ret
  exact ⟨rfl, (by repeat (first | exact Grew.refl _ | refine Grew.drewN ?_ _ | refine Grew.grow ?_ _ | refine Grew.alloc ?_ _ | refine Grew.drew ?_))⟩

set_option maxRecDepth 100000 in
set_option maxHeartbeats 800000 in
theorem widthM_two2 (p : Int) (s : ByteArray) (bm : Nat) (w : World) (hs : s.toList = []) :
    Calls Tryz.prog 37 #[.agg #[.int .i64 2, .int .i64 p, .int .i64 0, .string s], .map (some bm)] w fun e w' => e = .returned (.int .i64 2) ∧ Grew w w' := by
  go_enter Tryz.func37, Tryz.ntmps37
  go_wp2_with fail
  go_ret
  exact ⟨rfl, (by repeat (first | exact Grew.refl _ | refine Grew.drewN ?_ _ | refine Grew.grow ?_ _ | refine Grew.alloc ?_ _ | refine Grew.drew ?_))⟩

set_option maxRecDepth 100000 in
set_option maxHeartbeats 800000 in
theorem widthM_two3 (p : Int) (s : ByteArray) (bm : Nat) (w : World) (hs : s.toList = []) :
    Calls Tryz.prog 37 #[.agg #[.int .i64 3, .int .i64 p, .int .i64 0, .string s], .map (some bm)] w fun e w' => e = .returned (.int .i64 2) ∧ Grew w w' := by
  go_enter Tryz.func37, Tryz.ntmps37
  go_wp2_with fail
  go_ret
  exact ⟨rfl, (by repeat (first | exact Grew.refl _ | refine Grew.drewN ?_ _ | refine Grew.grow ?_ _ | refine Grew.alloc ?_ _ | refine Grew.drew ?_))⟩

set_option maxRecDepth 100000 in
set_option maxHeartbeats 800000 in
theorem widthM_noneN (kind p n : Int) (s : ByteArray) (bm : Nat) (w : World) (hs : s.toList = []) (hk : ¬ kind = 1) (h4 : ¬ kind = 4) (hn : ¬ n = 0) :
    Calls Tryz.prog 37 #[.agg #[.int .i64 kind, .int .i64 p, .int .i64 n, .string s], .map (some bm)] w fun e w' => e = .returned (.int .i64 0) ∧ Grew w w' := by
  have e1 : (n == 0) = false := by simpa using hn
  have e2 : (n != 0) = true := by simpa using hn
  clear hn
  have k1 : (kind == 1) = false := by simpa using hk
  have m1 : (kind != 1) = true := by simpa using hk
  have k4 : (kind == 4) = false := by simpa using h4
  have m4 : (kind != 4) = true := by simpa using h4
  clear hk h4
  go_enter Tryz.func37, Tryz.ntmps37
  go_wp2_with fail
  go_ret
  exact ⟨rfl, (by repeat (first | exact Grew.refl _ | refine Grew.drewN ?_ _ | refine Grew.grow ?_ _ | refine Grew.alloc ?_ _ | refine Grew.drew ?_))⟩

set_option maxRecDepth 100000 in
set_option maxHeartbeats 800000 in
theorem widthM_none0 (kind p : Int) (s : ByteArray) (bm : Nat) (w : World) (hs : s.toList = []) (h1 : ¬ kind = 1) (h2 : ¬ kind = 2) (h3 : ¬ kind = 3) (h4 : ¬ kind = 4) :
    Calls Tryz.prog 37 #[.agg #[.int .i64 kind, .int .i64 p, .int .i64 0, .string s], .map (some bm)] w fun e w' => e = .returned (.int .i64 0) ∧ Grew w w' := by
  have k1 : (kind == 1) = false := by simpa using h1
  have m1 : (kind != 1) = true := by simpa using h1
  have k2 : (kind == 2) = false := by simpa using h2
  have m2 : (kind != 2) = true := by simpa using h2
  have k3 : (kind == 3) = false := by simpa using h3
  have m3 : (kind != 3) = true := by simpa using h3
  have k4 : (kind == 4) = false := by simpa using h4
  have m4 : (kind != 4) = true := by simpa using h4
  clear h1 h2 h3 h4
  go_enter Tryz.func37, Tryz.ntmps37
  go_wp2_with fail
  go_ret
  exact ⟨rfl, (by repeat (first | exact Grew.refl _ | refine Grew.drewN ?_ _ | refine Grew.grow ?_ _ | refine Grew.alloc ?_ _ | refine Grew.drew ?_))⟩

set_option maxRecDepth 100000 in
set_option maxHeartbeats 800000 in
theorem widthM_cell0 (p : Int) (s : ByteArray) (bm nn : Nat) (C : List Cl) (w : World) (hs : s.size ≤ maxLen) (hM : MapV w bm nn (gdV C)) :
    Calls Tryz.prog 37 #[.agg #[.int .i64 4, .int .i64 p, .int .i64 0, .string s], .map (some bm)] w fun e w' => e = .returned (.int .i64 (gdF C s)) ∧ Grew w w' := by
  have hrun := look_gd (hM.grew ((Grew.refl w).alloc (.cells #[.int .i64 4, .int .i64 p, .int .i64 0, .string s] 38))) s hs
  clear hM hs
  go_enter Tryz.func37, Tryz.ntmps37
  go_wp2_with fail
  go_ret
  exact ⟨rfl, (by repeat (first | exact Grew.refl _ | refine Grew.drewN ?_ _ | refine Grew.grow ?_ _ | refine Grew.alloc ?_ _ | refine Grew.drew ?_))⟩

theorem widthM_any (x : It) (bm nn : Nat) (C : List Cl) (w : World) (hs : x.name.size ≤ maxLen) (hM : MapV w bm nn (gdV C)) :
    Calls Tryz.prog 37 #[.agg #[.int .i64 x.kind, .int .i64 x.pos, .int .i64 x.n, .string x.name], .map (some bm)] w fun e w' => e = .returned (.int .i64 (wdE (gdF C) x)) ∧ Grew w w' := by
  obtain ⟨kind, p, n, s⟩ := x
  unfold wdE
  dsimp only at hs ⊢
  by_cases h4 : kind = 4
  · subst h4
    rw [if_pos rfl]
    by_cases hn : n = 0
    · subst hn; rw [if_pos rfl]; exact widthM_cell0 p s bm nn C w hs hM
    · rw [if_neg hn]; exact widthM_cellN p n s bm w hn
  rw [if_neg h4]
  unfold wid
  by_cases hs : s.toList = []
  case neg => rw [if_neg hs]; exact widthM_named kind p n s bm w hs h4
  rw [if_pos hs]
  by_cases h1 : kind = 1
  · subst h1
    by_cases hl : n < 1
    · rw [if_neg (by omega), if_neg (by omega)]; exact widthM_phaseL p n s bm w hs hl
    by_cases hh : 7 < n
    · rw [if_neg (by omega), if_neg (by omega)]; exact widthM_phaseH p n s bm w hs hh
    rw [if_pos (by omega)]; exact widthM_phase p n s bm w hs (by omega) (by omega)
  rw [if_neg (by omega)]
  by_cases hn : n = 0
  · subst hn
    by_cases h2 : kind = 2
    · subst h2; rw [if_pos (by omega)]; exact widthM_two2 p s bm w hs
    by_cases h3 : kind = 3
    · subst h3; rw [if_pos (by omega)]; exact widthM_two3 p s bm w hs
    rw [if_neg (by omega)]; exact widthM_none0 kind p s bm w hs h1 h2 h3 h4
  · rw [if_neg (by omega)]; exact widthM_noneN kind p n s bm w hs h1 h4 hn

set_option maxHeartbeats 800000 in
theorem fitM_any (g : Int) (x : It) (bc bn : Nat) (w : World) (bm nn : Nat) (C : List Cl) (hbc : bc < w.heap.size) (hbn : bn < w.heap.size) (hcc : w.cell? ⟨bc, 0, none⟩ = some (.map (some bm))) (hcn : w.cell? ⟨bn, 0, none⟩ = some (.int .i64 g)) (hM : MapV w bm nn (gdV C)) (hC : Gds C) (g1 : 1 ≤ g) (g2 : g ≤ 6) (hs : x.name.size ≤ maxLen) :
    Calls Tryz.prog 36 #[.agg #[.int .i64 x.kind, .int .i64 x.pos, .int .i64 x.n, .string x.name], .pointer (some ⟨bc, 0, none⟩), .pointer (some ⟨bn, 0, none⟩)] w fun e w' => e = .returned (.bool (!okE (gdF C) g x)) ∧ Grew w w' := by
  have HV := hid fun w' (hg : Grew w w') => widthM_any x bm nn C w' hs (hM.grew hg)
  have hr := wdE_range (gdF_range hC) x
  have HO : Hid (okE (gdF C) g x = (decide (wdE (gdF C) x ≠ 0) && decide (1 ≤ x.pos ∧ x.pos ≤ g - wdE (gdF C) x + 1))) := rfl
  obtain ⟨R, hR⟩ : ∃ R, okE (gdF C) g x = R := ⟨_, rfl⟩
  obtain ⟨W, hW⟩ : ∃ W, wdE (gdF C) x = W := ⟨_, rfl⟩
  rw [hW] at HV hr HO
  rw [hR] at HO ⊢
  obtain ⟨r1, r2⟩ := hr
  clear hR hW hM hC hs
  by_cases h0 : W = 0
  · subst h0
    have HR := hid (show R = false by rw [HO.out]; simp)
    clear r1 r2 hcn hbn g1 g2
    have hbc1 := fun m0 : Nat => Nat.lt_add_right m0 (hbc)
    have hbc2 := fun m0 m1 : Nat => Nat.lt_add_right m1 (hbc1 m0)
    have hbc3 := fun m0 m1 m2 : Nat => Nat.lt_add_right m2 (hbc2 m0 m1)
    go_enter Tryz.func36, Tryz.ntmps36
    go_wp2_with fail
    refine (HV.out _ (by repeat (first | exact Grew.refl _ | refine Grew.drewN ?_ _ | refine Grew.grow ?_ _ | refine Grew.alloc ?_ _ | refine Grew.drew ?_))).mono ?_
    rintro e w' ⟨rfl, g', n, rfl⟩
    go_wp2_with fail
    go_ret
    exact ⟨by rw [HR.out]; rfl, (by repeat (first | exact Grew.refl _ | refine Grew.drewN ?_ _ | refine Grew.grow ?_ _ | refine Grew.alloc ?_ _ | refine Grew.drew ?_))⟩
  · have e0 : (W == 0) = false := by simpa using h0
    have HR := hid (show R = decide (1 ≤ x.pos ∧ x.pos ≤ g - W + 1) by rw [HO.out, decide_eq_true h0, Bool.true_and])
    have HM := hid fun w => mbtw_any 1 x.pos (g - W + 1) w
    clear h0 HO
    have hbc1 := fun m0 : Nat => Nat.lt_add_right m0 (hbc)
    have hbc2 := fun m0 m1 : Nat => Nat.lt_add_right m1 (hbc1 m0)
    have hbc3 := fun m0 m1 m2 : Nat => Nat.lt_add_right m2 (hbc2 m0 m1)
    have hbn1 := fun m0 : Nat => Nat.lt_add_right m0 (hbn)
    have hbn2 := fun m0 m1 : Nat => Nat.lt_add_right m1 (hbn1 m0)
    have hbn3 := fun m0 m1 m2 : Nat => Nat.lt_add_right m2 (hbn2 m0 m1)
    go_enter Tryz.func36, Tryz.ntmps36
    go_wp2_with fail
    refine (HV.out _ (by repeat (first | exact Grew.refl _ | refine Grew.drewN ?_ _ | refine Grew.grow ?_ _ | refine Grew.alloc ?_ _ | refine Grew.drew ?_))).mono ?_
    rintro e w' ⟨rfl, g', n, rfl⟩
    go_wp2_with fail
    refine (HM.out _).mono ?_
    rintro e w' ⟨rfl, g3, n3, rfl⟩
    go_wp2_with fail
    go_ret
    exact ⟨by rw [HR.out, Bool.decide_and, Bool.not_and]; rfl, (by repeat (first | exact Grew.refl _ | refine Grew.drewN ?_ _ | refine Grew.grow ?_ _ | refine Grew.alloc ?_ _ | refine Grew.drew ?_))⟩

set_option maxHeartbeats 800000 in
theorem idxM_any (g : Int) (a0 : Option Addr) (cap : Nat) (l : List It) (bc bn : Nat) (w : World) (hl : l.length ≤ 9223372036854775807) (hc : Its w a0 l) (bm nn : Nat) (C : List Cl) (hbc : bc < w.heap.size) (hbn : bn < w.heap.size) (hcc : w.cell? ⟨bc, 0, none⟩ = some (.map (some bm))) (hcn : w.cell? ⟨bn, 0, none⟩ = some (.int .i64 g)) (hM : MapV w bm nn (gdV C)) (hC : Gds C) (g1 : 1 ≤ g) (g2 : g ≤ 6) (hs : ∀ x ∈ l, x.name.size ≤ maxLen) :
    Calls Tryz.prog 55 #[.slice a0 l.length cap, .func (.func 36) #[] #[.pointer (some ⟨bc, 0, none⟩), .pointer (some ⟨bn, 0, none⟩)]] w (IdxI (okEs (gdF C) g l) w) := by
  have HC := hid hc
  have HP := hid fun (x : It) (w' : World) (hg : Grew w w') (hx : x ∈ l) => fitM_any g x bc bn w' bm nn C (Nat.lt_of_lt_of_le hbc hg.size) (Nat.lt_of_lt_of_le hbn hg.size) ((hg.cell hbc _).trans hcc) ((hg.cell hbn _).trans hcn) (hM.grew hg) hC g1 g2 (hs x hx)
  obtain ⟨Fn, hF⟩ : ∃ F, gdF C = F := ⟨_, rfl⟩
  rw [hF] at HP ⊢
  clear hc hbc hbn hcc hcn g1 g2 hM hC hs hF
  go_enter Tryz.func55, Tryz.ntmps55
  go_wp2_with fail
  go_loopw [8] (fun n wr => ∃ i : Nat, i ≤ l.length ∧ n = .int .i64 i ∧ Hid (okEs Fn g (l.take i) = true) ∧ Grew w wr) (fun n _ => l.length - (intOf n).toNat)
  case atStart => exact ⟨0, Nat.zero_le _, rfl, rfl, Grew.refl _⟩
  case round =>
    obtain ⟨i, hi, rfl, hp, g', n, rfl⟩ := hrel
    by_cases hlt : i < l.length
    · obtain ⟨z, hz⟩ : ∃ z, l[i]? = some z := ⟨l[i], List.getElem?_eq_getElem hlt⟩
      obtain ⟨b, off, rfl, hb, c0, c1, c2, c3⟩ := HC.out.cells hz
      have hb1 := fun m0 : Nat => Nat.lt_add_right m0 (hb)
      have hb2 := fun m0 m1 : Nat => Nat.lt_add_right m1 (hb1 m0)
      have hb3 := fun m0 m1 m2 : Nat => Nat.lt_add_right m2 (hb2 m0 m1)
      have hb4 := fun m0 m1 m2 m3 : Nat => Nat.lt_add_right m3 (hb3 m0 m1 m2)
      have hb5 := fun m0 m1 m2 m3 m4 : Nat => Nat.lt_add_right m4 (hb4 m0 m1 m2 m3)
      have Hz := hid hz
      clear hz
      go_wp2_with fail
      refine (HP.out z _ (by repeat (first | exact Grew.refl _ | refine Grew.drewN ?_ _ | refine Grew.grow ?_ _ | refine Grew.alloc ?_ _ | refine Grew.drew ?_)) (List.mem_of_getElem? Hz.out)).mono ?_
      rintro e w' ⟨rfl, g1, n1, rfl⟩
      by_cases hv : okE Fn g z = true
      · rw [hv]
        have Hv := hid hv
        clear hv
        go_wp2_with fail
        go_roundw
        case rel => exact ⟨i + 1, by omega, by go_num, okEs_step Hz.out Hv.out hp.out, (by repeat (first | exact Grew.refl _ | refine Grew.drewN ?_ _ | refine Grew.grow ?_ _ | refine Grew.alloc ?_ _ | refine Grew.drew ?_))⟩
        case measure => simp [intOf]; omega
      · have Hv : Hid (okEs Fn g l = false) := okEs_cut Hz.out (by simpa using hv)
        rw [show okE Fn g z = false by simpa using hv]
        clear hv
        go_wp2_with fail
        go_ret
        exact ⟨⟨i, rfl, by rw [Hv.out]; simp⟩, (by repeat (first | exact Grew.refl _ | refine Grew.drewN ?_ _ | refine Grew.grow ?_ _ | refine Grew.alloc ?_ _ | refine Grew.drew ?_))⟩
    · obtain rfl : i = l.length := by omega
      have hp' : Hid (okEs Fn g l = true) := by have := hp.out; rw [List.take_length] at this; exact this
      clear hp
      go_wp2_with fail
      go_ret
      exact ⟨⟨-1, rfl, by rw [hp'.out]; rfl⟩, (by repeat (first | exact Grew.refl _ | refine Grew.drewN ?_ _ | refine Grew.grow ?_ _ | refine Grew.alloc ?_ _ | refine Grew.drew ?_))⟩

set_option maxHeartbeats 800000 in
theorem hasM_any (g : Int) (a0 : Option Addr) (cap : Nat) (l : List It) (bc bn : Nat) (w : World) (hl : l.length ≤ 9223372036854775807) (hc : Its w a0 l) (bm nn : Nat) (C : List Cl) (hbc : bc < w.heap.size) (hbn : bn < w.heap.size) (hcc : w.cell? ⟨bc, 0, none⟩ = some (.map (some bm))) (hcn : w.cell? ⟨bn, 0, none⟩ = some (.int .i64 g)) (hM : MapV w bm nn (gdV C)) (hC : Gds C) (g1 : 1 ≤ g) (g2 : g ≤ 6) (hs : ∀ x ∈ l, x.name.size ≤ maxLen) :
    Calls Tryz.prog 35 #[.slice a0 l.length cap, .func (.func 36) #[] #[.pointer (some ⟨bc, 0, none⟩), .pointer (some ⟨bn, 0, none⟩)]] w fun e w' => e = .returned (.bool (!okEs (gdF C) g l)) ∧ Grew w w' := by
  have HI := hid fun w' (hg : Grew w w') => idxM_any g a0 cap l bc bn w' hl (hc.grew hg) bm nn C (Nat.lt_of_lt_of_le hbc hg.size) (Nat.lt_of_lt_of_le hbn hg.size) ((hg.cell hbc _).trans hcc) ((hg.cell hbn _).trans hcn) (hM.grew hg) hC g1 g2 hs
  clear hc hbc hbn hcc hcn g1 g2 hM hC hs
  go_enter Tryz.func35, Tryz.ntmps35
  go_wp2_with fail
  refine (HI.out _ (by repeat (first | exact Grew.refl _ | refine Grew.drewN ?_ _ | refine Grew.grow ?_ _ | refine Grew.alloc ?_ _ | refine Grew.drew ?_))).mono ?_
  rintro e w' ⟨⟨r, rfl, hr⟩, g', n, rfl⟩
  have HR := hid hr
  clear hr
  go_wp2_with fail
  go_ret
  exact ⟨by rw [← HR.out]; rfl, (by repeat (first | exact Grew.refl _ | refine Grew.drewN ?_ _ | refine Grew.grow ?_ _ | refine Grew.alloc ?_ _ | refine Grew.drew ?_))⟩

set_option maxHeartbeats 800000 in
theorem fitsM_any (g : Int) (a0 : Option Addr) (cap : Nat) (l : List It) (bm nn : Nat) (C : List Cl) (w : World) (hl : l.length ≤ 9223372036854775807) (hc : Its w a0 l) (hM : MapV w bm nn (gdV C)) (hC : Gds C) (g1 : 1 ≤ g) (g2 : g ≤ 6) (hs : ∀ x ∈ l, x.name.size ≤ maxLen) :
    Calls Tryz.prog 18 #[.int .i64 g, .slice a0 l.length cap, .map (some bm)] w fun e w' => e = .returned (.bool (okEs (gdF C) g l)) ∧ Grew w w' := by
  have HI := hid fun (bc bn : Nat) w' (hg : Grew w w') h1 h2 h3 h4 => hasM_any g a0 cap l bc bn w' hl (hc.grew hg) bm nn C h1 h2 h3 h4 (hM.grew hg) hC g1 g2 hs
  clear hc hM hC hs
  go_enter Tryz.func18, Tryz.ntmps18
  go_wp2_with fail
  refine (HI.out _ _ _ (by repeat (first | exact Grew.refl _ | refine Grew.drewN ?_ _ | refine Grew.grow ?_ _ | refine Grew.alloc ?_ _ | refine Grew.drew ?_)) (by simp <;> omega) (by simp <;> omega) (by simp [go_sem]) (by simp [go_sem])).mono ?_
  rintro e w' ⟨rfl, g', n, rfl⟩
  go_wp2_with fail
  go_ret
  exact ⟨by simp, (by repeat (first | exact Grew.refl _ | refine Grew.drewN ?_ _ | refine Grew.grow ?_ _ | refine Grew.alloc ?_ _ | refine Grew.drew ?_))⟩

end Go.Proofs.YtdomlnhgafielaaGreatDoor
