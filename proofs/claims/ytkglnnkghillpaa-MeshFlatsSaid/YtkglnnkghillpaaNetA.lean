/- Layer 3: names of cells. No condition. -/
import Derived.Test.YtkglnnkghillpaaMshA
import Derived.Test.YtkglnnkghillpaaMshNet
import Derived.Test.YtkglnnkghillpaaMshE
import Derived.Laws.IdiomStrings
namespace Go.Proofs.Ytkglnnkghillpaa
open Go Go.RowKit Amp Msh

/-- Bytes, nil or in memory. -/
def Bys (w : World) (a0 : Option Addr) (l : List UInt8) : Prop := l = [] ∨ ∃ b off : Nat, a0 = some ⟨b, off, none⟩ ∧ b < w.heap.size ∧ ∀ i z, l[i]? = some z → w.cell? ⟨b, off + i, none⟩ = some (.int .u8 z.toNat)
theorem Bys.grew {w w' : World} {a0 : Option Addr} {l : List UInt8} (h : Bys w a0 l) (hg : Grew w w') : Bys w' a0 l := by
  rcases h with h | ⟨b, off, h, hb, hc⟩
  · exact .inl h
  · exact .inr ⟨b, off, h, Nat.lt_of_lt_of_le hb hg.size, fun i z hz => (hg.cell hb _).trans (hc i z hz)⟩
theorem Bys.cells {w : World} {a0 : Option Addr} {l : List UInt8} {i : Nat} {z : UInt8} (h : Bys w a0 l) (hz : l[i]? = some z) : ∃ b off : Nat, a0 = some ⟨b, off, none⟩ ∧ b < w.heap.size ∧ w.cell? ⟨b, off + i, none⟩ = some (.int .u8 z.toNat) := by
  rcases h with rfl | ⟨b, off, h, hb, hc⟩
  · simp at hz
  · exact ⟨b, off, h, hb, hc i z hz⟩
/-- The world behind a text's turning into bytes. -/
def bysW (w : World) (s : ByteArray) : World := w.drew.alloc (.cells (bytesRow s (grownCap w s.size 0 5)) 5 ((bytesRow s (grownCap w s.size 0 5)).size, (bytesRow s (grownCap w s.size 0 5)).size + 1))
theorem bysW_grew (w : World) (s : ByteArray) : Grew w (bysW w s) := (Grew.refl w).drew.alloc _
theorem bysW_run (w : World) (s : ByteArray) : (convert 9 140 (.string s)).run Try.prog w = .ok (.slice (some ⟨w.heap.size, 0, none⟩) s.size (grownCap w s.size 0 5)) (bysW w s) :=
  run_bytes_of_string w 9 140 5 s Try.underlying9 Try.underlying140 Try.underlying5
theorem bysW_bys (w : World) (s : ByteArray) : Bys (bysW w s) (some ⟨w.heap.size, 0, none⟩) s.data.toList := by
  have hb : (bysW w s).heap[w.heap.size]? = some (.cells (bytesRow s (grownCap w s.size 0 5)) 5 ((bytesRow s (grownCap w s.size 0 5)).size, (bytesRow s (grownCap w s.size 0 5)).size + 1)) := by
    show (w.heap.push _)[w.heap.size]? = _
    simp
  refine .inr ⟨_, 0, rfl, (Array.getElem?_eq_some_iff.1 hb).1, fun i z hz => ?_⟩
  rw [Array.getElem?_toList] at hz
  obtain ⟨hi, rfl⟩ := Array.getElem?_eq_some_iff.1 hz
  rw [Nat.zero_add]
  simp only [World.cell?, hb]
  exact bytesRow_at s _ i hi
def allB (l : List UInt8) : Bool := l.all letB
theorem allB_step {l : List UInt8} {i : Nat} {z : UInt8} (h : l[i]? = some z) (hz : letB z = true) (hp : allB (l.take i) = true) : allB (l.take (i + 1)) = true := by
  unfold allB at *
  rw [List.take_add_one, h, List.all_append, hp]
  simp [hz]
theorem allB_cut {l : List UInt8} {i : Nat} {z : UInt8} (h : l[i]? = some z) (hz : letB z = false) : allB l = false := by
  unfold allB
  rw [List.all_eq_false]
  exact ⟨z, List.mem_of_getElem? h, by rw [hz]; exact Bool.false_ne_true⟩

set_option maxHeartbeats 800000 in
theorem nameP_any (z : UInt8) (w : World) :
    Calls Try.prog 116 #[.int .u8 z.toNat] w fun e w' => e = .returned (.bool (!letB z)) ∧ Grew w w' := by
  have hz : letB z = (decide (97 ≤ z.toNat) && decide (z.toNat ≤ 122)) := rfl
  rw [hz]
  obtain ⟨m, hm⟩ : ∃ m, z.toNat = m := ⟨_, rfl⟩
  rw [hm]
  clear hz hm
  by_cases h1 : 97 ≤ m
  case neg =>
    have e1 : decide ((m : Int) < 97) = true := decide_eq_true (by omega)
    rw [decide_eq_false h1]
    clear h1
    go_enter Try.func116, Try.ntmps116
    go_wp2_with fail
    go_ret
    exact ⟨rfl, (by repeat (first | exact Grew.refl _ | refine Grew.drewN ?_ _ | refine Grew.grow ?_ _ | refine Grew.alloc ?_ _ | refine Grew.drew ?_))⟩
  have e1 : decide ((m : Int) < 97) = false := decide_eq_false (by omega)
  rw [decide_eq_true h1]
  by_cases h2 : m ≤ 122
  · have e2 : decide ((122 : Int) < m) = false := decide_eq_false (by omega)
    rw [decide_eq_true h2]
    clear h1 h2
    go_enter Try.func116, Try.ntmps116
    go_wp2_with fail
    go_ret
    exact ⟨rfl, (by repeat (first | exact Grew.refl _ | refine Grew.drewN ?_ _ | refine Grew.grow ?_ _ | refine Grew.alloc ?_ _ | refine Grew.drew ?_))⟩
  · have e2 : decide ((122 : Int) < m) = true := decide_eq_true (by omega)
    rw [decide_eq_false h2]
    clear h1 h2
    go_enter Try.func116, Try.ntmps116
    go_wp2_with fail
    go_ret
    exact ⟨rfl, (by repeat (first | exact Grew.refl _ | refine Grew.drewN ?_ _ | refine Grew.grow ?_ _ | refine Grew.alloc ?_ _ | refine Grew.drew ?_))⟩

set_option maxHeartbeats 800000 in
theorem idxB_any (a0 : Option Addr) (cap : Nat) (l : List UInt8) (w : World) (hl : l.length ≤ 9223372036854775807) (hc : Bys w a0 l) :
    Calls Try.prog 125 #[.slice a0 l.length cap, .func (.func 116) #[] #[]] w (IdxI (allB l) w) := by
  have HC := hid hc
  clear hc
  go_enter Try.func125, Try.ntmps125
  go_wp2_with fail
  go_loopw [8] (fun n wr => ∃ i : Nat, i ≤ l.length ∧ n = .int .i64 i ∧ Hid (allB (l.take i) = true) ∧ Grew w wr) (fun n _ => l.length - (intOf n).toNat)
  case atStart => exact ⟨0, Nat.zero_le _, rfl, rfl, Grew.refl _⟩
  case round =>
    obtain ⟨i, hi, rfl, hp, g', n, rfl⟩ := hrel
    by_cases hlt : i < l.length
    · obtain ⟨z, hz⟩ : ∃ z, l[i]? = some z := ⟨l[i], List.getElem?_eq_getElem hlt⟩
      obtain ⟨b, off, rfl, hb, c0⟩ := HC.out.cells hz
      have hb1 := fun m0 : Nat => Nat.lt_add_right m0 (hb)
      have hb2 := fun m0 m1 : Nat => Nat.lt_add_right m1 (hb1 m0)
      have hb3 := fun m0 m1 m2 : Nat => Nat.lt_add_right m2 (hb2 m0 m1)
      have Hz := hid hz
      clear hz
      go_wp2_with fail
      refine (nameP_any z _).mono ?_
      rintro e w' ⟨rfl, g1, n1, rfl⟩
      by_cases hv : letB z = true
      · rw [hv]
        have Hv := hid hv
        clear hv
        go_wp2_with fail
        go_roundw
        case rel => exact ⟨i + 1, by omega, by go_num, allB_step Hz.out Hv.out hp.out, (by repeat (first | exact Grew.refl _ | refine Grew.drewN ?_ _ | refine Grew.grow ?_ _ | refine Grew.alloc ?_ _ | refine Grew.drew ?_))⟩
        case measure => simp [intOf]; omega
      · have Hv : Hid (allB l = false) := allB_cut Hz.out (by simpa using hv)
        rw [show letB z = false by simpa using hv]
        clear hv
        go_wp2_with fail
        go_ret
        exact ⟨⟨i, rfl, by rw [Hv.out]; simp⟩, (by repeat (first | exact Grew.refl _ | refine Grew.drewN ?_ _ | refine Grew.grow ?_ _ | refine Grew.alloc ?_ _ | refine Grew.drew ?_))⟩
    · obtain rfl : i = l.length := by omega
      have hp' : Hid (allB l = true) := by have := hp.out; rw [List.take_length] at this; exact this
      clear hp
      go_wp2_with fail
      go_ret
      exact ⟨⟨-1, rfl, by rw [hp'.out]; rfl⟩, (by repeat (first | exact Grew.refl _ | refine Grew.drewN ?_ _ | refine Grew.grow ?_ _ | refine Grew.alloc ?_ _ | refine Grew.drew ?_))⟩

set_option maxHeartbeats 800000 in
theorem hasB_any (a0 : Option Addr) (cap : Nat) (l : List UInt8) (w : World) (hl : l.length ≤ 9223372036854775807) (hc : Bys w a0 l) :
    Calls Try.prog 115 #[.slice a0 l.length cap, .func (.func 116) #[] #[]] w fun e w' => e = .returned (.bool (!allB l)) ∧ Grew w w' := by
  have HI := hid fun w' (hg : Grew w w') => idxB_any a0 cap l w' hl (hc.grew hg)
  clear hc
  go_enter Try.func115, Try.ntmps115
  go_wp2_with fail
  refine (HI.out _ (by repeat (first | exact Grew.refl _ | refine Grew.drewN ?_ _ | refine Grew.grow ?_ _ | refine Grew.alloc ?_ _ | refine Grew.drew ?_))).mono ?_
  rintro e w' ⟨⟨r, rfl, hr⟩, g', n, rfl⟩
  have HR := hid hr
  clear hr
  go_wp2_with fail
  go_ret
  exact ⟨by rw [← HR.out]; rfl, (by repeat (first | exact Grew.refl _ | refine Grew.drewN ?_ _ | refine Grew.grow ?_ _ | refine Grew.alloc ?_ _ | refine Grew.drew ?_))⟩

set_option maxHeartbeats 800000 in
theorem name_any (s : ByteArray) (w : World) (hs : s.size ≤ 9223372036854775807) :
    Calls Try.prog 89 #[.string s] w fun e w' => e = .returned (.bool (nameB s)) ∧ Grew w w' := by
  have hv : nameB s = (decide (1 ≤ s.size ∧ s.size ≤ 8) && allB s.data.toList) := rfl
  rw [hv]
  have HM := hid fun w => mbtw_any 1 s.size 8 w
  by_cases hg : 1 ≤ s.size ∧ s.size ≤ 8
  case neg =>
    rw [decide_eq_false hg]
    rw [decide_eq_false (show ¬ ((1 : Int) ≤ s.size ∧ (s.size : Int) ≤ 8) by omega)] at HM
    clear hg hv
    go_enter Try.func89, Try.ntmps89
    go_wp2_with fail
    refine (HM.out _).mono ?_
    rintro e w' ⟨rfl, g', n, rfl⟩
    go_wp2_with fail
    go_ret
    exact ⟨rfl, (by repeat (first | exact Grew.refl _ | refine Grew.drewN ?_ _ | refine Grew.grow ?_ _ | refine Grew.alloc ?_ _ | refine Grew.drew ?_))⟩
  rw [decide_eq_true hg, Bool.true_and]
  rw [decide_eq_true (show ((1 : Int) ≤ s.size ∧ (s.size : Int) ≤ 8) by omega)] at HM
  have hlen : s.data.toList.length = s.size := by simp
  have HCV := fun w' => bysW_run w' s
  have HAS := hid fun (w' : World) (b c : Nat) (hb : b = w'.heap.size) => hasB_any (some ⟨b, 0, none⟩) c s.data.toList (bysW w' s) (by omega) (by rw [hb]; exact bysW_bys w' s)
  obtain ⟨L, hL⟩ : ∃ L, s.data.toList = L := ⟨_, rfl⟩
  rw [hL] at HAS hlen ⊢
  rw [hlen] at HAS
  clear hL hlen hg hv
  go_enter Try.func89, Try.ntmps89
  go_wp2_with fail
  refine (HM.out _).mono ?_
  rintro e w' ⟨rfl, g', n, rfl⟩
  go_wp2_with fail
  refine (HAS.out _ _ _ (by simp [go_sem])).mono ?_
  rintro e w' ⟨rfl, hg⟩
  have HG := hid hg
  clear hg
  go_wp2_with fail
  go_ret
  exact ⟨by simp, ((Grew.refl w).grow _ |>.drewN _ |>.trans (bysW_grew _ _)).trans (HG.out.trans (by repeat (first | exact Grew.refl _ | refine Grew.drewN ?_ _ | refine Grew.grow ?_ _ | refine Grew.alloc ?_ _ | refine Grew.drew ?_)))⟩

set_option maxHeartbeats 800000 in
theorem isName_any (s : ByteArray) (w : World) (hs : s.size ≤ 9223372036854775807) :
    Calls Try.prog 90 #[.string s] w fun e w' => e = .returned (.bool (nameB s)) ∧ Grew w w' := by
  have HV : Hid (nameB s = (decide (1 ≤ s.size ∧ s.size ≤ 8) && allB s.data.toList)) := rfl
  obtain ⟨R, hR⟩ : ∃ R, nameB s = R := ⟨_, rfl⟩
  rw [hR] at HV ⊢
  clear hR
  go_enter Try.func90, Try.ntmps90
  go_wp2_with fail
  go_loopw [6] (fun n wr => ∃ i : Nat, i ≤ s.size ∧ n = .int .i64 i ∧ Hid (allB (s.data.toList.take i) = true) ∧ Grew w wr) (fun n _ => s.size - (intOf n).toNat)
  case atStart => exact ⟨0, Nat.zero_le _, rfl, rfl, Grew.refl _⟩
  case round =>
    obtain ⟨i, hi, rfl, hp, hg⟩ := hrel
    by_cases hlt : i < s.size
    · have hz : s.data.toList[i]? = some s[i] := by
        rw [Array.getElem?_toList]
        exact Array.getElem?_eq_getElem hlt
      obtain ⟨z, hz1⟩ : ∃ z, s[i] = z := ⟨_, rfl⟩
      rw [hz1] at hz
      have HIX : ∀ w', (Instr.index 9 (.string s) (.int .i64 i)).run Try.prog w' = .ok (.int .u8 z.toNat) w' := fun w' => by
        rw [run_index_string (P := Try.prog) w' _ _ _ _ Try.underlying9, dif_pos ⟨by omega, by omega⟩]
        simp only [Int.toNat_natCast, hz1]
      obtain ⟨m, hm⟩ : ∃ m, z.toNat = m := ⟨_, rfl⟩
      have hlz : letB z = (decide (97 ≤ m) && decide (m ≤ 122)) := by rw [← hm]; rfl
      rw [hm] at HIX
      have Hz := hid hz
      have HG := hid hg
      clear hz hz1 hg hm
      by_cases hv : 97 ≤ m ∧ m ≤ 122
      · have e1 : decide ((m : Int) < 97) = false := decide_eq_false (by omega)
        have e2 : decide ((122 : Int) < m) = false := decide_eq_false (by omega)
        have Hv : Hid (letB z = true) := hid (by rw [hlz, decide_eq_true hv.1, decide_eq_true hv.2]; rfl)
        clear hv hlz
        go_wp2_with fail
        go_roundw
        case rel => exact ⟨i + 1, by omega, by go_num, allB_step Hz.out Hv.out hp.out, HG.out.trans (by repeat (first | exact Grew.refl _ | refine Grew.drewN ?_ _ | refine Grew.grow ?_ _ | refine Grew.alloc ?_ _ | refine Grew.drew ?_))⟩
        case measure => simp [intOf]; omega
      · have Hv : Hid (R = false) := hid (by
          rw [HV.out, allB_cut Hz.out (by rw [hlz, ← Bool.decide_and]; exact decide_eq_false hv), Bool.and_false])
        by_cases h1 : 97 ≤ m
        · have e1 : decide ((m : Int) < 97) = false := decide_eq_false (by omega)
          have e2 : decide ((122 : Int) < m) = true := decide_eq_true (by omega)
          clear hv hlz h1
          go_wp2_with fail
          go_ret
          exact ⟨by rw [Hv.out]; rfl, HG.out.trans (by repeat (first | exact Grew.refl _ | refine Grew.drewN ?_ _ | refine Grew.grow ?_ _ | refine Grew.alloc ?_ _ | refine Grew.drew ?_))⟩
        · have e1 : decide ((m : Int) < 97) = true := decide_eq_true (by omega)
          clear hv hlz h1
          go_wp2_with fail
          go_ret
          exact ⟨by rw [Hv.out]; rfl, HG.out.trans (by repeat (first | exact Grew.refl _ | refine Grew.drewN ?_ _ | refine Grew.grow ?_ _ | refine Grew.alloc ?_ _ | refine Grew.drew ?_))⟩
    · obtain rfl : i = s.size := by omega
      have hp' : allB s.data.toList = true := by
        have := hp.out
        rwa [List.take_of_length_le (by simp)] at this
      have HG := hid hg
      have HV2 := HV.out
      rw [hp', Bool.and_true] at HV2
      clear hp hp' hg
      by_cases h1 : 1 ≤ s.size
      · by_cases h2 : s.size ≤ 8
        · have Hv : Hid (R = true) := hid (by rw [HV2, decide_eq_true ⟨h1, h2⟩])
          have e1 : decide ((1 : Int) ≤ s.size) = true := decide_eq_true (by omega)
          have e2 : decide ((s.size : Int) ≤ 8) = true := decide_eq_true (by omega)
          clear HV2 h1 h2
          go_wp2_with fail
          go_ret
          exact ⟨by rw [Hv.out]; rfl, HG.out.trans (by repeat (first | exact Grew.refl _ | refine Grew.drewN ?_ _ | refine Grew.grow ?_ _ | refine Grew.alloc ?_ _ | refine Grew.drew ?_))⟩
        · have Hv : Hid (R = false) := hid (by rw [HV2, decide_eq_false (fun h => h2 h.2)])
          have e1 : decide ((1 : Int) ≤ s.size) = true := decide_eq_true (by omega)
          have e2 : decide ((s.size : Int) ≤ 8) = false := decide_eq_false (by omega)
          clear HV2 h1 h2
          go_wp2_with fail
          go_ret
          exact ⟨by rw [Hv.out]; rfl, HG.out.trans (by repeat (first | exact Grew.refl _ | refine Grew.drewN ?_ _ | refine Grew.grow ?_ _ | refine Grew.alloc ?_ _ | refine Grew.drew ?_))⟩
      · have Hv : Hid (R = false) := hid (by rw [HV2, decide_eq_false (fun h => h1 h.1)])
        have e1 : decide ((1 : Int) ≤ s.size) = false := decide_eq_false (by omega)
        clear HV2 h1
        go_wp2_with fail
        go_ret
        exact ⟨by rw [Hv.out]; rfl, HG.out.trans (by repeat (first | exact Grew.refl _ | refine Grew.drewN ?_ _ | refine Grew.grow ?_ _ | refine Grew.alloc ?_ _ | refine Grew.drew ?_))⟩

end Go.Proofs.Ytkglnnkghillpaa
