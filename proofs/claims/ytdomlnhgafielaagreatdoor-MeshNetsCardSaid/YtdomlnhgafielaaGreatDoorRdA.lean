/- The parts of a text, the number of a text of one or two digits: the reference. Condition: the text's length is within the reach. -/
import Derived.Test.YtdomlnhgafielaaGreatDoorLstA
import Derived.Test.YtdomlnhgafielaaGreatDoorRegion
import Derived.Test.YtdomlnhgafielaaGreatDoorHouseB
import Derived.Test.YtdomlnhgafielaaGreatDoorTxtA
namespace Go.Proofs.YtdomlnhgafielaaGreatDoor
open Go Go.RowKit Amp Msh

theorem split_step {c : UInt8} {l : List UInt8} {f i : Nat} (hf : f ≤ i) (hi : i < l.length) (hc : l.getD i 0 = c) (hn : c ∉ (l.drop f).take (i - f)) : spl c (l.drop f) = (l.take i).drop f :: spl c (l.drop (i + 1)) := by
  have e : l.drop f = (l.drop f).take (i - f) ++ c :: l.drop (i + 1) := by
    have h1 := (List.take_append_drop (i - f) (l.drop f)).symm
    rw [List.drop_drop, show f + (i - f) = i by omega, List.drop_eq_getElem_cons hi] at h1
    have h2 : l[i] = c := by rw [← hc, List.getD_eq_getElem?_getD, List.getElem?_eq_getElem hi]; rfl
    rw [h2] at h1
    exact h1
  rw [List.drop_take]
  conv => lhs; rw [e]
  exact spl_app hn
theorem split_on {c : UInt8} {l : List UInt8} {f i : Nat} (hf : f ≤ i) (hi : i < l.length) (hc : l.getD i 0 ≠ c) (hn : c ∉ (l.drop f).take (i - f)) : c ∉ (l.drop f).take (i + 1 - f) := by
  have hlt : i - f < (l.drop f).length := by rw [List.length_drop]; omega
  have h2 : (l.drop f)[i - f] = l.getD i 0 := by
    rw [List.getElem_drop, List.getD_eq_getElem?_getD, List.getElem?_eq_getElem hi]
    simp [show f + (i - f) = i by omega]
  rw [show i + 1 - f = (i - f) + 1 by omega, List.take_add_one, List.getElem?_eq_getElem hlt, h2]
  simp only [Option.toList_some, List.mem_append, List.mem_singleton, not_or]
  exact ⟨hn, fun e => hc e.symm⟩
theorem split_end {c : UInt8} {l : List UInt8} {f : Nat} (hn : c ∉ (l.drop f).take (l.length - f)) : spl c (l.drop f) = [l.drop f] := by
  rw [List.take_of_length_le (by rw [List.length_drop]; omega)] at hn
  exact spl_none hn
@[go_sem 100000] theorem run_str_sub (l : List UInt8) (f i : Nat) (w : World) (h1 : f ≤ i) (h : i ≤ l.length) : (Instr.sliceAt 9 (.string (strB l)) (some (.int .i64 (f : Int))) (some (.int .i64 (i : Int))) none).run Tryz.prog w = .ok (.string (strB ((l.take i).drop f))) w := by
  unfold Instr.sliceAt Instr.slice
  simp only [go_sem]
  simp [Instr.sliceBound, go_sem, strB_extract]
  rw [if_pos h, if_pos h1]
set_option maxRecDepth 100000 in
set_option maxHeartbeats 4000000 in
theorem split_any (c : UInt8) (l : List UInt8) (w : World) (hl : l.length ≤ 100000) :
    Calls Tryz.prog 27 #[.string (strB l), .int .u8 (c.toNat : Int)] w fun e w' => (∃ a k, e = .returned (.slice a (spl c l).length k) ∧ OwnS w' w.heap.size a k (spl c l)) ∧ Grew w w' := by
  have HL := hid hl
  obtain ⟨ci, hci⟩ : ∃ x : Int, (c.toNat : Int) = x := ⟨_, rfl⟩
  have HCI := hid hci
  rw [hci]
  clear hci
  have hl9 : l.length ≤ 9223372036854775806 := by omega
  clear hl
  go_enter Tryz.func27, Tryz.ntmps27
  go_wp2_with fail
  go_loopw [5, 6, 10] (fun v5 v6 v10 wr => ∃ (i f : Nat) (a : Option Addr) (k : Nat) (dn : List (List UInt8)), i ≤ l.length ∧ f ≤ i ∧ v5 = .slice a dn.length k ∧ v6 = .int .i64 f ∧ v10 = .int .i64 i ∧ Hid (OwnS wr w.heap.size a k dn) ∧ Hid (spl c l = dn ++ spl c (l.drop f)) ∧ Hid (c ∉ (l.drop f).take (i - f)) ∧ Hid (Grew w wr) ∧ Hid (dn.length ≤ f)) (fun _ _ v _ => l.length - (intOf v).toNat)
  case atStart => exact ⟨0, 0, none, 0, [], Nat.zero_le _, Nat.le_refl _, rfl, rfl, rfl, OwnS.nil _ _, rfl, by simp [Hid], Grew.refl _, Nat.le_refl _⟩
  case round =>
    obtain ⟨i, f, a, k, dn, hi, hf, rfl, rfl, rfl, HO, HS, HM, HG, HD⟩ := hrel
    by_cases hlt : i < l.length
    case pos =>
      by_cases hb : l.getD i 0 = c
      case pos =>
        have hbe : byteI l i = ci := by rw [← HCI.out, ← hb]; rfl
        have e1 : (byteI l i == ci) = true := by rw [hbe]; exact beq_self_eq_true _
        have HST := hid (split_step hf hlt hb HM.out)
        have HLT := hid hlt
        clear hb hbe
        go_wp2_with (at_builtin; go_loud (refine wpList_append_str rfl _ _ rfl w.heap.size a k dn rfl (HO.out.grew (by repeat (first | exact Grew.refl _ | refine Grew.drewN ?_ _ | refine Grew.grow ?_ _ | refine Grew.alloc ?_ _ | refine Grew.drew ?_))) wr.heap.size 1 ((l.take i).drop f) rfl (blk_new rfl) ?mx ?bs ?_))
        case mx => have := HD.out; have := HL.out; omega
        case bs => have := HG.out.size; simp; omega
        intro a2 k2 w2 hown hgrow hdr
        have HO2 := hid hown
        have HG2 := hid (Grew.by (HG.out.trans (by repeat (first | exact Grew.refl _ | refine Grew.drewN ?_ _ | refine Grew.grow ?_ _ | refine Grew.alloc ?_ _ | refine Grew.drew ?_))) hgrow hdr fun j hj => HO.out.above j hj)
        clear hown hgrow hdr
        go_wp2_with fail
        go_roundw
        case rel => exact ⟨i + 1, i + 1, a2, k2, dn ++ [(l.take i).drop f], by have := HLT.out; omega, Nat.le_refl _, by rw [List.length_append]; rfl, by go_num, by go_num, HO2, by rw [Hid, HS.out, HST.out, List.append_assoc]; rfl, by simp [Hid], HG2, by rw [Hid, List.length_append]; have := HD.out; simp; omega⟩
        case measure => have := HLT.out; simp [intOf]; omega
      case neg =>
        have hbe : ¬ byteI l i = ci := by
          rw [← HCI.out]
          unfold byteI
          intro e
          exact hb (UInt8.toNat_inj.1 (by omega))
        have e1 : (byteI l i == ci) = false := by simpa using hbe
        have HON := hid (split_on hf hlt hb HM.out)
        have HLT := hid hlt
        clear hb hbe
        go_wp2_with fail
        go_roundw
        case rel => exact ⟨i + 1, f, a, k, dn, by have := HLT.out; omega, by omega, rfl, rfl, by go_num, HO, HS, HON, HG, HD⟩
        case measure => have := HLT.out; simp [intOf]; omega
    case neg =>
      obtain rfl : i = l.length := by omega
      have HE := hid (split_end HM.out)
      clear hlt
      go_wp2_with (at_builtin; go_loud (refine wpList_append_str rfl _ _ rfl w.heap.size a k dn rfl (HO.out.grew (by repeat (first | exact Grew.refl _ | refine Grew.drewN ?_ _ | refine Grew.grow ?_ _ | refine Grew.alloc ?_ _ | refine Grew.drew ?_))) wr.heap.size 1 (l.drop f) rfl (blk_new rfl) ?my ?bt ?_))
      case my => have := HD.out; have := HL.out; omega
      case bt => have := HG.out.size; simp; omega
      intro a2 k2 w2 hown hgrow hdr
      have HO2 := hid hown
      have HG2 := hid (Grew.by (HG.out.trans (by repeat (first | exact Grew.refl _ | refine Grew.drewN ?_ _ | refine Grew.grow ?_ _ | refine Grew.alloc ?_ _ | refine Grew.drew ?_))) hgrow hdr fun j hj => HO.out.above j hj)
      clear hown hgrow hdr
      go_wp2_with fail
      go_ret
      have e : spl c l = dn ++ [l.drop f] := by rw [HS.out, HE.out]
      rw [e]
      exact ⟨⟨a2, k2, by rw [show (dn ++ [l.drop f]).length = dn.length + 1 by simp]; rfl, HO2.out⟩, HG2.out⟩
theorem split_10 (l : List UInt8) (w : World) (hl : l.length ≤ 100000) :
    Calls Tryz.prog 27 #[.string (strB l), .int .u8 10] w fun e w' => (∃ a k, e = .returned (.slice a (spl 10 l).length k) ∧ OwnS w' w.heap.size a k (spl 10 l)) ∧ Grew w w' := split_any 10 l w hl
theorem split_32 (l : List UInt8) (w : World) (hl : l.length ≤ 100000) :
    Calls Tryz.prog 27 #[.string (strB l), .int .u8 32] w fun e w' => (∃ a k, e = .returned (.slice a (spl 32 l).length k) ∧ OwnS w' w.heap.size a k (spl 32 l)) ∧ Grew w w' := split_any 32 l w hl
theorem split_58 (l : List UInt8) (w : World) (hl : l.length ≤ 100000) :
    Calls Tryz.prog 27 #[.string (strB l), .int .u8 58] w fun e w' => (∃ a k, e = .returned (.slice a (spl 58 l).length k) ∧ OwnS w' w.heap.size a k (spl 58 l)) ∧ Grew w w' := split_any 58 l w hl
theorem split_59 (l : List UInt8) (w : World) (hl : l.length ≤ 100000) :
    Calls Tryz.prog 27 #[.string (strB l), .int .u8 59] w fun e w' => (∃ a k, e = .returned (.slice a (spl 59 l).length k) ∧ OwnS w' w.heap.size a k (spl 59 l)) ∧ Grew w w' := split_any 59 l w hl
theorem split_64 (l : List UInt8) (w : World) (hl : l.length ≤ 100000) :
    Calls Tryz.prog 27 #[.string (strB l), .int .u8 64] w fun e w' => (∃ a k, e = .returned (.slice a (spl 64 l).length k) ∧ OwnS w' w.heap.size a k (spl 64 l)) ∧ Grew w w' := split_any 64 l w hl
theorem dgI_num {c : UInt8} {m : Int} (hm : (c.toNat : Int) = m) : dgI c = m - 48 := by subst hm; rfl
@[go_sem 200000] theorem run_str_indexB1 (l : List UInt8) (w : World) (h : 1 < l.length) : (Instr.index 9 (.string (strB l)) (.int .i64 1)).run Tryz.prog w = .ok (.int .u8 (byteI l 1)) w := run_str_index l 1 w h
set_option maxRecDepth 100000 in
set_option maxHeartbeats 4000000 in
theorem small_one (x : UInt8) (w : World) : Calls Tryz.prog 50 #[.string (strB [x])] w fun e w' => e = .returned (.int .i64 (numR [x])) ∧ Grew w w' := by
  obtain ⟨n, hn⟩ : ∃ n : Int, (x.toNat : Int) = n := ⟨_, rfl⟩
  have hb := x.toNat_lt
  have hnb : 0 ≤ n ∧ n ≤ 255 := by omega
  have hd := dg_num hn
  have hb0 : byteI [x] 0 = n := hn
  have hl : ([x] : List UInt8).length = 1 := rfl
  have HN := hid (show numR [x] = if dgB x = true then n - 48 else -1 by rw [← dgI_num hn]; rfl)
  rw [hd] at HN
  obtain ⟨L, hL⟩ : ∃ L, [x] = L := ⟨_, rfl⟩
  rw [hL] at HN hb0 hl ⊢
  clear hL hd hb hn
  by_cases h1 : n < 48
  · have HN := hid (HN.out.trans (if_neg (by rw [decide_eq_false (show ¬ 48 ≤ n by omega)]; simp)))
    clear hnb
    go_enter Tryz.func50, Tryz.ntmps50
    go_wp2_with fail
    refine wp_loop_rounds 2 ?_
    iterate 2 (all_goals (try simp only [rounds_succ]); go_wp2_with fail)
    all_goals
      go_ret
      rw [HN.out]
      exact ⟨rfl, (by repeat (first | exact Grew.refl _ | refine Grew.drewN ?_ _ | refine Grew.grow ?_ _ | refine Grew.alloc ?_ _ | refine Grew.drew ?_))⟩
  by_cases h2 : 57 < n
  · have HN := hid (HN.out.trans (if_neg (by rw [decide_eq_false (show ¬ n ≤ 57 by omega)]; simp)))
    have h1' : 48 ≤ n := by omega
    clear hnb h1
    go_enter Tryz.func50, Tryz.ntmps50
    go_wp2_with fail
    refine wp_loop_rounds 2 ?_
    iterate 2 (all_goals (try simp only [rounds_succ]); go_wp2_with fail)
    all_goals
      go_ret
      rw [HN.out]
      exact ⟨rfl, (by repeat (first | exact Grew.refl _ | refine Grew.drewN ?_ _ | refine Grew.grow ?_ _ | refine Grew.alloc ?_ _ | refine Grew.drew ?_))⟩
  · have HN := hid (HN.out.trans (if_pos (by rw [decide_eq_true (show 48 ≤ n by omega), decide_eq_true (show n ≤ 57 by omega)]; rfl)))
    have h1' : 48 ≤ n := by omega
    have h2' : n ≤ 57 := by omega
    clear hnb h1 h2
    go_enter Tryz.func50, Tryz.ntmps50
    go_wp2_with fail
    refine wp_loop_rounds 2 ?_
    iterate 2 (all_goals (try simp only [rounds_succ]); go_wp2_with fail)
    all_goals
      go_ret
      rw [HN.out]
      exact ⟨rfl, (by repeat (first | exact Grew.refl _ | refine Grew.drewN ?_ _ | refine Grew.grow ?_ _ | refine Grew.alloc ?_ _ | refine Grew.drew ?_))⟩
set_option maxRecDepth 100000 in
set_option maxHeartbeats 4000000 in
theorem small_two (x y : UInt8) (w : World) : Calls Tryz.prog 50 #[.string (strB [x, y])] w fun e w' => e = .returned (.int .i64 (numR [x, y])) ∧ Grew w w' := by
  obtain ⟨n, hn⟩ : ∃ n : Int, (x.toNat : Int) = n := ⟨_, rfl⟩
  obtain ⟨m, hm⟩ : ∃ n : Int, (y.toNat : Int) = n := ⟨_, rfl⟩
  have hb := x.toNat_lt
  have hbm := y.toNat_lt
  have hnb : 0 ≤ n ∧ n ≤ 255 := by omega
  have hmb : 0 ≤ m ∧ m ≤ 255 := by omega
  have hdx := dg_num hn
  have hdy := dg_num hm
  have hb0 : byteI [x, y] 0 = n := hn
  have hb1 : byteI [x, y] 1 = m := hm
  have hl : ([x, y] : List UInt8).length = 2 := rfl
  have HN := hid (show numR [x, y] = if dgB x = true ∧ dgB y = true then 10 * (n - 48) + (m - 48) else -1 by rw [← dgI_num hn, ← dgI_num hm]; rfl)
  rw [hdx, hdy] at HN
  obtain ⟨L, hL⟩ : ∃ L, [x, y] = L := ⟨_, rfl⟩
  rw [hL] at HN hb0 hb1 hl ⊢
  clear hL hdx hdy hb hbm hn hm
  by_cases h1 : n < 48
  · have HN := hid (HN.out.trans (if_neg (by rw [decide_eq_false (show ¬ 48 ≤ n by omega)]; simp)))
    clear hnb hmb
    go_enter Tryz.func50, Tryz.ntmps50
    go_wp2_with fail
    refine wp_loop_rounds 3 ?_
    iterate 3 (all_goals (try simp only [rounds_succ]); go_wp2_with fail)
    all_goals
      go_ret
      rw [HN.out]
      exact ⟨rfl, (by repeat (first | exact Grew.refl _ | refine Grew.drewN ?_ _ | refine Grew.grow ?_ _ | refine Grew.alloc ?_ _ | refine Grew.drew ?_))⟩
  by_cases h2 : 57 < n
  · have HN := hid (HN.out.trans (if_neg (by rw [decide_eq_false (show ¬ n ≤ 57 by omega)]; simp)))
    have h1' : 48 ≤ n := by omega
    clear hnb hmb h1
    go_enter Tryz.func50, Tryz.ntmps50
    go_wp2_with fail
    refine wp_loop_rounds 3 ?_
    iterate 3 (all_goals (try simp only [rounds_succ]); go_wp2_with fail)
    all_goals
      go_ret
      rw [HN.out]
      exact ⟨rfl, (by repeat (first | exact Grew.refl _ | refine Grew.drewN ?_ _ | refine Grew.grow ?_ _ | refine Grew.alloc ?_ _ | refine Grew.drew ?_))⟩
  have h1' : 48 ≤ n := by omega
  have h2' : n ≤ 57 := by omega
  have hdx : (decide (48 ≤ n) && decide (n ≤ 57)) = true := by rw [decide_eq_true h1', decide_eq_true h2']; rfl
  by_cases h3 : m < 48
  · have HN := hid (HN.out.trans (if_neg (by rw [decide_eq_false (show ¬ 48 ≤ m by omega)]; simp)))
    clear hnb hmb h1 h2 hdx
    go_enter Tryz.func50, Tryz.ntmps50
    go_wp2_with fail
    refine wp_loop_rounds 3 ?_
    iterate 3 (all_goals (try simp only [rounds_succ]); go_wp2_with fail)
    all_goals
      go_ret
      rw [HN.out]
      exact ⟨rfl, (by repeat (first | exact Grew.refl _ | refine Grew.drewN ?_ _ | refine Grew.grow ?_ _ | refine Grew.alloc ?_ _ | refine Grew.drew ?_))⟩
  by_cases h4 : 57 < m
  · have HN := hid (HN.out.trans (if_neg (by rw [decide_eq_false (show ¬ m ≤ 57 by omega)]; simp)))
    have h3' : 48 ≤ m := by omega
    clear hnb hmb h1 h2 h3 hdx
    go_enter Tryz.func50, Tryz.ntmps50
    go_wp2_with fail
    refine wp_loop_rounds 3 ?_
    iterate 3 (all_goals (try simp only [rounds_succ]); go_wp2_with fail)
    all_goals
      go_ret
      rw [HN.out]
      exact ⟨rfl, (by repeat (first | exact Grew.refl _ | refine Grew.drewN ?_ _ | refine Grew.grow ?_ _ | refine Grew.alloc ?_ _ | refine Grew.drew ?_))⟩
  · have HN := hid (HN.out.trans (if_pos ⟨hdx, by rw [decide_eq_true (show 48 ≤ m by omega), decide_eq_true (show m ≤ 57 by omega)]; rfl⟩))
    have h3' : 48 ≤ m := by omega
    have h4' : m ≤ 57 := by omega
    clear hnb hmb h1 h2 h3 h4 hdx
    go_enter Tryz.func50, Tryz.ntmps50
    go_wp2_with fail
    refine wp_loop_rounds 3 ?_
    iterate 3 (all_goals (try simp only [rounds_succ]); go_wp2_with fail)
    all_goals
      go_ret
      rw [HN.out]
      exact ⟨rfl, (by repeat (first | exact Grew.refl _ | refine Grew.drewN ?_ _ | refine Grew.grow ?_ _ | refine Grew.alloc ?_ _ | refine Grew.drew ?_))⟩
set_option maxRecDepth 100000 in
set_option maxHeartbeats 4000000 in
theorem small_txt (l : List UInt8) (w : World) (hl : l.length ≤ 100000) :
    Calls Tryz.prog 50 #[.string (strB l)] w fun e w' => e = .returned (.int .i64 (numR l)) ∧ Grew w w' := by
  match l, hl with
  | [], _ =>
    have HN := hid (show numR [] = -1 from rfl)
    go_enter Tryz.func50, Tryz.ntmps50
    go_wp2_with fail
    go_ret
    rw [HN.out]
    exact ⟨rfl, (by repeat (first | exact Grew.refl _ | refine Grew.drewN ?_ _ | refine Grew.grow ?_ _ | refine Grew.alloc ?_ _ | refine Grew.drew ?_))⟩
  | x :: y :: z :: t, hl =>
    have HN := hid (show numR (x :: y :: z :: t) = -1 from rfl)
    obtain ⟨L, hL⟩ : ∃ L, x :: y :: z :: t = L := ⟨_, rfl⟩
    have h3 : 3 ≤ L.length := by rw [← hL]; simp
    have e1 : decide ((L.length : Int) < 1) = false := decide_eq_false (by omega)
    have e2 : decide ((2 : Int) < L.length) = true := decide_eq_true (by omega)
    rw [hL] at HN ⊢
    clear hL hl h3
    go_enter Tryz.func50, Tryz.ntmps50
    go_wp2_with fail
    go_ret
    rw [HN.out]
    exact ⟨rfl, (by repeat (first | exact Grew.refl _ | refine Grew.drewN ?_ _ | refine Grew.grow ?_ _ | refine Grew.alloc ?_ _ | refine Grew.drew ?_))⟩
  | [x], _ => exact small_one x w
  | [x, y], _ => exact small_two x y w
end Go.Proofs.YtdomlnhgafielaaGreatDoor

/- The reference's reader of an item. Condition: the text's length is within the reach. -/

namespace Go.Proofs.YtdomlnhgafielaaGreatDoor
open Go Go.RowKit Amp Msh

theorem blk4 {w : World} {b : Nat} {v0 v1 v2 v3 : Value} {T : TypeId} (h : w.heap[b]? = some (.cells #[v0, v1, v2, v3] T (0, 0))) :
    (w.cell? ⟨b, 0, none⟩ = some v0 ∧ w.cell? ⟨b, 1, none⟩ = some v1 ∧ w.cell? ⟨b, 2, none⟩ = some v2 ∧ w.cell? ⟨b, 3, none⟩ = some v3) ∧ (∀ i, w.frozen? ⟨b, i, none⟩ = false) ∧ b < w.heap.size := by
  refine ⟨⟨?_, ?_, ?_, ?_⟩, fun i => ?_, (Array.getElem?_eq_some_iff.1 h).1⟩
  all_goals simp [World.cell?, World.frozen?, h]
theorem set4 {w : World} {b : Nat} {a0 a1 a2 a3 v0 v1 v2 v3 : Value} {T : TypeId} (h : w.heap[b]? = some (.cells #[a0, a1, a2, a3] T (0, 0))) :
    ((((w.setCell ⟨b, 0, none⟩ v0).setCell ⟨b, 1, none⟩ v1).setCell ⟨b, 2, none⟩ v2).setCell ⟨b, 3, none⟩ v3).heap[b]? = some (.cells #[v0, v1, v2, v3] T (0, 0)) := by
  unfold World.setCell
  simp [Array.getElem?_modify, h]
theorem lt_set4 {w : World} {b c : Nat} {v0 v1 v2 v3 : Value} (h : c < w.heap.size) : c < ((((w.setCell ⟨b, 0, none⟩ v0).setCell ⟨b, 1, none⟩ v1).setCell ⟨b, 2, none⟩ v2).setCell ⟨b, 3, none⟩ v3).heap.size := by
  simpa [World.setCell] using h
theorem rit_ret {b : Nat} {v0 v1 v2 v3 : Value} {W : World} {tm : Array Value} {R : Ending → World → Prop} (htm : tm[2]? = some (.pointer (some ⟨b, 0, none⟩))) (hx : W.heap[b]? = some (.cells #[v0, v1, v2, v3] 38 (0, 0))) (h : R (.returned (.agg #[v0, v1, v2, v3])) W) :
    bodyPost Tryz.prog Tryz.f51 R .ret { tmps := tm, defers := [] } W := by
  obtain ⟨⟨x0, x1, x2, x3⟩, _, _⟩ := blk4 hx
  refine bodyPost_ret (v := .agg #[v0, v1, v2, v3]) ?_ rfl h
  simp [results, Tryz.results51, go_sem, htm, x0, x1, x2, x3]
theorem len_two {α : Type} {l : List α} (h : l.length = 2) : ∃ a b, l = [a, b] := by
  match l, h with
  | [a, b], _ => exact ⟨a, b, rfl⟩
theorem strB_head (h : UInt8) (r : List UInt8) : byteI (h :: r) 0 = (h.toNat : Int) := rfl
theorem u8_eq {c d : UInt8} : ((c.toNat : Int) == (d.toNat : Int)) = (c == d) := by
  rw [Bool.eq_iff_iff, beq_iff_eq, beq_iff_eq]
  constructor
  · intro h; exact UInt8.toNat_inj.1 (by omega)
  · rintro rfl; rfl
theorem spl_len (c : UInt8) : ∀ l : List UInt8, ∀ p ∈ spl c l, p.length ≤ l.length
  | [], p, h => by
    rw [spl, List.mem_singleton] at h
    subst h
    exact Nat.le_refl _
  | x :: l, p, h => by
    have ih := spl_len c l
    rw [spl] at h
    rw [List.length_cons]
    split at h
    · rcases List.mem_cons.1 h with rfl | h
      · exact Nat.zero_le _
      · exact Nat.le_succ_of_le (ih p h)
    · cases hs : spl c l with
      | nil => exact absurd hs (spl_ne c l)
      | cons q qs =>
        rw [hs] at h ih
        rcases List.mem_cons.1 h with rfl | h
        · have := ih q List.mem_cons_self
          rw [List.length_cons]
          omega
        · exact Nat.le_succ_of_le (ih p (List.mem_cons_of_mem _ h))
theorem spl_count (c : UInt8) : ∀ l : List UInt8, (spl c l).length ≤ l.length + 1
  | [] => Nat.le_refl _
  | x :: l => by
    have ih := spl_count c l
    rw [spl, List.length_cons]
    split
    · rw [List.length_cons]; omega
    · cases hs : spl c l with
      | nil => exact absurd hs (spl_ne c l)
      | cons q qs =>
        rw [hs, List.length_cons] at ih
        show ((x :: q) :: qs).length ≤ _
        rw [List.length_cons]
        omega
/-- An item that names no cell, from its first part and its last one. -/
def itRb (p z : List UInt8) : It := match p with
  | [] => noIt
  | h :: r => if h = 112 then ⟨1, numR r, numR z, ⟨#[]⟩⟩ else if h = 99 then ⟨2, numR r, 0, ⟨#[]⟩⟩ else if h = 120 then ⟨3, numR r, 0, ⟨#[]⟩⟩ else ⟨0, numR r, 0, ⟨#[]⟩⟩
set_option maxRecDepth 100000 in
set_option maxHeartbeats 4000000 in
theorem rit_any (l : List UInt8) (w : World) (hl : l.length ≤ 100000) :
    Calls Tryz.prog 51 #[.string (strB l)] w fun e w' => e = .returned (.agg #[.int .i64 (itR l).kind, .int .i64 (itR l).pos, .int .i64 (itR l).n, .string (itR l).name]) ∧ Grew w w' := by
  have H64 := hid fun w => split_64 l w hl
  have H32 := hid fun w => split_32 l w hl
  have HSL := hid (spl_len 64 l)
  have HS2 := hid (spl_len 32 l)
  have HL := hid hl
  obtain ⟨P, hP⟩ : ∃ P, spl 64 l = P := ⟨_, rfl⟩
  have HR : Hid (itR l = if P.length = 2 then ⟨4, numR (P.getD 1 []), 0, mkS (P.getD 0 [])⟩ else itRb ((spl 32 l).getD 0 []) ((spl 32 l).getD ((spl 32 l).length - 1) [])) := hid (by rw [← hP]; rfl)
  have hPn : P ≠ [] := by rw [← hP]; exact spl_ne _ _
  rw [hP] at H64 HSL
  clear hP hl
  go_enter Tryz.func51, Tryz.ntmps51
  go_wp2_with fail
  refine (H64.out _).mono ?_
  rintro e w1 ⟨⟨a, k, rfl, hS⟩, hg⟩
  have hb2 : w1.heap[w.heap.size]? = some (.cells #[.int .i64 0, .int .i64 0, .int .i64 0, .string ⟨#[]⟩] 38 (0, 0)) := (hg.block _ (by rw [World.size_alloc]; omega)).trans (blk_new rfl)
  have hgw : Grew w w1 := Grew.trans (by repeat (first | exact Grew.refl _ | refine Grew.drewN ?_ _ | refine Grew.grow ?_ _ | refine Grew.alloc ?_ _ | refine Grew.drew ?_)) hg
  obtain ⟨b2, hbq⟩ : ∃ b, w.heap.size = b := ⟨_, rfl⟩
  rw [hbq] at hb2
  obtain ⟨⟨y0, y1, y2, y3⟩, yf, z2⟩ := blk4 hb2
  obtain ⟨g0, rfl, hg0, hk, hcs⟩ := hS.at hPn
  have HGW := hid hgw
  have HBQ := hid hbq
  by_cases h2 : P.length = 2
  case pos =>
    obtain ⟨p, q, rfl⟩ := len_two h2
    have c0 := hcs 0 p rfl
    have c1 := hcs 1 q rfl
    have HR := hid (HR.out.trans (if_pos rfl))
    have HQ := hid fun w => small_txt q w (Nat.le_trans (HSL.out q (by simp)) HL.out)
    have hk2 : (2 : Int) ≤ k := by simp at hk; omega
    rw [hbq]
    have HB2 := hid hb2
    clear hcs hS hk hg hgw hb2 hbq h2 hPn H64 H32 HSL HS2 HL
    have z21 := fun m0 : Nat => Nat.lt_add_right m0 (z2)
    have z22 := fun m0 m1 : Nat => Nat.lt_add_right m1 (z21 m0)
    have z23 := fun m0 m1 m2 : Nat => Nat.lt_add_right m2 (z22 m0 m1)
    have hg01 := fun m0 : Nat => Nat.lt_add_right m0 (hg0)
    have hg02 := fun m0 m1 : Nat => Nat.lt_add_right m1 (hg01 m0)
    have hg03 := fun m0 m1 m2 : Nat => Nat.lt_add_right m2 (hg02 m0 m1)
    go_wp2_with fail
    refine R3.wp_region_gentle_tail 8 (by kernel_rfl) (by kernel_rfl) (by kernel_rfl) ?_
    simp only [List.take_succ_cons, List.take_zero, List.drop_succ_cons, List.drop_zero]
    repeat (first | go_big_quiet_skip | (go_big_quiet_want; go_big_quiet_op; first | go_big_quiet_on | (apply Exists.intro; refine ⟨fun qq => ?_, ?_⟩; (focus ((first | (go_at_call 50; with_reducible refine Calls.gentle_of (HQ.out _) ?_)); rintro _ ⟨g', n', rfl⟩; exact ⟨⟨qq.g ++ g', qq.n + n'⟩, by rw [World.grow_drewN, World.grow_grow, World.drewN_drewN]; repeat (first | rw [List.append_assoc] | rw [Nat.add_assoc])⟩)); go_big_quiet_on)))
    refine wpQuiet_nil ?_
    rintro _ ⟨gg, ng, rfl⟩
    go_wp2_with fail
    have hbq := HBQ.out
    have hgw := HGW.out
    exact rit_ret (v0 := .int .i64 4) (v1 := .int .i64 (numR q)) (v2 := .int .i64 0) (v3 := .string (strB p)) rfl ((Grew.block (a := ((((w1.setCell ⟨b2, 0, none⟩ (.int .i64 4)).setCell ⟨b2, 1, none⟩ (.int .i64 (numR q))).setCell ⟨b2, 2, none⟩ (.int .i64 0)).setCell ⟨b2, 3, none⟩ (.string (strB p)))) (by repeat (first | exact Grew.refl _ | refine Grew.drewN ?_ _ | refine Grew.grow ?_ _ | refine Grew.alloc ?_ _ | refine Grew.drew ?_)) b2 (lt_set4 z2)).trans (set4 HB2.out)) ⟨by rw [HR.out] <;> rfl, (by repeat (first | exact Grew.refl _ | assumption | refine Grew.set ?_ (by omega) _ _ | refine Grew.drewN ?_ _ | refine Grew.grow ?_ _ | refine Grew.alloc ?_ _ | refine Grew.drew ?_))⟩
  case neg =>
    have HR := hid (HR.out.trans (if_neg h2))
    have e0 : ((P.length : Int) == 2) = false := by simp; omega
    rw [hbq]
    obtain ⟨Q, hQ⟩ : ∃ Q, spl 32 l = Q := ⟨_, rfl⟩
    have hQn : Q ≠ [] := by rw [← hQ]; exact spl_ne _ _
    have hQc : Q.length ≤ 100001 := by rw [← hQ]; have := spl_count 32 l; have := HL.out; omega
    have HQC := hid hQc
    clear hQc
    rw [hQ] at H32 HS2 HR
    have HB2 := hid hb2
    clear hcs hS hk hg hgw hb2 hbq h2 hPn H64 HSL y0 y1 y2 y3 yf hQ
    have z21 := fun m0 : Nat => Nat.lt_add_right m0 (z2)
    have z22 := fun m0 m1 : Nat => Nat.lt_add_right m1 (z21 m0)
    have z23 := fun m0 m1 m2 : Nat => Nat.lt_add_right m2 (z22 m0 m1)
    have hg01 := fun m0 : Nat => Nat.lt_add_right m0 (hg0)
    have hg02 := fun m0 m1 : Nat => Nat.lt_add_right m1 (hg01 m0)
    have hg03 := fun m0 m1 m2 : Nat => Nat.lt_add_right m2 (hg02 m0 m1)
    go_wp2_with fail
    refine (H32.out _).mono ?_
    rintro e w2 ⟨⟨a, k1, rfl, hS⟩, hg2⟩
    have hb2 := (hg2.block _ z2).trans HB2.out
    have hgw := HGW.out.trans hg2
    have HGW2 := hid hgw
    obtain ⟨⟨y0, y1, y2, y3⟩, yf, z2'⟩ := blk4 hb2
    obtain ⟨g1, rfl, hg1, hk, hcs⟩ := hS.at hQn
    dsimp only
    obtain ⟨p, ps, rfl⟩ : ∃ p ps, Q = p :: ps := by
      cases Q with
      | nil => exact absurd rfl hQn
      | cons p ps => exact ⟨p, ps, rfl⟩
    have c0 := hcs 0 p rfl
    obtain ⟨nq, hnq⟩ : ∃ n, ps.length = n := ⟨_, rfl⟩
    have hpl : (p :: ps).length = nq + 1 := by rw [List.length_cons, hnq]
    obtain ⟨z, hz⟩ : ∃ z, (p :: ps)[nq]? = some z := ⟨_, List.getElem?_eq_getElem (by omega)⟩
    have c9 := hcs nq z hz
    have HP := hid (Nat.le_trans (HS2.out p List.mem_cons_self) HL.out)
    have HQZ := hid fun w => small_txt z w (Nat.le_trans (HS2.out z (List.mem_of_getElem? hz)) HL.out)
    have HR : Hid (itR l = itRb p z) := hid (HR.out.trans (by
      have e1 : (p :: ps).getD ((p :: ps).length - 1) [] = z := by
        rw [hpl, Nat.add_sub_cancel, List.getD_eq_getElem?_getD, hz]
        rfl
      rw [e1]
      rfl))
    have hnk : (nq : Int) + 1 ≤ k1 := by rw [hpl] at hk; omega
    have hn9 : nq < 9223372036854775800 := by have := HQC.out; rw [hpl] at this; omega
    rw [hpl]
    clear HQC
    have HB2 := hid hb2
    clear hcs hS hk hg2 hgw hb2 hz hnq hpl H32 HS2 HL z21 z22 z23 hg01 hg02 hg03 hg0 z2 e0 hQn
    have z2 := z2'
    clear z2'
    have z21 := fun m0 : Nat => Nat.lt_add_right m0 (z2)
    have z22 := fun m0 m1 : Nat => Nat.lt_add_right m1 (z21 m0)
    have z23 := fun m0 m1 m2 : Nat => Nat.lt_add_right m2 (z22 m0 m1)
    have hg11 := fun m0 : Nat => Nat.lt_add_right m0 (hg1)
    have hg12 := fun m0 m1 : Nat => Nat.lt_add_right m1 (hg11 m0)
    have hg13 := fun m0 m1 m2 : Nat => Nat.lt_add_right m2 (hg12 m0 m1)
    by_cases hp : p = []
    case pos =>
      have e1 : p.isEmpty = true := isE_t hp
      have HR := hid (show itR l = noIt by rw [HR.out, hp]; rfl)
      clear hp HQZ
      go_wp2_with fail
      have hbq := HBQ.out
      have hgw := HGW2.out
      exact rit_ret (v0 := .int .i64 0) (v1 := .int .i64 0) (v2 := .int .i64 0) (v3 := .string ⟨#[]⟩) rfl ((Grew.block (a := ((((w2.setCell ⟨b2, 0, none⟩ (.int .i64 0)).setCell ⟨b2, 1, none⟩ (.int .i64 0)).setCell ⟨b2, 2, none⟩ (.int .i64 0)).setCell ⟨b2, 3, none⟩ (.string ⟨#[]⟩))) (by repeat (first | exact Grew.refl _ | refine Grew.drewN ?_ _ | refine Grew.grow ?_ _ | refine Grew.alloc ?_ _ | refine Grew.drew ?_)) b2 (lt_set4 z2)).trans (set4 HB2.out)) ⟨by rw [HR.out] <;> rfl, (by repeat (first | exact Grew.refl _ | assumption | refine Grew.set ?_ (by omega) _ _ | refine Grew.drewN ?_ _ | refine Grew.grow ?_ _ | refine Grew.alloc ?_ _ | refine Grew.drew ?_))⟩
    case neg =>
      obtain ⟨h, r, hpq⟩ : ∃ h r, p = h :: r := by
        cases p with
        | nil => exact absurd rfl hp
        | cons h r => exact ⟨h, r, rfl⟩
      have e1 : p.isEmpty = false := isE_f hp
      have hp0 : 0 < p.length := List.length_pos_iff.2 hp
      have hr : p.tail = r := by rw [hpq]; rfl
      have hr' : p.drop 1 = r := by rw [hpq]; rfl
      have HQR := hid fun w => small_txt r w (by have := HP.out; rw [hpq, List.length_cons] at this; omega)
      obtain ⟨ci, hci⟩ : ∃ c : Int, (h.toNat : Int) = c := ⟨_, rfl⟩
      have hb0 : byteI p 0 = ci := by rw [hpq, ← hci]; rfl
      have HR : Hid (itR l = if h = 112 then ⟨1, numR r, numR z, ⟨#[]⟩⟩ else if h = 99 then ⟨2, numR r, 0, ⟨#[]⟩⟩ else if h = 120 then ⟨3, numR r, 0, ⟨#[]⟩⟩ else ⟨0, numR r, 0, ⟨#[]⟩⟩) := hid (by rw [HR.out, hpq]; rfl)
      have hq : ∀ d : UInt8, (ci == (d.toNat : Int)) = (h == d) := fun d => by rw [← hci]; exact u8_eq
      have q1 : (ci == 112) = (h == 112) := hq 112
      have q2 : (ci == 99) = (h == 99) := hq 99
      have q3 : (ci == 120) = (h == 120) := hq 120
      have Q1 := hid q1
      have Q2 := hid q2
      have Q3 := hid q3
      clear hq hpq hci hp q1 q2 q3
      by_cases h1 : h = 112
      case pos =>
        have e2 : (ci == 112) = true := by rw [Q1.out]; exact beq_iff_eq.2 h1
        have HR := hid (HR.out.trans (if_pos h1))
        clear h1
        go_wp2_with (first | (go_at_call 50; refine (HQR.out _).mono ?_; rintro e w3 ⟨rfl, g3, n3, rfl⟩; clear HQR) | (go_at_call 50; refine (HQZ.out _).mono ?_; rintro e w4 ⟨rfl, g4, n4, rfl⟩; clear HQZ))
        have hbq := HBQ.out
        have hgw := HGW2.out
        exact rit_ret (v0 := .int .i64 1) (v1 := .int .i64 (numR r)) (v2 := .int .i64 (numR z)) (v3 := .string ⟨#[]⟩) rfl ((Grew.block (a := ((((w2.setCell ⟨b2, 0, none⟩ (.int .i64 1)).setCell ⟨b2, 1, none⟩ (.int .i64 (numR r))).setCell ⟨b2, 2, none⟩ (.int .i64 (numR z))).setCell ⟨b2, 3, none⟩ (.string ⟨#[]⟩))) (by repeat (first | exact Grew.refl _ | refine Grew.drewN ?_ _ | refine Grew.grow ?_ _ | refine Grew.alloc ?_ _ | refine Grew.drew ?_)) b2 (lt_set4 z2)).trans (set4 HB2.out)) ⟨by rw [HR.out] <;> rfl, (by repeat (first | exact Grew.refl _ | assumption | refine Grew.set ?_ (by omega) _ _ | refine Grew.drewN ?_ _ | refine Grew.grow ?_ _ | refine Grew.alloc ?_ _ | refine Grew.drew ?_))⟩
      case neg =>
        have e2 : (ci == 112) = false := by rw [Q1.out]; exact beq_eq_false_iff_ne.2 h1
        have HR := hid (HR.out.trans (if_neg h1))
        clear h1 HQZ
        by_cases h2 : h = 99
        case pos =>
          have e3 : (ci == 99) = true := by rw [Q2.out]; exact beq_iff_eq.2 h2
          have HR := hid (HR.out.trans (if_pos h2))
          clear h2
          go_wp2_with (go_at_call 50; refine (HQR.out _).mono ?_; rintro e w3 ⟨rfl, g3, n3, rfl⟩; clear HQR)
          have hbq := HBQ.out
          have hgw := HGW2.out
          exact rit_ret (v0 := .int .i64 2) (v1 := .int .i64 (numR r)) (v2 := .int .i64 0) (v3 := .string ⟨#[]⟩) rfl ((Grew.block (a := ((((w2.setCell ⟨b2, 0, none⟩ (.int .i64 2)).setCell ⟨b2, 1, none⟩ (.int .i64 (numR r))).setCell ⟨b2, 2, none⟩ (.int .i64 0)).setCell ⟨b2, 3, none⟩ (.string ⟨#[]⟩))) (by repeat (first | exact Grew.refl _ | refine Grew.drewN ?_ _ | refine Grew.grow ?_ _ | refine Grew.alloc ?_ _ | refine Grew.drew ?_)) b2 (lt_set4 z2)).trans (set4 HB2.out)) ⟨by rw [HR.out] <;> rfl, (by repeat (first | exact Grew.refl _ | assumption | refine Grew.set ?_ (by omega) _ _ | refine Grew.drewN ?_ _ | refine Grew.grow ?_ _ | refine Grew.alloc ?_ _ | refine Grew.drew ?_))⟩
        case neg =>
          have e3 : (ci == 99) = false := by rw [Q2.out]; exact beq_eq_false_iff_ne.2 h2
          have HR := hid (HR.out.trans (if_neg h2))
          clear h2
          by_cases h3 : h = 120
          case pos =>
            have e4 : (ci == 120) = true := by rw [Q3.out]; exact beq_iff_eq.2 h3
            have HR := hid (HR.out.trans (if_pos h3))
            clear h3
            go_wp2_with (go_at_call 50; refine (HQR.out _).mono ?_; rintro e w3 ⟨rfl, g3, n3, rfl⟩; clear HQR)
            have hbq := HBQ.out
            have hgw := HGW2.out
            exact rit_ret (v0 := .int .i64 3) (v1 := .int .i64 (numR r)) (v2 := .int .i64 0) (v3 := .string ⟨#[]⟩) rfl ((Grew.block (a := ((((w2.setCell ⟨b2, 0, none⟩ (.int .i64 3)).setCell ⟨b2, 1, none⟩ (.int .i64 (numR r))).setCell ⟨b2, 2, none⟩ (.int .i64 0)).setCell ⟨b2, 3, none⟩ (.string ⟨#[]⟩))) (by repeat (first | exact Grew.refl _ | refine Grew.drewN ?_ _ | refine Grew.grow ?_ _ | refine Grew.alloc ?_ _ | refine Grew.drew ?_)) b2 (lt_set4 z2)).trans (set4 HB2.out)) ⟨by rw [HR.out] <;> rfl, (by repeat (first | exact Grew.refl _ | assumption | refine Grew.set ?_ (by omega) _ _ | refine Grew.drewN ?_ _ | refine Grew.grow ?_ _ | refine Grew.alloc ?_ _ | refine Grew.drew ?_))⟩
          case neg =>
            have e4 : (ci == 120) = false := by rw [Q3.out]; exact beq_eq_false_iff_ne.2 h3
            have HR := hid (HR.out.trans (if_neg h3))
            clear h3
            go_wp2_with (go_at_call 50; refine (HQR.out _).mono ?_; rintro e w3 ⟨rfl, g3, n3, rfl⟩; clear HQR)
            have hbq := HBQ.out
            have hgw := HGW2.out
            exact rit_ret (v0 := .int .i64 0) (v1 := .int .i64 (numR r)) (v2 := .int .i64 0) (v3 := .string ⟨#[]⟩) rfl ((Grew.block (a := ((((w2.setCell ⟨b2, 0, none⟩ (.int .i64 0)).setCell ⟨b2, 1, none⟩ (.int .i64 (numR r))).setCell ⟨b2, 2, none⟩ (.int .i64 0)).setCell ⟨b2, 3, none⟩ (.string ⟨#[]⟩))) (by repeat (first | exact Grew.refl _ | refine Grew.drewN ?_ _ | refine Grew.grow ?_ _ | refine Grew.alloc ?_ _ | refine Grew.drew ?_)) b2 (lt_set4 z2)).trans (set4 HB2.out)) ⟨by rw [HR.out] <;> rfl, (by repeat (first | exact Grew.refl _ | assumption | refine Grew.set ?_ (by omega) _ _ | refine Grew.drewN ?_ _ | refine Grew.grow ?_ _ | refine Grew.alloc ?_ _ | refine Grew.drew ?_))⟩

end Go.Proofs.YtdomlnhgafielaaGreatDoor

/- The reference's reader of a cell. Condition: the text's length is within the reach. -/

namespace Go.Proofs.YtdomlnhgafielaaGreatDoor
open Go Go.RowKit Amp Msh

/-- What a reader of cells returns. -/
def ClP (c : Cl) (e : Ending) (w' : World) : Prop := ∃ (a : Option Addr) (k : Nat), e = .returned (.agg #[.string c.name, .int .i64 c.gd, .slice a c.items.length k]) ∧ ItsK w' a c.items
theorem blk3 {w : World} {b : Nat} {v0 v1 v2 : Value} {T : TypeId} (h : w.heap[b]? = some (.cells #[v0, v1, v2] T (0, 0))) :
    (w.cell? ⟨b, 0, none⟩ = some v0 ∧ w.cell? ⟨b, 1, none⟩ = some v1 ∧ w.cell? ⟨b, 2, none⟩ = some v2) ∧ (∀ i, w.frozen? ⟨b, i, none⟩ = false) ∧ b < w.heap.size := by
  refine ⟨⟨?_, ?_, ?_⟩, fun i => ?_, (Array.getElem?_eq_some_iff.1 h).1⟩
  all_goals simp [World.cell?, World.frozen?, h]
theorem set3 {w : World} {b : Nat} {a0 a1 a2 v0 v1 v2 : Value} {T : TypeId} (h : w.heap[b]? = some (.cells #[a0, a1, a2] T (0, 0))) :
    (((w.setCell ⟨b, 0, none⟩ v0).setCell ⟨b, 1, none⟩ v1).setCell ⟨b, 2, none⟩ v2).heap[b]? = some (.cells #[v0, v1, v2] T (0, 0)) := by
  unfold World.setCell
  simp [Array.getElem?_modify, h]
theorem set3_2 {w : World} {b : Nat} {a0 a1 a2 v2 : Value} {T : TypeId} (h : w.heap[b]? = some (.cells #[a0, a1, a2] T (0, 0))) : (w.setCell ⟨b, 2, none⟩ v2).heap[b]? = some (.cells #[a0, a1, v2] T (0, 0)) := by
  unfold World.setCell
  simp [Array.getElem?_modify, h]
theorem set3_other {w : World} {b k : Nat} {v0 v1 v2 : Value} (h : k ≠ b) : (((w.setCell ⟨b, 0, none⟩ v0).setCell ⟨b, 1, none⟩ v1).setCell ⟨b, 2, none⟩ v2).heap[k]? = w.heap[k]? :=
  (Below.heap_setCell _ _ _ k h).trans ((Below.heap_setCell _ _ _ k h).trans (Below.heap_setCell _ _ _ k h))
theorem cell_block {w w' : World} {b i : Nat} (h : w'.heap[b]? = w.heap[b]?) : w'.cell? ⟨b, i, none⟩ = w.cell? ⟨b, i, none⟩ := by simp only [World.cell?, h]
theorem OwnI.low {w : World} {base : Nat} {a0 : Option Addr} {k0 : Nat} {l : List It} (h : OwnI w base a0 k0 l) {b : Nat} (hb : b < base) (i : Nat) (u : Value) : OwnI (w.setCell ⟨b, i, none⟩ u) base a0 k0 l := ownsRow_setCell_low h hb i u
theorem news_of {w : World} {bx : Nat} {z : It} (h : w.heap[bx]? = some (.cells #[.int .i64 z.kind, .int .i64 z.pos, .int .i64 z.n, .string z.name] 38 (0, 0))) : ∀ j u, (itsCells [z])[j]? = some u → w.cell? ((⟨bx, 0, none⟩ : Addr).add j) = some u := by
  rw [itsCells_one']
  obtain ⟨⟨y0, y1, y2, y3⟩, _, _⟩ := blk4 h
  exact itCells_in y0 y1 y2 y3
theorem grew_set3 {w w' : World} {b : Nat} {v0 v1 v2 : Value} (g : Grew w w') (hb : w.heap.size ≤ b) : Grew w (((w'.setCell ⟨b, 0, none⟩ v0).setCell ⟨b, 1, none⟩ v1).setCell ⟨b, 2, none⟩ v2) := ((g.set hb 0 v0).set hb 1 v1).set hb 2 v2
theorem rcl_ret {b : Nat} {v0 v1 v2 : Value} {W : World} {tm : Array Value} {R : Ending → World → Prop} (htm : tm[2]? = some (.pointer (some ⟨b, 0, none⟩))) (hx : W.heap[b]? = some (.cells #[v0, v1, v2] 35 (0, 0))) (h : R (.returned (.agg #[v0, v1, v2])) W) :
    bodyPost Tryz.prog Tryz.f28 R .ret { tmps := tm, defers := [] } W := by
  obtain ⟨⟨x0, x1, x2⟩, _, _⟩ := blk3 hx
  refine bodyPost_ret (v := .agg #[v0, v1, v2]) ?_ rfl h
  simp [results, Tryz.results28, go_sem, htm, x0, x1, x2]
theorem len_three {α : Type} {l : List α} (h : l.length = 3) : ∃ a b c, l = [a, b, c] := by
  match l, h with
  | [a, b, c], _ => exact ⟨a, b, c, rfl⟩
theorem itR_name (l : List UInt8) : (itR l).name.size ≤ l.length := by
  have hs := spl_len 64 l
  unfold itR
  split
  · rename_i h2
    obtain ⟨p, q, hp⟩ := len_two h2
    rw [hp] at hs ⊢
    show (mkS p).size ≤ l.length
    have := hs p (by simp)
    show (strB p).size ≤ _
    rw [strB_size]
    exact this
  · split
    · exact Nat.zero_le _
    · split
      · exact Nat.zero_le _
      · split
        · exact Nat.zero_le _
        · split <;> exact Nat.zero_le _
set_option maxRecDepth 100000 in
set_option maxHeartbeats 8000000 in
theorem rcl_any (l : List UInt8) (w : World) (hl : l.length ≤ 50000) :
    Calls Tryz.prog 28 #[.string (strB l)] w fun e w' => ClP (clR l) e w' ∧ Grew w w' := by
  have H58 := hid fun w => split_58 l w (by omega)
  have HL := hid hl
  obtain ⟨P, hP⟩ : ∃ P, spl 58 l = P := ⟨_, rfl⟩
  have HR : Hid (clR l = if P.length = 2 ∧ (spl 32 (P.getD 0 [])).length = 3 then
      if P.getD 1 [] = [] then ⟨mkS ((spl 32 (P.getD 0 [])).getD 1 []), numR ((spl 32 (P.getD 0 [])).getD 2 []), []⟩
      else if (spl 59 (P.getD 1 [])).all (fun p => !p.isEmpty) = true then ⟨mkS ((spl 32 (P.getD 0 [])).getD 1 []), numR ((spl 32 (P.getD 0 [])).getD 2 []), (spl 59 (P.getD 1 [])).map fun p => itR (p.drop 1)⟩
      else noCl
    else noCl) := hid (by rw [← hP]; rfl)
  have hPn : P ≠ [] := by rw [← hP]; exact spl_ne _ _
  have HSL : Hid (∀ p ∈ P, p.length ≤ 50000) := hid fun p hp => by rw [← hP] at hp; exact Nat.le_trans (spl_len 58 l p hp) hl
  have HPC := hid (show P.length ≤ 50001 by rw [← hP]; have := spl_count 58 l; omega)
  rw [hP] at H58
  clear hP hl
  go_enter Tryz.func28, Tryz.ntmps28
  go_wp2_with fail
  refine (H58.out _).mono ?_
  rintro e w1 ⟨⟨a, k, rfl, hS⟩, hg⟩
  dsimp only
  have hb2 : w1.heap[w.heap.size]? = some (.cells #[.string ⟨#[]⟩, .int .i64 0, .slice none 0 0] 35 (0, 0)) := (hg.block _ (by rw [World.size_alloc]; omega)).trans (blk_new rfl)
  have hgw : Grew w w1 := Grew.trans (by repeat (first | exact Grew.refl _ | refine Grew.drewN ?_ _ | refine Grew.grow ?_ _ | refine Grew.alloc ?_ _ | refine Grew.drew ?_)) hg
  obtain ⟨b2, hbq⟩ : ∃ b, w.heap.size = b := ⟨_, rfl⟩
  rw [hbq] at hb2
  obtain ⟨_, _, z2⟩ := blk3 hb2
  obtain ⟨p0, ps, rfl⟩ : ∃ p ps, P = p :: ps := by
    cases P with
    | nil => exact absurd rfl hPn
    | cons p ps => exact ⟨p, ps, rfl⟩
  obtain ⟨g0, rfl, hg0, hk, hcs⟩ := hS.at hPn
  have c0 := hcs 0 p0 rfl
  obtain ⟨np, hnp⟩ : ∃ n, ps.length = n := ⟨_, rfl⟩
  have hpl : (p0 :: ps).length = np + 1 := by rw [List.length_cons, hnp]
  have H32 := hid fun w => split_32 p0 w (Nat.le_trans (HSL.out p0 List.mem_cons_self) (by omega))
  obtain ⟨Q, hQ⟩ : ∃ Q, spl 32 p0 = Q := ⟨_, rfl⟩
  have hQn : Q ≠ [] := by rw [← hQ]; exact spl_ne _ _
  have HQC := hid (show Q.length ≤ 50001 by rw [← hQ]; have := spl_count 32 p0; have := HSL.out p0 List.mem_cons_self; omega)
  have HS2 : Hid (∀ p ∈ Q, p.length ≤ 50000) := hid fun p hp => by rw [← hQ] at hp; exact Nat.le_trans (spl_len 32 p0 p hp) (HSL.out p0 List.mem_cons_self)
  rw [show (p0 :: ps).getD 0 [] = p0 from rfl, hQ] at HR
  rw [hQ] at H32
  rw [hpl, hbq]
  have hn9 : np < 9223372036854775800 := by have := HPC.out; rw [hpl] at this; omega
  have hnk : (np : Int) + 1 ≤ k := by rw [hpl] at hk; omega
  have HGW := hid hgw
  have HBQ := hid hbq
  have HB2 := hid hb2
  have HCS := hid hcs
  have HNP := hid hnp
  clear hcs hS hk hg hgw hb2 hbq hPn H58 HPC hpl hnp hQ
  have z21 := fun m0 : Nat => Nat.lt_add_right m0 (z2)
  have z22 := fun m0 m1 : Nat => Nat.lt_add_right m1 (z21 m0)
  have z23 := fun m0 m1 m2 : Nat => Nat.lt_add_right m2 (z22 m0 m1)
  have hg01 := fun m0 : Nat => Nat.lt_add_right m0 (hg0)
  have hg02 := fun m0 m1 : Nat => Nat.lt_add_right m1 (hg01 m0)
  have hg03 := fun m0 m1 m2 : Nat => Nat.lt_add_right m2 (hg02 m0 m1)
  go_wp2_with fail
  refine (H32.out _).mono ?_
  rintro e w2 ⟨⟨a, k1, rfl, hS⟩, hg2⟩
  have hb2 := (hg2.block _ z2).trans HB2.out
  have hgw := HGW.out.trans hg2
  have HCS := hid fun j p h => (hg2.cell (i := j) hg0).trans (HCS.out j p h)
  obtain ⟨g1, rfl, hg1, hk, hcs⟩ := hS.at hQn
  obtain ⟨nq, hnq⟩ : ∃ n, Q.length = n := ⟨_, rfl⟩
  have hnq9 : nq < 9223372036854775800 := by have := HQC.out; rw [hnq] at this; omega
  have hnkq : (nq : Int) ≤ k1 := by rw [hnq] at hk; omega
  have hg0' := Nat.lt_of_lt_of_le hg0 hg2.size
  obtain ⟨⟨y0, y1, y2⟩, yf, z2'⟩ := blk3 hb2
  rw [hnq]
  have HGW := hid hgw
  have HB2 := hid hb2
  have HHQ := hid hcs
  have HNQ := hid hnq
  clear hcs hS hk hg2 hgw hb2 hQn H32 HQC hnq z21 z22 z23 hg01 hg02 hg03 hg0 z2 c0
  have z2 := z2'
  have hg0 := hg0'
  clear z2' hg0'
  have z21 := fun m0 : Nat => Nat.lt_add_right m0 (z2)
  have z22 := fun m0 m1 : Nat => Nat.lt_add_right m1 (z21 m0)
  have z23 := fun m0 m1 m2 : Nat => Nat.lt_add_right m2 (z22 m0 m1)
  have hg11 := fun m0 : Nat => Nat.lt_add_right m0 (hg1)
  have hg12 := fun m0 m1 : Nat => Nat.lt_add_right m1 (hg11 m0)
  have hg13 := fun m0 m1 m2 : Nat => Nat.lt_add_right m2 (hg12 m0 m1)
  have hg01 := fun m0 : Nat => Nat.lt_add_right m0 (hg0)
  have hg02 := fun m0 m1 : Nat => Nat.lt_add_right m1 (hg01 m0)
  have hg03 := fun m0 m1 m2 : Nat => Nat.lt_add_right m2 (hg02 m0 m1)
  by_cases hgood : np = 1 ∧ nq = 3
  case neg =>
    have HR : Hid (clR l = noCl) := hid (HR.out.trans (if_neg (by rw [List.length_cons, HNP.out, HNQ.out]; omega)))
    have HB := hid hgood
    by_cases h1 : np = 1
    · have h3 : ¬ nq = 3 := fun h => hgood ⟨h1, h⟩
      subst h1
      clear hgood
      go_wp2_with fail
      exact rcl_ret rfl (set3 HB2.out) ⟨⟨none, 0, by rw [HR.out]; rfl, by rw [HR.out]; exact ItsK.nil _⟩, grew_set3 HGW.out (by have := HBQ.out; omega)⟩
    · clear hgood
      go_wp2_with fail
      exact rcl_ret rfl (set3 HB2.out) ⟨⟨none, 0, by rw [HR.out]; rfl, by rw [HR.out]; exact ItsK.nil _⟩, grew_set3 HGW.out (by have := HBQ.out; omega)⟩
  case pos =>
    obtain ⟨rfl, rfl⟩ := hgood
    obtain ⟨p1, rfl⟩ : ∃ p, ps = [p] := by
      match ps, HNP.out with
      | [p], _ => exact ⟨p, rfl⟩
    obtain ⟨q0, q1, q2, rfl⟩ := len_three HNQ.out
    have d1 := HCS.out 1 p1 rfl
    have e1 := HHQ.out 1 q1 rfl
    have e2 := HHQ.out 2 q2 rfl
    have HQ2 := hid fun w => small_txt q2 w (Nat.le_trans (HS2.out q2 (by simp)) (by omega))
    have HR : Hid (clR l = if p1 = [] then ⟨strB q1, numR q2, []⟩
      else if (spl 59 p1).all (fun p => !p.isEmpty) = true then ⟨strB q1, numR q2, (spl 59 p1).map fun p => itR (p.drop 1)⟩
      else noCl) := hid (HR.out.trans (if_pos ⟨rfl, rfl⟩))
    have HP1 := hid (HSL.out p1 (by simp))
    clear HHQ HCS HNP HNQ HSL HS2
    go_wp2_with fail
    refine R4.wp_region_slots 9 (fun ix vs W => match ix with | 0 => vs 0 = .slice (some ⟨g1, 0, none⟩) 3 k1 | 1 => vs 1 = .pointer (some ⟨g1, 1, none⟩) | 2 => vs 2 = .string (strB q1) | 3 => vs 3 = .slice (some ⟨g1, 0, none⟩) 3 k1 | 4 => vs 4 = .pointer (some ⟨g1, 2, none⟩) | 5 => vs 5 = .string (strB q2) | 6 => vs 6 = .int .i64 (numR q2) | 7 => vs 7 = .agg #[.string (strB q1), .int .i64 (numR q2), .slice none 0 0] | 8 => R4.NewBlk w2.heap.size 35 3 (vs 8) W | _ => True) (by kernel_rfl) (by kernel_rfl) ?slst ?sldep ?slop ?slq
    case slst =>
      intro ix vs W W' h hg
      match ix, h with
      | 0, h => exact h
      | 1, h => exact h
      | 2, h => exact h
      | 3, h => exact h
      | 4, h => exact h
      | 5, h => exact h
      | 6, h => exact h
      | 7, h => exact h
      | 8, h => exact R4.NewBlk.grew h hg
      | _ + 9, _ => trivial
    case sldep =>
      intro ix o vs vs' W hix ho h hv hn
      match ix, hix, ho, h, hv with
      | 0, _, _, h, hv => exact Eq.trans hv h
      | 1, _, _, h, hv => exact Eq.trans hv h
      | 2, _, _, h, hv => exact Eq.trans hv h
      | 3, _, _, h, hv => exact Eq.trans hv h
      | 4, _, _, h, hv => exact Eq.trans hv h
      | 5, _, _, h, hv => exact Eq.trans hv h
      | 6, _, _, h, hv => exact Eq.trans hv h
      | 7, _, _, h, hv => exact Eq.trans hv h
      | 8, _, _, h, hv => show R4.NewBlk w2.heap.size 35 3 (vs' 8) W; rw [hv]; exact h
      | kx + 9, hix, _, _, _ => exact absurd hix (by omega)
    case slop =>
      intro ix o hix ho vs W L hg hL hn hall
      match ix, hix, ho, hL with
      | 0, _, ho, _ =>
        obtain rfl := Option.some.inj ho
        change R4.Oper.slotAt _ _ { tmps := _, defers := _ } _ _
        obtain ⟨gq, nq, rfl⟩ := hg
        go_simp
        exact ⟨R4.upd_same _ _ _, .inl (by repeat (first | exact Grew.refl _ | refine Grew.drewN ?_ _ | refine Grew.grow ?_ _ | refine Grew.alloc ?_ _ | refine Grew.drew ?_))⟩
      | 1, _, ho, _ =>
        obtain rfl := Option.some.inj ho
        have hn0 := (hn 0 (by decide)).2
        try dsimp only at hn0
        change R4.Oper.slotAt _ _ (Act.put _ (some 23) (vs 0)) _ _
        conv => arg 3; rw [hn0]
        clear hn0
        obtain ⟨gq, nq, rfl⟩ := hg
        go_simp
        exact ⟨R4.upd_same _ _ _, .inl (by repeat (first | exact Grew.refl _ | refine Grew.drewN ?_ _ | refine Grew.grow ?_ _ | refine Grew.alloc ?_ _ | refine Grew.drew ?_))⟩
      | 2, _, ho, _ =>
        obtain rfl := Option.some.inj ho
        have hn1 := (hn 1 (by decide)).2
        try dsimp only at hn1
        change R4.Oper.slotAt _ _ (Act.put _ (some 24) (vs 1)) _ _
        conv => arg 3; rw [hn1]
        clear hn1
        obtain ⟨gq, nq, rfl⟩ := hg
        go_simp
        exact ⟨R4.upd_same _ _ _, .inl (by repeat (first | exact Grew.refl _ | refine Grew.drewN ?_ _ | refine Grew.grow ?_ _ | refine Grew.alloc ?_ _ | refine Grew.drew ?_))⟩
      | 3, _, ho, _ =>
        obtain rfl := Option.some.inj ho
        change R4.Oper.slotAt _ _ { tmps := _, defers := _ } _ _
        obtain ⟨gq, nq, rfl⟩ := hg
        go_simp
        exact ⟨R4.upd_same _ _ _, .inl (by repeat (first | exact Grew.refl _ | refine Grew.drewN ?_ _ | refine Grew.grow ?_ _ | refine Grew.alloc ?_ _ | refine Grew.drew ?_))⟩
      | 4, _, ho, _ =>
        obtain rfl := Option.some.inj ho
        have hn3 := (hn 3 (by decide)).2
        try dsimp only at hn3
        change R4.Oper.slotAt _ _ (Act.put _ (some 26) (vs 3)) _ _
        conv => arg 3; rw [hn3]
        clear hn3
        obtain ⟨gq, nq, rfl⟩ := hg
        go_simp
        exact ⟨R4.upd_same _ _ _, .inl (by repeat (first | exact Grew.refl _ | refine Grew.drewN ?_ _ | refine Grew.grow ?_ _ | refine Grew.alloc ?_ _ | refine Grew.drew ?_))⟩
      | 5, _, ho, _ =>
        obtain rfl := Option.some.inj ho
        have hn4 := (hn 4 (by decide)).2
        try dsimp only at hn4
        change R4.Oper.slotAt _ _ (Act.put _ (some 27) (vs 4)) _ _
        conv => arg 3; rw [hn4]
        clear hn4
        obtain ⟨gq, nq, rfl⟩ := hg
        go_simp
        exact ⟨R4.upd_same _ _ _, .inl (by repeat (first | exact Grew.refl _ | refine Grew.drewN ?_ _ | refine Grew.grow ?_ _ | refine Grew.alloc ?_ _ | refine Grew.drew ?_))⟩
      | 6, _, ho, _ =>
        obtain rfl := Option.some.inj ho
        have hn5 := (hn 5 (by decide)).2
        try dsimp only at hn5
        change R4.Oper.slotAt _ _ (Act.put _ (some 28) (vs 5)) _ _
        conv => arg 3; rw [hn5]
        clear hn5
        obtain ⟨gq, nq, rfl⟩ := hg
        go_simp
        refine (HQ2.out _).mono ?_
        rintro e w' ⟨rfl, gr⟩
        exact ⟨_, rfl, R4.upd_same _ _ _, .inl gr⟩
      | 7, _, ho, _ =>
        obtain rfl := Option.some.inj ho
        have hn2 := (hn 2 (by decide)).2
        have hn6 := (hn 6 (by decide)).2
        try dsimp only at hn2 hn6
        change R4.Oper.slotAt _ _ (Act.put (Act.put _ (some 25) (vs 2)) (some 29) (vs 6)) _ _
        conv => arg 3; rw [hn2, hn6]
        clear hn2 hn6
        obtain ⟨gq, nq, rfl⟩ := hg
        go_simp
        exact ⟨R4.upd_same _ _ _, .inl (by repeat (first | exact Grew.refl _ | refine Grew.drewN ?_ _ | refine Grew.grow ?_ _ | refine Grew.alloc ?_ _ | refine Grew.drew ?_))⟩
      | 8, _, ho, _ =>
        obtain rfl := Option.some.inj ho
        change R4.Oper.slotAt _ _ { tmps := _, defers := _ } _ _
        obtain ⟨gq, nq, rfl⟩ := hg
        go_simp
        exact ⟨by rw [R4.upd_same]; exact R4.NewBlk.fresh (cs := #[.string ⟨#[]⟩, .int .i64 0, .slice none 0 0]) (by simp [go_sem]) (by simp [go_sem] <;> omega) |>.grew ((Grew.refl _).drewN _), .inl ((Grew.refl _).alloc _)⟩
      | kx + 9, hix, _, _ => exact absurd hix (by omega)
    case slq =>
      intro vs W hg hn
      have hn0 := hn 0 (by decide) (by decide)
      have hn1 := hn 1 (by decide) (by decide)
      have hn2 := hn 2 (by decide) (by decide)
      have hn3 := hn 3 (by decide) (by decide)
      have hn4 := hn 4 (by decide) (by decide)
      have hn5 := hn 5 (by decide) (by decide)
      have hn6 := hn 6 (by decide) (by decide)
      have hn7 := hn 7 (by decide) (by decide)
      have hn8 := hn 8 (by decide) (by decide)
      change wpList _ _ _ _ (Act.put (Act.put (Act.put (Act.put (Act.put (Act.put (Act.put (Act.put (Act.put _ (some 23) (vs 0)) (some 24) (vs 1)) (some 25) (vs 2)) (some 26) (vs 3)) (some 27) (vs 4)) (some 28) (vs 5)) (some 29) (vs 6)) (some 30) (vs 7)) (some 5) (vs 8)) _
      rw [hn0, hn1, hn2, hn3, hn4, hn5, hn6, hn7]
      clear hn hn0 hn1 hn2 hn3 hn4 hn5 hn6 hn7
      simp only [Act.put, List.setIfInBounds_toArray, List.set_cons_zero, List.set_cons_succ, List.drop_succ_cons, List.drop_zero]
      obtain ⟨b5, cs5, e5, hb5, hs5, hB5⟩ := hn8
      rw [e5]
      obtain ⟨x0, x1, x2, rfl⟩ : ∃ x0 x1 x2, cs5 = #[x0, x1, x2] := by
        obtain ⟨l⟩ := cs5
        obtain ⟨x0, x1, x2, rfl⟩ := len_three (l := l) (by simpa using hs5)
        exact ⟨x0, x1, x2, rfl⟩
      obtain ⟨⟨y0, y1, y2⟩, yf, z5⟩ := blk3 hB5
      have hb2 := (hg.block _ z2).trans HB2.out
      have d1 := (hg.cell (i := 1) hg0).trans d1
      have hgw := HGW.out.trans hg
      have hlow : w2.heap.size ≤ b5 := hb5
      have HLO := hid hlow
      have hb25 : b2 < b5 := by omega
      have hg05 : g0 < b5 := by omega
      have HB5 := hid hB5
      have HB2 := hid hb2
      have HGW := hid hgw
      have hb2c := blk3 hb2
      obtain ⟨⟨b20, b21, b22⟩, bf, zb2⟩ := hb2c
      clear hg hB5 hb2 hgw hs5 hb5 e1 e2 z21 z22 z23 hg11 hg12 hg13 hg01 hg02 hg03 z2 hg0 hg1 hlow e5 HQ2
      by_cases hp : p1 = []
      case pos =>
        have e1 : p1.isEmpty = true := isE_t hp
        have HR := hid (HR.out.trans (if_pos hp))
        clear hp
        go_wp2_with fail
        exact rcl_ret rfl (set3 ((set3_other (by omega)).trans HB2.out)) ⟨⟨none, 0, by rw [HR.out]; rfl, by rw [HR.out]; exact ItsK.nil _⟩, grew_set3 (grew_set3 HGW.out (by have := HBQ.out; omega)) (by have := HBQ.out; omega)⟩
      case neg =>
        have e1 : p1.isEmpty = false := isE_f hp
        have HR := hid (HR.out.trans (if_neg hp))
        have H59 := hid fun w => split_59 p1 w (Nat.le_trans HP1.out (by omega))
        obtain ⟨S, hS⟩ : ∃ S, spl 59 p1 = S := ⟨_, rfl⟩
        have hSn : S ≠ [] := by rw [← hS]; exact spl_ne _ _
        have HSC := hid (show S.length ≤ 50001 by rw [← hS]; have := spl_count 59 p1; have := HP1.out; omega)
        have HSS : Hid (∀ p ∈ S, p.length ≤ 50000) := hid fun p hp => by rw [← hS] at hp; exact Nat.le_trans (spl_len 59 p1 p hp) HP1.out
        rw [hS] at HR H59
        clear hp hS
        go_wp2_with fail
        have hS5 := set3 (v0 := .string (strB q1)) (v1 := .int .i64 (numR q2)) (v2 := .slice none 0 0) HB5.out
        have hS2 := (set3_other (b := b5) (v0 := .string (strB q1)) (v1 := .int .i64 (numR q2)) (v2 := .slice none 0 0) (show b2 ≠ b5 by omega)).trans HB2.out
        have hSG := grew_set3 (b := b5) (v0 := .string (strB q1)) (v1 := .int .i64 (numR q2)) (v2 := .slice none 0 0) HGW.out (by have := HBQ.out; omega)
        refine (H59.out _).mono ?_
        rintro e w3 ⟨⟨a, k3, rfl, hO⟩, hg3⟩
        dsimp only
        have hW5 := (hg3.block _ (Array.getElem?_eq_some_iff.1 hS5).1).trans hS5
        have hW2 := (hg3.block _ (Array.getElem?_eq_some_iff.1 hS2).1).trans hS2
        have HGW := hid (hSG.trans hg3)
        have hz5 := (Array.getElem?_eq_some_iff.1 hW5).1
        obtain ⟨gs, rfl, hgs, hk, hcs⟩ := hO.at hSn
        have hgs5 : gs ≠ b5 := by
          have h1 := ownsRow_above hO gs (by simp [Value.ownBlock])
          have h2 := (Array.getElem?_eq_some_iff.1 hS5).1
          omega
        have HCS := hid (And.intro hgs (And.intro hgs5 hcs))
        have HW5 := hid hW5
        have HWB := hid hW5
        have HW2 := hid hW2
        have hsl : S.length < 9223372036854775800 := by have := HSC.out; omega
        clear hS5 hS2 hSG hg3 hO hk hcs hgs5 hgs hW5 hW2 HB5 HB2 H59 hSn y0 y1 y2 yf z5 d1 b20 b21 b22 bf zb2 hg05 e1 HP1
        go_wp2_with fail
        go_loopw [41] (fun v wr => ∃ (i : Nat) (ai : Option Addr) (ki : Nat) (dn : List It), i ≤ S.length ∧ v = .int .i64 i ∧ Hid (dn = (S.take i).map fun p => itR (p.drop 1)) ∧ Hid (∀ p ∈ S.take i, p ≠ []) ∧ Hid (wr.heap[b5]? = some (.cells #[.string (strB q1), .int .i64 (numR q2), .slice ai dn.length ki] 35 (0, 0))) ∧ Hid (OwnI wr w3.heap.size ai ki dn) ∧ Hid (Turned w3 wr b5)) (fun v _ => S.length - (intOf v).toNat)
        case atStart => exact ⟨0, none, 0, [], Nat.zero_le _, rfl, by simp [Hid], by simp [Hid], HW5, OwnI.nil _ _, Turned.refl _ _⟩
        case round =>
          obtain ⟨i, ai, ki, dn, hi, rfl, HD, HNE, H5, HO, HT⟩ := hrel
          obtain ⟨⟨y0, y1, y2⟩, yf, z5⟩ := blk3 H5.out
          have hb2 := (HT.out.block (k := b2) (Array.getElem?_eq_some_iff.1 HW2.out).1 (by omega)).trans HW2.out
          obtain ⟨⟨b20, b21, b22⟩, bf, zb2⟩ := blk3 hb2
          have HB2 := hid hb2
          have hgw : Grew w wr := HT.out.toGrew HGW.out (by have := HBQ.out; omega)
          have HGR := hid hgw
          clear hb2 hgw
          by_cases hlt : i < S.length
          case neg =>
            obtain rfl : i = S.length := by omega
            have HR : Hid (clR l = ⟨strB q1, numR q2, dn⟩) := hid (HR.out.trans (by
              have h1 : S.all (fun p => !p.isEmpty) = true := by
                rw [List.all_eq_true]
                intro p hp
                have := HNE.out p (by rw [List.take_length]; exact hp)
                rw [isE_f this]
                rfl
              rw [if_pos h1, HD.out, List.take_length]))
            clear hlt
            go_wp2_with fail
            exact rcl_ret rfl (set3 HB2.out) ⟨⟨ai, ki, by rw [HR.out], by
              rw [HR.out]
              exact (((HO.out.low (by have := HW2.out; exact (Array.getElem?_eq_some_iff.1 this).1) 0 _).low (by have := HW2.out; exact (Array.getElem?_eq_some_iff.1 this).1) 1 _).low (by have := HW2.out; exact (Array.getElem?_eq_some_iff.1 this).1) 2 _).itsK⟩, grew_set3 HGR.out (by have := HBQ.out; omega)⟩
          case pos =>
            obtain ⟨x, hx⟩ : ∃ x, S[i]? = some x := ⟨S[i], List.getElem?_eq_getElem hlt⟩
            have c0 := (HT.out.cell (i := i) HCS.out.1 HCS.out.2.1).trans (HCS.out.2.2 i x hx)
            have zg := Nat.lt_of_lt_of_le HCS.out.1 HT.out.size
            have HXL := hid (HSS.out x (List.mem_of_getElem? hx))
            have htk : S.take (i + 1) = S.take i ++ [x] := by rw [List.take_add_one, hx]; rfl
            by_cases hxe : x = []
            case pos =>
              have e1 : x.isEmpty = true := isE_t hxe
              have HR := hid (HR.out.trans (if_neg (by
                rw [List.all_eq_true]
                intro h
                have := h x (List.mem_of_getElem? hx)
                rw [e1] at this
                cases this)))
              clear hxe htk hx
              go_wp2_with fail
              exact rcl_ret rfl (set3 HB2.out) ⟨⟨none, 0, by rw [HR.out]; rfl, by rw [HR.out]; exact ItsK.nil _⟩, grew_set3 HGR.out (by have := HBQ.out; omega)⟩
            case neg =>
              have e1 : x.isEmpty = false := isE_f hxe
              have hx0 : 0 < x.length := List.length_pos_iff.2 hxe
              obtain ⟨r, hr'⟩ : ∃ r, x.drop 1 = r := ⟨_, rfl⟩
              have hr : x.tail = r := by rw [← hr']; simp
              have HRI := hid fun w => rit_any r w (by have := HXL.out; rw [← hr', List.length_drop]; omega)
              have HNE2 : Hid (∀ p ∈ S.take (i + 1), p ≠ []) := hid fun p hp => by
                rw [htk, List.mem_append, List.mem_singleton] at hp
                rcases hp with hp | rfl
                · exact HNE.out p hp
                · exact hxe
              have HD2 : Hid (dn ++ [itR r] = (S.take (i + 1)).map fun p => itR (p.drop 1)) := hid (by rw [htk, List.map_append, ← HD.out, List.map_singleton, hr'])
              have HLT := hid hlt
              have hdl : dn.length ≤ 50001 := by
                have := congrArg List.length HD.out
                rw [List.length_map, List.length_take] at this
                have := HSC.out
                omega
              have HDL := hid hdl
              clear hdl hxe htk hx HD HNE hlt
              go_wp2_with fail
              refine R4.wp_region_slots 6 (fun ix vs W => match ix with | 0 => vs 0 = .pointer (some ⟨b5, 2, none⟩) | 1 => vs 1 = .slice ai dn.length ki | 2 => vs 2 = .string (strB x) | 3 => vs 3 = .string (strB r) | 4 => vs 4 = .agg #[.int .i64 (itR r).kind, .int .i64 (itR r).pos, .int .i64 (itR r).n, .string (itR r).name] | 5 => ∃ b, vs 5 = .slice (some ⟨b, 0, none⟩) 1 1 ∧ W.heap[b]? = some (.cells #[.int .i64 (itR r).kind, .int .i64 (itR r).pos, .int .i64 (itR r).n, .string (itR r).name] 38 (0, 0)) | _ => True) (by kernel_rfl) (by kernel_rfl) ?slst ?sldep ?slop ?slq
              case slst =>
                intro ix vs W W' h hg
                match ix, h with
                | 0, h => exact h
                | 1, h => exact h
                | 2, h => exact h
                | 3, h => exact h
                | 4, h => exact h
                | 5, h => obtain ⟨b, h1, h2⟩ := h; exact ⟨b, h1, (hg.block b (Array.getElem?_eq_some_iff.1 h2).1).trans h2⟩
                | _ + 6, _ => trivial
              case sldep =>
                intro ix o vs vs' W hix ho h hv hn
                match ix, hix, ho, h, hv with
                | 0, _, _, h, hv => exact Eq.trans hv h
                | 1, _, _, h, hv => exact Eq.trans hv h
                | 2, _, _, h, hv => exact Eq.trans hv h
                | 3, _, _, h, hv => exact Eq.trans hv h
                | 4, _, _, h, hv => exact Eq.trans hv h
                | 5, _, _, h, hv => show ∃ b, vs' 5 = .slice (some ⟨b, 0, none⟩) 1 1 ∧ W.heap[b]? = some (.cells #[.int .i64 (itR r).kind, .int .i64 (itR r).pos, .int .i64 (itR r).n, .string (itR r).name] 38 (0, 0)); rw [hv]; exact h
                | kx + 6, hix, _, _, _ => exact absurd hix (by omega)
              case slop =>
                intro ix o hix ho vs W L hg hL hn hall
                match ix, hix, ho, hL with
                | 0, _, ho, _ =>
                  obtain rfl := Option.some.inj ho
                  change R4.Oper.slotAt _ _ { tmps := _, defers := _ } _ _
                  obtain ⟨gq, nq, rfl⟩ := hg
                  go_simp
                  exact ⟨R4.upd_same _ _ _, .inl (by repeat (first | exact Grew.refl _ | refine Grew.drewN ?_ _ | refine Grew.grow ?_ _ | refine Grew.alloc ?_ _ | refine Grew.drew ?_))⟩
                | 1, _, ho, _ =>
                  obtain rfl := Option.some.inj ho
                  have hn0 := (hn 0 (by decide)).2
                  try dsimp only at hn0
                  change R4.Oper.slotAt _ _ (Act.put _ (some 48) (vs 0)) _ _
                  conv => arg 3; rw [hn0]
                  clear hn0
                  obtain ⟨gq, nq, rfl⟩ := hg
                  go_simp
                  exact ⟨R4.upd_same _ _ _, .inl (by repeat (first | exact Grew.refl _ | refine Grew.drewN ?_ _ | refine Grew.grow ?_ _ | refine Grew.alloc ?_ _ | refine Grew.drew ?_))⟩
                | 2, _, ho, _ =>
                  obtain rfl := Option.some.inj ho
                  change R4.Oper.slotAt _ _ { tmps := _, defers := _ } _ _
                  obtain ⟨gq, nq, rfl⟩ := hg
                  go_simp
                  exact ⟨R4.upd_same _ _ _, .inl (by repeat (first | exact Grew.refl _ | refine Grew.drewN ?_ _ | refine Grew.grow ?_ _ | refine Grew.alloc ?_ _ | refine Grew.drew ?_))⟩
                | 3, _, ho, _ =>
                  obtain rfl := Option.some.inj ho
                  have hn2 := (hn 2 (by decide)).2
                  try dsimp only at hn2
                  change R4.Oper.slotAt _ _ (Act.put _ (some 50) (vs 2)) _ _
                  conv => arg 3; rw [hn2]
                  clear hn2
                  obtain ⟨gq, nq, rfl⟩ := hg
                  go_simp
                  exact ⟨R4.upd_same _ _ _, .inl (by repeat (first | exact Grew.refl _ | refine Grew.drewN ?_ _ | refine Grew.grow ?_ _ | refine Grew.alloc ?_ _ | refine Grew.drew ?_))⟩
                | 4, _, ho, _ =>
                  obtain rfl := Option.some.inj ho
                  have hn3 := (hn 3 (by decide)).2
                  try dsimp only at hn3
                  change R4.Oper.slotAt _ _ (Act.put _ (some 51) (vs 3)) _ _
                  conv => arg 3; rw [hn3]
                  clear hn3
                  obtain ⟨gq, nq, rfl⟩ := hg
                  go_simp
                  refine (HRI.out _).mono ?_
                  rintro e w' ⟨rfl, gr⟩
                  exact ⟨_, rfl, R4.upd_same _ _ _, .inl gr⟩
                | 5, _, ho, _ =>
                  obtain rfl := Option.some.inj ho
                  have hn4 := (hn 4 (by decide)).2
                  try dsimp only at hn4
                  change R4.Oper.slotAt _ _ (Act.put _ (some 52) (vs 4)) _ _
                  conv => arg 3; rw [hn4]
                  clear hn4
                  obtain ⟨gq, nq, rfl⟩ := hg
                  go_simp
                  exact ⟨by rw [R4.upd_same]; exact ⟨_, rfl, blk_new (by simp [go_sem])⟩, .inl ((Grew.refl _).alloc _)⟩
                | kx + 6, hix, _, _ => exact absurd hix (by omega)
              case slq =>
                intro vs W hg hn
                have hn0 := hn 0 (by decide) (by decide)
                have hn1 := hn 1 (by decide) (by decide)
                have hn2 := hn 2 (by decide) (by decide)
                have hn3 := hn 3 (by decide) (by decide)
                have hn4 := hn 4 (by decide) (by decide)
                have hn5 := hn 5 (by decide) (by decide)
                change wpList _ _ _ _ (Act.put (Act.put (Act.put (Act.put (Act.put (Act.put _ (some 48) (vs 0)) (some 49) (vs 1)) (some 50) (vs 2)) (some 51) (vs 3)) (some 52) (vs 4)) (some 53) (vs 5)) _
                rw [hn0, hn1, hn2, hn3, hn4]
                clear hn hn0 hn1 hn2 hn3 hn4
                simp only [Act.put, List.setIfInBounds_toArray, List.set_cons_zero, List.set_cons_succ, List.drop_succ_cons, List.drop_zero]
                obtain ⟨bx, e5, hBx⟩ := hn5
                rw [e5]
                have HT2 := hid (HT.out.grew hg)
                have y0 := (hg.cell (i := 0) z5).trans y0
                have y1 := (hg.cell (i := 1) z5).trans y1
                have y2 := (hg.cell (i := 2) z5).trans y2
                have yf : ∀ i, W.frozen? ⟨b5, i, none⟩ = false := fun i => by
                  have := (hg.block b5 z5).trans H5.out
                  simp [World.frozen?, this]
                have hW5 := (hg.block b5 z5).trans H5.out
                have z5 := Nat.lt_of_lt_of_le z5 hg.size
                have HO2 := hid (HO.out.grew hg)
                have HW5 := hid hW5
                have HB3 := hid (show w3.heap.size ≤ W.heap.size from Nat.le_trans HT.out.size hg.size)
                clear hg hW5 e5 HO HT H5 HRI b20 b21 b22 bf zb2 HB2 HGR c0 zg
                go_wp2_with (at_builtin; go_loud (refine wpList_append_its rfl _ _ rfl w3.heap.size ai ki dn rfl HO2.out (some ⟨bx, 0, none⟩) 1 [itR r] rfl (by simp) (fun ad ha j u hj => by cases ha; exact news_of hBx j u hj) ?hmx ?hbs ?_))
                case hmx => have := HDL.out; simp; omega
                case hbs => exact HB3.out
                intro a4 k4 wA hownA hgrowA hdrA
                have hne : some b5 ≠ (Value.slice ai dn.length ki).ownBlock := fun e => by
                  have h1 := ownsRow_above HO2.out b5 e.symm
                  have h2 := (Array.getElem?_eq_some_iff.1 (show w3.heap[b5]? = _ from HWB.out)).1
                  omega
                have hA5 := (hgrowA.block b5 z5 hne).trans HW5.out
                have hTA := HT2.out.by hgrowA hdrA (fun j hj => .inl (ownsRow_above HO2.out j hj))
                obtain ⟨⟨y0, y1, y2⟩, yf, z5⟩ := blk3 hA5
                have HA5 := hid hA5
                have HTA := hid hTA
                have HOA := hid hownA
                clear hA5 hTA hownA hgrowA hdrA hne hBx
                go_wp2_with fail
                refine ⟨⟨i + 1, a4, k4, dn ++ [itR r], HLT.out, by go_num, HD2, HNE2, hid (by rw [show (dn ++ [itR r]).length = dn.length + 1 by simp]; exact set3_2 HA5.out), hid (HOA.out.low (Array.getElem?_eq_some_iff.1 (show w3.heap[b5]? = _ from HWB.out)).1 2 _), hid (HTA.out.set 2 _)⟩, ?_⟩
                have := HLT.out
                simp [intOf]
                omega

end Go.Proofs.YtdomlnhgafielaaGreatDoor

/- Parse of the reference. Condition: the text's length is within the reach. -/

namespace Go.Proofs.YtdomlnhgafielaaGreatDoor
open Go Go.RowKit Amp Msh

theorem clR_ok {l : List UInt8} (hl : l.length ≤ 50000) : (clR l).name.size ≤ maxLen ∧ (clR l).items.length ≤ 9223372036854775807 ∧ ∀ x ∈ (clR l).items, x.name.size ≤ maxLen := by
  have hm : 50000 ≤ maxLen := by decide
  have h0 : noCl.name.size ≤ maxLen ∧ noCl.items.length ≤ 9223372036854775807 ∧ ∀ x ∈ noCl.items, x.name.size ≤ maxLen := ⟨Nat.zero_le _, Nat.zero_le _, fun x hx => absurd hx List.not_mem_nil⟩
  unfold clR
  split
  · rename_i h
    obtain ⟨h2, h3⟩ := h
    obtain ⟨p0, p1, hP⟩ := len_two h2
    have hs := spl_len 58 l
    rw [hP] at hs h3 ⊢
    obtain ⟨q0, q1, q2, hQ⟩ := len_three h3
    have hs2 := spl_len 32 p0
    have hp0 := hs p0 (by simp)
    have hp1 := hs p1 (by simp)
    rw [show [p0, p1].getD 0 [] = p0 from rfl] at hQ ⊢
    rw [show [p0, p1].getD 1 [] = p1 from rfl, hQ]
    rw [hQ] at hs2
    have hq1 := hs2 q1 (by simp)
    have hn : (mkS q1).size ≤ maxLen := by
      show (strB q1).size ≤ _
      rw [strB_size]
      omega
    split
    · exact ⟨hn, Nat.zero_le _, fun x hx => absurd hx List.not_mem_nil⟩
    · split
      · refine ⟨hn, ?_, fun x hx => ?_⟩
        · show ((spl 59 p1).map _).length ≤ _
          rw [List.length_map]
          have := spl_count 59 p1
          omega
        · obtain ⟨p, hp, rfl⟩ := List.mem_map.1 hx
          have h1 := itR_name (p.drop 1)
          have h2 := spl_len 59 p1 p hp
          rw [List.length_drop] at h1
          omega
      · exact h0
  · exact h0
theorem netR_ok {l : List UInt8} (hl : l.length ≤ 50000) : CsOk (netR l) := fun c hc => by
  obtain ⟨p, hp, rfl⟩ := List.mem_map.1 hc
  have := spl_len 10 l p ((List.dropLast_sublist _).subset hp)
  exact clR_ok (by omega)
theorem fmt_par {L : List Cl} {l : List UInt8} (h4 : l.length ≤ 4000) : ((fmtN L).2 = 0 ∧ (fmtN L).1 = l) ↔ (vnet L = true ∧ netT L = l) := by
  unfold fmtN
  by_cases hv : vnet L = true
  · rw [if_pos hv]
    by_cases h : (netT L).length ≤ 4000
    · rw [if_pos h]
      exact ⟨fun h => ⟨hv, h.2⟩, fun h => ⟨rfl, h.2⟩⟩
    · rw [if_neg h]
      exact ⟨fun h => (by cases h.1), fun h2 => absurd (by rw [h2.2]; exact h4) h⟩
  · rw [if_neg hv]
    exact ⟨fun h => (by cases h.1), fun h => absurd h.1 hv⟩
/-- What Parse returns. -/
def ParP (R : List Cl × Int) (e : Ending) (w' : World) : Prop := ∃ (a : Option Addr) (k : Nat), e = .returned (.tuple #[.slice a R.1.length k, .int .i64 R.2]) ∧ Net w' a R.1 ∧ R.1.length ≤ k
theorem OwnCs.len {w : World} {base : Nat} {a0 : Option Addr} {k0 : Nat} {V : List CV} {L : List Cl} (h : OwnCs w base a0 k0 V) (hV : CvIn w V L) : Net w a0 L ∧ L.length ≤ k0 := OwnC.net ⟨V, h, hV⟩
set_option maxRecDepth 100000 in
set_option maxHeartbeats 8000000 in
theorem rparse_any (l : List UInt8) (w : World) (hl : l.length ≤ 140737488351232) :
    Calls Tryz.prog 12 #[.string (strB l)] w fun e w' => ParP (parR l) e w' ∧ Grew w w' := by
  by_cases h4 : 4000 < l.length
  case pos =>
    have HR := hid (show parR l = ([], 4) by unfold parR; rw [if_pos h4])
    have e1 : decide ((4000 : Int) < l.length) = true := decide_eq_true (by omega)
    clear h4
    go_enter Tryz.func12, Tryz.ntmps12
    go_wp2_with fail
    go_ret2
    rw [HR.out]
    exact ⟨⟨none, 0, rfl, .inl rfl, Nat.le_refl _⟩, (by repeat (first | exact Grew.refl _ | refine Grew.drewN ?_ _ | refine Grew.grow ?_ _ | refine Grew.alloc ?_ _ | refine Grew.drew ?_))⟩
  case neg =>
    have hl4 : l.length ≤ 4000 := by omega
    have HR := hid (show parR l = if vnet (netR l) = true ∧ netT (netR l) = l then (netR l, 0) else ([], 3) by unfold parR; rw [if_neg h4])
    have e1 : decide ((4000 : Int) < l.length) = false := decide_eq_false (by omega)
    have H10 := hid fun w => split_10 l w (by omega)
    have HF := hid (fmt_par (L := netR l) hl4)
    have HOK := hid (netR_ok (l := l) (by omega))
    obtain ⟨S, hS⟩ : ∃ S, spl 10 l = S := ⟨_, rfl⟩
    have hSn : S ≠ [] := by rw [← hS]; exact spl_ne _ _
    have HSC := hid (show S.length ≤ 4001 by rw [← hS]; have := spl_count 10 l; omega)
    have HSS : Hid (∀ p ∈ S, p.length ≤ 4000) := hid fun p hp => by rw [← hS] at hp; exact Nat.le_trans (spl_len 10 l p hp) hl4
    obtain ⟨N, hN⟩ : ∃ N, netR l = N := ⟨_, rfl⟩
    have HN : Hid (N = S.dropLast.map clR) := hid (by rw [← hN, ← hS]; rfl)
    rw [hN] at HR HF HOK
    rw [hS] at H10
    obtain ⟨nl, hnl⟩ : ∃ n, S.length = n + 1 := ⟨S.length - 1, by have := List.length_pos_iff.2 hSn; omega⟩
    have hn9 : nl < 9223372036854775800 := by have := HSC.out; omega
    have HNL := hid hnl
    have hl9 : l.length ≤ 9223372036854775807 := by omega
    clear h4 hS hN hl hl4
    go_enter Tryz.func12, Tryz.ntmps12
    go_wp2_with fail
    refine (H10.out _).mono ?_
    rintro e w1 ⟨⟨a, k, rfl, hO⟩, hg⟩
    dsimp only
    obtain ⟨g0, rfl, hg0, hk, hcs⟩ := hO.at hSn
    have hnk : (nl : Int) + 1 ≤ k := by omega
    have HCS := hid hcs
    have HG1 := hid hg
    have HG0 := hid hg0
    rw [hnl]
    clear hO hk hcs hg hSn hnl H10 hg0
    go_wp2_with fail
    go_loopw [5, 21] (fun v5 v wr => ∃ (i : Nat) (a : Option Addr) (k : Nat) (V : List CV), i ≤ nl ∧ v5 = .slice a V.length k ∧ v = .int .i64 i ∧ Hid (OwnCs wr w1.heap.size a k V) ∧ Hid (CvIn wr V ((S.take i).map clR)) ∧ Hid (V.length ≤ i) ∧ Hid (Grew w1 wr)) (fun _ v _ => nl - (intOf v).toNat)
    case atStart => exact ⟨0, none, 0, [], Nat.zero_le _, rfl, rfl, OwnCs.nil _ _, CvIn.nil _, Nat.le_refl _, Grew.refl _⟩
    case round =>
      obtain ⟨i, a, k2, V, hi, rfl, rfl, HO, HV, HVL, HG⟩ := hrel
      by_cases hlt : i < nl
      case pos =>
        obtain ⟨x, hx⟩ : ∃ x, S[i]? = some x := ⟨_, List.getElem?_eq_getElem (by have := HNL.out; omega)⟩
        have c0 := (HG.out.cell (i := i) HG0.out).trans (HCS.out i x hx)
        have zg := Nat.lt_of_lt_of_le HG0.out HG.out.size
        have htk : S.take (i + 1) = S.take i ++ [x] := by rw [List.take_add_one, hx]; rfl
        have HTK : Hid ((S.take (i + 1)).map clR = (S.take i).map clR ++ [clR x]) := hid (by rw [htk, List.map_append, List.map_singleton])
        have HC := hid fun w => rcl_any x w (Nat.le_trans (HSS.out x (List.mem_of_getElem? hx)) (by omega))
        have HLT := hid hlt
        clear htk hx hlt
        go_wp2_with fail
        refine (HC.out _).mono ?_
        rintro e w2 ⟨⟨ai, ki, rfl, hI⟩, hg2⟩
        dsimp only
        obtain ⟨c, hc⟩ : ∃ c, clR x = c := ⟨_, rfl⟩
        rw [hc] at hI HTK ⊢
        have HG2 := hid (HG.out.trans hg2)
        have HO2 := hid (HO.out.grew hg2)
        have HV2 := hid (HV.out.grew hg2)
        have HI := hid hI
        have HB2 := hid (HG.out.trans hg2).size
        clear hg2 HO HV HG hI hc HC c0 zg
        go_wp2_with (at_builtin; go_loud (refine wpList_append_cv rfl _ _ rfl w1.heap.size a k2 V rfl (HO2.out.grew (by repeat (first | exact Grew.refl _ | refine Grew.drewN ?_ _ | refine Grew.grow ?_ _ | refine Grew.alloc ?_ _ | refine Grew.drew ?_))) w2.heap.size 1 ⟨c.name, c.gd, ai, c.items.length, ki⟩ rfl (blk_new rfl) ?hmx ?hbs ?_))
        case hmx => have := HVL.out; have := HSC.out; have := HNL.out; have := HLT.out; omega
        case hbs => have := HB2.out; simp; omega
        intro a4 k4 wA hown hgrow hdr
        have hvA : CvIn wA (V ++ [⟨c.name, c.gd, ai, c.items.length, ki⟩]) ((S.take i).map clR ++ [c]) := by
          have hr : ∀ r, (Value.slice a V.length k2).ownBlock = some r → ∀ cs fz, (w2.alloc (.cells #[.string c.name, .int .i64 c.gd, .slice ai c.items.length ki] 35)).heap[r]? ≠ some (.cells cs 38 fz) := fun r hr cs fz h => by
            obtain ⟨_, cs', fz', h2⟩ := (HO2.out.grew ((Grew.refl w2).alloc (.cells #[.string c.name, .int .i64 c.gd, .slice ai c.items.length ki] 35))).row r hr
            rw [h2] at h
            simp at h
          have g2 : Grew w2 (w2.alloc (.cells #[.string c.name, .int .i64 c.gd, .slice ai c.items.length ki] 35)) := (Grew.refl w2).alloc _
          exact ((HV2.out.grew g2).by hgrow hr).snoc rfl rfl rfl ((HI.out.grew g2).by hgrow hr)
        have hgA : Grew w1 wA := Grew.by (w' := w2.alloc (.cells #[.string c.name, .int .i64 c.gd, .slice ai c.items.length ki] 35)) (HG2.out.alloc _) hgrow hdr (fun j hj => ownsRow_above HO2.out j hj)
        have HA := hid hown
        have HVA := hid hvA
        have HGA := hid hgA
        clear hown hvA hgA hgrow hdr
        go_wp2_with fail
        refine ⟨⟨i + 1, a4, k4, V ++ [⟨c.name, c.gd, ai, c.items.length, ki⟩], HLT.out, by rw [List.length_append]; rfl, by go_num, HA, hid (by rw [HTK.out]; exact HVA.out), hid (by rw [List.length_append]; have := HVL.out; simp; omega), HGA⟩, ?_⟩
        have := HLT.out
        simp [intOf]
        omega
      case neg =>
        obtain rfl : i = nl := by omega
        have htk : S.dropLast = S.take i := by rw [List.dropLast_eq_take, HNL.out, Nat.add_sub_cancel]
        have hNN : (S.take i).map clR = N := by rw [HN.out, htk]
        have hv := HV.out
        rw [hNN] at hv
        have hlen := hv.1
        obtain ⟨hnet, hcap⟩ := HO.out.len hv
        have hnl : N.length ≤ 9223372036854775807 := by have := HVL.out; omega
        have HFO := hid (rformatN_any a k2 N wr hnl hnet HOK.out hcap)
        have HNET := hid hnet
        have HCAP := hid hcap
        have HGW := hid (Grew.trans HG1.out HG.out)
        rw [hlen]
        obtain ⟨T, hT⟩ : ∃ T, (fmtN N).1 = T := ⟨_, rfl⟩
        obtain ⟨E, hE⟩ : ∃ E, (fmtN N).2 = E := ⟨_, rfl⟩
        rw [hT, hE] at HF HFO
        clear htk hNN hv hlen hnet hcap hnl hlt HN HO HV HG HOK hT hE HVL
        go_wp2_with fail
        refine HFO.out.mono ?_
        rintro e w2 ⟨rfl, hg2⟩
        dsimp only
        have HG2 := hid hg2
        clear hg2
        by_cases hE0 : E = 0
        case neg =>
          have HR := hid (HR.out.trans (if_neg fun h => hE0 (HF.out.2 h).1))
          have e2 : (E != 0) = true := by simpa using hE0
          clear hE0
          go_wp2_with fail
          refine bodyPost_ret (results_tmp2 rfl _ _ _) rfl ?_
          rw [HR.out]
          exact ⟨⟨none, 0, rfl, .inl rfl, Nat.le_refl _⟩, HGW.out.trans HG2.out⟩
        case pos =>
          have e2 : (E != 0) = false := by simpa using hE0
          by_cases hT : T = l
          case pos =>
            have HR := hid (HR.out.trans (if_pos (HF.out.1 ⟨hE0, hT⟩)))
            subst hT
            clear hE0
            go_wp2_with fail
            refine bodyPost_ret (results_tmp2 rfl _ _ _) rfl ?_
            rw [HR.out]
            exact ⟨⟨a, k2, rfl, HNET.out.grew HG2.out, HCAP.out⟩, HGW.out.trans HG2.out⟩
          case neg =>
            have HR := hid (HR.out.trans (if_neg fun h => hT (HF.out.2 h).2))
            have e3 : (T == l) = false := eq_f hT
            clear hE0
            go_wp2_with fail
            refine bodyPost_ret (results_tmp2 rfl _ _ _) rfl ?_
            rw [HR.out]
            exact ⟨⟨none, 0, rfl, .inl rfl, Nat.le_refl _⟩, HGW.out.trans HG2.out⟩

end Go.Proofs.YtdomlnhgafielaaGreatDoor
