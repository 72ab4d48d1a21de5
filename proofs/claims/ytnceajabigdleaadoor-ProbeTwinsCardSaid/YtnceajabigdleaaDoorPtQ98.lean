/- Layer 9, in main's ghost: the greatest of numbers. Condition: they lie in memory, none is below 0. -/
import Derived.Test.YtnceajabigdleaaDoorPtQ96
namespace Go.Proofs.Qm
open Go Go.Pt Go.RowKit Prb
def grL (cs : List Int) : Int := cs.foldl max 0
theorem grL_take {cs : List Int} {i : Nat} {c : Int} (h : cs[i]? = some c) : grL (cs.take (i + 1)) = max (grL (cs.take i)) c := by
  unfold grL
  rw [List.take_add_one, h, Option.toList_some, List.foldl_append]
  rfl
theorem ntmpsM : own74.ntmps = 25 := by kernel_rfl
theorem resultsM : own74.results = Tryd.f74.results := rfl
set_option maxHeartbeats 1600000 in
theorem max_any (a : Option Addr) (k : Nat) (cs : List Int) (w : World) (hl : cs.length ≤ 100) (h1 : 1 ≤ cs.length) (hc : NsA w a cs) (h0 : ∀ c ∈ cs, 0 ≤ c) :
    Calls prog 74 #[.slice a cs.length k] w fun e w' => e = .returned (.int .i64 (grL cs)) ∧ w' = w := by
  have HC := hid hc
  obtain ⟨c0, hc0⟩ : ∃ c, cs[0]? = some c := ⟨cs[0], List.getElem?_eq_getElem h1⟩
  obtain ⟨b, off, rfl, hb, y0⟩ := hc 0 c0 hc0
  rw [Nat.add_zero] at y0
  have e0 : grL (cs.take 1) = c0 := by
    rw [grL_take hc0]
    have := h0 c0 (List.mem_of_getElem? hc0)
    show max 0 c0 = c0
    omega
  clear hc h0 hc0
  go_enter at74, ntmpsM
  simp only [cutC, isPanic, List.any_cons, List.any_nil, Bool.or_false, Bool.or_true, Bool.false_eq_true, ↓reduceIte]
  go_wp2_with fail
  rw [← e0]
  go_loopw [3, 4] (fun s v wr => ∃ i : Nat, 1 ≤ i ∧ i ≤ cs.length ∧ v = .int .i64 i ∧ s = .int .i64 (grL (cs.take i)) ∧ wr = w) (fun _ v _ => cs.length - (intOf v).toNat)
  case atStart => exact ⟨1, by omega, h1, rfl, rfl, rfl⟩
  case round =>
    obtain ⟨i, hi1, hi, rfl, rfl, rfl⟩ := hrel
    by_cases hlt : i < cs.length
    · obtain ⟨c, hc⟩ : ∃ c, cs[i]? = some c := ⟨cs[i], List.getElem?_eq_getElem hlt⟩
      obtain ⟨b', off', e', hb', y1⟩ := HC.out i c hc
      obtain ⟨rfl, rfl⟩ : b = b' ∧ off = off' := by injection e' with e'; injection e' with e1 e2; exact ⟨e1, e2⟩
      have HT := hid (grL_take hc)
      clear hc e' hb'
      obtain ⟨G, hG⟩ : ∃ G, grL (cs.take i) = G := ⟨_, rfl⟩
      rw [hG] at HT ⊢
      clear hG
      go_wp2_with fail
      go_roundw
      case rel => exact ⟨i + 1, by omega, by omega, by go_num, by rw [HT.out]; congr 1; split <;> omega, by first | rfl | trivial⟩
      case measure => simp [intOf]; omega
    · obtain rfl : i = cs.length := by omega
      rw [List.take_length]
      go_wp2_with fail
      exact bodyPost_ret (v := .int .i64 (grL cs)) (by simp [results, resultsM, go_sem]) rfl ⟨rfl, rfl⟩
open Go Go.Pt Go.RowKit Prb
def bstI (g : Nat → Int) : Nat → Int × Int
  | 0 => (0, 0)
  | k + 1 => if k = 0 ∨ g k < (bstI g k).2 then ((k : Int), g k) else bstI g k
theorem bstI_yes {g : Nat → Int} {k : Nat} (h : k = 0 ∨ g k < (bstI g k).2) : bstI g (k + 1) = ((k : Int), g k) := by rw [bstI, if_pos h]
theorem bstI_no {g : Nat → Int} {k : Nat} (h : ¬ (k = 0 ∨ g k < (bstI g k).2)) : bstI g (k + 1) = bstI g k := by rw [bstI, if_neg h]
def wrst (n : Int) (m : Nat) (L : List Nat) (z : Tq) : Int := grL (cntL m (fun s => refA n (thB s z.b) z.t.i.toNat) L)
def gOf (n : Int) (m : Nat) (L : List Nat) (l : List Tq) (i : Nat) : Int := match l[i]? with | some z => wrst n m L z | none => 0
theorem gOf_at {n : Int} {m : Nat} {L : List Nat} {l : List Tq} {i : Nat} {z : Tq} (h : l[i]? = some z) : gOf n m L l i = wrst n m L z := by unfold gOf; rw [h]
theorem cnt_pos (n : Nat) (f : Nat → Nat) (l : List Nat) : ∀ c ∈ cntL n f l, 0 ≤ c := fun c hc => by
  obtain ⟨i, hi, rfl⟩ := List.mem_iff_getElem.1 hc
  have := (cntL_le n f l i).1
  rwa [List.getD_eq_getElem?_getD, List.getElem?_eq_getElem hi] at this
set_option maxRecDepth 100000 in
set_option maxHeartbeats 6400000 in
theorem best_any (n : Int) (N m C : Nat) (hn : (n = 2 ∧ N = 2 ∧ m = 2) ∨ (n = 4 ∧ N = 64 ∧ m = 4)) (L : List Nat) (ha : Asc L) (hL : ∀ y ∈ L, y < N) (a : Option Addr) (cap : Nat) (l : List Tq) (w : World) (hl : l.length ≤ 100) (hc : TqAt w a l) (h : tqsB n l = true) (hT : Tab w m N C) (hD : DebAt w) :
    Calls prog 48 #[.slice (some ⟨C, 0, none⟩) N N, .int .i64 n, .int .u64 (setS L), .slice a l.length cap] w fun e w' => e = .returned (.tuple #[.int .i64 (bstI (gOf n m L l) l.length).1, .int .i64 (bstI (gOf n m L l) l.length).2]) ∧ Below w.heap.size w w' := by
  have HN := hid hn
  have HTE := hid (tqsB_at h)
  have HCC := hid hc
  have HD := hid hD
  have HT := hid hT
  have hN64 : N ≤ 64 := by omega
  have hm4 : 1 ≤ m ∧ m ≤ 4 := by omega
  have hlen64 := asc_len (lo := 0) ha (fun y hy => ⟨Nat.zero_le _, by have := hL y hy; omega⟩) (by decide)
  have HA := hid ha
  have HLB := hid hL
  obtain ⟨g, hg⟩ : ∃ g, gOf n m L l = g := ⟨_, rfl⟩
  have HG : Hid (∀ i z, l[i]? = some z → g i = wrst n m L z) := hid fun i z hz => by rw [← hg]; exact gOf_at hz
  rw [hg]
  clear hn h hc hD hT ha hL hg
  obtain ⟨S, hS⟩ : ∃ S, setS L = S := ⟨_, rfl⟩
  have HS := hid hS
  rw [hS]
  clear hS
  go_enter func48, ntmps48
  go_wp2_with fail
  go_loopw [8, 9, 15] (fun s t v wr => ∃ i : Nat, i ≤ l.length ∧ v = .int .i64 i ∧ s = .int .i64 (bstI g i).1 ∧ t = .int .i64 (bstI g i).2 ∧ Hid (Below w.heap.size w wr)) (fun _ _ v _ => l.length - (intOf v).toNat)
  case atStart => exact ⟨0, Nat.zero_le _, rfl, rfl, rfl, Below.refl _ _⟩
  case round =>
    obtain ⟨i, hi, rfl, rfl, rfl, HB⟩ := hrel
    by_cases hlt : i < l.length
    · obtain ⟨z, hz⟩ : ∃ z, l[i]? = some z := ⟨l[i], List.getElem?_eq_getElem hlt⟩
      obtain ⟨b, off, rfl, hb, ⟨c0, c1, c2⟩, hzl, htz⟩ := (HCC.out.below HB.out) i z hz
      obtain ⟨tb, toff, I, hta, htb, hbl, hlen, hI, hIm, hk⟩ := tq_open HN.out htz (HTE.out z (List.mem_of_getElem? hz))
      have hgz := HG.out i z hz
      unfold wrst at hgz
      rw [hI, Int.toNat_natCast] at hgz
      rw [hta, hlen] at c0
      rw [hI] at c1
      have HP := hid fun w' (hg : Grew wr w') => (pparts_any n N m I tb toff z.t.cap C z.b L w' hk HA.out HLB.out (by omega) (Nat.lt_of_lt_of_le htb hg.size) (hbl.grew htb hg) hIm ((HT.out.below HB.out).grew hg) ((HD.out.below HB.out).of_block (hg.block 0 (HD.out.below HB.out).1))).mono fun e w'' h => (show ∃ bo : Nat, e = .returned (.slice (some ⟨bo, 0, none⟩) m m) ∧ NsA w'' (some ⟨bo, 0, none⟩) (cntL m (fun s => refA n (thB s z.b) I) L) ∧ Below w.heap.size w w'' from by
        obtain ⟨bo, h1, _, h3, h4⟩ := h
        exact ⟨bo, h1, h3, (below_grew HB.out hg HB.out.size).trans (h4.mono (Nat.le_trans HB.out.size hg.size))⟩)
      rw [HS.out] at HP
      have hcl := cntL_len m (fun s => refA n (thB s z.b) I) L
      have hcp := cnt_pos m (fun s => refA n (thB s z.b) I) L
      obtain ⟨cs, hcs⟩ : ∃ cs, cntL m (fun s => refA n (thB s z.b) I) L = cs := ⟨_, rfl⟩
      rw [hcs] at HP hcl hcp hgz
      have HM := hid fun w' bo (hc : NsA w' (some ⟨bo, 0, none⟩) cs) => max_any (some ⟨bo, 0, none⟩) m cs w' (by omega) (by omega) hc hcp
      rw [hcl] at HM
      obtain ⟨o, ho⟩ : ∃ o, z.t.o = o := ⟨_, rfl⟩
      obtain ⟨tcap, htc⟩ : ∃ o, z.t.cap = o := ⟨_, rfl⟩
      obtain ⟨T, hTT⟩ : ∃ o, z.b.length = o := ⟨_, rfl⟩
      rw [htc, hTT] at HP
      rw [ho] at c2
      rw [hTT, htc] at c0
      have hT6 : T ≤ 6 := by omega
      obtain ⟨G, hG⟩ : ∃ G, grL cs = G := ⟨_, rfl⟩
      rw [hG] at HM hgz
      have HGZ := hid hgz
      obtain ⟨A, hA⟩ : ∃ A, bstI g i = A := ⟨_, rfl⟩
      have HAA := hid hA
      rw [hA]
      clear hz hzl htz hta htb hbl hlen hI hk ho htc hTT hcs hcl hcp hgz hG hA
      by_cases hv : i = 0 ∨ G < A.2
      · have HST : Hid (bstI g (i + 1) = ((i : Int), G)) := hid (by rw [← HGZ.out]; exact bstI_yes (by rw [HGZ.out, HAA.out]; exact hv))
        rcases Nat.eq_zero_or_pos i with h0 | h0
        · subst h0
          simp only [Nat.zero_mul, Nat.add_zero] at c0 c1 c2
          go_wp2_with fail
          refine (HP.out _ gw0).mono ?_
          rintro e w2 ⟨bo, rfl, hN2, hB2⟩
          have HM2 := hid (HM.out w2 bo hN2)
          have HB2 := hid hB2
          clear hN2 hB2
          go_wp2_with fail
          refine HM2.out.mono ?_
          rintro e w' ⟨rfl, hw'⟩
          obtain rfl : w2 = w' := hw'.symm
          clear hw'
          go_wp2_with fail
          go_roundw
          case rel => exact ⟨1, by omega, by go_num, by rw [HST.out]; rfl, by rw [HST.out], HB2⟩
          case measure => simp [intOf]; omega
        · have h1 : G < A.2 := by rcases hv with h | h <;> omega
          have e1 : ((i : Int) == 0) = false := by simp; omega
          have e2 : decide (G < A.2) = true := decide_eq_true h1
          clear hv
          go_wp2_with fail
          refine (HP.out _ gw0).mono ?_
          rintro e w2 ⟨bo, rfl, hN2, hB2⟩
          have HM2 := hid (HM.out w2 bo hN2)
          have HB2 := hid hB2
          clear hN2 hB2
          go_wp2_with fail
          refine HM2.out.mono ?_
          rintro e w' ⟨rfl, hw'⟩
          obtain rfl : w2 = w' := hw'.symm
          clear hw'
          go_wp2_with fail
          go_roundw
          case rel => exact ⟨i + 1, by omega, by go_num, by rw [HST.out], by rw [HST.out], HB2⟩
          case measure => simp [intOf]; omega
      · have HST : Hid (bstI g (i + 1) = A) := hid (by rw [← HAA.out]; exact bstI_no (by rw [HGZ.out, HAA.out]; exact hv))
        have e1 : ((i : Int) == 0) = false := by simp; omega
        have e2 : decide (G < A.2) = false := decide_eq_false (by omega)
        clear hv
        go_wp2_with fail
        refine (HP.out _ gw0).mono ?_
        rintro e w2 ⟨bo, rfl, hN2, hB2⟩
        have HM2 := hid (HM.out w2 bo hN2)
        have HB2 := hid hB2
        clear hN2 hB2
        go_wp2_with fail
        refine HM2.out.mono ?_
        rintro e w' ⟨rfl, hw'⟩
        obtain rfl : w2 = w' := hw'.symm
        clear hw'
        go_wp2_with fail
        go_roundw
        case rel => exact ⟨i + 1, by omega, by go_num, by rw [HST.out], by rw [HST.out], HB2⟩
        case measure => simp [intOf]; omega
    · obtain rfl : i = l.length := by omega
      obtain ⟨A, hA⟩ : ∃ A, bstI g l.length = A := ⟨_, rfl⟩
      rw [hA]
      have HAF := hid hA
      clear hA
      go_wp2_with fail
      exact bodyPost_ret (v := .tuple #[.int .i64 A.1, .int .i64 A.2]) (by simp [results, go_sem]) rfl ⟨by rw [HAF.out], HB.out⟩
open Go Go.Pt Go.RowKit Prb
open Go Go.Pt Go.RowKit Prb
theorem asc_of_ok {N : Int} : ∀ {l : List Int} {lo : Int}, 0 ≤ lo → okFrom N lo l = true → Asc (l.map Int.toNat) ∧ ∀ y ∈ l, lo ≤ y
  | [], _, _, _ => ⟨trivial, fun y h => by cases h⟩
  | x :: r, lo, h0, h => by
    simp only [okFrom, Bool.and_eq_true, decide_eq_true_eq] at h
    obtain ⟨⟨h1, h2⟩, h3⟩ := h
    obtain ⟨ha, hb⟩ := asc_of_ok (lo := x + 1) (by omega) h3
    refine ⟨⟨fun y hy => ?_, ha⟩, fun y hy => ?_⟩
    · obtain ⟨z, hz, rfl⟩ := List.mem_map.1 hy
      have := hb z hz
      omega
    · rcases List.mem_cons.1 hy with rfl | hy
      · exact h1
      · have := hb y hy; omega
theorem lt_of_ok {N : Nat} {l : List Int} (h : okFrom N 0 l = true) : ∀ y ∈ l.map Int.toNat, y < N := fun y hy => by
  obtain ⟨z, hz, rfl⟩ := List.mem_map.1 hy
  have := ok_at h z hz
  omega
end Go.Proofs.Qm
