/- Layer 9, in main's ghost: the greatest of numbers. Condition: they lie in memory, none is below 0. -/
import Derived.Test.YtnceajabigdleaaDoorPtQ96
namespace Go.Proofs.Qm
open Go Go.Pt Go.RowKit Prb
def grL (cs : List Int) : Int := cs.foldl max 0
theorem grL_take {cs : List Int} {i : Nat} {c : Int} (h : cs[i]? = some c) : grL (cs.take (i + 1)) = max (grL (cs.take i)) c := by
  unfold grL
  rw [List.take_add_one, h, Option.toList_some, List.foldl_append]
  rfl
theorem ntmpsM : own74.ntmps = 25 := by kernel_rfl
theorem resultsM : own74.results = Tryd.f74.results := rfl
set_option maxHeartbeats 1600000 in
theorem max_any (a : Option Addr) (k : Nat) (cs : List Int) (w : World) (hl : cs.length ≤ 100) (h1 : 1 ≤ cs.length) (hc : NsA w a cs) (h0 : ∀ c ∈ cs, 0 ≤ c) :
    Calls prog 74 #[.slice a cs.length k] w fun e w' => e = .returned (.int .i64 (grL cs)) ∧ w' = w := by
  have HC := hid hc
  obtain ⟨c0, hc0⟩ : ∃ c, cs[0]? = some c := ⟨cs[0], List.getElem?_eq_getElem h1⟩
  obtain ⟨b, off, rfl, hb, y0⟩ := hc 0 c0 hc0
  rw [Nat.add_zero] at y0
  have e0 : grL (cs.take 1) = c0 := by
    rw [grL_take hc0]
    have := h0 c0 (List.mem_of_getElem? hc0)
    show max 0 c0 = c0
    omega
  clear hc h0 hc0
  go_enter at74, ntmpsM
  simp only [cutC, isPanic, List.any_cons, List.any_nil, Bool.or_false, Bool.or_true, Bool.false_eq_true, ↓reduceIte]
  go_wp2_with fail
  rw [← e0]
  go_loopw [3, 4] (fun s v wr => ∃ i : Nat, 1 ≤ i ∧ i ≤ cs.length ∧ v = .int .i64 i ∧ s = .int .i64 (grL (cs.take i)) ∧ wr = w) (fun _ v _ => cs.length - (intOf v).toNat)
  case atStart => exact ⟨1, by omega, h1, rfl, rfl, rfl⟩
  case round =>
    obtain ⟨i, hi1, hi, rfl, rfl, rfl⟩ := hrel
    by_cases hlt : i < cs.length
    · obtain ⟨c, hc⟩ : ∃ c, cs[i]? = some c := ⟨cs[i], List.getElem?_eq_getElem hlt⟩
      obtain ⟨b', off', e', hb', y1⟩ := HC.out i c hc
      obtain ⟨rfl, rfl⟩ : b = b' ∧ off = off' := by injection e' with e'; injection e' with e1 e2; exact ⟨e1, e2⟩
      have HT := hid (grL_take hc)
      clear hc e' hb'
      obtain ⟨G, hG⟩ : ∃ G, grL (cs.take i) = G := ⟨_, rfl⟩
      rw [hG] at HT ⊢
      clear hG
      go_wp2_with fail
      go_roundw
      case rel => exact ⟨i + 1, by omega, by omega, by go_num, by rw [HT.out]; congr 1; split <;> omega, by first | rfl | trivial⟩
      case measure => simp [intOf]; omega
    · obtain rfl : i = cs.length := by omega
      rw [List.take_length]
      go_wp2_with fail
      exact bodyPost_ret (v := .int .i64 (grL cs)) (by simp [results, resultsM, go_sem]) rfl ⟨rfl, rfl⟩
open Go Go.Pt Go.RowKit Prb
def bstI (g : Nat → Int) : Nat → Int × Int
  | 0 => (0, 0)
  | k + 1 => if k = 0 ∨ g k < (bstI g k).2 then ((k : Int), g k) else bstI g k
theorem bstI_yes {g : Nat → Int} {k : Nat} (h : k = 0 ∨ g k < (bstI g k).2) : bstI g (k + 1) = ((k : Int), g k) := by rw [bstI, if_pos h]
theorem bstI_no {g : Nat → Int} {k : Nat} (h : ¬ (k = 0 ∨ g k < (bstI g k).2)) : bstI g (k + 1) = bstI g k := by rw [bstI, if_neg h]
theorem bstI_at (g : Nat → Int) : ∀ k, (bstI g k).1 = 0 ∨ ∃ i : Nat, i < k ∧ (bstI g k).1 = i
  | 0 => .inl rfl
  | k + 1 => by
    rw [bstI]
    split
    · exact .inr ⟨k, Nat.lt_succ_self k, rfl⟩
    · rcases bstI_at g k with h | ⟨i, h1, h2⟩
      · exact .inl h
      · exact .inr ⟨i, Nat.lt_succ_of_lt h1, h2⟩
def wrst (n : Int) (m : Nat) (L : List Nat) (z : Tq) : Int := grL (cntL m (fun s => refA n (thB s z.b) z.t.i.toNat) L)
def gOf (n : Int) (m : Nat) (L : List Nat) (l : List Tq) (i : Nat) : Int := match l[i]? with | some z => wrst n m L z | none => 0
theorem gOf_at {n : Int} {m : Nat} {L : List Nat} {l : List Tq} {i : Nat} {z : Tq} (h : l[i]? = some z) : gOf n m L l i = wrst n m L z := by unfold gOf; rw [h]
theorem cnt_pos (n : Nat) (f : Nat → Nat) (l : List Nat) : ∀ c ∈ cntL n f l, 0 ≤ c := fun c hc => by
  obtain ⟨i, hi, rfl⟩ := List.mem_iff_getElem.1 hc
  have := (cntL_le n f l i).1
  rwa [List.getD_eq_getElem?_getD, List.getElem?_eq_getElem hi] at this
set_option maxRecDepth 100000 in
set_option maxHeartbeats 6400000 in
theorem best_any (n : Int) (N m C : Nat) (hn : (n = 2 ∧ N = 2 ∧ m = 2) ∨ (n = 4 ∧ N = 64 ∧ m = 4)) (L : List Nat) (ha : Asc L) (hL : ∀ y ∈ L, y < N) (a : Option Addr) (cap : Nat) (l : List Tq) (w : World) (hl : l.length ≤ 100) (hc : TqAt w a l) (h : tqsB n l = true) (hT : Tab w m N C) (hD : DebAt w) :
    Calls prog 48 #[.slice (some ⟨C, 0, none⟩) N N, .int .i64 n, .int .u64 (setS L), .slice a l.length cap] w fun e w' => e = .returned (.tuple #[.int .i64 (bstI (gOf n m L l) l.length).1, .int .i64 (bstI (gOf n m L l) l.length).2]) ∧ Below w.heap.size w w' := by
  have HN := hid hn
  have HTE := hid (tqsB_at h)
  have HCC := hid hc
  have HD := hid hD
  have HT := hid hT
  have hN64 : N ≤ 64 := by omega
  have hm4 : 1 ≤ m ∧ m ≤ 4 := by omega
  have hlen64 := asc_len (lo := 0) ha (fun y hy => ⟨Nat.zero_le _, by have := hL y hy; omega⟩) (by decide)
  have HA := hid ha
  have HLB := hid hL
  obtain ⟨g, hg⟩ : ∃ g, gOf n m L l = g := ⟨_, rfl⟩
  have HG : Hid (∀ i z, l[i]? = some z → g i = wrst n m L z) := hid fun i z hz => by rw [← hg]; exact gOf_at hz
  rw [hg]
  clear hn h hc hD hT ha hL hg
  obtain ⟨S, hS⟩ : ∃ S, setS L = S := ⟨_, rfl⟩
  have HS := hid hS
  rw [hS]
  clear hS
  go_enter func48, ntmps48
  go_wp2_with fail
  go_loopw [8, 9, 15] (fun s t v wr => ∃ i : Nat, i ≤ l.length ∧ v = .int .i64 i ∧ s = .int .i64 (bstI g i).1 ∧ t = .int .i64 (bstI g i).2 ∧ Hid (Below w.heap.size w wr)) (fun _ _ v _ => l.length - (intOf v).toNat)
  case atStart => exact ⟨0, Nat.zero_le _, rfl, rfl, rfl, Below.refl _ _⟩
  case round =>
    obtain ⟨i, hi, rfl, rfl, rfl, HB⟩ := hrel
    by_cases hlt : i < l.length
    · obtain ⟨z, hz⟩ : ∃ z, l[i]? = some z := ⟨l[i], List.getElem?_eq_getElem hlt⟩
      obtain ⟨b, off, rfl, hb, ⟨c0, c1, c2⟩, hzl, htz⟩ := (HCC.out.below HB.out) i z hz
      obtain ⟨tb, toff, I, hta, htb, hbl, hlen, hI, hIm, hk⟩ := tq_open HN.out htz (HTE.out z (List.mem_of_getElem? hz))
      have hgz := HG.out i z hz
      unfold wrst at hgz
      rw [hI, Int.toNat_natCast] at hgz
      rw [hta, hlen] at c0
      rw [hI] at c1
      have HP := hid fun w' (hg : Grew wr w') => (pparts_any n N m I tb toff z.t.cap C z.b L w' hk HA.out HLB.out (by omega) (Nat.lt_of_lt_of_le htb hg.size) (hbl.grew htb hg) hIm ((HT.out.below HB.out).grew hg) ((HD.out.below HB.out).of_block (hg.block 0 (HD.out.below HB.out).1))).mono fun e w'' h => (show ∃ bo : Nat, e = .returned (.slice (some ⟨bo, 0, none⟩) m m) ∧ NsA w'' (some ⟨bo, 0, none⟩) (cntL m (fun s => refA n (thB s z.b) I) L) ∧ Below w.heap.size w w'' from by
        obtain ⟨bo, h1, _, h3, h4⟩ := h
        exact ⟨bo, h1, h3, (below_grew HB.out hg HB.out.size).trans (h4.mono (Nat.le_trans HB.out.size hg.size))⟩)
      rw [HS.out] at HP
      have hcl := cntL_len m (fun s => refA n (thB s z.b) I) L
      have hcp := cnt_pos m (fun s => refA n (thB s z.b) I) L
      obtain ⟨cs, hcs⟩ : ∃ cs, cntL m (fun s => refA n (thB s z.b) I) L = cs := ⟨_, rfl⟩
      rw [hcs] at HP hcl hcp hgz
      have HM := hid fun w' bo (hc : NsA w' (some ⟨bo, 0, none⟩) cs) => max_any (some ⟨bo, 0, none⟩) m cs w' (by omega) (by omega) hc hcp
      rw [hcl] at HM
      obtain ⟨o, ho⟩ : ∃ o, z.t.o = o := ⟨_, rfl⟩
      obtain ⟨tcap, htc⟩ : ∃ o, z.t.cap = o := ⟨_, rfl⟩
      obtain ⟨T, hTT⟩ : ∃ o, z.b.length = o := ⟨_, rfl⟩
      rw [htc, hTT] at HP
      rw [ho] at c2
      rw [hTT, htc] at c0
      have hT6 : T ≤ 6 := by omega
      obtain ⟨G, hG⟩ : ∃ G, grL cs = G := ⟨_, rfl⟩
      rw [hG] at HM hgz
      have HGZ := hid hgz
      obtain ⟨A, hA⟩ : ∃ A, bstI g i = A := ⟨_, rfl⟩
      have HAA := hid hA
      rw [hA]
      clear hz hzl htz hta htb hbl hlen hI hk ho htc hTT hcs hcl hcp hgz hG hA
      by_cases hv : i = 0 ∨ G < A.2
      · have HST : Hid (bstI g (i + 1) = ((i : Int), G)) := hid (by rw [← HGZ.out]; exact bstI_yes (by rw [HGZ.out, HAA.out]; exact hv))
        rcases Nat.eq_zero_or_pos i with h0 | h0
        · subst h0
          simp only [Nat.zero_mul, Nat.add_zero] at c0 c1 c2
          go_wp2_with fail
          refine (HP.out _ gw0).mono ?_
          rintro e w2 ⟨bo, rfl, hN2, hB2⟩
          have HM2 := hid (HM.out w2 bo hN2)
          have HB2 := hid hB2
          clear hN2 hB2
          go_wp2_with fail
          refine HM2.out.mono ?_
          rintro e w' ⟨rfl, hw'⟩
          obtain rfl : w2 = w' := hw'.symm
          clear hw'
          go_wp2_with fail
          go_roundw
          case rel => exact ⟨1, by omega, by go_num, by rw [HST.out]; rfl, by rw [HST.out], HB2⟩
          case measure => simp [intOf]; omega
        · have h1 : G < A.2 := by rcases hv with h | h <;> omega
          have e1 : ((i : Int) == 0) = false := by simp; omega
          have e2 : decide (G < A.2) = true := decide_eq_true h1
          clear hv
          go_wp2_with fail
          refine (HP.out _ gw0).mono ?_
          rintro e w2 ⟨bo, rfl, hN2, hB2⟩
          have HM2 := hid (HM.out w2 bo hN2)
          have HB2 := hid hB2
          clear hN2 hB2
          go_wp2_with fail
          refine HM2.out.mono ?_
          rintro e w' ⟨rfl, hw'⟩
          obtain rfl : w2 = w' := hw'.symm
          clear hw'
          go_wp2_with fail
          go_roundw
          case rel => exact ⟨i + 1, by omega, by go_num, by rw [HST.out], by rw [HST.out], HB2⟩
          case measure => simp [intOf]; omega
      · have HST : Hid (bstI g (i + 1) = A) := hid (by rw [← HAA.out]; exact bstI_no (by rw [HGZ.out, HAA.out]; exact hv))
        have e1 : ((i : Int) == 0) = false := by simp; omega
        have e2 : decide (G < A.2) = false := decide_eq_false (by omega)
        clear hv
        go_wp2_with fail
        refine (HP.out _ gw0).mono ?_
        rintro e w2 ⟨bo, rfl, hN2, hB2⟩
        have HM2 := hid (HM.out w2 bo hN2)
        have HB2 := hid hB2
        clear hN2 hB2
        go_wp2_with fail
        refine HM2.out.mono ?_
        rintro e w' ⟨rfl, hw'⟩
        obtain rfl : w2 = w' := hw'.symm
        clear hw'
        go_wp2_with fail
        go_roundw
        case rel => exact ⟨i + 1, by omega, by go_num, by rw [HST.out], by rw [HST.out], HB2⟩
        case measure => simp [intOf]; omega
    · obtain rfl : i = l.length := by omega
      obtain ⟨A, hA⟩ : ∃ A, bstI g l.length = A := ⟨_, rfl⟩
      rw [hA]
      have HAF := hid hA
      clear hA
      go_wp2_with fail
      exact bodyPost_ret (v := .tuple #[.int .i64 A.1, .int .i64 A.2]) (by simp [results, go_sem]) rfl ⟨by rw [HAF.out], HB.out⟩
open Go Go.Pt Go.RowKit Prb
def triZ (n : Int) (sl : List Int) (l : List Tq) : Int := if cntZ n = 0 ∨ okFrom (topN n) 0 sl = false then 2 else if (decide (l.length ≤ 40) && tqsB n l) = false then 90 else 0
set_option maxHeartbeats 3200000 in
theorem tried_any (n : Int) (sa : Option Addr) (scap : Nat) (sl : List Int) (a : Option Addr) (cap : Nat) (l : List Tq) (w : World) (hsl : sl.length ≤ 9223372036854775807) (hl : l.length ≤ 9223372036854775807) (hs : NsA w sa sl) (hc : TqAt w a l) :
    Calls prog 49 #[.int .i64 n, .slice sa sl.length scap, .slice a l.length cap] w fun e w' => e = .returned (.int .i64 (triZ n sl l)) ∧ Grew w w' := by
  have HK := hid fun w => rknown_any n w
  by_cases h0 : cntZ n = 0
  · rw [known_f h0] at HK
    rw [show triZ n sl l = 2 from if_pos (.inl h0)]
    clear hs hc h0
    go_enter func49, ntmps49
    go_wp2_with fail
    refine (HK.out _).mono ?_
    rintro e w' ⟨rfl, rfl⟩
    go_wp2_with fail
    exact bodyPost_ret (v := .int .i64 2) (by simp [results, go_sem]) rfl ⟨rfl, gw0⟩
  have hn := cntZ_ne h0
  rw [known_t hn] at HK
  have HS := hid fun w' (hg : Grew w w') => areStates_any n hn sa scap sl w' hsl (hs.grew hg)
  have HF := hid fun w' (hg : Grew w w') => areTests_any n hn a cap l w' hl (hc.grew hg)
  clear hs hc
  cases hok : okFrom (topN n) 0 sl with
  | false =>
    rw [hok] at HS
    rw [show triZ n sl l = 2 from if_pos (.inr hok)]
    clear h0 hok hn
    go_enter func49, ntmps49
    go_wp2_with fail
    refine (HK.out _).mono ?_
    rintro e w' ⟨rfl, rfl⟩
    go_wp2_with fail
    refine (HS.out _ gw0).mono ?_
    rintro e w' ⟨rfl, g1, n1, rfl⟩
    go_wp2_with fail
    exact bodyPost_ret (v := .int .i64 2) (by simp [results, go_sem]) rfl ⟨rfl, gw0⟩
  | true =>
    rw [hok] at HS
    have hno : ¬ (cntZ n = 0 ∨ okFrom (topN n) 0 sl = false) := by rw [hok]; simp [h0]
    cases hf : (decide (l.length ≤ 40) && tqsB n l) with
    | false =>
      rw [hf] at HF
      rw [show triZ n sl l = 90 from (if_neg hno).trans (if_pos hf)]
      clear h0 hok hn hno hf
      go_enter func49, ntmps49
      go_wp2_with fail
      refine (HK.out _).mono ?_
      rintro e w' ⟨rfl, rfl⟩
      go_wp2_with fail
      refine (HS.out _ gw0).mono ?_
      rintro e w' ⟨rfl, g1, n1, rfl⟩
      go_wp2_with fail
      refine (HF.out _ gw0).mono ?_
      rintro e w' ⟨rfl, g2, n2, rfl⟩
      go_wp2_with fail
      exact bodyPost_ret (v := .int .i64 90) (by simp [results, go_sem]) rfl ⟨rfl, gw0⟩
    | true =>
      rw [hf] at HF
      rw [show triZ n sl l = 0 from (if_neg hno).trans (if_neg (by rw [hf]; simp))]
      clear h0 hok hn hno hf
      go_enter func49, ntmps49
      go_wp2_with fail
      refine (HK.out _).mono ?_
      rintro e w' ⟨rfl, rfl⟩
      go_wp2_with fail
      refine (HS.out _ gw0).mono ?_
      rintro e w' ⟨rfl, g1, n1, rfl⟩
      go_wp2_with fail
      refine (HF.out _ gw0).mono ?_
      rintro e w' ⟨rfl, g2, n2, rfl⟩
      go_wp2_with fail
      exact bodyPost_ret (v := .int .i64 0) (by simp [results, go_sem]) rfl ⟨rfl, gw0⟩
def BesP (x y r : Int) (w : World) (e : Ending) (w' : World) : Prop := e = .returned (.tuple #[.int .i64 x, .int .i64 y, .int .i64 r]) ∧ Below w.heap.size w w'
set_option maxHeartbeats 3200000 in
theorem rBest_none (n : Int) (sa : Option Addr) (scap : Nat) (sl : List Int) (a : Option Addr) (cap : Nat) (w : World) (hsl : sl.length ≤ 9223372036854775807) (hs : NsA w sa sl) (hc : TqAt w a []) (h : triZ n sl [] = 0) :
    Calls prog 17 #[.int .i64 n, .slice sa sl.length scap, .slice a 0 cap] w (BesP 0 0 5 w) := by
  have HT := hid fun w' (hg : Grew w w') => tried_any n sa scap sl a cap [] w' hsl (by simp) (hs.grew hg) (hc.grew hg)
  rw [h] at HT
  simp only [List.length_nil] at HT
  clear hs hc h
  go_enter func17, ntmps17
  go_wp2_with fail
  refine (HT.out _ gw0).mono ?_
  rintro e w' ⟨rfl, g1, n1, rfl⟩
  go_wp2_with fail
  exact bodyPost_ret (v := .tuple #[.int .i64 0, .int .i64 0, .int .i64 5]) (by simp [results, go_sem]) rfl ⟨rfl, Grew.below gw0⟩
def rbI (g : Nat → Int) (k : Nat) : Int × Int := if k = 0 then (-1, 0) else bstI g k
theorem rbI_next {g : Nat → Int} {k : Nat} : rbI g (k + 1) = if (rbI g k).1 < 0 ∨ g k < (rbI g k).2 then ((k : Int), g k) else rbI g k := by
  unfold rbI
  rw [if_neg (Nat.succ_ne_zero k)]
  by_cases h : k = 0
  · subst h
    rw [if_pos rfl, if_pos (.inl (by decide)), bstI_yes (.inl rfl)]
  · have hp : ¬ (bstI g k).1 < 0 := by rcases bstI_at g k with h2 | ⟨i, _, h2⟩ <;> omega
    rw [if_neg h]
    by_cases h2 : g k < (bstI g k).2
    · rw [if_pos (.inr h2), bstI_yes (.inr h2)]
    · rw [if_neg (by rintro (h3 | h3); exact hp h3; exact h2 h3), bstI_no (by rintro (h3 | h3); exact h h3; exact h2 h3)]
set_option maxRecDepth 100000 in
set_option maxHeartbeats 6400000 in
theorem rBest_yes (n : Int) (N m : Nat) (hn : (n = 2 ∧ N = 2 ∧ m = 2) ∨ (n = 4 ∧ N = 64 ∧ m = 4)) (sa : Option Addr) (scap : Nat) (sl : List Int) (a : Option Addr) (cap : Nat) (l : List Tq) (w : World) (hsl : sl.length ≤ 9223372036854775807) (hl : l.length ≤ 40) (hl0 : l ≠ []) (hs : NsA w sa sl) (hok : okFrom N 0 sl = true) (hc : TqAt w a l) (h : tqsB n l = true) :
    Calls prog 17 #[.int .i64 n, .slice sa sl.length scap, .slice a l.length cap] w (BesP (bstI (gOf n m (sl.map Int.toNat) l) l.length).1 (bstI (gOf n m (sl.map Int.toNat) l) l.length).2 0 w) := by
  have hn2 : n = 2 ∨ n = 4 := hn.imp (fun h => h.1) (fun h => h.1)
  have htri : triZ n sl l = 0 := by
    unfold triZ
    rw [if_neg, if_neg]
    · rw [h, decide_eq_true hl]; simp
    · rintro (h2 | h2)
      · rcases hn2 with rfl | rfl <;> simp [cntZ] at h2
      · rw [show topN n = N by rcases hn with ⟨rfl, rfl, _⟩ | ⟨rfl, rfl, _⟩ <;> rfl, hok] at h2; cases h2
  have HT := hid fun w' (hg : Grew w w') => tried_any n sa scap sl a cap l w' hsl (by omega) (hs.grew hg) (hc.grew hg)
  rw [htri] at HT
  have HN := hid hn
  have HTE := hid (tqsB_at h)
  have HCC := hid hc
  have HSS := hid hs
  have HOK := hid hok
  have hm4 : 1 ≤ m ∧ m ≤ 4 := by omega
  have hl1 : 0 < l.length := by cases l with | nil => exact absurd rfl hl0 | cons _ _ => simp
  obtain ⟨g, hg⟩ : ∃ g, gOf n m (sl.map Int.toNat) l = g := ⟨_, rfl⟩
  have HG : Hid (∀ i z, l[i]? = some z → g i = wrst n m (sl.map Int.toNat) z) := hid fun i z hz => by rw [← hg]; exact gOf_at hz
  rw [hg]
  have HR : Hid (rbI g l.length = bstI g l.length) := hid (by unfold rbI; rw [if_neg (by omega)])
  have e00 : ((l.length : Int) == 0) = false := by simp; omega
  clear hn h hc hs hok htri hg hn2 hl0
  go_enter func17, ntmps17
  go_wp2_with fail
  refine (HT.out _ gw0).mono ?_
  rintro e w' ⟨rfl, g1, n1, rfl⟩
  go_wp2_with fail
  have hg0 : Grew w ((w.grow g1).drewN n1) := gw0
  have HB0 := hid hg0.below
  clear hg0
  go_loopw [10, 11, 14, 29] (fun s t _ v wr => ∃ i : Nat, i ≤ l.length ∧ v = .int .i64 i ∧ s = .int .i64 (rbI g i).1 ∧ t = .int .i64 (rbI g i).2 ∧ Hid (Below w.heap.size w wr)) (fun _ _ _ v _ => l.length - (intOf v).toNat)
  case atStart => exact ⟨0, Nat.zero_le _, rfl, rfl, rfl, HB0⟩
  case round =>
    obtain ⟨i, hi, rfl, rfl, rfl, HB⟩ := hrel
    by_cases hlt : i < l.length
    · obtain ⟨z, hz⟩ : ∃ z, l[i]? = some z := ⟨l[i], List.getElem?_eq_getElem hlt⟩
      obtain ⟨b, off, rfl, hb, ⟨c0, c1, c2⟩, hzl, htz⟩ := (HCC.out.below HB.out) i z hz
      obtain ⟨tb, toff, I, hta, htb, hbl, hlen, hI, hIm, hk⟩ := tq_open HN.out htz (HTE.out z (List.mem_of_getElem? hz))
      have hgz := HG.out i z hz
      unfold wrst at hgz
      rw [hI, Int.toNat_natCast] at hgz
      rw [hta, hlen] at c0
      rw [hI] at c1
      have HP := hid fun w' (hg : Grew wr w') => (rparts_any n N m I tb toff z.t.cap z.b sa scap sl w' hk hsl HOK.out ((HSS.out.below HB.out).grew hg) (Nat.lt_of_lt_of_le htb hg.size) (hbl.grew htb hg) hIm).mono fun e w'' h => (show ∃ bo : Nat, e = .returned (.slice (some ⟨bo, 0, none⟩) m m) ∧ NsA w'' (some ⟨bo, 0, none⟩) (cntL m (fun s => refA n (thB s z.b) I) (sl.map Int.toNat)) ∧ Below w.heap.size w w'' from ⟨w'.heap.size, h.1, ownZ_nsA h.2.1, (below_grew HB.out hg HB.out.size).trans (h.2.2.mono (Nat.le_trans HB.out.size hg.size))⟩)
      have hcl := cntL_len m (fun s => refA n (thB s z.b) I) (sl.map Int.toNat)
      obtain ⟨cs, hcs⟩ : ∃ cs, cntL m (fun s => refA n (thB s z.b) I) (sl.map Int.toNat) = cs := ⟨_, rfl⟩
      rw [hcs] at HP hcl hgz
      obtain ⟨o, ho⟩ : ∃ o, z.t.o = o := ⟨_, rfl⟩
      obtain ⟨tcap, htc⟩ : ∃ o, z.t.cap = o := ⟨_, rfl⟩
      obtain ⟨T, hTT⟩ : ∃ o, z.b.length = o := ⟨_, rfl⟩
      rw [htc, hTT] at HP
      rw [ho] at c2
      rw [hTT, htc] at c0
      have hT6 : T ≤ 6 := by omega
      have HGZ := hid hgz
      have hnx := rbI_next (g := g) (k := i)
      rw [hgz] at hnx
      have hlow : -1 ≤ (rbI g i).1 := by unfold rbI; split; · simp
                                         · rcases bstI_at g i with h2 | ⟨j, _, h2⟩ <;> omega
      obtain ⟨A, hA⟩ : ∃ A, rbI g i = A := ⟨_, rfl⟩
      rw [hA] at hnx hlow ⊢
      have HNX := hid hnx
      have HCL := hid hcl
      clear hz hzl htz hta htb hbl hlen hI hk ho htc hTT hcs hcl hgz hA hnx
      go_wp2_with fail
      refine (HP.out _ gw0).mono ?_
      rintro e w2 ⟨bo, rfl, hN2, hB2⟩
      have HN2 := hid hN2
      have HB2 := hid hB2
      clear hN2 hB2
      go_wp2_with fail
      go_loopw [14, 42] (fun s v wq => ∃ j : Nat, j ≤ m ∧ v = .int .i64 j ∧ s = .int .i64 (grL (cs.take j)) ∧ wq = w2) (fun _ v _ => m - (intOf v).toNat)
      case atStart => exact ⟨0, Nat.zero_le _, rfl, rfl, rfl⟩
      case round =>
        obtain ⟨j, hj, rfl, rfl, rfl⟩ := hrel
        by_cases hjm : j < m
        · obtain ⟨c, hcj⟩ : ∃ c, cs[j]? = some c := ⟨cs[j]'(by rw [HCL.out]; exact hjm), List.getElem?_eq_getElem _⟩
          obtain ⟨b', off', e', hb', y1⟩ := HN2.out j c hcj
          obtain ⟨rfl, rfl⟩ : bo = b' ∧ 0 = off' := by injection e' with e'; injection e' with e1 e2; exact ⟨e1, e2⟩
          rw [Nat.zero_add] at y1
          have HTK := hid (grL_take hcj)
          clear hcj e'
          obtain ⟨G, hG⟩ : ∃ G, grL (cs.take j) = G := ⟨_, rfl⟩
          rw [hG] at HTK ⊢
          clear hG
          go_wp2_with fail
          go_roundw
          case rel => exact ⟨j + 1, by omega, by go_num, by rw [HTK.out]; congr 1; split <;> omega, by first | rfl | trivial⟩
          case measure => simp [intOf]; omega
        · obtain rfl : j = m := by omega
          rw [show cs.take j = cs from List.take_of_length_le (by rw [HCL.out]; exact Nat.le_refl _)]
          obtain ⟨G, hG⟩ : ∃ G, grL cs = G := ⟨_, rfl⟩
          rw [hG] at HNX ⊢
          clear hG
          by_cases hv : A.1 < 0 ∨ G < A.2
          · have HST := hid (HNX.out.trans (if_pos hv))
            by_cases h0 : A.1 < 0
            · have d0 : decide (A.1 < 0) = true := decide_eq_true h0
              clear hv
              go_wp2_with fail
              go_roundw
              case rel => exact ⟨i + 1, by omega, by go_num, by rw [HST.out], by rw [HST.out], HB2⟩
              case measure => simp [intOf]; omega
            · have h1 : G < A.2 := by rcases hv with h | h <;> omega
              have d0 : decide (A.1 < 0) = false := decide_eq_false h0
              have d1 : decide (G < A.2) = true := decide_eq_true h1
              clear hv
              go_wp2_with fail
              go_roundw
              case rel => exact ⟨i + 1, by omega, by go_num, by rw [HST.out], by rw [HST.out], HB2⟩
              case measure => simp [intOf]; omega
          · have HST := hid (HNX.out.trans (if_neg hv))
            have d0 : decide (A.1 < 0) = false := decide_eq_false (by omega)
            have d1 : decide (G < A.2) = false := decide_eq_false (by omega)
            clear hv
            go_wp2_with fail
            go_roundw
            case rel => exact ⟨i + 1, by omega, by go_num, by rw [HST.out], by rw [HST.out], HB2⟩
            case measure => simp [intOf]; omega
    · obtain rfl : i = l.length := by omega
      have HRR := hid HR.out
      rw [HRR.out]
      obtain ⟨A, hA⟩ : ∃ A, bstI g l.length = A := ⟨_, rfl⟩
      rw [hA]
      have HAF := hid hA
      clear hA
      go_wp2_with fail
      exact bodyPost_ret (v := .tuple #[.int .i64 A.1, .int .i64 A.2, .int .i64 0]) (by simp [results, go_sem]) rfl ⟨by rw [HAF.out], HB.out⟩
open Go Go.Pt Go.RowKit Prb
end Go.Proofs.Qm
