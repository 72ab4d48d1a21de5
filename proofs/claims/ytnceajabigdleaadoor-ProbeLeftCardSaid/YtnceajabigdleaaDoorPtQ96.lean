/- Layer 9, in main's ghost: Left of the program and of the reference. Condition: the tests lie in memory. -/
import Derived.Test.YtnceajabigdleaaDoorPtQ95
import Derived.Test.YtnceajabigdleaaDoorPtQ8
namespace Go.Proofs.Qm
open Go Go.Pt Go.RowKit Prb
def leftL (n : Int) (N : Nat) (l : List Tq) : List Nat := l.foldl (fun L z => L.filter (agP n z.b z.t.i.toNat z.t.o)) (List.range N)
theorem leftL_take {n : Int} {N : Nat} {l : List Tq} {q : Nat} {z : Tq} (h : l[q]? = some z) : leftL n N (l.take (q + 1)) = (leftL n N (l.take q)).filter (agP n z.b z.t.i.toNat z.t.o) := by
  unfold leftL
  rw [List.take_add_one, h, Option.toList_some, List.foldl_append]
  rfl
theorem asc_range : ∀ N : Nat, Asc (List.range N)
  | 0 => trivial
  | N + 1 => by rw [List.range_succ]; exact asc_snoc (asc_range N) fun y hy => List.mem_range.1 hy
theorem leftL_ok (n : Int) (N : Nat) (l : List Tq) : Asc (leftL n N l) ∧ ∀ y ∈ leftL n N l, y < N := by
  have key : ∀ (l : List Tq) (L : List Nat), Asc L → (∀ y ∈ L, y < N) → Asc (l.foldl (fun L z => L.filter (agP n z.b z.t.i.toNat z.t.o)) L) ∧ ∀ y ∈ l.foldl (fun L z => L.filter (agP n z.b z.t.i.toNat z.t.o)) L, y < N := by
    intro l
    induction l with
    | nil => intro L h1 h2; exact ⟨h1, h2⟩
    | cons z r ih => intro L h1 h2; exact ih _ (asc_sub _ h1) fun y hy => h2 y (List.mem_filter.1 hy).1
  exact key l _ (asc_range N) fun y hy => List.mem_range.1 hy
theorem tq_open {n : Int} {N m : Nat} {z : Tq} {w : World} (hn : (n = 2 ∧ N = 2 ∧ m = 2) ∨ (n = 4 ∧ N = 64 ∧ m = 4)) (ht : TurnAt w z.t.a z.t.len z.b) (h : tstB n z.t = true) :
    ∃ (b off I : Nat), z.t.a = some ⟨b, off, none⟩ ∧ b < w.heap.size ∧ BlsAt w b off z.b ∧ z.t.len = z.b.length ∧ z.t.i = (I : Int) ∧ I < m ∧ ((n = 2 ∧ N = 2 ∧ m = 2 ∧ z.b.length = 1) ∨ (n = 4 ∧ N = 64 ∧ m = 4 ∧ z.b.length = 6)) := by
  obtain ⟨h1, h2, h3, _, _⟩ := tq_fits (hn.imp (fun h => h.1) (fun h => h.1)) h
  obtain ⟨hl, ht⟩ := ht
  have hk : (n = 2 ∧ N = 2 ∧ m = 2 ∧ z.b.length = 1) ∨ (n = 4 ∧ N = 64 ∧ m = 4 ∧ z.b.length = 6) := by
    rcases hn with ⟨rfl, rfl, rfl⟩ | ⟨rfl, rfl, rfl⟩
    · exact .inl ⟨rfl, rfl, rfl, by rw [← hl, h1]; rfl⟩
    · exact .inr ⟨rfl, rfl, rfl, by rw [← hl, h1]; rfl⟩
  rcases ht with ht | ⟨b, off, ha, hb, hc⟩
  · rw [ht] at hk; simp at hk
  · exact ⟨b, off, z.t.i.toNat, ha, hb, hc, hl, by omega, by omega, hk⟩
def ErrP (r : Int) (w : World) (e : Ending) (w' : World) : Prop := e = .returned (.tuple #[.slice none 0 0, .int .i64 r]) ∧ Grew w w'
theorem ErrP.par {r : Int} {w w' : World} {e : Ending} (h : ErrP r w e w') : ParP [] r w e w' := ⟨none, 0, h.1, (fun i x hx => by cases hx), h.2.below⟩
set_option maxHeartbeats 3200000 in
theorem Left_arg (n : Int) (a : Option Addr) (len cap : Nat) (w : World) (h : cntZ n = 0) : Calls prog 14 #[.int .i64 n, .slice a len cap] w (ErrP 2 w) := by
  have HC := hid fun w => pcount_any n w
  rw [h] at HC
  go_enter func14, ntmps14
  go_wp2_with fail
  refine (HC.out _).mono ?_
  rintro e w' ⟨rfl, rfl⟩
  go_wp2_with fail
  exact bodyPost_ret (v := .tuple #[.slice none 0 0, .int .i64 2]) (by simp [results, go_sem]) rfl ⟨rfl, gw0⟩
set_option maxHeartbeats 3200000 in
theorem Left_bad (n : Int) (hn : n = 2 ∨ n = 4) (a : Option Addr) (cap : Nat) (l : List Tq) (w : World) (hl : l.length ≤ 9223372036854775807) (hc : TqAt w a l) (h : (decide (l.length ≤ 40) && tqsB n l) = false) : Calls prog 14 #[.int .i64 n, .slice a l.length cap] w (ErrP 90 w) := by
  have HC := hid fun w => pcount_any n w
  have HF := hid fun w' (hg : Grew w w') => fit_any n hn a cap l w' hl (hc.grew hg)
  rw [h] at HF
  have h0 : cntZ n ≠ 0 := by rcases hn with rfl | rfl <;> simp [cntZ]
  obtain ⟨c, hcc⟩ : ∃ c, cntZ n = c := ⟨_, rfl⟩
  rw [hcc] at HC h0
  have e0 : ((c : Int) == 0) = false := by simpa using h0
  clear hcc hc h h0
  go_enter func14, ntmps14
  go_wp2_with fail
  refine (HC.out _).mono ?_
  rintro e w' ⟨rfl, rfl⟩
  go_wp2_with fail
  refine (HF.out _ gw0).mono ?_
  rintro e w' ⟨rfl, g1, n1, rfl⟩
  go_wp2_with fail
  exact bodyPost_ret (v := .tuple #[.slice none 0 0, .int .i64 90]) (by simp [results, go_sem]) rfl ⟨rfl, gw0⟩
set_option maxRecDepth 100000 in
set_option maxHeartbeats 6400000 in
theorem Left_yes (n : Int) (N m : Nat) (hn : (n = 2 ∧ N = 2 ∧ m = 2) ∨ (n = 4 ∧ N = 64 ∧ m = 4)) (a : Option Addr) (cap : Nat) (l : List Tq) (w : World) (hl : l.length ≤ 40) (hc : TqAt w a l) (h : tqsB n l = true) (hD : DebAt w) : Calls prog 14 #[.int .i64 n, .slice a l.length cap] w (ParP (ints (leftL n N l)) 0 w) := by
  have hn2 : n = 2 ∨ n = 4 := hn.imp (fun h => h.1) (fun h => h.1)
  have HC := hid fun w => pcount_any n w
  have HF := hid fun w' (hg : Grew w w') => fit_any n hn2 a cap l w' (by omega) (hc.grew hg)
  rw [h, decide_eq_true hl] at HF
  simp only [Bool.and_true] at HF
  have HT := hid fun w' => tables_any n N m hn w'
  have HW := hid fun w => whole_any n N (hn.imp (fun h => ⟨h.1, h.2.1⟩) (fun h => ⟨h.1, h.2.1⟩)) w
  have h0 : cntZ n ≠ 0 := by rcases hn2 with rfl | rfl <;> simp [cntZ]
  obtain ⟨c, hcc⟩ : ∃ c, cntZ n = c := ⟨_, rfl⟩
  rw [hcc] at HC h0
  have e0 : ((c : Int) == 0) = false := by simpa using h0
  have HN := hid hn
  have HTE := hid (tqsB_at h)
  have HCC := hid hc
  have HD := hid hD
  have hN64 : N ≤ 64 := by omega
  clear hcc hc h h0 hn hn2 hD
  go_enter func14, ntmps14
  go_wp2_with fail
  refine (HC.out _).mono ?_
  rintro e w' ⟨rfl, hw'⟩
  obtain rfl : w = w' := hw'.symm
  clear hw'
  go_wp2_with fail
  refine (HF.out _ gw0).mono ?_
  rintro e w' ⟨rfl, g1, n1, rfl⟩
  go_wp2_with fail
  refine (HT.out _).mono ?_
  rintro e w1 ⟨C, rfl, hT, hg⟩
  have HT1 := hid hT
  have HG1 := hid ((show Grew w ((w.grow g1).drewN n1) from gw0).trans hg)
  clear hT hg
  go_wp2_with fail
  refine (HW.out _).mono ?_
  rintro e w' ⟨rfl, hw1⟩
  obtain rfl : w1 = w' := hw1.symm
  clear hw1
  have HG1 : Hid (Below w.heap.size w w1) := hid (show Grew w w1 from HG1.out).below
  have e1 : leftL n N (l.take 0) = List.range N := rfl
  rw [← e1]
  go_wp2_with fail
  go_loopw [7, 25] (fun s v wr => ∃ q : Nat, q ≤ l.length ∧ v = .int .i64 q ∧ s = .int .u64 (setS (leftL n N (l.take q)) : Nat) ∧ Hid (Below w.heap.size w wr) ∧ Hid (Tab wr m N C)) (fun _ v _ => l.length - (intOf v).toNat)
  case atStart => exact ⟨0, Nat.zero_le _, rfl, rfl, HG1, HT1⟩
  case round =>
    obtain ⟨q, hq, rfl, rfl, HB, HTR⟩ := hrel
    by_cases hlt : q < l.length
    · obtain ⟨z, hz⟩ : ∃ z, l[q]? = some z := ⟨l[q], List.getElem?_eq_getElem hlt⟩
      obtain ⟨b, off, rfl, hb, ⟨c0, c1, c2⟩, hzl, htz⟩ := (HCC.out.below HB.out) q z hz
      obtain ⟨tb, toff, I, ha, htb, hbl, hlen, hI, hIm, hk⟩ := tq_open HN.out htz (HTE.out z (List.mem_of_getElem? hz))
      have hst := leftL_take (n := n) (N := N) hz
      rw [hI, Int.toNat_natCast] at hst
      rw [ha, hlen] at c0
      rw [hI] at c1
      obtain ⟨hasc, hlts⟩ := leftL_ok n N (l.take q)
      have HK := hid fun w' (hg : Grew wr w') => keep_any n N m I tb toff z.t.cap C z.b z.t.o (leftL n N (l.take q)) w' hk hasc hlts (Nat.lt_of_lt_of_le htb hg.size) (hbl.grew htb hg) hIm (HTR.out.grew hg) ((HD.out.below HB.out).of_block (hg.block 0 (HD.out.below HB.out).1))
      rw [← hst] at HK
      have HK2 := hid fun w' (hg : Grew wr w') => (HK.out w' hg).mono fun e w'' h => (show e = .returned (.int .u64 (setS (leftL n N (l.take (q + 1))) : Nat)) ∧ Below w.heap.size w w'' ∧ Tab w'' m N C from ⟨h.1, (below_grew HB.out hg HB.out.size).trans (h.2.mono (Nat.le_trans HB.out.size hg.size)), (HTR.out.grew hg).below h.2⟩)
      obtain ⟨S, hS⟩ : ∃ S, setS (leftL n N (l.take q)) = S := ⟨_, rfl⟩
      rw [hS] at HK2 ⊢
      obtain ⟨o, ho⟩ : ∃ o, z.t.o = o := ⟨_, rfl⟩
      obtain ⟨tcap, htc⟩ : ∃ o, z.t.cap = o := ⟨_, rfl⟩
      obtain ⟨T, hTT⟩ : ∃ o, z.b.length = o := ⟨_, rfl⟩
      rw [ho, htc, hTT] at HK2
      rw [ho] at c2
      rw [hTT, htc] at c0
      have hT6 : T ≤ 6 := by omega
      clear HK hst hz hzl htz ha htb hbl hlen hI hk hasc hlts hS ho htc hTT
      go_wp2_with fail
      refine (HK2.out _ gw0).mono ?_
      rintro e w2 ⟨rfl, hB2, hT2⟩
      have HB2 := hid hB2
      have HT2 := hid hT2
      clear hB2 hT2
      go_wp2_with fail
      go_roundw
      case rel => exact ⟨q + 1, by omega, by go_num, rfl, HB2, HT2⟩
      case measure => simp [intOf]; omega
    · obtain rfl : q = l.length := by omega
      rw [List.take_length]
      obtain ⟨hasc, hlts⟩ := leftL_ok n N l
      have hlen64 := asc_len (lo := 0) hasc (fun y hy => ⟨Nat.zero_le _, by have := hlts y hy; omega⟩) (by decide)
      have HDR := hid (HD.out.below HB.out)
      have HCO := hid fun (w' : World) (bS : Nat) (hx : w'.heap[bS]? = some (.cells #[.int .u64 (setS (leftL n N l))] 69 (0, 0))) (hd : DebAt w') => collect_any bS (leftL n N l) w' hasc (fun y hy => by have := hlts y hy; omega) (by omega) hd hx
      obtain ⟨L, hL⟩ : ∃ L, leftL n N l = L := ⟨_, rfl⟩
      rw [hL] at HCO hlen64 ⊢
      have hil := ints_len L
      have HLL := hid hL
      clear hasc hlts hL
      go_wp2_with fail
      refine (all_any _ _).mono ?_
      rintro e w2 ⟨rfl, hw2⟩
      have hbS : w2.heap[wr.heap.size]? = some (.cells #[.int .u64 (setS L : Nat)] 69 (0, 0)) := by rw [hw2]; exact al_new rfl
      have hgw : Grew wr w2 := by rw [hw2]; exact (Grew.refl wr).alloc _
      have HCC2 := hid (HCO.out w2 wr.heap.size hbS (HDR.out.of_block (hgw.block 0 HDR.out.1)))
      have HGW := hid hgw
      have HBW := hid (below_grew HB.out hgw HB.out.size)
      clear hw2 hbS hgw
      go_wp2_with fail
      refine HCC2.out.mono ?_
      rintro e w3 ⟨a3, k3, rfl, hO, hG⟩
      have HN3 := hid (ownZ_nsA hO)
      have HB3 : Hid (Below w.heap.size w w3) := hid (HBW.out.grown hG (by have := HBW.out.size; omega) (fun r e => by cases e; exact HB.out.size))
      clear hO hG
      go_wp2_with fail
      exact bodyPost_ret (v := .tuple #[.slice a3 L.length k3, .int .i64 0]) (by simp [results, go_sem]) rfl ⟨a3, k3, by rw [HLL.out, hil], by rw [HLL.out]; exact HN3.out, HB3.out⟩
open Go Go.Pt Go.RowKit Prb
theorem known_f {n : Int} (h : cntZ n = 0) : (decide (n = 2) || decide (n = 4)) = false := by
  rw [Bool.eq_false_iff]
  intro h2
  simp only [Bool.or_eq_true, decide_eq_true_eq] at h2
  rcases h2 with rfl | rfl <;> simp [cntZ] at h
theorem known_t {n : Int} (h : n = 2 ∨ n = 4) : (decide (n = 2) || decide (n = 4)) = true := by rcases h with rfl | rfl <;> simp
set_option maxHeartbeats 3200000 in
theorem rLeft_arg (n : Int) (a : Option Addr) (len cap : Nat) (w : World) (h : cntZ n = 0) : Calls prog 15 #[.int .i64 n, .slice a len cap] w (ErrP 2 w) := by
  have HK := hid fun w => rknown_any n w
  rw [known_f h] at HK
  go_enter func15, ntmps15
  go_wp2_with fail
  refine (HK.out _).mono ?_
  rintro e w' ⟨rfl, rfl⟩
  go_wp2_with fail
  exact bodyPost_ret (v := .tuple #[.slice none 0 0, .int .i64 2]) (by simp [results, go_sem]) rfl ⟨rfl, gw0⟩
set_option maxHeartbeats 3200000 in
theorem rLeft_bad (n : Int) (hn : n = 2 ∨ n = 4) (a : Option Addr) (cap : Nat) (l : List Tq) (w : World) (hl : l.length ≤ 9223372036854775807) (hc : TqAt w a l) (h : (decide (l.length ≤ 40) && tqsB n l) = false) : Calls prog 15 #[.int .i64 n, .slice a l.length cap] w (ErrP 90 w) := by
  have HK := hid fun w => rknown_any n w
  rw [known_t hn] at HK
  have HF := hid fun w' (hg : Grew w w') => areTests_any n hn a cap l w' hl (hc.grew hg)
  rw [h] at HF
  clear hc h
  go_enter func15, ntmps15
  go_wp2_with fail
  refine (HK.out _).mono ?_
  rintro e w' ⟨rfl, rfl⟩
  go_wp2_with fail
  refine (HF.out _ gw0).mono ?_
  rintro e w' ⟨rfl, g1, n1, rfl⟩
  go_wp2_with fail
  exact bodyPost_ret (v := .tuple #[.slice none 0 0, .int .i64 90]) (by simp [results, go_sem]) rfl ⟨rfl, gw0⟩
set_option maxRecDepth 100000 in
set_option maxHeartbeats 6400000 in
theorem rLeft_yes (n : Int) (N m : Nat) (hn : (n = 2 ∧ N = 2 ∧ m = 2) ∨ (n = 4 ∧ N = 64 ∧ m = 4)) (a : Option Addr) (cap : Nat) (l : List Tq) (w : World) (hl : l.length ≤ 40) (hc : TqAt w a l) (h : tqsB n l = true) : Calls prog 15 #[.int .i64 n, .slice a l.length cap] w (ParP (ints (leftL n N l)) 0 w) := by
  have hn2 : n = 2 ∨ n = 4 := hn.imp (fun h => h.1) (fun h => h.1)
  have HK := hid fun w => rknown_any n w
  rw [known_t hn2] at HK
  have HF := hid fun w' (hg : Grew w w') => areTests_any n hn2 a cap l w' (by omega) (hc.grew hg)
  rw [h, decide_eq_true hl] at HF
  simp only [Bool.and_true] at HF
  have HAL := hid fun w => rall_any n N (hn.imp (fun h => ⟨h.1, h.2.1⟩) (fun h => ⟨h.1, h.2.1⟩)) w
  have HN := hid hn
  have HTE := hid (tqsB_at h)
  have HCC := hid hc
  have hN64 : N ≤ 64 := by omega
  have e1 : leftL n N (l.take 0) = List.range N := rfl
  rw [← e1] at HAL
  have hln := fun q => Nat.le_trans (asc_len (lo := 0) (leftL_ok n N (l.take q)).1 (fun y hy => ⟨Nat.zero_le _, by have := (leftL_ok n N (l.take q)).2 y hy; omega⟩) (by decide)) (show 64 ≤ 1000 by decide)
  have HLN := hid hln
  clear hc h hn hn2 e1 hln
  go_enter func15, ntmps15
  go_wp2_with fail
  refine (HK.out _).mono ?_
  rintro e w' ⟨rfl, hw'⟩
  obtain rfl : w = w' := hw'.symm
  clear hw'
  go_wp2_with fail
  refine (HF.out _ gw0).mono ?_
  rintro e w' ⟨rfl, g1, n1, rfl⟩
  go_wp2_with fail
  refine (HAL.out _).mono ?_
  rintro e w1 ⟨a0, k0, rfl, hO, hg⟩
  have HG1 := hid ((show Grew w ((w.grow g1).drewN n1) from gw0).trans hg)
  have HN1 := hid (ownZ_nsA hO)
  clear hO hg
  go_wp2_with fail
  go_loopw [6, 20] (fun s v wr => ∃ (q : Nat) (a4 : Option Addr) (k4 : Nat), q ≤ l.length ∧ v = .int .i64 q ∧ s = .slice a4 (leftL n N (l.take q)).length k4 ∧ Hid (Grew w wr) ∧ Hid (NsA wr a4 (ints (leftL n N (l.take q))))) (fun _ v _ => l.length - (intOf v).toNat)
  case atStart => exact ⟨0, a0, k0, Nat.zero_le _, rfl, rfl, HG1, HN1⟩
  case round =>
    obtain ⟨q, a4, k4, hq, rfl, rfl, HG, HNS⟩ := hrel
    by_cases hlt : q < l.length
    · obtain ⟨z, hz⟩ : ∃ z, l[q]? = some z := ⟨l[q], List.getElem?_eq_getElem hlt⟩
      obtain ⟨b, off, rfl, hb, ⟨c0, c1, c2⟩, hzl, htz⟩ := (HCC.out.grew HG.out) q z hz
      obtain ⟨tb, toff, I, ha, htb, hbl, hlen, hI, hIm, hk⟩ := tq_open HN.out htz (HTE.out z (List.mem_of_getElem? hz))
      have hst := leftL_take (n := n) (N := N) hz
      rw [hI, Int.toNat_natCast] at hst
      rw [ha, hlen] at c0
      rw [hI] at c1
      obtain ⟨hasc, hlts⟩ := leftL_ok n N (l.take q)
      have HKP := hid fun w' (hg : Grew wr w') => kept_any n N m I tb toff z.t.cap z.b z.t.o a4 k4 (leftL n N (l.take q)) w' hk hlts (HLN.out q) (HNS.out.grew hg) (Nat.lt_of_lt_of_le htb hg.size) (hbl.grew htb hg) hIm
      rw [← hst] at HKP
      obtain ⟨o, ho⟩ : ∃ o, z.t.o = o := ⟨_, rfl⟩
      obtain ⟨tcap, htc⟩ : ∃ o, z.t.cap = o := ⟨_, rfl⟩
      obtain ⟨T, hTT⟩ : ∃ o, z.b.length = o := ⟨_, rfl⟩
      rw [ho, htc, hTT] at HKP
      rw [ho] at c2
      rw [hTT, htc] at c0
      have hT6 : T ≤ 6 := by omega
      have hl9 := HLN.out q
      obtain ⟨LN, hLN⟩ : ∃ x, (leftL n N (l.take q)).length = x := ⟨_, rfl⟩
      rw [hLN] at HKP hl9 ⊢
      clear hst hz hzl htz ha htb hbl hlen hI hk hasc hlts ho htc hTT hLN
      go_wp2_with fail
      refine (HKP.out _ gw0).mono ?_
      rintro e w2 ⟨a5, k5, rfl, hO, hg⟩
      have HN2 := hid (ownZ_nsA hO)
      have HG2 := hid (HG.out.trans ((show Grew wr _ from gw0).trans hg))
      clear hO hg
      go_wp2_with fail
      go_roundw
      case rel => exact ⟨q + 1, a5, k5, by omega, by go_num, rfl, HG2, HN2⟩
      case measure => simp [intOf]; omega
    · obtain rfl : q = l.length := by omega
      rw [List.take_length] at HNS ⊢
      have hil := ints_len (leftL n N l)
      obtain ⟨L, hL⟩ : ∃ L, leftL n N l = L := ⟨_, rfl⟩
      rw [hL] at hil HNS ⊢
      have HLL := hid hL
      clear hL
      go_wp2_with fail
      exact bodyPost_ret (v := .tuple #[.slice a4 L.length k4, .int .i64 0]) (by simp [results, go_sem]) rfl ⟨a4, k4, by rw [HLL.out, hil], by rw [HLL.out]; exact HNS.out, HG.out.below⟩
theorem Left_both (n : Int) (a : Option Addr) (cap : Nat) (l : List Tq) (w : World) (hl : l.length ≤ 9223372036854775807) (hc : TqAt w a l) (hD : DebAt w) :
    ∃ (Rl : List Int) (r : Int), Rl.length ≤ 64 ∧ (∀ w', Below w.heap.size w w' → Calls prog 14 #[.int .i64 n, .slice a l.length cap] w' (ParP Rl r w')) ∧
      ∀ w', Below w.heap.size w w' → Calls prog 15 #[.int .i64 n, .slice a l.length cap] w' (ParP Rl r w') := by
  by_cases h0 : cntZ n = 0
  · exact ⟨[], 2, by simp, fun w' _ => (Left_arg n a l.length cap w' h0).mono fun e w'' h => h.par, fun w' _ => (rLeft_arg n a l.length cap w' h0).mono fun e w'' h => h.par⟩
  have hn := cntZ_ne h0
  cases h : (decide (l.length ≤ 40) && tqsB n l) with
  | false => exact ⟨[], 90, by simp, fun w' hg => (Left_bad n hn a cap l w' hl (hc.below hg) h).mono fun e w'' h => h.par, fun w' hg => (rLeft_bad n hn a cap l w' hl (hc.below hg) h).mono fun e w'' h => h.par⟩
  | true =>
    rw [Bool.and_eq_true, decide_eq_true_eq] at h
    obtain ⟨h40, ht⟩ := h
    obtain ⟨N, m, hN, hN64⟩ : ∃ N m : Nat, ((n = 2 ∧ N = 2 ∧ m = 2) ∨ (n = 4 ∧ N = 64 ∧ m = 4)) ∧ N ≤ 64 := by
      rcases hn with rfl | rfl
      · exact ⟨2, 2, .inl ⟨rfl, rfl, rfl⟩, by decide⟩
      · exact ⟨64, 4, .inr ⟨rfl, rfl, rfl⟩, by decide⟩
    refine ⟨ints (leftL n N l), 0, ?_, fun w' hg => Left_yes n N m hN a cap l w' h40 (hc.below hg) ht (hD.of_block (hg.block 0 hD.1)), fun w' hg => rLeft_yes n N m hN a cap l w' h40 (hc.below hg) ht⟩
    rw [ints_len]
    obtain ⟨h1, h2⟩ := leftL_ok n N l
    have := asc_len (lo := 0) h1 (fun y hy => ⟨Nat.zero_le _, by have := h2 y hy; omega⟩) (by decide)
    omega
end Go.Proofs.Qm
