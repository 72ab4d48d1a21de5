/- Reading a text: the reference. Condition: the text's length is within the reach. -/
import Derived.Test.YtmjnjghhdkoljaaDoorAmpTxtVb
import Derived.Test.YtmjnjghhdkoljaaDoorAmpTxtT
namespace Go.Proofs.YtmjnjghhdkoljaaDoor
open Go Go.RowKit Amp

set_option maxRecDepth 100000 in
set_option maxHeartbeats 20000000 in
theorem read_any (l : List UInt8) (w : World) (hl : l.length ≤ 140737488351232) :
    Calls Tryd.prog 17 #[.string (strB l)] w fun e w' => e = .returned (.tuple #[.agg #[.int .i64 (readV l).1.a, .int .i64 (readV l).1.b, .int .i64 (readV l).1.c, .int .i64 (readV l).1.d, .int .i64 (readV l).2.1], .bool (readV l).2.2]) ∧ Below w.heap.size w w' := by
  have HRV := hid (show readV l = match readR l with | none => (C0, 0, false) | some p => (p.1, p.2, true) from rfl)
  have HRR := hid (show readR l = match loopR (l.length + 1) C0 l with | none => none | some p => endR p.1 p.2 from rfl)
  have hA : AtLoop w w.heap.size (w.heap.size + 1) C0 0 ((w.alloc (.cells #[.int .i64 0, .int .i64 0, .int .i64 0, .int .i64 0, .int .i64 0] 24)).alloc (.cells #[.int .i64 0, .int .i64 0, .int .i64 0, .int .i64 0, .int .i64 0] 24)) := by
    have h1 : NumAt w.heap.size C0 0 (w.alloc (.cells #[.int .i64 0, .int .i64 0, .int .i64 0, .int .i64 0, .int .i64 0] 24)) := num_new rfl
    have h2 : Below w.heap.size w (w.alloc (.cells #[.int .i64 0, .int .i64 0, .int .i64 0, .int .i64 0, .int .i64 0] 24)) := (Below.refl _ w).alloc (Nat.le_refl _) _
    exact ⟨h1.below ((Below.refl _ _).alloc (Nat.le_refl _) _) h1.lt, num_new (by simp [go_sem]), h2.alloc h2.size _⟩
  have hge : w.heap.size ≤ w.heap.size + 1 := by omega
  have hne : w.heap.size + 1 ≠ w.heap.size := by omega
  go_enter Tryd.func17, Tryd.ntmps17
  go_wp2_with fail
  go_loopw [0] (fun v wr => ∃ (f : Nat) (A : C4) (m : List UInt8), v = .string (strB m) ∧ m.length ≤ l.length ∧ m.length < f ∧ Hid (loopR (l.length + 1) C0 l = loopR f A m) ∧ Hid (AtLoop w w.heap.size (w.heap.size + 1) A 0 wr)) (fun v _ => strLen v)
  case atStart => exact ⟨_, C0, l, rfl, Nat.le_refl _, by omega, hid rfl, hid hA⟩
  case round =>
    clear hA
    obtain ⟨f, A, m, rfl, hm, hmf, HLP, HA⟩ := hrel
    obtain ⟨f, rfl⟩ : ∃ f', f = f' + 1 := ⟨f - 1, by omega⟩
    have hA := HA.out
    obtain ⟨c0, c1, c2, c3, c4, f0, f1, f2, f3, f4⟩ := hA.n.cells
    obtain ⟨d0, d1, d2, d3, d4, q0, q1, q2, q3, q4⟩ := hA.z.cells
    clear hA
    by_cases hm0 : m = []
    case pos =>
      subst hm0
      have HRES := hid (show readV l = (A, 0, true) by
        rw [HRV.out, HRR.out, HLP.out]
        show (match (match loopR (f + 1) A [] with | none => none | some p => endR p.1 p.2) with | none => (C0, 0, false) | some p => (p.1, p.2, true)) = _
        unfold loopR
        rw [if_pos (.inl rfl)]
        rfl)
      go_wp2_with fail
      refine bodyPost_ret (v := .tuple #[.agg #[.int .i64 A.a, .int .i64 A.b, .int .i64 A.c, .int .i64 A.d, .int .i64 0], .bool true]) (by simp [results, Tryd.results17, go_sem, *]) rfl ?_
      rw [HRES.out]
      exact ⟨rfl, bel5 HA.out.below _ _ _ _ _⟩
    case neg =>
    have hp := pos_of_ne hm0
    have hie := isE_f hm0
    rcases head47 hm0 with ⟨h47, hh⟩ | ⟨h47, hh⟩
    case inl =>
      have HEND := hid (show readV l = match endR A m with | none => (C0, 0, false) | some p => (p.1, p.2, true) by
        rw [HRV.out, HRR.out, HLP.out]
        unfold loopR
        rw [if_pos (.inr hh)])
      have HER := hid (show endR A m = if digN (dropB 1 m) = 0 ∨ digN (dropB 1 m) + 1 ≠ m.length then none else some (A, (digV (dropB 1 m) : Int)) by
        unfold endR
        rw [if_neg hm0, ← dropB_one])
      have HD := hid fun w => digits_any (dropB 1 m) w
      obtain ⟨n, hn⟩ : ∃ n, digN (dropB 1 m) = n := ⟨_, rfl⟩
      obtain ⟨V, hV⟩ : ∃ V, digV (dropB 1 m) = V := ⟨_, rfl⟩
      have hn10 : n ≤ 10 := by rw [← hn]; exact (digN_le _).1
      rw [hn, hV] at HD HER
      clear hn hV hm0 hh
      go_wp2_with fail
      refine (HD.out _).mono ?_
      rintro e w1 ⟨rfl, g1⟩
      have HA := hid (HA.out.by g1.below)
      have hA := HA.out
      obtain ⟨c0, c1, c2, c3, c4, f0, f1, f2, f3, f4⟩ := hA.n.cells
      obtain ⟨d0, d1, d2, d3, d4, q0, q1, q2, q3, q4⟩ := hA.z.cells
      clear hA g1
      by_cases hn0 : n = 0
      case pos =>
        have HRES := hid (show readV l = (C0, 0, false) by rw [HEND.out, HER.out, if_pos (.inl hn0)])
        subst hn0
        go_wp2_with fail
        refine bodyPost_ret (v := .tuple #[.agg #[.int .i64 0, .int .i64 0, .int .i64 0, .int .i64 0, .int .i64 0], .bool false]) (by simp [results, Tryd.results17, go_sem, *]) rfl ?_
        rw [HRES.out]
        exact ⟨rfl, bel5 HA.out.below _ _ _ _ _⟩
      case neg =>
        by_cases hnl : n + 1 = m.length
        case neg =>
          have HRES := hid (show readV l = (C0, 0, false) by rw [HEND.out, HER.out, if_pos (.inr hnl)])
          have e0 : ((n : Int) == 0) = false := by simpa using hn0
          have e1 : ((n : Int) + 1 == (m.length : Int)) = false := beq_eq_false_iff_ne.2 (by omega)
          go_wp2_with fail
          refine bodyPost_ret (v := .tuple #[.agg #[.int .i64 0, .int .i64 0, .int .i64 0, .int .i64 0, .int .i64 0], .bool false]) (by simp [results, Tryd.results17, go_sem, *]) rfl ?_
          rw [HRES.out]
          exact ⟨rfl, bel5 HA.out.below _ _ _ _ _⟩
        case pos =>
          have HRES := hid (show readV l = (A, (V : Int), true) by rw [HEND.out, HER.out, if_neg (fun q => q.elim hn0 (fun q => q hnl))])
          have e0 : ((n : Int) == 0) = false := by simpa using hn0
          have e1 : ((n : Int) + 1 == (m.length : Int)) = true := beq_iff_eq.2 (by omega)
          have hS := (HA.out.set hge hne (V : Int)).2.2.2.2
          obtain ⟨W2, hW2⟩ : ∃ W2, w1.setCell ⟨w.heap.size + 1, 4, none⟩ (.int .i64 (V : Int)) = W2 := ⟨_, rfl⟩
          rw [hW2] at hS
          have HA := hid hS
          obtain ⟨c0, c1, c2, c3, c4, f0, f1, f2, f3, f4⟩ := hS.n.cells
          obtain ⟨d0, d1, d2, d3, d4, q0, q1, q2, q3, q4⟩ := hS.z.cells
          clear hS
          go_wp2_with fail
          refine bodyPost_ret (v := .tuple #[.agg #[.int .i64 A.a, .int .i64 A.b, .int .i64 A.c, .int .i64 A.d, .int .i64 (V : Int)], .bool true]) (by simp [results, Tryd.results17, go_sem, *]) rfl ?_
          rw [HRES.out]
          exact ⟨rfl, bel5 HA.out.below _ _ _ _ _⟩
    case inr =>
      have HST := hid (HLP.out.trans (show loopR (f + 1) A m = match stepR A m with | none => none | some p => loopR f p.1 p.2 from by
        show (if m = [] ∨ m.head? = some 47 then some (A, m) else _) = _
        rw [if_neg (fun q => q.elim hm0 hh)]
        cases stepR A m <;> rfl))
      have HNO := hid fun (h : stepR A m = none) => show readV l = (C0, 0, false) by
        rw [HRV.out, HRR.out, HST.out, h]
      have hsc := sign_cases m hm0
      have hd1 := dropB_len 1 m
      clear hm0 hh
      rcases hsc with ⟨hb0, hsg⟩ | ⟨hb0, hsg⟩ | ⟨e45, e43, hsg⟩
      · go_wp2_with fail
        obtain ⟨m1, hm1⟩ : ∃ m1, dropB 1 m = m1 := ⟨_, rfl⟩
        rw [hm1] at hsg hd1 ⊢
        have hlm : m1.length ≤ m.length := by omega
        clear hm1 hd1
        have HSR := hid (step_of (A := A) hsg)
        have HD := hid fun w => digits_any m1 w
        have hnl := (digN_le m1).2
        have hVb := digV_lt m1
        obtain ⟨n, hn⟩ : ∃ n, digN m1 = n := ⟨_, rfl⟩
        obtain ⟨V, hV⟩ : ∃ V, digV m1 = V := ⟨_, rfl⟩
        rw [hn] at hnl
        rw [hn, hV] at HD HSR
        rw [hV] at hVb
        clear hn hV hsg
        refine (HD.out _).mono ?_
        rintro e w1 ⟨rfl, g1⟩
        have HA := hid (HA.out.by g1.below)
        have hA := HA.out
        obtain ⟨c0, c1, c2, c3, c4, f0, f1, f2, f3, f4⟩ := hA.n.cells
        obtain ⟨d0, d1, d2, d3, d4, q0, q1, q2, q3, q4⟩ := hA.z.cells
        clear hA g1
        have HL1 := hid (dropB_len n m1)
        have HL2 := hid (dropB_len 1 (dropB n m1))
        have HL3 := hid (dropB_len 1 (dropB 1 (dropB n m1)))
        by_cases hn0 : n = 0
        case pos =>
          have e0 : ((n : Int) == 0) = true := by rw [hn0]; rfl
          have HN0 := hid hn0
          clear hn0
          rcases tail_cases2 n (dropB n m1) with ⟨hq, ht⟩ | ⟨hq, hb, ht⟩ | ⟨hq, hb, hr, ht⟩ | ⟨hq, hb, hr, hc, ht⟩ | ⟨hq, hb, hr, hc, ht⟩ | ⟨hq, hb, hr, e50, e51, ht⟩
          · have hie1 := isE_t hq
            clear hq
            have hst : stepR A m = none := by rw [HSR.out, ht]; simp only [if_pos HN0.out, Option.map_none]
            have HRES := hid (HNO.out hst)
            clear ht hst
            go_wp2_with fail
            refine bodyPost_ret (v := .tuple #[.agg #[.int .i64 0, .int .i64 0, .int .i64 0, .int .i64 0, .int .i64 0], .bool false]) (by simp [results, Tryd.results17, go_sem, *]) rfl ?_
            rw [HRES.out]
            exact ⟨rfl, bel5 HA.out.below _ _ _ _ _⟩
          · have hie1 := isE_f hq
            have hp1 := pos_of_ne hq
            clear hq
            have hst : stepR A m = none := by rw [HSR.out, ht]; simp only [if_pos HN0.out, Option.map_none]
            have HRES := hid (HNO.out hst)
            clear ht hst
            go_wp2_with fail
            refine bodyPost_ret (v := .tuple #[.agg #[.int .i64 0, .int .i64 0, .int .i64 0, .int .i64 0, .int .i64 0], .bool false]) (by simp [results, Tryd.results17, go_sem, *]) rfl ?_
            rw [HRES.out]
            exact ⟨rfl, bel5 HA.out.below _ _ _ _ _⟩
          · have hie1 := isE_f hq
            have hp1 := pos_of_ne hq
            have hie2 := isE_t hr
            clear hq hr
            have hst : stepR A m = some (setC A 1 (-1 * 1), dropB 1 (dropB n m1)) := by rw [HSR.out, ht]; simp only [if_pos HN0.out, Option.map_some]
            have HLC := hid (HST.out.trans (show (match stepR A m with | none => none | some p => loopR f p.1 p.2) = loopR f (setC A 1 (-1 * 1)) (dropB 1 (dropB n m1)) by rw [hst]))
            clear ht hst
            go_wp2_with fail
            go_roundw
            case rel => exact ⟨f, _, dropB 1 (dropB n m1), rfl, (by have h1 := HL1.out; have h2 := HL2.out; have h3 := HL3.out; omega), (by have h1 := HL1.out; have h2 := HL2.out; have h3 := HL3.out; omega), hid (HLC.out.trans (congrArg (fun z => loopR f (setC A 1 z) (dropB 1 (dropB n m1))) (by omega))), hid (HA.out.set hge hne _).2.1⟩
            case measure => rw [strLen_of, strLen_of]; have h1 := HL1.out; have h2 := HL2.out; have h3 := HL3.out; omega
          · have hie1 := isE_f hq
            have hp1 := pos_of_ne hq
            have hie2 := isE_f hr
            have hp2 := pos_of_ne hr
            clear hq hr
            have hst : stepR A m = some (setC A 2 (-1 * 1), dropB 1 (dropB 1 (dropB n m1))) := by rw [HSR.out, ht]; simp only [if_pos HN0.out, Option.map_some]
            have HLC := hid (HST.out.trans (show (match stepR A m with | none => none | some p => loopR f p.1 p.2) = loopR f (setC A 2 (-1 * 1)) (dropB 1 (dropB 1 (dropB n m1))) by rw [hst]))
            clear ht hst
            go_wp2_with fail
            go_roundw
            case rel => exact ⟨f, _, dropB 1 (dropB 1 (dropB n m1)), rfl, (by have h1 := HL1.out; have h2 := HL2.out; have h3 := HL3.out; omega), (by have h1 := HL1.out; have h2 := HL2.out; have h3 := HL3.out; omega), hid (HLC.out.trans (congrArg (fun z => loopR f (setC A 2 z) (dropB 1 (dropB 1 (dropB n m1)))) (by omega))), hid (HA.out.set hge hne _).2.2.1⟩
            case measure => rw [strLen_of, strLen_of]; have h1 := HL1.out; have h2 := HL2.out; have h3 := HL3.out; omega
          · have hie1 := isE_f hq
            have hp1 := pos_of_ne hq
            have hie2 := isE_f hr
            have hp2 := pos_of_ne hr
            clear hq hr
            have hst : stepR A m = some (setC A 3 (-1 * 1), dropB 1 (dropB 1 (dropB n m1))) := by rw [HSR.out, ht]; simp only [if_pos HN0.out, Option.map_some]
            have HLC := hid (HST.out.trans (show (match stepR A m with | none => none | some p => loopR f p.1 p.2) = loopR f (setC A 3 (-1 * 1)) (dropB 1 (dropB 1 (dropB n m1))) by rw [hst]))
            clear ht hst
            go_wp2_with fail
            go_roundw
            case rel => exact ⟨f, _, dropB 1 (dropB 1 (dropB n m1)), rfl, (by have h1 := HL1.out; have h2 := HL2.out; have h3 := HL3.out; omega), (by have h1 := HL1.out; have h2 := HL2.out; have h3 := HL3.out; omega), hid (HLC.out.trans (congrArg (fun z => loopR f (setC A 3 z) (dropB 1 (dropB 1 (dropB n m1)))) (by omega))), hid (HA.out.set hge hne _).2.2.2.1⟩
            case measure => rw [strLen_of, strLen_of]; have h1 := HL1.out; have h2 := HL2.out; have h3 := HL3.out; omega
          · have hie1 := isE_f hq
            have hp1 := pos_of_ne hq
            have hie2 := isE_f hr
            have hp2 := pos_of_ne hr
            clear hq hr
            have hst : stepR A m = some (setC A 1 (-1 * 1), dropB 1 (dropB n m1)) := by rw [HSR.out, ht]; simp only [if_pos HN0.out, Option.map_some]
            have HLC := hid (HST.out.trans (show (match stepR A m with | none => none | some p => loopR f p.1 p.2) = loopR f (setC A 1 (-1 * 1)) (dropB 1 (dropB n m1)) by rw [hst]))
            clear ht hst
            go_wp2_with fail
            go_roundw
            case rel => exact ⟨f, _, dropB 1 (dropB n m1), rfl, (by have h1 := HL1.out; have h2 := HL2.out; have h3 := HL3.out; omega), (by have h1 := HL1.out; have h2 := HL2.out; have h3 := HL3.out; omega), hid (HLC.out.trans (congrArg (fun z => loopR f (setC A 1 z) (dropB 1 (dropB n m1))) (by omega))), hid (HA.out.set hge hne _).2.1⟩
            case measure => rw [strLen_of, strLen_of]; have h1 := HL1.out; have h2 := HL2.out; have h3 := HL3.out; omega
        case neg =>
          have e0 : ((n : Int) == 0) = false := beq_eq_false_iff_ne.2 (by omega)
          have HN0 := hid hn0
          have hnp : 0 < n := by omega
          clear hn0
          rcases tail_cases2 n (dropB n m1) with ⟨hq, ht⟩ | ⟨hq, hb, ht⟩ | ⟨hq, hb, hr, ht⟩ | ⟨hq, hb, hr, hc, ht⟩ | ⟨hq, hb, hr, hc, ht⟩ | ⟨hq, hb, hr, e50, e51, ht⟩
          · have hie1 := isE_t hq
            clear hq
            have hst : stepR A m = some (setC A 0 (-1 * (V : Int)), dropB n m1) := by rw [HSR.out, ht]; simp only [if_neg HN0.out, Option.map_some]
            have HLC := hid (HST.out.trans (show (match stepR A m with | none => none | some p => loopR f p.1 p.2) = loopR f (setC A 0 (-1 * (V : Int))) (dropB n m1) by rw [hst]))
            clear ht hst
            go_wp2_with fail
            go_roundw
            case rel => exact ⟨f, _, dropB n m1, rfl, (by have h1 := HL1.out; have h2 := HL2.out; have h3 := HL3.out; omega), (by have h1 := HL1.out; have h2 := HL2.out; have h3 := HL3.out; omega), hid (HLC.out.trans (congrArg (fun z => loopR f (setC A 0 z) (dropB n m1)) (by omega))), hid (HA.out.set hge hne _).1⟩
            case measure => rw [strLen_of, strLen_of]; have h1 := HL1.out; have h2 := HL2.out; have h3 := HL3.out; omega
          · have hie1 := isE_f hq
            have hp1 := pos_of_ne hq
            clear hq
            have hst : stepR A m = some (setC A 0 (-1 * (V : Int)), dropB n m1) := by rw [HSR.out, ht]; simp only [if_neg HN0.out, Option.map_some]
            have HLC := hid (HST.out.trans (show (match stepR A m with | none => none | some p => loopR f p.1 p.2) = loopR f (setC A 0 (-1 * (V : Int))) (dropB n m1) by rw [hst]))
            clear ht hst
            go_wp2_with fail
            go_roundw
            case rel => exact ⟨f, _, dropB n m1, rfl, (by have h1 := HL1.out; have h2 := HL2.out; have h3 := HL3.out; omega), (by have h1 := HL1.out; have h2 := HL2.out; have h3 := HL3.out; omega), hid (HLC.out.trans (congrArg (fun z => loopR f (setC A 0 z) (dropB n m1)) (by omega))), hid (HA.out.set hge hne _).1⟩
            case measure => rw [strLen_of, strLen_of]; have h1 := HL1.out; have h2 := HL2.out; have h3 := HL3.out; omega
          · have hie1 := isE_f hq
            have hp1 := pos_of_ne hq
            have hie2 := isE_t hr
            clear hq hr
            have hst : stepR A m = some (setC A 1 (-1 * (V : Int)), dropB 1 (dropB n m1)) := by rw [HSR.out, ht]; simp only [if_neg HN0.out, Option.map_some]
            have HLC := hid (HST.out.trans (show (match stepR A m with | none => none | some p => loopR f p.1 p.2) = loopR f (setC A 1 (-1 * (V : Int))) (dropB 1 (dropB n m1)) by rw [hst]))
            clear ht hst
            go_wp2_with fail
            go_roundw
            case rel => exact ⟨f, _, dropB 1 (dropB n m1), rfl, (by have h1 := HL1.out; have h2 := HL2.out; have h3 := HL3.out; omega), (by have h1 := HL1.out; have h2 := HL2.out; have h3 := HL3.out; omega), hid (HLC.out.trans (congrArg (fun z => loopR f (setC A 1 z) (dropB 1 (dropB n m1))) (by omega))), hid (HA.out.set hge hne _).2.1⟩
            case measure => rw [strLen_of, strLen_of]; have h1 := HL1.out; have h2 := HL2.out; have h3 := HL3.out; omega
          · have hie1 := isE_f hq
            have hp1 := pos_of_ne hq
            have hie2 := isE_f hr
            have hp2 := pos_of_ne hr
            clear hq hr
            have hst : stepR A m = some (setC A 2 (-1 * (V : Int)), dropB 1 (dropB 1 (dropB n m1))) := by rw [HSR.out, ht]; simp only [if_neg HN0.out, Option.map_some]
            have HLC := hid (HST.out.trans (show (match stepR A m with | none => none | some p => loopR f p.1 p.2) = loopR f (setC A 2 (-1 * (V : Int))) (dropB 1 (dropB 1 (dropB n m1))) by rw [hst]))
            clear ht hst
            go_wp2_with fail
            go_roundw
            case rel => exact ⟨f, _, dropB 1 (dropB 1 (dropB n m1)), rfl, (by have h1 := HL1.out; have h2 := HL2.out; have h3 := HL3.out; omega), (by have h1 := HL1.out; have h2 := HL2.out; have h3 := HL3.out; omega), hid (HLC.out.trans (congrArg (fun z => loopR f (setC A 2 z) (dropB 1 (dropB 1 (dropB n m1)))) (by omega))), hid (HA.out.set hge hne _).2.2.1⟩
            case measure => rw [strLen_of, strLen_of]; have h1 := HL1.out; have h2 := HL2.out; have h3 := HL3.out; omega
          · have hie1 := isE_f hq
            have hp1 := pos_of_ne hq
            have hie2 := isE_f hr
            have hp2 := pos_of_ne hr
            clear hq hr
            have hst : stepR A m = some (setC A 3 (-1 * (V : Int)), dropB 1 (dropB 1 (dropB n m1))) := by rw [HSR.out, ht]; simp only [if_neg HN0.out, Option.map_some]
            have HLC := hid (HST.out.trans (show (match stepR A m with | none => none | some p => loopR f p.1 p.2) = loopR f (setC A 3 (-1 * (V : Int))) (dropB 1 (dropB 1 (dropB n m1))) by rw [hst]))
            clear ht hst
            go_wp2_with fail
            go_roundw
            case rel => exact ⟨f, _, dropB 1 (dropB 1 (dropB n m1)), rfl, (by have h1 := HL1.out; have h2 := HL2.out; have h3 := HL3.out; omega), (by have h1 := HL1.out; have h2 := HL2.out; have h3 := HL3.out; omega), hid (HLC.out.trans (congrArg (fun z => loopR f (setC A 3 z) (dropB 1 (dropB 1 (dropB n m1)))) (by omega))), hid (HA.out.set hge hne _).2.2.2.1⟩
            case measure => rw [strLen_of, strLen_of]; have h1 := HL1.out; have h2 := HL2.out; have h3 := HL3.out; omega
          · have hie1 := isE_f hq
            have hp1 := pos_of_ne hq
            have hie2 := isE_f hr
            have hp2 := pos_of_ne hr
            clear hq hr
            have hst : stepR A m = some (setC A 1 (-1 * (V : Int)), dropB 1 (dropB n m1)) := by rw [HSR.out, ht]; simp only [if_neg HN0.out, Option.map_some]
            have HLC := hid (HST.out.trans (show (match stepR A m with | none => none | some p => loopR f p.1 p.2) = loopR f (setC A 1 (-1 * (V : Int))) (dropB 1 (dropB n m1)) by rw [hst]))
            clear ht hst
            go_wp2_with fail
            go_roundw
            case rel => exact ⟨f, _, dropB 1 (dropB n m1), rfl, (by have h1 := HL1.out; have h2 := HL2.out; have h3 := HL3.out; omega), (by have h1 := HL1.out; have h2 := HL2.out; have h3 := HL3.out; omega), hid (HLC.out.trans (congrArg (fun z => loopR f (setC A 1 z) (dropB 1 (dropB n m1))) (by omega))), hid (HA.out.set hge hne _).2.1⟩
            case measure => rw [strLen_of, strLen_of]; have h1 := HL1.out; have h2 := HL2.out; have h3 := HL3.out; omega
      · go_wp2_with fail
        obtain ⟨m1, hm1⟩ : ∃ m1, dropB 1 m = m1 := ⟨_, rfl⟩
        rw [hm1] at hsg hd1 ⊢
        have hlm : m1.length ≤ m.length := by omega
        clear hm1 hd1
        have HSR := hid (step_of (A := A) hsg)
        have HD := hid fun w => digits_any m1 w
        have hnl := (digN_le m1).2
        have hVb := digV_lt m1
        obtain ⟨n, hn⟩ : ∃ n, digN m1 = n := ⟨_, rfl⟩
        obtain ⟨V, hV⟩ : ∃ V, digV m1 = V := ⟨_, rfl⟩
        rw [hn] at hnl
        rw [hn, hV] at HD HSR
        rw [hV] at hVb
        clear hn hV hsg
        refine (HD.out _).mono ?_
        rintro e w1 ⟨rfl, g1⟩
        have HA := hid (HA.out.by g1.below)
        have hA := HA.out
        obtain ⟨c0, c1, c2, c3, c4, f0, f1, f2, f3, f4⟩ := hA.n.cells
        obtain ⟨d0, d1, d2, d3, d4, q0, q1, q2, q3, q4⟩ := hA.z.cells
        clear hA g1
        have HL1 := hid (dropB_len n m1)
        have HL2 := hid (dropB_len 1 (dropB n m1))
        have HL3 := hid (dropB_len 1 (dropB 1 (dropB n m1)))
        by_cases hn0 : n = 0
        case pos =>
          have e0 : ((n : Int) == 0) = true := by rw [hn0]; rfl
          have HN0 := hid hn0
          clear hn0
          rcases tail_cases2 n (dropB n m1) with ⟨hq, ht⟩ | ⟨hq, hb, ht⟩ | ⟨hq, hb, hr, ht⟩ | ⟨hq, hb, hr, hc, ht⟩ | ⟨hq, hb, hr, hc, ht⟩ | ⟨hq, hb, hr, e50, e51, ht⟩
          · have hie1 := isE_t hq
            clear hq
            have hst : stepR A m = none := by rw [HSR.out, ht]; simp only [if_pos HN0.out, Option.map_none]
            have HRES := hid (HNO.out hst)
            clear ht hst
            go_wp2_with fail
            refine bodyPost_ret (v := .tuple #[.agg #[.int .i64 0, .int .i64 0, .int .i64 0, .int .i64 0, .int .i64 0], .bool false]) (by simp [results, Tryd.results17, go_sem, *]) rfl ?_
            rw [HRES.out]
            exact ⟨rfl, bel5 HA.out.below _ _ _ _ _⟩
          · have hie1 := isE_f hq
            have hp1 := pos_of_ne hq
            clear hq
            have hst : stepR A m = none := by rw [HSR.out, ht]; simp only [if_pos HN0.out, Option.map_none]
            have HRES := hid (HNO.out hst)
            clear ht hst
            go_wp2_with fail
            refine bodyPost_ret (v := .tuple #[.agg #[.int .i64 0, .int .i64 0, .int .i64 0, .int .i64 0, .int .i64 0], .bool false]) (by simp [results, Tryd.results17, go_sem, *]) rfl ?_
            rw [HRES.out]
            exact ⟨rfl, bel5 HA.out.below _ _ _ _ _⟩
          · have hie1 := isE_f hq
            have hp1 := pos_of_ne hq
            have hie2 := isE_t hr
            clear hq hr
            have hst : stepR A m = some (setC A 1 (1 * 1), dropB 1 (dropB n m1)) := by rw [HSR.out, ht]; simp only [if_pos HN0.out, Option.map_some]
            have HLC := hid (HST.out.trans (show (match stepR A m with | none => none | some p => loopR f p.1 p.2) = loopR f (setC A 1 (1 * 1)) (dropB 1 (dropB n m1)) by rw [hst]))
            clear ht hst
            go_wp2_with fail
            go_roundw
            case rel => exact ⟨f, _, dropB 1 (dropB n m1), rfl, (by have h1 := HL1.out; have h2 := HL2.out; have h3 := HL3.out; omega), (by have h1 := HL1.out; have h2 := HL2.out; have h3 := HL3.out; omega), hid (HLC.out.trans (congrArg (fun z => loopR f (setC A 1 z) (dropB 1 (dropB n m1))) (by omega))), hid (HA.out.set hge hne _).2.1⟩
            case measure => rw [strLen_of, strLen_of]; have h1 := HL1.out; have h2 := HL2.out; have h3 := HL3.out; omega
          · have hie1 := isE_f hq
            have hp1 := pos_of_ne hq
            have hie2 := isE_f hr
            have hp2 := pos_of_ne hr
            clear hq hr
            have hst : stepR A m = some (setC A 2 (1 * 1), dropB 1 (dropB 1 (dropB n m1))) := by rw [HSR.out, ht]; simp only [if_pos HN0.out, Option.map_some]
            have HLC := hid (HST.out.trans (show (match stepR A m with | none => none | some p => loopR f p.1 p.2) = loopR f (setC A 2 (1 * 1)) (dropB 1 (dropB 1 (dropB n m1))) by rw [hst]))
            clear ht hst
            go_wp2_with fail
            go_roundw
            case rel => exact ⟨f, _, dropB 1 (dropB 1 (dropB n m1)), rfl, (by have h1 := HL1.out; have h2 := HL2.out; have h3 := HL3.out; omega), (by have h1 := HL1.out; have h2 := HL2.out; have h3 := HL3.out; omega), hid (HLC.out.trans (congrArg (fun z => loopR f (setC A 2 z) (dropB 1 (dropB 1 (dropB n m1)))) (by omega))), hid (HA.out.set hge hne _).2.2.1⟩
            case measure => rw [strLen_of, strLen_of]; have h1 := HL1.out; have h2 := HL2.out; have h3 := HL3.out; omega
          · have hie1 := isE_f hq
            have hp1 := pos_of_ne hq
            have hie2 := isE_f hr
            have hp2 := pos_of_ne hr
            clear hq hr
            have hst : stepR A m = some (setC A 3 (1 * 1), dropB 1 (dropB 1 (dropB n m1))) := by rw [HSR.out, ht]; simp only [if_pos HN0.out, Option.map_some]
            have HLC := hid (HST.out.trans (show (match stepR A m with | none => none | some p => loopR f p.1 p.2) = loopR f (setC A 3 (1 * 1)) (dropB 1 (dropB 1 (dropB n m1))) by rw [hst]))
            clear ht hst
            go_wp2_with fail
            go_roundw
            case rel => exact ⟨f, _, dropB 1 (dropB 1 (dropB n m1)), rfl, (by have h1 := HL1.out; have h2 := HL2.out; have h3 := HL3.out; omega), (by have h1 := HL1.out; have h2 := HL2.out; have h3 := HL3.out; omega), hid (HLC.out.trans (congrArg (fun z => loopR f (setC A 3 z) (dropB 1 (dropB 1 (dropB n m1)))) (by omega))), hid (HA.out.set hge hne _).2.2.2.1⟩
            case measure => rw [strLen_of, strLen_of]; have h1 := HL1.out; have h2 := HL2.out; have h3 := HL3.out; omega
          · have hie1 := isE_f hq
            have hp1 := pos_of_ne hq
            have hie2 := isE_f hr
            have hp2 := pos_of_ne hr
            clear hq hr
            have hst : stepR A m = some (setC A 1 (1 * 1), dropB 1 (dropB n m1)) := by rw [HSR.out, ht]; simp only [if_pos HN0.out, Option.map_some]
            have HLC := hid (HST.out.trans (show (match stepR A m with | none => none | some p => loopR f p.1 p.2) = loopR f (setC A 1 (1 * 1)) (dropB 1 (dropB n m1)) by rw [hst]))
            clear ht hst
            go_wp2_with fail
            go_roundw
            case rel => exact ⟨f, _, dropB 1 (dropB n m1), rfl, (by have h1 := HL1.out; have h2 := HL2.out; have h3 := HL3.out; omega), (by have h1 := HL1.out; have h2 := HL2.out; have h3 := HL3.out; omega), hid (HLC.out.trans (congrArg (fun z => loopR f (setC A 1 z) (dropB 1 (dropB n m1))) (by omega))), hid (HA.out.set hge hne _).2.1⟩
            case measure => rw [strLen_of, strLen_of]; have h1 := HL1.out; have h2 := HL2.out; have h3 := HL3.out; omega
        case neg =>
          have e0 : ((n : Int) == 0) = false := beq_eq_false_iff_ne.2 (by omega)
          have HN0 := hid hn0
          have hnp : 0 < n := by omega
          clear hn0
          rcases tail_cases2 n (dropB n m1) with ⟨hq, ht⟩ | ⟨hq, hb, ht⟩ | ⟨hq, hb, hr, ht⟩ | ⟨hq, hb, hr, hc, ht⟩ | ⟨hq, hb, hr, hc, ht⟩ | ⟨hq, hb, hr, e50, e51, ht⟩
          · have hie1 := isE_t hq
            clear hq
            have hst : stepR A m = some (setC A 0 (1 * (V : Int)), dropB n m1) := by rw [HSR.out, ht]; simp only [if_neg HN0.out, Option.map_some]
            have HLC := hid (HST.out.trans (show (match stepR A m with | none => none | some p => loopR f p.1 p.2) = loopR f (setC A 0 (1 * (V : Int))) (dropB n m1) by rw [hst]))
            clear ht hst
            go_wp2_with fail
            go_roundw
            case rel => exact ⟨f, _, dropB n m1, rfl, (by have h1 := HL1.out; have h2 := HL2.out; have h3 := HL3.out; omega), (by have h1 := HL1.out; have h2 := HL2.out; have h3 := HL3.out; omega), hid (HLC.out.trans (congrArg (fun z => loopR f (setC A 0 z) (dropB n m1)) (by omega))), hid (HA.out.set hge hne _).1⟩
            case measure => rw [strLen_of, strLen_of]; have h1 := HL1.out; have h2 := HL2.out; have h3 := HL3.out; omega
          · have hie1 := isE_f hq
            have hp1 := pos_of_ne hq
            clear hq
            have hst : stepR A m = some (setC A 0 (1 * (V : Int)), dropB n m1) := by rw [HSR.out, ht]; simp only [if_neg HN0.out, Option.map_some]
            have HLC := hid (HST.out.trans (show (match stepR A m with | none => none | some p => loopR f p.1 p.2) = loopR f (setC A 0 (1 * (V : Int))) (dropB n m1) by rw [hst]))
            clear ht hst
            go_wp2_with fail
            go_roundw
            case rel => exact ⟨f, _, dropB n m1, rfl, (by have h1 := HL1.out; have h2 := HL2.out; have h3 := HL3.out; omega), (by have h1 := HL1.out; have h2 := HL2.out; have h3 := HL3.out; omega), hid (HLC.out.trans (congrArg (fun z => loopR f (setC A 0 z) (dropB n m1)) (by omega))), hid (HA.out.set hge hne _).1⟩
            case measure => rw [strLen_of, strLen_of]; have h1 := HL1.out; have h2 := HL2.out; have h3 := HL3.out; omega
          · have hie1 := isE_f hq
            have hp1 := pos_of_ne hq
            have hie2 := isE_t hr
            clear hq hr
            have hst : stepR A m = some (setC A 1 (1 * (V : Int)), dropB 1 (dropB n m1)) := by rw [HSR.out, ht]; simp only [if_neg HN0.out, Option.map_some]
            have HLC := hid (HST.out.trans (show (match stepR A m with | none => none | some p => loopR f p.1 p.2) = loopR f (setC A 1 (1 * (V : Int))) (dropB 1 (dropB n m1)) by rw [hst]))
            clear ht hst
            go_wp2_with fail
            go_roundw
            case rel => exact ⟨f, _, dropB 1 (dropB n m1), rfl, (by have h1 := HL1.out; have h2 := HL2.out; have h3 := HL3.out; omega), (by have h1 := HL1.out; have h2 := HL2.out; have h3 := HL3.out; omega), hid (HLC.out.trans (congrArg (fun z => loopR f (setC A 1 z) (dropB 1 (dropB n m1))) (by omega))), hid (HA.out.set hge hne _).2.1⟩
            case measure => rw [strLen_of, strLen_of]; have h1 := HL1.out; have h2 := HL2.out; have h3 := HL3.out; omega
          · have hie1 := isE_f hq
            have hp1 := pos_of_ne hq
            have hie2 := isE_f hr
            have hp2 := pos_of_ne hr
            clear hq hr
            have hst : stepR A m = some (setC A 2 (1 * (V : Int)), dropB 1 (dropB 1 (dropB n m1))) := by rw [HSR.out, ht]; simp only [if_neg HN0.out, Option.map_some]
            have HLC := hid (HST.out.trans (show (match stepR A m with | none => none | some p => loopR f p.1 p.2) = loopR f (setC A 2 (1 * (V : Int))) (dropB 1 (dropB 1 (dropB n m1))) by rw [hst]))
            clear ht hst
            go_wp2_with fail
            go_roundw
            case rel => exact ⟨f, _, dropB 1 (dropB 1 (dropB n m1)), rfl, (by have h1 := HL1.out; have h2 := HL2.out; have h3 := HL3.out; omega), (by have h1 := HL1.out; have h2 := HL2.out; have h3 := HL3.out; omega), hid (HLC.out.trans (congrArg (fun z => loopR f (setC A 2 z) (dropB 1 (dropB 1 (dropB n m1)))) (by omega))), hid (HA.out.set hge hne _).2.2.1⟩
            case measure => rw [strLen_of, strLen_of]; have h1 := HL1.out; have h2 := HL2.out; have h3 := HL3.out; omega
          · have hie1 := isE_f hq
            have hp1 := pos_of_ne hq
            have hie2 := isE_f hr
            have hp2 := pos_of_ne hr
            clear hq hr
            have hst : stepR A m = some (setC A 3 (1 * (V : Int)), dropB 1 (dropB 1 (dropB n m1))) := by rw [HSR.out, ht]; simp only [if_neg HN0.out, Option.map_some]
            have HLC := hid (HST.out.trans (show (match stepR A m with | none => none | some p => loopR f p.1 p.2) = loopR f (setC A 3 (1 * (V : Int))) (dropB 1 (dropB 1 (dropB n m1))) by rw [hst]))
            clear ht hst
            go_wp2_with fail
            go_roundw
            case rel => exact ⟨f, _, dropB 1 (dropB 1 (dropB n m1)), rfl, (by have h1 := HL1.out; have h2 := HL2.out; have h3 := HL3.out; omega), (by have h1 := HL1.out; have h2 := HL2.out; have h3 := HL3.out; omega), hid (HLC.out.trans (congrArg (fun z => loopR f (setC A 3 z) (dropB 1 (dropB 1 (dropB n m1)))) (by omega))), hid (HA.out.set hge hne _).2.2.2.1⟩
            case measure => rw [strLen_of, strLen_of]; have h1 := HL1.out; have h2 := HL2.out; have h3 := HL3.out; omega
          · have hie1 := isE_f hq
            have hp1 := pos_of_ne hq
            have hie2 := isE_f hr
            have hp2 := pos_of_ne hr
            clear hq hr
            have hst : stepR A m = some (setC A 1 (1 * (V : Int)), dropB 1 (dropB n m1)) := by rw [HSR.out, ht]; simp only [if_neg HN0.out, Option.map_some]
            have HLC := hid (HST.out.trans (show (match stepR A m with | none => none | some p => loopR f p.1 p.2) = loopR f (setC A 1 (1 * (V : Int))) (dropB 1 (dropB n m1)) by rw [hst]))
            clear ht hst
            go_wp2_with fail
            go_roundw
            case rel => exact ⟨f, _, dropB 1 (dropB n m1), rfl, (by have h1 := HL1.out; have h2 := HL2.out; have h3 := HL3.out; omega), (by have h1 := HL1.out; have h2 := HL2.out; have h3 := HL3.out; omega), hid (HLC.out.trans (congrArg (fun z => loopR f (setC A 1 z) (dropB 1 (dropB n m1))) (by omega))), hid (HA.out.set hge hne _).2.1⟩
            case measure => rw [strLen_of, strLen_of]; have h1 := HL1.out; have h2 := HL2.out; have h3 := HL3.out; omega
      · go_wp2_with fail
        obtain ⟨m1, hm1⟩ : ∃ m1, m1 = m := ⟨_, rfl⟩
        have hlm : m1.length ≤ m.length := by rw [hm1]; exact Nat.le_refl _
        have hsg : signR m = (1, m1) := by rw [hm1]; exact hsg
        rw [show strB m = strB m1 by rw [hm1]]
        clear hm1 hd1
        have HSR := hid (step_of (A := A) hsg)
        have HD := hid fun w => digits_any m1 w
        have hnl := (digN_le m1).2
        have hVb := digV_lt m1
        obtain ⟨n, hn⟩ : ∃ n, digN m1 = n := ⟨_, rfl⟩
        obtain ⟨V, hV⟩ : ∃ V, digV m1 = V := ⟨_, rfl⟩
        rw [hn] at hnl
        rw [hn, hV] at HD HSR
        rw [hV] at hVb
        clear hn hV hsg
        refine (HD.out _).mono ?_
        rintro e w1 ⟨rfl, g1⟩
        have HA := hid (HA.out.by g1.below)
        have hA := HA.out
        obtain ⟨c0, c1, c2, c3, c4, f0, f1, f2, f3, f4⟩ := hA.n.cells
        obtain ⟨d0, d1, d2, d3, d4, q0, q1, q2, q3, q4⟩ := hA.z.cells
        clear hA g1
        have HL1 := hid (dropB_len n m1)
        have HL2 := hid (dropB_len 1 (dropB n m1))
        have HL3 := hid (dropB_len 1 (dropB 1 (dropB n m1)))
        by_cases hn0 : n = 0
        case pos =>
          have e0 : ((n : Int) == 0) = true := by rw [hn0]; rfl
          have HN0 := hid hn0
          clear hn0
          rcases tail_cases2 n (dropB n m1) with ⟨hq, ht⟩ | ⟨hq, hb, ht⟩ | ⟨hq, hb, hr, ht⟩ | ⟨hq, hb, hr, hc, ht⟩ | ⟨hq, hb, hr, hc, ht⟩ | ⟨hq, hb, hr, e50, e51, ht⟩
          · have hie1 := isE_t hq
            clear hq
            have hst : stepR A m = none := by rw [HSR.out, ht]; simp only [if_pos HN0.out, Option.map_none]
            have HRES := hid (HNO.out hst)
            clear ht hst
            go_wp2_with fail
            refine bodyPost_ret (v := .tuple #[.agg #[.int .i64 0, .int .i64 0, .int .i64 0, .int .i64 0, .int .i64 0], .bool false]) (by simp [results, Tryd.results17, go_sem, *]) rfl ?_
            rw [HRES.out]
            exact ⟨rfl, bel5 HA.out.below _ _ _ _ _⟩
          · have hie1 := isE_f hq
            have hp1 := pos_of_ne hq
            clear hq
            have hst : stepR A m = none := by rw [HSR.out, ht]; simp only [if_pos HN0.out, Option.map_none]
            have HRES := hid (HNO.out hst)
            clear ht hst
            go_wp2_with fail
            refine bodyPost_ret (v := .tuple #[.agg #[.int .i64 0, .int .i64 0, .int .i64 0, .int .i64 0, .int .i64 0], .bool false]) (by simp [results, Tryd.results17, go_sem, *]) rfl ?_
            rw [HRES.out]
            exact ⟨rfl, bel5 HA.out.below _ _ _ _ _⟩
          · have hie1 := isE_f hq
            have hp1 := pos_of_ne hq
            have hie2 := isE_t hr
            clear hq hr
            have hst : stepR A m = some (setC A 1 (1 * 1), dropB 1 (dropB n m1)) := by rw [HSR.out, ht]; simp only [if_pos HN0.out, Option.map_some]
            have HLC := hid (HST.out.trans (show (match stepR A m with | none => none | some p => loopR f p.1 p.2) = loopR f (setC A 1 (1 * 1)) (dropB 1 (dropB n m1)) by rw [hst]))
            clear ht hst
            go_wp2_with fail
            go_roundw
            case rel => exact ⟨f, _, dropB 1 (dropB n m1), rfl, (by have h1 := HL1.out; have h2 := HL2.out; have h3 := HL3.out; omega), (by have h1 := HL1.out; have h2 := HL2.out; have h3 := HL3.out; omega), hid (HLC.out.trans (congrArg (fun z => loopR f (setC A 1 z) (dropB 1 (dropB n m1))) (by omega))), hid (HA.out.set hge hne _).2.1⟩
            case measure => rw [strLen_of, strLen_of]; have h1 := HL1.out; have h2 := HL2.out; have h3 := HL3.out; omega
          · have hie1 := isE_f hq
            have hp1 := pos_of_ne hq
            have hie2 := isE_f hr
            have hp2 := pos_of_ne hr
            clear hq hr
            have hst : stepR A m = some (setC A 2 (1 * 1), dropB 1 (dropB 1 (dropB n m1))) := by rw [HSR.out, ht]; simp only [if_pos HN0.out, Option.map_some]
            have HLC := hid (HST.out.trans (show (match stepR A m with | none => none | some p => loopR f p.1 p.2) = loopR f (setC A 2 (1 * 1)) (dropB 1 (dropB 1 (dropB n m1))) by rw [hst]))
            clear ht hst
            go_wp2_with fail
            go_roundw
            case rel => exact ⟨f, _, dropB 1 (dropB 1 (dropB n m1)), rfl, (by have h1 := HL1.out; have h2 := HL2.out; have h3 := HL3.out; omega), (by have h1 := HL1.out; have h2 := HL2.out; have h3 := HL3.out; omega), hid (HLC.out.trans (congrArg (fun z => loopR f (setC A 2 z) (dropB 1 (dropB 1 (dropB n m1)))) (by omega))), hid (HA.out.set hge hne _).2.2.1⟩
            case measure => rw [strLen_of, strLen_of]; have h1 := HL1.out; have h2 := HL2.out; have h3 := HL3.out; omega
          · have hie1 := isE_f hq
            have hp1 := pos_of_ne hq
            have hie2 := isE_f hr
            have hp2 := pos_of_ne hr
            clear hq hr
            have hst : stepR A m = some (setC A 3 (1 * 1), dropB 1 (dropB 1 (dropB n m1))) := by rw [HSR.out, ht]; simp only [if_pos HN0.out, Option.map_some]
            have HLC := hid (HST.out.trans (show (match stepR A m with | none => none | some p => loopR f p.1 p.2) = loopR f (setC A 3 (1 * 1)) (dropB 1 (dropB 1 (dropB n m1))) by rw [hst]))
            clear ht hst
            go_wp2_with fail
            go_roundw
            case rel => exact ⟨f, _, dropB 1 (dropB 1 (dropB n m1)), rfl, (by have h1 := HL1.out; have h2 := HL2.out; have h3 := HL3.out; omega), (by have h1 := HL1.out; have h2 := HL2.out; have h3 := HL3.out; omega), hid (HLC.out.trans (congrArg (fun z => loopR f (setC A 3 z) (dropB 1 (dropB 1 (dropB n m1)))) (by omega))), hid (HA.out.set hge hne _).2.2.2.1⟩
            case measure => rw [strLen_of, strLen_of]; have h1 := HL1.out; have h2 := HL2.out; have h3 := HL3.out; omega
          · have hie1 := isE_f hq
            have hp1 := pos_of_ne hq
            have hie2 := isE_f hr
            have hp2 := pos_of_ne hr
            clear hq hr
            have hst : stepR A m = some (setC A 1 (1 * 1), dropB 1 (dropB n m1)) := by rw [HSR.out, ht]; simp only [if_pos HN0.out, Option.map_some]
            have HLC := hid (HST.out.trans (show (match stepR A m with | none => none | some p => loopR f p.1 p.2) = loopR f (setC A 1 (1 * 1)) (dropB 1 (dropB n m1)) by rw [hst]))
            clear ht hst
            go_wp2_with fail
            go_roundw
            case rel => exact ⟨f, _, dropB 1 (dropB n m1), rfl, (by have h1 := HL1.out; have h2 := HL2.out; have h3 := HL3.out; omega), (by have h1 := HL1.out; have h2 := HL2.out; have h3 := HL3.out; omega), hid (HLC.out.trans (congrArg (fun z => loopR f (setC A 1 z) (dropB 1 (dropB n m1))) (by omega))), hid (HA.out.set hge hne _).2.1⟩
            case measure => rw [strLen_of, strLen_of]; have h1 := HL1.out; have h2 := HL2.out; have h3 := HL3.out; omega
        case neg =>
          have e0 : ((n : Int) == 0) = false := beq_eq_false_iff_ne.2 (by omega)
          have HN0 := hid hn0
          have hnp : 0 < n := by omega
          clear hn0
          rcases tail_cases2 n (dropB n m1) with ⟨hq, ht⟩ | ⟨hq, hb, ht⟩ | ⟨hq, hb, hr, ht⟩ | ⟨hq, hb, hr, hc, ht⟩ | ⟨hq, hb, hr, hc, ht⟩ | ⟨hq, hb, hr, e50, e51, ht⟩
          · have hie1 := isE_t hq
            clear hq
            have hst : stepR A m = some (setC A 0 (1 * (V : Int)), dropB n m1) := by rw [HSR.out, ht]; simp only [if_neg HN0.out, Option.map_some]
            have HLC := hid (HST.out.trans (show (match stepR A m with | none => none | some p => loopR f p.1 p.2) = loopR f (setC A 0 (1 * (V : Int))) (dropB n m1) by rw [hst]))
            clear ht hst
            go_wp2_with fail
            go_roundw
            case rel => exact ⟨f, _, dropB n m1, rfl, (by have h1 := HL1.out; have h2 := HL2.out; have h3 := HL3.out; omega), (by have h1 := HL1.out; have h2 := HL2.out; have h3 := HL3.out; omega), hid (HLC.out.trans (congrArg (fun z => loopR f (setC A 0 z) (dropB n m1)) (by omega))), hid (HA.out.set hge hne _).1⟩
            case measure => rw [strLen_of, strLen_of]; have h1 := HL1.out; have h2 := HL2.out; have h3 := HL3.out; omega
          · have hie1 := isE_f hq
            have hp1 := pos_of_ne hq
            clear hq
            have hst : stepR A m = some (setC A 0 (1 * (V : Int)), dropB n m1) := by rw [HSR.out, ht]; simp only [if_neg HN0.out, Option.map_some]
            have HLC := hid (HST.out.trans (show (match stepR A m with | none => none | some p => loopR f p.1 p.2) = loopR f (setC A 0 (1 * (V : Int))) (dropB n m1) by rw [hst]))
            clear ht hst
            go_wp2_with fail
            go_roundw
            case rel => exact ⟨f, _, dropB n m1, rfl, (by have h1 := HL1.out; have h2 := HL2.out; have h3 := HL3.out; omega), (by have h1 := HL1.out; have h2 := HL2.out; have h3 := HL3.out; omega), hid (HLC.out.trans (congrArg (fun z => loopR f (setC A 0 z) (dropB n m1)) (by omega))), hid (HA.out.set hge hne _).1⟩
            case measure => rw [strLen_of, strLen_of]; have h1 := HL1.out; have h2 := HL2.out; have h3 := HL3.out; omega
          · have hie1 := isE_f hq
            have hp1 := pos_of_ne hq
            have hie2 := isE_t hr
            clear hq hr
            have hst : stepR A m = some (setC A 1 (1 * (V : Int)), dropB 1 (dropB n m1)) := by rw [HSR.out, ht]; simp only [if_neg HN0.out, Option.map_some]
            have HLC := hid (HST.out.trans (show (match stepR A m with | none => none | some p => loopR f p.1 p.2) = loopR f (setC A 1 (1 * (V : Int))) (dropB 1 (dropB n m1)) by rw [hst]))
            clear ht hst
            go_wp2_with fail
            go_roundw
            case rel => exact ⟨f, _, dropB 1 (dropB n m1), rfl, (by have h1 := HL1.out; have h2 := HL2.out; have h3 := HL3.out; omega), (by have h1 := HL1.out; have h2 := HL2.out; have h3 := HL3.out; omega), hid (HLC.out.trans (congrArg (fun z => loopR f (setC A 1 z) (dropB 1 (dropB n m1))) (by omega))), hid (HA.out.set hge hne _).2.1⟩
            case measure => rw [strLen_of, strLen_of]; have h1 := HL1.out; have h2 := HL2.out; have h3 := HL3.out; omega
          · have hie1 := isE_f hq
            have hp1 := pos_of_ne hq
            have hie2 := isE_f hr
            have hp2 := pos_of_ne hr
            clear hq hr
            have hst : stepR A m = some (setC A 2 (1 * (V : Int)), dropB 1 (dropB 1 (dropB n m1))) := by rw [HSR.out, ht]; simp only [if_neg HN0.out, Option.map_some]
            have HLC := hid (HST.out.trans (show (match stepR A m with | none => none | some p => loopR f p.1 p.2) = loopR f (setC A 2 (1 * (V : Int))) (dropB 1 (dropB 1 (dropB n m1))) by rw [hst]))
            clear ht hst
            go_wp2_with fail
            go_roundw
            case rel => exact ⟨f, _, dropB 1 (dropB 1 (dropB n m1)), rfl, (by have h1 := HL1.out; have h2 := HL2.out; have h3 := HL3.out; omega), (by have h1 := HL1.out; have h2 := HL2.out; have h3 := HL3.out; omega), hid (HLC.out.trans (congrArg (fun z => loopR f (setC A 2 z) (dropB 1 (dropB 1 (dropB n m1)))) (by omega))), hid (HA.out.set hge hne _).2.2.1⟩
            case measure => rw [strLen_of, strLen_of]; have h1 := HL1.out; have h2 := HL2.out; have h3 := HL3.out; omega
          · have hie1 := isE_f hq
            have hp1 := pos_of_ne hq
            have hie2 := isE_f hr
            have hp2 := pos_of_ne hr
            clear hq hr
            have hst : stepR A m = some (setC A 3 (1 * (V : Int)), dropB 1 (dropB 1 (dropB n m1))) := by rw [HSR.out, ht]; simp only [if_neg HN0.out, Option.map_some]
            have HLC := hid (HST.out.trans (show (match stepR A m with | none => none | some p => loopR f p.1 p.2) = loopR f (setC A 3 (1 * (V : Int))) (dropB 1 (dropB 1 (dropB n m1))) by rw [hst]))
            clear ht hst
            go_wp2_with fail
            go_roundw
            case rel => exact ⟨f, _, dropB 1 (dropB 1 (dropB n m1)), rfl, (by have h1 := HL1.out; have h2 := HL2.out; have h3 := HL3.out; omega), (by have h1 := HL1.out; have h2 := HL2.out; have h3 := HL3.out; omega), hid (HLC.out.trans (congrArg (fun z => loopR f (setC A 3 z) (dropB 1 (dropB 1 (dropB n m1)))) (by omega))), hid (HA.out.set hge hne _).2.2.2.1⟩
            case measure => rw [strLen_of, strLen_of]; have h1 := HL1.out; have h2 := HL2.out; have h3 := HL3.out; omega
          · have hie1 := isE_f hq
            have hp1 := pos_of_ne hq
            have hie2 := isE_f hr
            have hp2 := pos_of_ne hr
            clear hq hr
            have hst : stepR A m = some (setC A 1 (1 * (V : Int)), dropB 1 (dropB n m1)) := by rw [HSR.out, ht]; simp only [if_neg HN0.out, Option.map_some]
            have HLC := hid (HST.out.trans (show (match stepR A m with | none => none | some p => loopR f p.1 p.2) = loopR f (setC A 1 (1 * (V : Int))) (dropB 1 (dropB n m1)) by rw [hst]))
            clear ht hst
            go_wp2_with fail
            go_roundw
            case rel => exact ⟨f, _, dropB 1 (dropB n m1), rfl, (by have h1 := HL1.out; have h2 := HL2.out; have h3 := HL3.out; omega), (by have h1 := HL1.out; have h2 := HL2.out; have h3 := HL3.out; omega), hid (HLC.out.trans (congrArg (fun z => loopR f (setC A 1 z) (dropB 1 (dropB n m1))) (by omega))), hid (HA.out.set hge hne _).2.1⟩
            case measure => rw [strLen_of, strLen_of]; have h1 := HL1.out; have h2 := HL2.out; have h3 := HL3.out; omega

end Go.Proofs.YtmjnjghhdkoljaaDoor
