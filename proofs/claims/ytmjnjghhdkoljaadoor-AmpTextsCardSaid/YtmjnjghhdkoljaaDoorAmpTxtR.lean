/- The first term of a text: the program. Conditions: the text's length is within the reach, the variables are laid. -/
import Derived.Test.YtmjnjghhdkoljaaDoorStrE
import Derived.Test.YtmjnjghhdkoljaaDoorAmpTxtP
namespace Go.Proofs.YtmjnjghhdkoljaaDoor
open Go Go.RowKit Amp

attribute [go_sem 100000] idxS_1
attribute [go_sem 100000] idxS_2
attribute [go_sem 100000] idxS_3
theorem headVal_of {h : List UInt8} (h1 : h ≠ []) (h2 : h ≠ [43]) (h3 : h ≠ [45]) : headVal h = (numA h, okA h) := by
  unfold headVal numA okA
  rw [if_neg (fun q => q.elim h1 h2), if_neg h3]
  cases Lib.atoiAll h <;> rfl
theorem results_tmp4 {fn : Func} {t u v x : Tmp} (h : fn.results = #[.tmp t, .tmp u, .tmp v, .tmp x]) (tmps : Array Value) (P : Program) (w : World) :
    (results fn tmps).run P w = .ok (.tuple #[tmps.getD t undef, tmps.getD u undef, tmps.getD v undef, tmps.getD x undef]) w := by
  simp [results, h]
theorem head_cases (H : List UInt8) (er : Value) (her : ErrIs er (okA H)) :
    (H.isEmpty = true ∧ headVal H = (1, true)) ∨ (H.isEmpty = false ∧ (H == [43]) = true ∧ headVal H = (1, true)) ∨ (H.isEmpty = false ∧ (H == [43]) = false ∧ (H == [45]) = true ∧ headVal H = (-1, true)) ∨
    (H.isEmpty = false ∧ (H == [43]) = false ∧ (H == [45]) = false ∧ er = .nilIface ∧ headVal H = (numA H, true)) ∨ (H.isEmpty = false ∧ (H == [43]) = false ∧ (H == [45]) = false ∧ (∃ N, er = .iface 71 (.pointer (some ⟨N, 0, none⟩))) ∧ headVal H = (numA H, false)) := by
  by_cases h1 : H = []
  · exact .inl ⟨isE_t h1, by subst h1; rfl⟩
  by_cases h2 : H = [43]
  · exact .inr (.inl ⟨isE_f h1, eq_t h2, by subst h2; rfl⟩)
  by_cases h3 : H = [45]
  · exact .inr (.inr (.inl ⟨isE_f h1, eq_f h2, eq_t h3, by subst h3; rfl⟩))
  have e := headVal_of h1 h2 h3
  cases hb : okA H with
  | true =>
    rw [hb] at her e
    exact .inr (.inr (.inr (.inl ⟨isE_f h1, eq_f h2, eq_f h3, her, e⟩)))
  | false =>
    rw [hb] at her e
    exact .inr (.inr (.inr (.inr ⟨isE_f h1, eq_f h2, eq_f h3, her, e⟩)))
theorem tail_cases (R : List UInt8) :
    (Lib.hasPrefix R [119, 51] = true ∧ tailP R = (3, Lib.trimPrefix R [119, 51])) ∨ (Lib.hasPrefix R [119, 51] = false ∧ Lib.hasPrefix R [119, 50] = true ∧ tailP R = (2, Lib.trimPrefix R [119, 50])) ∨
    (Lib.hasPrefix R [119, 51] = false ∧ Lib.hasPrefix R [119, 50] = false ∧ Lib.hasPrefix R [119] = true ∧ tailP R = (1, Lib.trimPrefix R [119])) ∨ (Lib.hasPrefix R [119, 51] = false ∧ Lib.hasPrefix R [119, 50] = false ∧ Lib.hasPrefix R [119] = false ∧ tailP R = (0, R)) := by
  unfold tailP
  cases Lib.hasPrefix R [119, 51] <;> cases Lib.hasPrefix R [119, 50] <;> cases Lib.hasPrefix R [119] <;> simp
set_option maxRecDepth 100000 in
set_option maxHeartbeats 4000000 in
theorem aterm_any (l : List UInt8) (w : World) (hl : l.length ≤ 140737488351232) (hL : LaidW w) :
    Calls Tryd.prog 16 #[.string (strB l)] w fun e w' => e = .returned (.tuple #[.int .i64 (termP l).1, .int .i64 ((termP l).2.1 : Int), .string (strB (termP l).2.2.1), .bool (termP l).2.2.2]) ∧ Below w.heap.size w w' := by
  have hs1 := sgN_le l
  have hs2 := headN_ge l
  have hs3 := headN_le l
  have Hin := hid fun j (h : j < sgN l) => sgN_in h
  have Hout := hid fun (h : sgN l < l.length) => sgN_out h
  have Hin2 := hid fun j (h0 : sgN l ≤ j) (h : j < headN l) => headN_in h0 h
  have Hout2 := hid fun (h : headN l < l.length) => headN_out h
  have HTP := hid (show termP l = ((headVal (l.take (headN l))).1, (tailP (l.drop (headN l))).1, (tailP (l.drop (headN l))).2, (headVal (l.take (headN l))).2 && (decide (0 < (tailP (l.drop (headN l))).1) || decide (0 < headN l))) from rfl)
  obtain ⟨sn, hsn⟩ : ∃ n, sgN l = n := ⟨_, rfl⟩
  obtain ⟨hn, hhn⟩ : ∃ n, headN l = n := ⟨_, rfl⟩
  rw [hsn] at hs1 hs2 Hin Hout Hin2
  rw [hhn] at hs2 hs3 Hin2 Hout2 HTP
  have HLW := hid hL
  clear hsn hhn hL
  go_enter Tryd.func16, Tryd.ntmps16
  go_wp2_with fail
  go_loopw [6] (fun v wr => ∃ i : Nat, i ≤ sn ∧ v = .int .i64 i ∧ Grew w wr) (fun v _ => sn - (intOf v).toNat)
  case atStart => exact ⟨0, Nat.zero_le _, rfl, Grew.refl _⟩
  case round =>
    obtain ⟨i, hi, rfl, g, n, rfl⟩ := hrel
    by_cases hlt : i < sn
    case pos =>
      have hil : i < l.length := by omega
      obtain ⟨m, hm⟩ : ∃ m : Int, byteI l i = m := ⟨_, rfl⟩
      have hb := sg_num hm
      rw [Hin.out i hlt] at hb
      have hc : m = 45 ∨ m = 43 := by simpa using hb.symm
      clear hb
      rcases hc with rfl | rfl
      all_goals
        go_wp2_with fail
        go_roundw
        case rel => exact ⟨i + 1, by omega, by go_num, ⟨_, _, rfl⟩⟩
        case measure => simp [intOf]; omega
    case neg =>
      obtain rfl : i = sn := by omega
      have Hil := hid fun (hil : i < l.length) => show (byteI l i == 45) = false ∧ (byteI l i == 43) = false by
        have hb := sg_num (c := l.getD i 0) (m := byteI l i) rfl
        rw [Hout.out hil] at hb
        simp only [Bool.false_eq, Bool.or_eq_false_iff, decide_eq_false_iff_not] at hb
        exact ⟨by simpa using hb.1, by simpa using hb.2⟩
      by_cases hil : i < l.length
      case neg =>
        obtain rfl : hn = i := by omega
        go_wp2_with fail
        go_loopw [6] (fun v wr => v = .int .i64 hn ∧ Grew w wr) (fun _ _ => 0)
        case atStart => exact ⟨rfl, ⟨_, _, rfl⟩⟩
        case round =>
          obtain ⟨rfl, g, n, rfl⟩ := hrel
          go_wp2_with fail
          refine wp_region_gentle_lit (by kernel_rfl) (by kernel_rfl) ?_
          repeat (first | go_big_quiet_skip | (go_big_quiet_want; go_big_quiet_op; first | go_big_quiet_on | fail))
          refine wpQuiet_nil ?_
          rintro _ ⟨gg, ng, rfl⟩
          go_wp2_with fail
          refine (atoi_any _ _ (by rw [List.length_take]; omega) (HLW.out.below (show Grew w _ from (by repeat (first | exact Grew.refl _ | refine Grew.drewN ?_ _ | refine Grew.grow ?_ _ | refine Grew.alloc ?_ _ | refine Grew.drew ?_))).below)).mono ?_
          rintro e w1 ⟨⟨er, rfl, her⟩, hb1⟩
          have hb := (show Grew w _ from (by repeat (first | exact Grew.refl _ | refine Grew.drewN ?_ _ | refine Grew.grow ?_ _ | refine Grew.alloc ?_ _ | refine Grew.drew ?_))).below.trans (hb1.mono (show Grew w _ from (by repeat (first | exact Grew.refl _ | refine Grew.drewN ?_ _ | refine Grew.grow ?_ _ | refine Grew.alloc ?_ _ | refine Grew.drew ?_))).size)
          have HB := hid hb
          clear hb1 hb
          obtain ⟨H, hH⟩ : ∃ H, l.take hn = H := ⟨_, rfl⟩
          obtain ⟨R, hR⟩ : ∃ R, l.drop hn = R := ⟨_, rfl⟩
          have HTP' := HTP.out
          clear HTP
          rw [hH] at her
          rw [hH, hR] at HTP' ⊢
          have HTP := hid HTP'
          clear HTP'
          clear hH hR
          rcases head_cases _ er her with ⟨e1, hv⟩ | ⟨e1, e2, hv⟩ | ⟨e1, e2, e3, hv⟩ | ⟨e1, e2, e3, rfl, hv⟩ | ⟨e1, e2, e3, ⟨N, rfl⟩, hv⟩
          all_goals
            have HV := hid hv
            clear her hv
            go_wp2_with fail
            refine wp_loop_rounds 4 ?_
            rcases tail_cases R with ⟨p3, ht⟩ | ⟨p3, p2, ht⟩ | ⟨p3, p2, p1, ht⟩ | ⟨p3, p2, p1, ht⟩
            case inl =>
              have HTL := hid ht
              clear ht
              simp only [rounds_succ]
              go_wp2_with (first | (go_at_call 24; refine (names_any _).mono ?_; rintro e w2 ⟨rfl, gn, nn, rfl⟩) | (go_at_call 31; first | (with_reducible refine (cutp_w3 _ _).mono ?_; rintro e w2 ⟨rfl, rfl⟩) | (with_reducible refine (cutp_w2 _ _).mono ?_; rintro e w2 ⟨rfl, rfl⟩) | (with_reducible refine (cutp_w _ _).mono ?_; rintro e w2 ⟨rfl, rfl⟩)))
              refine wp_region_gentle_lit (by kernel_rfl) (by kernel_rfl) ?_
              repeat (first | go_big_quiet_skip | (go_big_quiet_want; go_big_quiet_op; first | go_big_quiet_on | fail))
              refine wpQuiet_nil ?_
              rintro _ ⟨gg, ng, rfl⟩
              go_wp2_with fail
              (try simp only [Exit.inBlock, Exit.then])
              refine bodyPost_ret (results_tmp4 rfl _ _ _) rfl ?_
              rw [HTP.out, HV.out, HTL.out]
              exact ⟨rfl, HB.out.trans ((show Grew w1 _ from (by repeat (first | exact Grew.refl _ | refine Grew.drewN ?_ _ | refine Grew.grow ?_ _ | refine Grew.alloc ?_ _ | refine Grew.drew ?_))).below.mono HB.out.size)⟩
            case inr.inl =>
              have HTL := hid ht
              clear ht
              simp only [rounds_succ]
              go_wp2_with (first | (go_at_call 24; refine (names_any _).mono ?_; rintro e w2 ⟨rfl, gn, nn, rfl⟩) | (go_at_call 31; first | (with_reducible refine (cutp_w3 _ _).mono ?_; rintro e w2 ⟨rfl, rfl⟩) | (with_reducible refine (cutp_w2 _ _).mono ?_; rintro e w2 ⟨rfl, rfl⟩) | (with_reducible refine (cutp_w _ _).mono ?_; rintro e w2 ⟨rfl, rfl⟩)))
              simp only [rounds_succ]
              go_wp2_with (first | (go_at_call 24; refine (names_any _).mono ?_; rintro e w2 ⟨rfl, gn, nn, rfl⟩) | (go_at_call 31; first | (with_reducible refine (cutp_w3 _ _).mono ?_; rintro e w2 ⟨rfl, rfl⟩) | (with_reducible refine (cutp_w2 _ _).mono ?_; rintro e w2 ⟨rfl, rfl⟩) | (with_reducible refine (cutp_w _ _).mono ?_; rintro e w2 ⟨rfl, rfl⟩)))
              refine wp_region_gentle_lit (by kernel_rfl) (by kernel_rfl) ?_
              repeat (first | go_big_quiet_skip | (go_big_quiet_want; go_big_quiet_op; first | go_big_quiet_on | fail))
              refine wpQuiet_nil ?_
              rintro _ ⟨gg, ng, rfl⟩
              go_wp2_with fail
              (try simp only [Exit.inBlock, Exit.then])
              refine bodyPost_ret (results_tmp4 rfl _ _ _) rfl ?_
              rw [HTP.out, HV.out, HTL.out]
              exact ⟨rfl, HB.out.trans ((show Grew w1 _ from (by repeat (first | exact Grew.refl _ | refine Grew.drewN ?_ _ | refine Grew.grow ?_ _ | refine Grew.alloc ?_ _ | refine Grew.drew ?_))).below.mono HB.out.size)⟩
            case inr.inr.inl =>
              have HTL := hid ht
              clear ht
              simp only [rounds_succ]
              go_wp2_with (first | (go_at_call 24; refine (names_any _).mono ?_; rintro e w2 ⟨rfl, gn, nn, rfl⟩) | (go_at_call 31; first | (with_reducible refine (cutp_w3 _ _).mono ?_; rintro e w2 ⟨rfl, rfl⟩) | (with_reducible refine (cutp_w2 _ _).mono ?_; rintro e w2 ⟨rfl, rfl⟩) | (with_reducible refine (cutp_w _ _).mono ?_; rintro e w2 ⟨rfl, rfl⟩)))
              simp only [rounds_succ]
              go_wp2_with (first | (go_at_call 24; refine (names_any _).mono ?_; rintro e w2 ⟨rfl, gn, nn, rfl⟩) | (go_at_call 31; first | (with_reducible refine (cutp_w3 _ _).mono ?_; rintro e w2 ⟨rfl, rfl⟩) | (with_reducible refine (cutp_w2 _ _).mono ?_; rintro e w2 ⟨rfl, rfl⟩) | (with_reducible refine (cutp_w _ _).mono ?_; rintro e w2 ⟨rfl, rfl⟩)))
              simp only [rounds_succ]
              go_wp2_with (first | (go_at_call 24; refine (names_any _).mono ?_; rintro e w2 ⟨rfl, gn, nn, rfl⟩) | (go_at_call 31; first | (with_reducible refine (cutp_w3 _ _).mono ?_; rintro e w2 ⟨rfl, rfl⟩) | (with_reducible refine (cutp_w2 _ _).mono ?_; rintro e w2 ⟨rfl, rfl⟩) | (with_reducible refine (cutp_w _ _).mono ?_; rintro e w2 ⟨rfl, rfl⟩)))
              refine wp_region_gentle_lit (by kernel_rfl) (by kernel_rfl) ?_
              repeat (first | go_big_quiet_skip | (go_big_quiet_want; go_big_quiet_op; first | go_big_quiet_on | fail))
              refine wpQuiet_nil ?_
              rintro _ ⟨gg, ng, rfl⟩
              go_wp2_with fail
              (try simp only [Exit.inBlock, Exit.then])
              refine bodyPost_ret (results_tmp4 rfl _ _ _) rfl ?_
              rw [HTP.out, HV.out, HTL.out]
              exact ⟨rfl, HB.out.trans ((show Grew w1 _ from (by repeat (first | exact Grew.refl _ | refine Grew.drewN ?_ _ | refine Grew.grow ?_ _ | refine Grew.alloc ?_ _ | refine Grew.drew ?_))).below.mono HB.out.size)⟩
            case inr.inr.inr =>
              have HTL := hid ht
              clear ht
              simp only [rounds_succ]
              go_wp2_with (first | (go_at_call 24; refine (names_any _).mono ?_; rintro e w2 ⟨rfl, gn, nn, rfl⟩) | (go_at_call 31; first | (with_reducible refine (cutp_w3 _ _).mono ?_; rintro e w2 ⟨rfl, rfl⟩) | (with_reducible refine (cutp_w2 _ _).mono ?_; rintro e w2 ⟨rfl, rfl⟩) | (with_reducible refine (cutp_w _ _).mono ?_; rintro e w2 ⟨rfl, rfl⟩)))
              simp only [rounds_succ]
              go_wp2_with (first | (go_at_call 24; refine (names_any _).mono ?_; rintro e w2 ⟨rfl, gn, nn, rfl⟩) | (go_at_call 31; first | (with_reducible refine (cutp_w3 _ _).mono ?_; rintro e w2 ⟨rfl, rfl⟩) | (with_reducible refine (cutp_w2 _ _).mono ?_; rintro e w2 ⟨rfl, rfl⟩) | (with_reducible refine (cutp_w _ _).mono ?_; rintro e w2 ⟨rfl, rfl⟩)))
              simp only [rounds_succ]
              go_wp2_with (first | (go_at_call 24; refine (names_any _).mono ?_; rintro e w2 ⟨rfl, gn, nn, rfl⟩) | (go_at_call 31; first | (with_reducible refine (cutp_w3 _ _).mono ?_; rintro e w2 ⟨rfl, rfl⟩) | (with_reducible refine (cutp_w2 _ _).mono ?_; rintro e w2 ⟨rfl, rfl⟩) | (with_reducible refine (cutp_w _ _).mono ?_; rintro e w2 ⟨rfl, rfl⟩)))
              simp only [rounds_succ]
              by_cases h0 : 0 < hn
              all_goals
                go_wp2_with fail
                (try simp only [Exit.inBlock, Exit.then])
                refine bodyPost_ret (results_tmp4 rfl _ _ _) rfl ?_
                rw [HTP.out, HV.out, HTL.out]
                exact ⟨by simp [h0], HB.out.trans ((show Grew w1 _ from (by repeat (first | exact Grew.refl _ | refine Grew.drewN ?_ _ | refine Grew.grow ?_ _ | refine Grew.alloc ?_ _ | refine Grew.drew ?_))).below.mono HB.out.size)⟩
      case pos =>
        obtain ⟨e45, e43⟩ := Hil.out hil
        obtain ⟨m, hm⟩ : ∃ m : Int, byteI l i = m := ⟨_, rfl⟩
        rw [hm] at e45 e43
        go_wp2_with fail
        go_loopw [6] (fun v wr => ∃ j : Nat, i ≤ j ∧ j ≤ hn ∧ v = .int .i64 j ∧ Grew w wr) (fun v _ => hn - (intOf v).toNat)
        case atStart => exact ⟨i, Nat.le_refl _, hs2, rfl, ⟨_, _, rfl⟩⟩
        case round =>
          obtain ⟨j, hj0, hj, rfl, g, n, rfl⟩ := hrel
          by_cases hlt : j < hn
          case pos =>
            have hjl : j < l.length := by omega
            obtain ⟨m, hm⟩ : ∃ m : Int, byteI l j = m := ⟨_, rfl⟩
            have hb := dg_num hm
            rw [Hin2.out j hj0 hlt] at hb
            have hc : 48 ≤ m ∧ m ≤ 57 := by simpa using hb.symm
            clear hb
            obtain ⟨hc1, hc2⟩ := hc
            go_wp2_with fail
            go_roundw
            case rel => exact ⟨j + 1, by omega, by omega, by go_num, ⟨_, _, rfl⟩⟩
            case measure => simp [intOf]; omega
          case neg =>
            obtain rfl : hn = j := by omega
            by_cases hjl : hn < l.length
            case neg =>
              go_wp2_with fail
              refine wp_region_gentle_lit (by kernel_rfl) (by kernel_rfl) ?_
              repeat (first | go_big_quiet_skip | (go_big_quiet_want; go_big_quiet_op; first | go_big_quiet_on | fail))
              refine wpQuiet_nil ?_
              rintro _ ⟨gg, ng, rfl⟩
              go_wp2_with fail
              refine (atoi_any _ _ (by rw [List.length_take]; omega) (HLW.out.below (show Grew w _ from (by repeat (first | exact Grew.refl _ | refine Grew.drewN ?_ _ | refine Grew.grow ?_ _ | refine Grew.alloc ?_ _ | refine Grew.drew ?_))).below)).mono ?_
              rintro e w1 ⟨⟨er, rfl, her⟩, hb1⟩
              have hb := (show Grew w _ from (by repeat (first | exact Grew.refl _ | refine Grew.drewN ?_ _ | refine Grew.grow ?_ _ | refine Grew.alloc ?_ _ | refine Grew.drew ?_))).below.trans (hb1.mono (show Grew w _ from (by repeat (first | exact Grew.refl _ | refine Grew.drewN ?_ _ | refine Grew.grow ?_ _ | refine Grew.alloc ?_ _ | refine Grew.drew ?_))).size)
              have HB := hid hb
              clear hb1 hb
              obtain ⟨H, hH⟩ : ∃ H, l.take hn = H := ⟨_, rfl⟩
              obtain ⟨R, hR⟩ : ∃ R, l.drop hn = R := ⟨_, rfl⟩
              have HTP' := HTP.out
              clear HTP
              rw [hH] at her
              rw [hH, hR] at HTP' ⊢
              have HTP := hid HTP'
              clear HTP'
              clear hH hR
              rcases head_cases _ er her with ⟨e1, hv⟩ | ⟨e1, e2, hv⟩ | ⟨e1, e2, e3, hv⟩ | ⟨e1, e2, e3, rfl, hv⟩ | ⟨e1, e2, e3, ⟨N, rfl⟩, hv⟩
              all_goals
                have HV := hid hv
                clear her hv
                go_wp2_with fail
                refine wp_loop_rounds 4 ?_
                rcases tail_cases R with ⟨p3, ht⟩ | ⟨p3, p2, ht⟩ | ⟨p3, p2, p1, ht⟩ | ⟨p3, p2, p1, ht⟩
                case inl =>
                  have HTL := hid ht
                  clear ht
                  simp only [rounds_succ]
                  go_wp2_with (first | (go_at_call 24; refine (names_any _).mono ?_; rintro e w2 ⟨rfl, gn, nn, rfl⟩) | (go_at_call 31; first | (with_reducible refine (cutp_w3 _ _).mono ?_; rintro e w2 ⟨rfl, rfl⟩) | (with_reducible refine (cutp_w2 _ _).mono ?_; rintro e w2 ⟨rfl, rfl⟩) | (with_reducible refine (cutp_w _ _).mono ?_; rintro e w2 ⟨rfl, rfl⟩)))
                  refine wp_region_gentle_lit (by kernel_rfl) (by kernel_rfl) ?_
                  repeat (first | go_big_quiet_skip | (go_big_quiet_want; go_big_quiet_op; first | go_big_quiet_on | fail))
                  refine wpQuiet_nil ?_
                  rintro _ ⟨gg, ng, rfl⟩
                  go_wp2_with fail
                  (try simp only [Exit.inBlock, Exit.then])
                  refine bodyPost_ret (results_tmp4 rfl _ _ _) rfl ?_
                  rw [HTP.out, HV.out, HTL.out]
                  exact ⟨rfl, HB.out.trans ((show Grew w1 _ from (by repeat (first | exact Grew.refl _ | refine Grew.drewN ?_ _ | refine Grew.grow ?_ _ | refine Grew.alloc ?_ _ | refine Grew.drew ?_))).below.mono HB.out.size)⟩
                case inr.inl =>
                  have HTL := hid ht
                  clear ht
                  simp only [rounds_succ]
                  go_wp2_with (first | (go_at_call 24; refine (names_any _).mono ?_; rintro e w2 ⟨rfl, gn, nn, rfl⟩) | (go_at_call 31; first | (with_reducible refine (cutp_w3 _ _).mono ?_; rintro e w2 ⟨rfl, rfl⟩) | (with_reducible refine (cutp_w2 _ _).mono ?_; rintro e w2 ⟨rfl, rfl⟩) | (with_reducible refine (cutp_w _ _).mono ?_; rintro e w2 ⟨rfl, rfl⟩)))
                  simp only [rounds_succ]
                  go_wp2_with (first | (go_at_call 24; refine (names_any _).mono ?_; rintro e w2 ⟨rfl, gn, nn, rfl⟩) | (go_at_call 31; first | (with_reducible refine (cutp_w3 _ _).mono ?_; rintro e w2 ⟨rfl, rfl⟩) | (with_reducible refine (cutp_w2 _ _).mono ?_; rintro e w2 ⟨rfl, rfl⟩) | (with_reducible refine (cutp_w _ _).mono ?_; rintro e w2 ⟨rfl, rfl⟩)))
                  refine wp_region_gentle_lit (by kernel_rfl) (by kernel_rfl) ?_
                  repeat (first | go_big_quiet_skip | (go_big_quiet_want; go_big_quiet_op; first | go_big_quiet_on | fail))
                  refine wpQuiet_nil ?_
                  rintro _ ⟨gg, ng, rfl⟩
                  go_wp2_with fail
                  (try simp only [Exit.inBlock, Exit.then])
                  refine bodyPost_ret (results_tmp4 rfl _ _ _) rfl ?_
                  rw [HTP.out, HV.out, HTL.out]
                  exact ⟨rfl, HB.out.trans ((show Grew w1 _ from (by repeat (first | exact Grew.refl _ | refine Grew.drewN ?_ _ | refine Grew.grow ?_ _ | refine Grew.alloc ?_ _ | refine Grew.drew ?_))).below.mono HB.out.size)⟩
                case inr.inr.inl =>
                  have HTL := hid ht
                  clear ht
                  simp only [rounds_succ]
                  go_wp2_with (first | (go_at_call 24; refine (names_any _).mono ?_; rintro e w2 ⟨rfl, gn, nn, rfl⟩) | (go_at_call 31; first | (with_reducible refine (cutp_w3 _ _).mono ?_; rintro e w2 ⟨rfl, rfl⟩) | (with_reducible refine (cutp_w2 _ _).mono ?_; rintro e w2 ⟨rfl, rfl⟩) | (with_reducible refine (cutp_w _ _).mono ?_; rintro e w2 ⟨rfl, rfl⟩)))
                  simp only [rounds_succ]
                  go_wp2_with (first | (go_at_call 24; refine (names_any _).mono ?_; rintro e w2 ⟨rfl, gn, nn, rfl⟩) | (go_at_call 31; first | (with_reducible refine (cutp_w3 _ _).mono ?_; rintro e w2 ⟨rfl, rfl⟩) | (with_reducible refine (cutp_w2 _ _).mono ?_; rintro e w2 ⟨rfl, rfl⟩) | (with_reducible refine (cutp_w _ _).mono ?_; rintro e w2 ⟨rfl, rfl⟩)))
                  simp only [rounds_succ]
                  go_wp2_with (first | (go_at_call 24; refine (names_any _).mono ?_; rintro e w2 ⟨rfl, gn, nn, rfl⟩) | (go_at_call 31; first | (with_reducible refine (cutp_w3 _ _).mono ?_; rintro e w2 ⟨rfl, rfl⟩) | (with_reducible refine (cutp_w2 _ _).mono ?_; rintro e w2 ⟨rfl, rfl⟩) | (with_reducible refine (cutp_w _ _).mono ?_; rintro e w2 ⟨rfl, rfl⟩)))
                  refine wp_region_gentle_lit (by kernel_rfl) (by kernel_rfl) ?_
                  repeat (first | go_big_quiet_skip | (go_big_quiet_want; go_big_quiet_op; first | go_big_quiet_on | fail))
                  refine wpQuiet_nil ?_
                  rintro _ ⟨gg, ng, rfl⟩
                  go_wp2_with fail
                  (try simp only [Exit.inBlock, Exit.then])
                  refine bodyPost_ret (results_tmp4 rfl _ _ _) rfl ?_
                  rw [HTP.out, HV.out, HTL.out]
                  exact ⟨rfl, HB.out.trans ((show Grew w1 _ from (by repeat (first | exact Grew.refl _ | refine Grew.drewN ?_ _ | refine Grew.grow ?_ _ | refine Grew.alloc ?_ _ | refine Grew.drew ?_))).below.mono HB.out.size)⟩
                case inr.inr.inr =>
                  have HTL := hid ht
                  clear ht
                  simp only [rounds_succ]
                  go_wp2_with (first | (go_at_call 24; refine (names_any _).mono ?_; rintro e w2 ⟨rfl, gn, nn, rfl⟩) | (go_at_call 31; first | (with_reducible refine (cutp_w3 _ _).mono ?_; rintro e w2 ⟨rfl, rfl⟩) | (with_reducible refine (cutp_w2 _ _).mono ?_; rintro e w2 ⟨rfl, rfl⟩) | (with_reducible refine (cutp_w _ _).mono ?_; rintro e w2 ⟨rfl, rfl⟩)))
                  simp only [rounds_succ]
                  go_wp2_with (first | (go_at_call 24; refine (names_any _).mono ?_; rintro e w2 ⟨rfl, gn, nn, rfl⟩) | (go_at_call 31; first | (with_reducible refine (cutp_w3 _ _).mono ?_; rintro e w2 ⟨rfl, rfl⟩) | (with_reducible refine (cutp_w2 _ _).mono ?_; rintro e w2 ⟨rfl, rfl⟩) | (with_reducible refine (cutp_w _ _).mono ?_; rintro e w2 ⟨rfl, rfl⟩)))
                  simp only [rounds_succ]
                  go_wp2_with (first | (go_at_call 24; refine (names_any _).mono ?_; rintro e w2 ⟨rfl, gn, nn, rfl⟩) | (go_at_call 31; first | (with_reducible refine (cutp_w3 _ _).mono ?_; rintro e w2 ⟨rfl, rfl⟩) | (with_reducible refine (cutp_w2 _ _).mono ?_; rintro e w2 ⟨rfl, rfl⟩) | (with_reducible refine (cutp_w _ _).mono ?_; rintro e w2 ⟨rfl, rfl⟩)))
                  simp only [rounds_succ]
                  by_cases h0 : 0 < hn
                  all_goals
                    go_wp2_with fail
                    (try simp only [Exit.inBlock, Exit.then])
                    refine bodyPost_ret (results_tmp4 rfl _ _ _) rfl ?_
                    rw [HTP.out, HV.out, HTL.out]
                    exact ⟨by simp [h0], HB.out.trans ((show Grew w1 _ from (by repeat (first | exact Grew.refl _ | refine Grew.drewN ?_ _ | refine Grew.grow ?_ _ | refine Grew.alloc ?_ _ | refine Grew.drew ?_))).below.mono HB.out.size)⟩
            case pos =>
              have hb := dg_num (c := l.getD hn 0) (m := byteI l hn) rfl
              rw [Hout2.out hjl] at hb
              obtain ⟨m, hm⟩ : ∃ m : Int, byteI l hn = m := ⟨_, rfl⟩
              rw [hm] at hb
              simp only [Bool.false_eq, Bool.and_eq_false_iff, decide_eq_false_iff_not] at hb
              by_cases h48 : 48 ≤ m
              case neg =>
                clear hb
                go_wp2_with fail
                refine wp_region_gentle_lit (by kernel_rfl) (by kernel_rfl) ?_
                repeat (first | go_big_quiet_skip | (go_big_quiet_want; go_big_quiet_op; first | go_big_quiet_on | fail))
                refine wpQuiet_nil ?_
                rintro _ ⟨gg, ng, rfl⟩
                go_wp2_with fail
                refine (atoi_any _ _ (by rw [List.length_take]; omega) (HLW.out.below (show Grew w _ from (by repeat (first | exact Grew.refl _ | refine Grew.drewN ?_ _ | refine Grew.grow ?_ _ | refine Grew.alloc ?_ _ | refine Grew.drew ?_))).below)).mono ?_
                rintro e w1 ⟨⟨er, rfl, her⟩, hb1⟩
                have hb := (show Grew w _ from (by repeat (first | exact Grew.refl _ | refine Grew.drewN ?_ _ | refine Grew.grow ?_ _ | refine Grew.alloc ?_ _ | refine Grew.drew ?_))).below.trans (hb1.mono (show Grew w _ from (by repeat (first | exact Grew.refl _ | refine Grew.drewN ?_ _ | refine Grew.grow ?_ _ | refine Grew.alloc ?_ _ | refine Grew.drew ?_))).size)
                have HB := hid hb
                clear hb1 hb
                obtain ⟨H, hH⟩ : ∃ H, l.take hn = H := ⟨_, rfl⟩
                obtain ⟨R, hR⟩ : ∃ R, l.drop hn = R := ⟨_, rfl⟩
                have HTP' := HTP.out
                clear HTP
                rw [hH] at her
                rw [hH, hR] at HTP' ⊢
                have HTP := hid HTP'
                clear HTP'
                clear hH hR
                rcases head_cases _ er her with ⟨e1, hv⟩ | ⟨e1, e2, hv⟩ | ⟨e1, e2, e3, hv⟩ | ⟨e1, e2, e3, rfl, hv⟩ | ⟨e1, e2, e3, ⟨N, rfl⟩, hv⟩
                all_goals
                  have HV := hid hv
                  clear her hv
                  go_wp2_with fail
                  refine wp_loop_rounds 4 ?_
                  rcases tail_cases R with ⟨p3, ht⟩ | ⟨p3, p2, ht⟩ | ⟨p3, p2, p1, ht⟩ | ⟨p3, p2, p1, ht⟩
                  case inl =>
                    have HTL := hid ht
                    clear ht
                    simp only [rounds_succ]
                    go_wp2_with (first | (go_at_call 24; refine (names_any _).mono ?_; rintro e w2 ⟨rfl, gn, nn, rfl⟩) | (go_at_call 31; first | (with_reducible refine (cutp_w3 _ _).mono ?_; rintro e w2 ⟨rfl, rfl⟩) | (with_reducible refine (cutp_w2 _ _).mono ?_; rintro e w2 ⟨rfl, rfl⟩) | (with_reducible refine (cutp_w _ _).mono ?_; rintro e w2 ⟨rfl, rfl⟩)))
                    refine wp_region_gentle_lit (by kernel_rfl) (by kernel_rfl) ?_
                    repeat (first | go_big_quiet_skip | (go_big_quiet_want; go_big_quiet_op; first | go_big_quiet_on | fail))
                    refine wpQuiet_nil ?_
                    rintro _ ⟨gg, ng, rfl⟩
                    go_wp2_with fail
                    (try simp only [Exit.inBlock, Exit.then])
                    refine bodyPost_ret (results_tmp4 rfl _ _ _) rfl ?_
                    rw [HTP.out, HV.out, HTL.out]
                    exact ⟨rfl, HB.out.trans ((show Grew w1 _ from (by repeat (first | exact Grew.refl _ | refine Grew.drewN ?_ _ | refine Grew.grow ?_ _ | refine Grew.alloc ?_ _ | refine Grew.drew ?_))).below.mono HB.out.size)⟩
                  case inr.inl =>
                    have HTL := hid ht
                    clear ht
                    simp only [rounds_succ]
                    go_wp2_with (first | (go_at_call 24; refine (names_any _).mono ?_; rintro e w2 ⟨rfl, gn, nn, rfl⟩) | (go_at_call 31; first | (with_reducible refine (cutp_w3 _ _).mono ?_; rintro e w2 ⟨rfl, rfl⟩) | (with_reducible refine (cutp_w2 _ _).mono ?_; rintro e w2 ⟨rfl, rfl⟩) | (with_reducible refine (cutp_w _ _).mono ?_; rintro e w2 ⟨rfl, rfl⟩)))
                    simp only [rounds_succ]
                    go_wp2_with (first | (go_at_call 24; refine (names_any _).mono ?_; rintro e w2 ⟨rfl, gn, nn, rfl⟩) | (go_at_call 31; first | (with_reducible refine (cutp_w3 _ _).mono ?_; rintro e w2 ⟨rfl, rfl⟩) | (with_reducible refine (cutp_w2 _ _).mono ?_; rintro e w2 ⟨rfl, rfl⟩) | (with_reducible refine (cutp_w _ _).mono ?_; rintro e w2 ⟨rfl, rfl⟩)))
                    refine wp_region_gentle_lit (by kernel_rfl) (by kernel_rfl) ?_
                    repeat (first | go_big_quiet_skip | (go_big_quiet_want; go_big_quiet_op; first | go_big_quiet_on | fail))
                    refine wpQuiet_nil ?_
                    rintro _ ⟨gg, ng, rfl⟩
                    go_wp2_with fail
                    (try simp only [Exit.inBlock, Exit.then])
                    refine bodyPost_ret (results_tmp4 rfl _ _ _) rfl ?_
                    rw [HTP.out, HV.out, HTL.out]
                    exact ⟨rfl, HB.out.trans ((show Grew w1 _ from (by repeat (first | exact Grew.refl _ | refine Grew.drewN ?_ _ | refine Grew.grow ?_ _ | refine Grew.alloc ?_ _ | refine Grew.drew ?_))).below.mono HB.out.size)⟩
                  case inr.inr.inl =>
                    have HTL := hid ht
                    clear ht
                    simp only [rounds_succ]
                    go_wp2_with (first | (go_at_call 24; refine (names_any _).mono ?_; rintro e w2 ⟨rfl, gn, nn, rfl⟩) | (go_at_call 31; first | (with_reducible refine (cutp_w3 _ _).mono ?_; rintro e w2 ⟨rfl, rfl⟩) | (with_reducible refine (cutp_w2 _ _).mono ?_; rintro e w2 ⟨rfl, rfl⟩) | (with_reducible refine (cutp_w _ _).mono ?_; rintro e w2 ⟨rfl, rfl⟩)))
                    simp only [rounds_succ]
                    go_wp2_with (first | (go_at_call 24; refine (names_any _).mono ?_; rintro e w2 ⟨rfl, gn, nn, rfl⟩) | (go_at_call 31; first | (with_reducible refine (cutp_w3 _ _).mono ?_; rintro e w2 ⟨rfl, rfl⟩) | (with_reducible refine (cutp_w2 _ _).mono ?_; rintro e w2 ⟨rfl, rfl⟩) | (with_reducible refine (cutp_w _ _).mono ?_; rintro e w2 ⟨rfl, rfl⟩)))
                    simp only [rounds_succ]
                    go_wp2_with (first | (go_at_call 24; refine (names_any _).mono ?_; rintro e w2 ⟨rfl, gn, nn, rfl⟩) | (go_at_call 31; first | (with_reducible refine (cutp_w3 _ _).mono ?_; rintro e w2 ⟨rfl, rfl⟩) | (with_reducible refine (cutp_w2 _ _).mono ?_; rintro e w2 ⟨rfl, rfl⟩) | (with_reducible refine (cutp_w _ _).mono ?_; rintro e w2 ⟨rfl, rfl⟩)))
                    refine wp_region_gentle_lit (by kernel_rfl) (by kernel_rfl) ?_
                    repeat (first | go_big_quiet_skip | (go_big_quiet_want; go_big_quiet_op; first | go_big_quiet_on | fail))
                    refine wpQuiet_nil ?_
                    rintro _ ⟨gg, ng, rfl⟩
                    go_wp2_with fail
                    (try simp only [Exit.inBlock, Exit.then])
                    refine bodyPost_ret (results_tmp4 rfl _ _ _) rfl ?_
                    rw [HTP.out, HV.out, HTL.out]
                    exact ⟨rfl, HB.out.trans ((show Grew w1 _ from (by repeat (first | exact Grew.refl _ | refine Grew.drewN ?_ _ | refine Grew.grow ?_ _ | refine Grew.alloc ?_ _ | refine Grew.drew ?_))).below.mono HB.out.size)⟩
                  case inr.inr.inr =>
                    have HTL := hid ht
                    clear ht
                    simp only [rounds_succ]
                    go_wp2_with (first | (go_at_call 24; refine (names_any _).mono ?_; rintro e w2 ⟨rfl, gn, nn, rfl⟩) | (go_at_call 31; first | (with_reducible refine (cutp_w3 _ _).mono ?_; rintro e w2 ⟨rfl, rfl⟩) | (with_reducible refine (cutp_w2 _ _).mono ?_; rintro e w2 ⟨rfl, rfl⟩) | (with_reducible refine (cutp_w _ _).mono ?_; rintro e w2 ⟨rfl, rfl⟩)))
                    simp only [rounds_succ]
                    go_wp2_with (first | (go_at_call 24; refine (names_any _).mono ?_; rintro e w2 ⟨rfl, gn, nn, rfl⟩) | (go_at_call 31; first | (with_reducible refine (cutp_w3 _ _).mono ?_; rintro e w2 ⟨rfl, rfl⟩) | (with_reducible refine (cutp_w2 _ _).mono ?_; rintro e w2 ⟨rfl, rfl⟩) | (with_reducible refine (cutp_w _ _).mono ?_; rintro e w2 ⟨rfl, rfl⟩)))
                    simp only [rounds_succ]
                    go_wp2_with (first | (go_at_call 24; refine (names_any _).mono ?_; rintro e w2 ⟨rfl, gn, nn, rfl⟩) | (go_at_call 31; first | (with_reducible refine (cutp_w3 _ _).mono ?_; rintro e w2 ⟨rfl, rfl⟩) | (with_reducible refine (cutp_w2 _ _).mono ?_; rintro e w2 ⟨rfl, rfl⟩) | (with_reducible refine (cutp_w _ _).mono ?_; rintro e w2 ⟨rfl, rfl⟩)))
                    simp only [rounds_succ]
                    by_cases h0 : 0 < hn
                    all_goals
                      go_wp2_with fail
                      (try simp only [Exit.inBlock, Exit.then])
                      refine bodyPost_ret (results_tmp4 rfl _ _ _) rfl ?_
                      rw [HTP.out, HV.out, HTL.out]
                      exact ⟨by simp [h0], HB.out.trans ((show Grew w1 _ from (by repeat (first | exact Grew.refl _ | refine Grew.drewN ?_ _ | refine Grew.grow ?_ _ | refine Grew.alloc ?_ _ | refine Grew.drew ?_))).below.mono HB.out.size)⟩
              case pos =>
                have h57 := hb.resolve_left (fun h => h h48)
                clear hb
                go_wp2_with fail
                refine wp_region_gentle_lit (by kernel_rfl) (by kernel_rfl) ?_
                repeat (first | go_big_quiet_skip | (go_big_quiet_want; go_big_quiet_op; first | go_big_quiet_on | fail))
                refine wpQuiet_nil ?_
                rintro _ ⟨gg, ng, rfl⟩
                go_wp2_with fail
                refine (atoi_any _ _ (by rw [List.length_take]; omega) (HLW.out.below (show Grew w _ from (by repeat (first | exact Grew.refl _ | refine Grew.drewN ?_ _ | refine Grew.grow ?_ _ | refine Grew.alloc ?_ _ | refine Grew.drew ?_))).below)).mono ?_
                rintro e w1 ⟨⟨er, rfl, her⟩, hb1⟩
                have hb := (show Grew w _ from (by repeat (first | exact Grew.refl _ | refine Grew.drewN ?_ _ | refine Grew.grow ?_ _ | refine Grew.alloc ?_ _ | refine Grew.drew ?_))).below.trans (hb1.mono (show Grew w _ from (by repeat (first | exact Grew.refl _ | refine Grew.drewN ?_ _ | refine Grew.grow ?_ _ | refine Grew.alloc ?_ _ | refine Grew.drew ?_))).size)
                have HB := hid hb
                clear hb1 hb
                obtain ⟨H, hH⟩ : ∃ H, l.take hn = H := ⟨_, rfl⟩
                obtain ⟨R, hR⟩ : ∃ R, l.drop hn = R := ⟨_, rfl⟩
                have HTP' := HTP.out
                clear HTP
                rw [hH] at her
                rw [hH, hR] at HTP' ⊢
                have HTP := hid HTP'
                clear HTP'
                clear hH hR
                rcases head_cases _ er her with ⟨e1, hv⟩ | ⟨e1, e2, hv⟩ | ⟨e1, e2, e3, hv⟩ | ⟨e1, e2, e3, rfl, hv⟩ | ⟨e1, e2, e3, ⟨N, rfl⟩, hv⟩
                all_goals
                  have HV := hid hv
                  clear her hv
                  go_wp2_with fail
                  refine wp_loop_rounds 4 ?_
                  rcases tail_cases R with ⟨p3, ht⟩ | ⟨p3, p2, ht⟩ | ⟨p3, p2, p1, ht⟩ | ⟨p3, p2, p1, ht⟩
                  case inl =>
                    have HTL := hid ht
                    clear ht
                    simp only [rounds_succ]
                    go_wp2_with (first | (go_at_call 24; refine (names_any _).mono ?_; rintro e w2 ⟨rfl, gn, nn, rfl⟩) | (go_at_call 31; first | (with_reducible refine (cutp_w3 _ _).mono ?_; rintro e w2 ⟨rfl, rfl⟩) | (with_reducible refine (cutp_w2 _ _).mono ?_; rintro e w2 ⟨rfl, rfl⟩) | (with_reducible refine (cutp_w _ _).mono ?_; rintro e w2 ⟨rfl, rfl⟩)))
                    refine wp_region_gentle_lit (by kernel_rfl) (by kernel_rfl) ?_
                    repeat (first | go_big_quiet_skip | (go_big_quiet_want; go_big_quiet_op; first | go_big_quiet_on | fail))
                    refine wpQuiet_nil ?_
                    rintro _ ⟨gg, ng, rfl⟩
                    go_wp2_with fail
                    (try simp only [Exit.inBlock, Exit.then])
                    refine bodyPost_ret (results_tmp4 rfl _ _ _) rfl ?_
                    rw [HTP.out, HV.out, HTL.out]
                    exact ⟨rfl, HB.out.trans ((show Grew w1 _ from (by repeat (first | exact Grew.refl _ | refine Grew.drewN ?_ _ | refine Grew.grow ?_ _ | refine Grew.alloc ?_ _ | refine Grew.drew ?_))).below.mono HB.out.size)⟩
                  case inr.inl =>
                    have HTL := hid ht
                    clear ht
                    simp only [rounds_succ]
                    go_wp2_with (first | (go_at_call 24; refine (names_any _).mono ?_; rintro e w2 ⟨rfl, gn, nn, rfl⟩) | (go_at_call 31; first | (with_reducible refine (cutp_w3 _ _).mono ?_; rintro e w2 ⟨rfl, rfl⟩) | (with_reducible refine (cutp_w2 _ _).mono ?_; rintro e w2 ⟨rfl, rfl⟩) | (with_reducible refine (cutp_w _ _).mono ?_; rintro e w2 ⟨rfl, rfl⟩)))
                    simp only [rounds_succ]
                    go_wp2_with (first | (go_at_call 24; refine (names_any _).mono ?_; rintro e w2 ⟨rfl, gn, nn, rfl⟩) | (go_at_call 31; first | (with_reducible refine (cutp_w3 _ _).mono ?_; rintro e w2 ⟨rfl, rfl⟩) | (with_reducible refine (cutp_w2 _ _).mono ?_; rintro e w2 ⟨rfl, rfl⟩) | (with_reducible refine (cutp_w _ _).mono ?_; rintro e w2 ⟨rfl, rfl⟩)))
                    refine wp_region_gentle_lit (by kernel_rfl) (by kernel_rfl) ?_
                    repeat (first | go_big_quiet_skip | (go_big_quiet_want; go_big_quiet_op; first | go_big_quiet_on | fail))
                    refine wpQuiet_nil ?_
                    rintro _ ⟨gg, ng, rfl⟩
                    go_wp2_with fail
                    (try simp only [Exit.inBlock, Exit.then])
                    refine bodyPost_ret (results_tmp4 rfl _ _ _) rfl ?_
                    rw [HTP.out, HV.out, HTL.out]
                    exact ⟨rfl, HB.out.trans ((show Grew w1 _ from (by repeat (first | exact Grew.refl _ | refine Grew.drewN ?_ _ | refine Grew.grow ?_ _ | refine Grew.alloc ?_ _ | refine Grew.drew ?_))).below.mono HB.out.size)⟩
                  case inr.inr.inl =>
                    have HTL := hid ht
                    clear ht
                    simp only [rounds_succ]
                    go_wp2_with (first | (go_at_call 24; refine (names_any _).mono ?_; rintro e w2 ⟨rfl, gn, nn, rfl⟩) | (go_at_call 31; first | (with_reducible refine (cutp_w3 _ _).mono ?_; rintro e w2 ⟨rfl, rfl⟩) | (with_reducible refine (cutp_w2 _ _).mono ?_; rintro e w2 ⟨rfl, rfl⟩) | (with_reducible refine (cutp_w _ _).mono ?_; rintro e w2 ⟨rfl, rfl⟩)))
                    simp only [rounds_succ]
                    go_wp2_with (first | (go_at_call 24; refine (names_any _).mono ?_; rintro e w2 ⟨rfl, gn, nn, rfl⟩) | (go_at_call 31; first | (with_reducible refine (cutp_w3 _ _).mono ?_; rintro e w2 ⟨rfl, rfl⟩) | (with_reducible refine (cutp_w2 _ _).mono ?_; rintro e w2 ⟨rfl, rfl⟩) | (with_reducible refine (cutp_w _ _).mono ?_; rintro e w2 ⟨rfl, rfl⟩)))
                    simp only [rounds_succ]
                    go_wp2_with (first | (go_at_call 24; refine (names_any _).mono ?_; rintro e w2 ⟨rfl, gn, nn, rfl⟩) | (go_at_call 31; first | (with_reducible refine (cutp_w3 _ _).mono ?_; rintro e w2 ⟨rfl, rfl⟩) | (with_reducible refine (cutp_w2 _ _).mono ?_; rintro e w2 ⟨rfl, rfl⟩) | (with_reducible refine (cutp_w _ _).mono ?_; rintro e w2 ⟨rfl, rfl⟩)))
                    refine wp_region_gentle_lit (by kernel_rfl) (by kernel_rfl) ?_
                    repeat (first | go_big_quiet_skip | (go_big_quiet_want; go_big_quiet_op; first | go_big_quiet_on | fail))
                    refine wpQuiet_nil ?_
                    rintro _ ⟨gg, ng, rfl⟩
                    go_wp2_with fail
                    (try simp only [Exit.inBlock, Exit.then])
                    refine bodyPost_ret (results_tmp4 rfl _ _ _) rfl ?_
                    rw [HTP.out, HV.out, HTL.out]
                    exact ⟨rfl, HB.out.trans ((show Grew w1 _ from (by repeat (first | exact Grew.refl _ | refine Grew.drewN ?_ _ | refine Grew.grow ?_ _ | refine Grew.alloc ?_ _ | refine Grew.drew ?_))).below.mono HB.out.size)⟩
                  case inr.inr.inr =>
                    have HTL := hid ht
                    clear ht
                    simp only [rounds_succ]
                    go_wp2_with (first | (go_at_call 24; refine (names_any _).mono ?_; rintro e w2 ⟨rfl, gn, nn, rfl⟩) | (go_at_call 31; first | (with_reducible refine (cutp_w3 _ _).mono ?_; rintro e w2 ⟨rfl, rfl⟩) | (with_reducible refine (cutp_w2 _ _).mono ?_; rintro e w2 ⟨rfl, rfl⟩) | (with_reducible refine (cutp_w _ _).mono ?_; rintro e w2 ⟨rfl, rfl⟩)))
                    simp only [rounds_succ]
                    go_wp2_with (first | (go_at_call 24; refine (names_any _).mono ?_; rintro e w2 ⟨rfl, gn, nn, rfl⟩) | (go_at_call 31; first | (with_reducible refine (cutp_w3 _ _).mono ?_; rintro e w2 ⟨rfl, rfl⟩) | (with_reducible refine (cutp_w2 _ _).mono ?_; rintro e w2 ⟨rfl, rfl⟩) | (with_reducible refine (cutp_w _ _).mono ?_; rintro e w2 ⟨rfl, rfl⟩)))
                    simp only [rounds_succ]
                    go_wp2_with (first | (go_at_call 24; refine (names_any _).mono ?_; rintro e w2 ⟨rfl, gn, nn, rfl⟩) | (go_at_call 31; first | (with_reducible refine (cutp_w3 _ _).mono ?_; rintro e w2 ⟨rfl, rfl⟩) | (with_reducible refine (cutp_w2 _ _).mono ?_; rintro e w2 ⟨rfl, rfl⟩) | (with_reducible refine (cutp_w _ _).mono ?_; rintro e w2 ⟨rfl, rfl⟩)))
                    simp only [rounds_succ]
                    by_cases h0 : 0 < hn
                    all_goals
                      go_wp2_with fail
                      (try simp only [Exit.inBlock, Exit.then])
                      refine bodyPost_ret (results_tmp4 rfl _ _ _) rfl ?_
                      rw [HTP.out, HV.out, HTL.out]
                      exact ⟨by simp [h0], HB.out.trans ((show Grew w1 _ from (by repeat (first | exact Grew.refl _ | refine Grew.drewN ?_ _ | refine Grew.grow ?_ _ | refine Grew.alloc ?_ _ | refine Grew.drew ?_))).below.mono HB.out.size)⟩

end Go.Proofs.YtmjnjghhdkoljaaDoor
