/- Format and digits: the reference. Condition of digits: the text's length is within the reach. -/
import Derived.Test.YtmjnjghhdkoljaaDoorAmpTxtU
import Derived.Test.YtmjnjghhdkoljaaDoorAmpTxtQ
namespace Go.Proofs.YtmjnjghhdkoljaaDoor
open Go Go.RowKit Amp

set_option maxHeartbeats 2000000 in
set_option maxRecDepth 100000 in
theorem rformat_any (x : C4) (k : Int) (w : World) :
    Calls Tryd.prog 5 #[.agg #[.int .i64 x.a, .int .i64 x.b, .int .i64 x.c, .int .i64 x.d, .int .i64 k]] w fun e w' => e = .returned (.tuple #[.string (strB (fmtT x k).1), .int .i64 (fmtT x k).2]) ∧ Grew w w' := by
  have HV := hid fun w => rValid_any x k w
  unfold fmtT
  by_cases hv : validB x k = true
  case neg =>
    rw [if_neg hv]
    rw [show validB x k = false by simpa using hv] at HV
    clear hv
    go_enter Tryd.func5, Tryd.ntmps5
    go_wp2_with fail
    refine (HV.out _).mono ?_
    rintro e w1 ⟨rfl, g1, n1, rfl⟩
    go_wp2_with fail
    go_ret2
    exact ⟨rfl, (by repeat (first | exact Grew.refl _ | refine Grew.drewN ?_ _ | refine Grew.grow ?_ _ | refine Grew.alloc ?_ _ | refine Grew.drew ?_))⟩
  case pos =>
    rw [if_pos hv]
    obtain ⟨hk0, hk1⟩ := validB_k hv
    have HN := hid (nth_ok hv)
    have HL := hid (accT_len HN.out)
    have HTX := hid (show textT x k = if accT x 4 = [] then [48] else accT x 4 ++ expT k from rfl)
    rw [hv] at HV
    clear hv
    go_enter Tryd.func5, Tryd.ntmps5
    go_wp2_with fail
    refine (HV.out _).mono ?_
    rintro e w1 ⟨rfl, g1, n1, rfl⟩
    go_wp2_with fail
    go_loopw [4, 12] (fun v4 v12 wr => ∃ i : Nat, i ≤ 4 ∧ v4 = .string (strB (accT x i)) ∧ v12 = .int .i64 i ∧ Grew (w.alloc (.cells #[.int .i64 x.a, .int .i64 x.b, .int .i64 x.c, .int .i64 x.d, .int .i64 k] 24)) wr) (fun _ v12 _ => 4 - (intOf v12).toNat)
    case atStart => exact ⟨0, Nat.zero_le _, rfl, rfl, ⟨_, _, rfl⟩⟩
    case round =>
      obtain ⟨i, hi, rfl, rfl, g, n, rfl⟩ := hrel
      by_cases hlt : i < 4
      case pos =>
        have hl := HL.out i
        have hX := HN.out i
        have HT := hid (show accT x (i + 1) = addT i (nthC x i) (accT x i) from rfl)
        obtain ⟨L, hL⟩ : ∃ L, accT x i = L := ⟨_, rfl⟩
        obtain ⟨X, hXX⟩ : ∃ X, nthC x i = X := ⟨_, rfl⟩
        have hx4 : nthC ⟨x.a, x.b, x.c, x.d⟩ i = X := hXX
        rw [hL] at hl HT ⊢
        rw [hXX] at hX HT
        obtain ⟨hX1, hX2⟩ := hX
        have htl : (termT i X).length ≤ 13 := by
          have h1 := itoa_len ⟨hX1, hX2⟩
          have h2 := nameT_len i
          unfold termT
          rw [List.length_append]
          split
          · simp; omega
          · split
            · simp; omega
            · omega
        have HR := hid fun w => rterm_any i X w hlt hX1 hX2
        clear hL hXX
        by_cases h0 : X = 0
        case pos =>
          have HT := hid (HT.out.trans (show addT i X L = L by unfold addT; rw [if_pos h0]))
          have e0 : (X == 0) = true := by simpa using h0
          go_wp2_with fail
          go_roundw
          case rel => exact ⟨i + 1, by omega, by rw [HT.out], by go_num, ⟨_, _, rfl⟩⟩
          case measure => simp [intOf]; omega
        case neg =>
          have HT := hid (HT.out.trans (show addT i X L = L ++ (plusT X L ++ termT i X) by unfold addT; rw [if_neg h0]))
          have e0 : (X == 0) = false := by simpa using h0
          by_cases hn : L = []
          case pos =>
            have e2 := isE_t hn
            have HP := hid (show plusT X L = [] by unfold plusT; rw [if_neg (fun q => q.2 hn)])
            clear hn
            go_wp2_with fail
            refine (HR.out _).mono ?_
            rintro e w1 ⟨rfl, g1, n1, rfl⟩
            go_wp2_with fail
            go_roundw
            case rel => exact ⟨i + 1, by omega, by rw [HT.out, HP.out]; rfl, by go_num, (by repeat (first | exact Grew.refl _ | refine Grew.drewN ?_ _ | refine Grew.grow ?_ _ | refine Grew.alloc ?_ _ | refine Grew.drew ?_))⟩
            case measure => simp [intOf]; omega
          case neg =>
            have e2 := isE_f hn
            by_cases hpos : 0 < X
            case pos =>
              have HP := hid (show plusT X L = [43] by unfold plusT; rw [if_pos ⟨hpos, hn⟩])
              clear hn
              go_wp2_with fail
              refine (HR.out _).mono ?_
              rintro e w1 ⟨rfl, g1, n1, rfl⟩
              have hl2 : (L ++ [43]).length ≤ 100 := by rw [List.length_append]; simp; omega
              go_wp2_with fail
              go_roundw
              case rel => exact ⟨i + 1, by omega, by rw [HT.out, HP.out]; simp, by go_num, (by repeat (first | exact Grew.refl _ | refine Grew.drewN ?_ _ | refine Grew.grow ?_ _ | refine Grew.alloc ?_ _ | refine Grew.drew ?_))⟩
              case measure => simp [intOf]; omega
            case neg =>
              have HP := hid (show plusT X L = [] by unfold plusT; rw [if_neg (fun q => hpos q.1)])
              clear hn
              go_wp2_with fail
              refine (HR.out _).mono ?_
              rintro e w1 ⟨rfl, g1, n1, rfl⟩
              go_wp2_with fail
              go_roundw
              case rel => exact ⟨i + 1, by omega, by rw [HT.out, HP.out]; rfl, by go_num, (by repeat (first | exact Grew.refl _ | refine Grew.drewN ?_ _ | refine Grew.grow ?_ _ | refine Grew.alloc ?_ _ | refine Grew.drew ?_))⟩
              case measure => simp [intOf]; omega
      case neg =>
        obtain rfl : i = 4 := by omega
        have hl := HL.out 4
        obtain ⟨L, hL⟩ : ∃ L, accT x 4 = L := ⟨_, rfl⟩
        rw [hL] at hl HTX ⊢
        clear hL
        by_cases hn : L = []
        case pos =>
          have e2 := isE_t hn
          have HT := hid (HTX.out.trans (if_pos hn))
          clear hn
          go_wp2_with fail
          refine bodyPost_ret (results_tmp2 rfl _ _ _) rfl ?_
          rw [HT.out]
          exact ⟨rfl, (by repeat (first | exact Grew.refl _ | refine Grew.drewN ?_ _ | refine Grew.grow ?_ _ | refine Grew.alloc ?_ _ | refine Grew.drew ?_))⟩
        case neg =>
          have e2 := isE_f hn
          have HT := hid (HTX.out.trans (if_neg hn))
          clear hn
          by_cases hk : 0 < k
          · have HE := hid (show expT k = 47 :: Lib.itoa k by unfold expT; rw [if_pos hk])
            have hik := itoa_len (show -1000000000 ≤ k ∧ k ≤ 1000000000 by omega)
            have HD := hid fun w => dec_any k w (by omega) (by omega)
            go_wp2_with fail
            refine (HD.out _).mono ?_
            rintro e w1 ⟨rfl, g1, n1, rfl⟩
            have hl2 : (47 :: Lib.itoa k).length ≤ 100 := by rw [List.length_cons]; omega
            go_wp2_with fail
            refine bodyPost_ret (results_tmp2 rfl _ _ _) rfl ?_
            rw [HT.out, HE.out]
            exact ⟨rfl, (by repeat (first | exact Grew.refl _ | refine Grew.drewN ?_ _ | refine Grew.grow ?_ _ | refine Grew.alloc ?_ _ | refine Grew.drew ?_))⟩
          · have HE := hid (show expT k = [] by unfold expT; rw [if_neg hk])
            go_wp2_with fail
            refine bodyPost_ret (results_tmp2 rfl _ _ _) rfl ?_
            rw [HT.out, HE.out, List.append_nil]
            exact ⟨rfl, (by repeat (first | exact Grew.refl _ | refine Grew.drewN ?_ _ | refine Grew.grow ?_ _ | refine Grew.alloc ?_ _ | refine Grew.drew ?_))⟩

theorem digN_le (l : List UInt8) : digN l ≤ 10 ∧ digN l ≤ l.length := by
  have h1 := (tw_take (p := dgB) (l.take 10)).1
  rw [List.length_take] at h1
  unfold digN
  omega
theorem getD_take {l : List UInt8} {n j : Nat} (h : j < n) : (l.take n).getD j 0 = l.getD j 0 := by
  rw [List.getD_eq_getElem?_getD, List.getD_eq_getElem?_getD, List.getElem?_take_of_lt h]
theorem digN_in {l : List UInt8} {j : Nat} (h : j < digN l) : dgB (l.getD j 0) = true := by
  have := tw_in (p := dgB) (l.take 10) j h
  rw [getD_take (by have := (digN_le l).1; omega)] at this
  exact this
theorem digN_out {l : List UInt8} (h : digN l < l.length) (h2 : digN l < 10) : dgB (l.getD (digN l) 0) = false := by
  have : dgB ((l.take 10).getD (digN l) 0) = false := tw_out (p := dgB) (l.take 10) (by rw [List.length_take]; unfold digN at h h2; omega)
  rw [getD_take (n := 10) h2] at this
  exact this
theorem val_step (l : List UInt8) (i : Nat) (h : i < l.length) : valD 0 (l.take (i + 1)) = 10 * valD 0 (l.take i) + ((l.getD i 0).toNat - 48) := by
  rw [List.take_add_one, List.getElem?_eq_getElem h]
  unfold valD
  rw [List.foldl_append]
  rw [List.getD_eq_getElem?_getD, List.getElem?_eq_getElem h]
  rfl
theorem val_lt (l : List UInt8) : ∀ i, i ≤ digN l → valD 0 (l.take i) < 10 ^ i
  | 0, _ => by rw [List.take_zero]; exact Nat.lt_succ_self 0
  | i + 1, h => by
    have h1 := val_lt l i (by omega)
    have h2 := of_decide_eq_true (digN_in (l := l) (j := i) (by omega))
    rw [val_step l i (by have := (digN_le l).2; omega), Nat.pow_succ]
    omega
set_option maxHeartbeats 2000000 in
set_option maxRecDepth 100000 in
theorem digits_any (l : List UInt8) (w : World) :
    Calls Tryd.prog 32 #[.string (strB l)] w fun e w' => e = .returned (.tuple #[.int .i64 (digV l : Int), .int .i64 (digN l : Int)]) ∧ Grew w w' := by
  obtain ⟨hd1, hd2⟩ := digN_le l
  have Hin := hid fun j (h : j < digN l) => digN_in h
  have Hout := hid fun (h : digN l < l.length) (h2 : digN l < 10) => digN_out h h2
  have Hval := hid (val_lt l)
  have Hst := hid (val_step l)
  have HV := hid (show digV l = valD 0 (l.take (digN l)) from rfl)
  obtain ⟨dn, hdn⟩ : ∃ n, digN l = n := ⟨_, rfl⟩
  rw [hdn] at hd1 hd2 Hin Hout Hval HV ⊢
  clear hdn
  go_enter Tryd.func32, Tryd.ntmps32
  go_wp2_with fail
  go_loopw [4, 5] (fun v4 v5 wr => ∃ i : Nat, i ≤ dn ∧ v4 = .int .i64 (valD 0 (l.take i) : Int) ∧ v5 = .int .i64 i ∧ Grew w wr) (fun _ v5 _ => dn - (intOf v5).toNat)
  case atStart => exact ⟨0, Nat.zero_le _, rfl, rfl, Grew.refl _⟩
  case round =>
    obtain ⟨i, hi, rfl, rfl, g, n, rfl⟩ := hrel
    by_cases hlt : i < dn
    case pos =>
      have hil : i < l.length := by omega
      have hst := Hst.out i hil
      have hvb : valD 0 (l.take i) < 10 ^ 10 := Nat.lt_of_lt_of_le (Hval.out i (by omega)) (Nat.pow_le_pow_right (by decide) (by omega))
      obtain ⟨V, hV⟩ : ∃ V, valD 0 (l.take i) = V := ⟨_, rfl⟩
      rw [hV] at hvb hst ⊢
      obtain ⟨m, hm⟩ : ∃ m : Int, byteI l i = m := ⟨_, rfl⟩
      have hb := dg_num hm
      rw [Hin.out i hlt] at hb
      have hc : 48 ≤ m ∧ m ≤ 57 := by simpa using hb.symm
      obtain ⟨hc1, hc2⟩ := hc
      have hst2 : (valD 0 (l.take (i + 1)) : Int) = 10 * V + (m - 48) := by
        rw [hst]
        have : ((l.getD i 0).toNat : Int) = m := hm
        omega
      have HS := hid hst2
      have hvb2 : V < 10000000000 := hvb
      clear hb hV hst hst2 hvb
      go_wp2_with fail
      go_roundw
      case rel => exact ⟨i + 1, by omega, by rw [HS.out], by go_num, ⟨_, _, rfl⟩⟩
      case measure => simp [intOf]; omega
    case neg =>
      obtain rfl : dn = i := by omega
      by_cases hil : dn < l.length
      case neg =>
        go_wp2_with fail
        refine bodyPost_ret (results_tmp2 rfl _ _ _) rfl ?_
        rw [HV.out]
        exact ⟨rfl, (by repeat (first | exact Grew.refl _ | refine Grew.drewN ?_ _ | refine Grew.grow ?_ _ | refine Grew.alloc ?_ _ | refine Grew.drew ?_))⟩
      case pos =>
        by_cases h10 : dn < 10
        case neg =>
          go_wp2_with fail
          refine bodyPost_ret (results_tmp2 rfl _ _ _) rfl ?_
          rw [HV.out]
          exact ⟨rfl, (by repeat (first | exact Grew.refl _ | refine Grew.drewN ?_ _ | refine Grew.grow ?_ _ | refine Grew.alloc ?_ _ | refine Grew.drew ?_))⟩
        case pos =>
          have hb := dg_num (c := l.getD dn 0) (m := byteI l dn) rfl
          rw [Hout.out hil h10] at hb
          obtain ⟨m, hm⟩ : ∃ m : Int, byteI l dn = m := ⟨_, rfl⟩
          rw [hm] at hb
          simp only [Bool.false_eq, Bool.and_eq_false_iff, decide_eq_false_iff_not] at hb
          by_cases h48 : 48 ≤ m
          case neg =>
            clear hb
            go_wp2_with fail
            refine bodyPost_ret (results_tmp2 rfl _ _ _) rfl ?_
            rw [HV.out]
            exact ⟨rfl, (by repeat (first | exact Grew.refl _ | refine Grew.drewN ?_ _ | refine Grew.grow ?_ _ | refine Grew.alloc ?_ _ | refine Grew.drew ?_))⟩
          case pos =>
            have h57 := hb.resolve_left (fun h => h h48)
            clear hb
            go_wp2_with fail
            refine bodyPost_ret (results_tmp2 rfl _ _ _) rfl ?_
            rw [HV.out]
            exact ⟨rfl, (by repeat (first | exact Grew.refl _ | refine Grew.drewN ?_ _ | refine Grew.grow ?_ _ | refine Grew.alloc ?_ _ | refine Grew.drew ?_))⟩

end Go.Proofs.YtmjnjghhdkoljaaDoor
