/- The text of a number: the program. Conditions: the number is valid, the table of powers of ten is laid. -/
import Derived.Test.YtmjnjghhdkoljaaDoorAmpTxtP
namespace Go.Proofs.YtmjnjghhdkoljaaDoor
open Go Go.RowKit Amp

theorem len_cons {c : UInt8} {a : List UInt8} {n : Nat} (h : a.length + 1 ≤ n) : (c :: a).length ≤ n := h
theorem len_snoc {c : UInt8} {a : List UInt8} {n : Nat} (h : a.length + 1 ≤ n) : (a ++ [c]).length ≤ n := by rw [List.length_append]; exact h
theorem len_app {a b : List UInt8} {n : Nat} (h : a.length + b.length ≤ n) : (a ++ b).length ≤ n := by rw [List.length_append]; exact h
theorem len_snoc_app {c : UInt8} {a b : List UInt8} {n : Nat} (h : a.length + 1 + b.length ≤ n) : ((a ++ [c]) ++ b).length ≤ n := by rw [List.length_append, List.length_append]; exact h
theorem bld_new (w : World) (hT : Tab w) : BldW w w.heap.size [] (w.alloc (.cells #[.pointer none, .slice none 0 0] 52)) :=
  ⟨.inl ⟨Nat.le_refl _, .slice none 0 0, blk_new rfl, World.ownsRow_nil _ _ _ _, by simp [Value.ownBlock]⟩, (Below.refl _ w).alloc (Nat.le_refl _) _, hT⟩
set_option maxRecDepth 100000 in
set_option maxHeartbeats 1000000 in
theorem text_any (x : C4) (k : Int) (w : World) (hv : validB x k = true) (hT : Tab w) :
    Calls Tryd.prog 10 #[.agg #[.int .i64 x.a, .int .i64 x.b, .int .i64 x.c, .int .i64 x.d, .int .i64 k]] w fun e w' => e = .returned (.string (strB (textT x k))) ∧ Below w.heap.size w w' := by
  have hk := validB_k hv
  obtain ⟨hk0, hk1⟩ := hk
  have HN := hid (nth_ok hv)
  have HL := hid (accT_len HN.out)
  obtain ⟨B1, hB1⟩ : ∃ B, B = w.alloc (.cells #[.int .i64 x.a, .int .i64 x.b, .int .i64 x.c, .int .i64 x.d, .int .i64 k] 24) := ⟨_, rfl⟩
  have hb1 : Below w.heap.size w B1 := by rw [hB1]; exact (Below.refl _ w).alloc (Nat.le_refl _) _
  have h0 := bld_new B1 (hT.below hb1)
  have hs1 : B1.heap.size = w.heap.size + 1 := by rw [hB1]; simp [go_sem]
  have hbox : B1.heap[w.heap.size]? = some (.cells #[.int .i64 x.a, .int .i64 x.b, .int .i64 x.c, .int .i64 x.d, .int .i64 k] 24) := by rw [hB1]; exact blk_new rfl
  have H0 := hid h0
  have HB1 := hid hb1
  have HBX := hid hbox
  clear hb1 h0 hT hv hbox
  go_enter Tryd.func10, Tryd.ntmps10
  go_wp2_with fail
  rw [← hB1]
  clear hB1
  rw [← hs1]
  have HS1 := hid hs1
  clear hs1
  go_loopw [8] (fun v wr => ∃ i : Nat, i ≤ 4 ∧ v = .int .i64 i ∧ Hid (BldW B1 B1.heap.size (accT x i) wr)) (fun v _ => 4 - (intOf v).toNat)
  case atStart => exact ⟨0, Nat.zero_le _, rfl, H0⟩
  case round =>
    obtain ⟨i, hi, rfl, HB⟩ := hrel
    by_cases hlt : i < 4
    case neg =>
      obtain rfl : i = 4 := by omega
      have hl := HL.out 4
      have hB := HB.out
      have HT := hid (show textT x k = if accT x 4 = [] then [48] else accT x 4 ++ expT k from rfl)
      obtain ⟨L, hL⟩ : ∃ L, accT x 4 = L := ⟨_, rfl⟩
      rw [hL] at hl hB HT
      have hwr := hB.below.size
      have hbw := HBX.out
      have hbl := (Array.getElem?_eq_some_iff.1 HBX.out).1
      have hbx := (hB.below.block _ hbl).trans HBX.out
      have y4 : wr.cell? ⟨w.heap.size, 4, none⟩ = some (.int .i64 k) := by simp [World.cell?, hbx]
      have hbl2 := Nat.lt_of_lt_of_le hbl hwr
      have HBL := hid hbx
      clear hL hbw hbl hbx HB
      by_cases hn : L = []
      case pos =>
        subst hn
        have HT := hid (HT.out.trans (if_pos rfl))
        go_wp2_with (first | (go_at_call 20; refine (blenW _ _ _ _ (by assumption)).mono ?_; rintro e w' ⟨rfl, rfl⟩) | (go_at_call 24; refine (names_any _).mono ?_; rintro e w1 ⟨rfl, hg1⟩; have hB := BldW.grew (by assumption) hg1; clear hg1) | (go_at_call 23; refine (itoaW _ _ _ _ _ (by assumption) (by omega) (by omega)).mono ?_; rintro e w1 ⟨rfl, hB⟩) | (go_at_call 21; first | (with_reducible refine (wplusW _ _ _ _ (by assumption) (by first | omega | exact len_cons (by omega) | exact len_snoc (by omega) | exact len_app (by omega) | exact len_snoc_app (by omega))).mono ?_; rintro e w1 ⟨rfl, hB⟩) | (with_reducible refine (wminusW _ _ _ _ (by assumption) (by first | omega | exact len_cons (by omega) | exact len_snoc (by omega) | exact len_app (by omega) | exact len_snoc_app (by omega))).mono ?_; rintro e w1 ⟨rfl, hB⟩)) | (go_at_call 22; refine (wstrW _ _ _ _ _ (by assumption) (by first | omega | exact len_cons (by omega) | exact len_snoc (by omega) | exact len_app (by omega) | exact len_snoc_app (by omega)) (by first | omega | exact len_cons (by omega) | exact len_snoc (by omega) | exact len_app (by omega) | exact len_snoc_app (by omega))).mono ?_; rintro e w1 ⟨⟨n1, rfl⟩, hB⟩))
        go_ret
        rw [HT.out]
        exact ⟨rfl, HB1.out.trans (hB.below.mono (by have := HS1.out; omega))⟩
      case neg =>
        have HT := hid (HT.out.trans (if_neg hn))
        have hp : 0 < L.length := List.length_pos_iff.2 hn
        have e0 : ((L.length : Int) == 0) = false := by simpa using hn
        have e0' : ¬ (L.length : Int) = 0 := by omega
        clear hn
        by_cases hk : 0 < k
        · have e1 : decide (0 < k) = true := decide_eq_true hk
          have hik := itoa_len (show -1000000000 ≤ k ∧ k ≤ 1000000000 by omega)
          have hik2 : (Lib.itoa k).length ≤ 4611686018427387903 := by omega
          have HE := hid (show expT k = 47 :: Lib.itoa k by unfold expT; rw [if_pos hk])
          go_wp2_with (first | (go_at_call 25; refine (bstrW _ _ _ _ (by assumption)).mono ?_; rintro e w1 ⟨rfl, hBe⟩) | (first | (go_at_call 20; refine (blenW _ _ _ _ (by assumption)).mono ?_; rintro e w' ⟨rfl, rfl⟩) | (go_at_call 24; refine (names_any _).mono ?_; rintro e w1 ⟨rfl, hg1⟩; have hB := BldW.grew (by assumption) hg1; clear hg1) | (go_at_call 23; refine (itoaW _ _ _ _ _ (by assumption) (by omega) (by omega)).mono ?_; rintro e w1 ⟨rfl, hB⟩) | (go_at_call 21; first | (with_reducible refine (wplusW _ _ _ _ (by assumption) (by first | omega | exact len_cons (by omega) | exact len_snoc (by omega) | exact len_app (by omega) | exact len_snoc_app (by omega))).mono ?_; rintro e w1 ⟨rfl, hB⟩) | (with_reducible refine (wminusW _ _ _ _ (by assumption) (by first | omega | exact len_cons (by omega) | exact len_snoc (by omega) | exact len_app (by omega) | exact len_snoc_app (by omega))).mono ?_; rintro e w1 ⟨rfl, hB⟩)) | (go_at_call 22; refine (wstrW _ _ _ _ _ (by assumption) (by first | omega | exact len_cons (by omega) | exact len_snoc (by omega) | exact len_app (by omega) | exact len_snoc_app (by omega)) (by first | omega | exact len_cons (by omega) | exact len_snoc (by omega) | exact len_app (by omega) | exact len_snoc_app (by omega))).mono ?_; rintro e w1 ⟨⟨n1, rfl⟩, hB⟩)))
          go_ret
          rw [HT.out, HE.out]
          exact ⟨rfl, HB1.out.trans (hBe.mono (by have := HS1.out; omega))⟩
        · have e1 : decide (0 < k) = false := decide_eq_false hk
          have HE := hid (show expT k = [] by unfold expT; rw [if_neg hk])
          go_wp2_with (first | (go_at_call 25; refine (bstrW _ _ _ _ (by assumption)).mono ?_; rintro e w1 ⟨rfl, hBe⟩) | (first | (go_at_call 20; refine (blenW _ _ _ _ (by assumption)).mono ?_; rintro e w' ⟨rfl, rfl⟩) | (go_at_call 24; refine (names_any _).mono ?_; rintro e w1 ⟨rfl, hg1⟩; have hB := BldW.grew (by assumption) hg1; clear hg1) | (go_at_call 23; refine (itoaW _ _ _ _ _ (by assumption) (by omega) (by omega)).mono ?_; rintro e w1 ⟨rfl, hB⟩) | (go_at_call 21; first | (with_reducible refine (wplusW _ _ _ _ (by assumption) (by first | omega | exact len_cons (by omega) | exact len_snoc (by omega) | exact len_app (by omega) | exact len_snoc_app (by omega))).mono ?_; rintro e w1 ⟨rfl, hB⟩) | (with_reducible refine (wminusW _ _ _ _ (by assumption) (by first | omega | exact len_cons (by omega) | exact len_snoc (by omega) | exact len_app (by omega) | exact len_snoc_app (by omega))).mono ?_; rintro e w1 ⟨rfl, hB⟩)) | (go_at_call 22; refine (wstrW _ _ _ _ _ (by assumption) (by first | omega | exact len_cons (by omega) | exact len_snoc (by omega) | exact len_app (by omega) | exact len_snoc_app (by omega)) (by first | omega | exact len_cons (by omega) | exact len_snoc (by omega) | exact len_app (by omega) | exact len_snoc_app (by omega))).mono ?_; rintro e w1 ⟨⟨n1, rfl⟩, hB⟩)))
          go_ret
          rw [HT.out, HE.out, List.append_nil]
          exact ⟨rfl, HB1.out.trans (hBe.mono (by have := HS1.out; omega))⟩
    case pos =>
      have hl := HL.out i
      have hX := HN.out i
      have hB := HB.out
      have HT := hid (show accT x (i + 1) = addT i (nthC x i) (accT x i) from rfl)
      have hnl := nameT_len i
      obtain ⟨L, hL⟩ : ∃ L, accT x i = L := ⟨_, rfl⟩
      obtain ⟨X, hXX⟩ : ∃ X, nthC x i = X := ⟨_, rfl⟩
      have hx4 : nthC ⟨x.a, x.b, x.c, x.d⟩ i = X := hXX
      rw [hL] at hl hB HT
      rw [hXX] at hX HT
      obtain ⟨hX1, hX2⟩ := hX
      have hiX := itoa_len ⟨hX1, hX2⟩
      have HLI := hid hlt
      clear hL HB hXX
      by_cases h0 : X = 0
      case pos =>
        have HT := hid (HT.out.trans (show addT i X L = L by unfold addT; rw [if_pos h0]))
        have e0 : (X == 0) = true := by simpa using h0
        go_wp2_with (first | (go_at_call 20; refine (blenW _ _ _ _ (by assumption)).mono ?_; rintro e w' ⟨rfl, rfl⟩) | (go_at_call 24; refine (names_any _).mono ?_; rintro e w1 ⟨rfl, hg1⟩; have hB := BldW.grew (by assumption) hg1; clear hg1) | (go_at_call 23; refine (itoaW _ _ _ _ _ (by assumption) (by omega) (by omega)).mono ?_; rintro e w1 ⟨rfl, hB⟩) | (go_at_call 21; first | (with_reducible refine (wplusW _ _ _ _ (by assumption) (by first | omega | exact len_cons (by omega) | exact len_snoc (by omega) | exact len_app (by omega) | exact len_snoc_app (by omega))).mono ?_; rintro e w1 ⟨rfl, hB⟩) | (with_reducible refine (wminusW _ _ _ _ (by assumption) (by first | omega | exact len_cons (by omega) | exact len_snoc (by omega) | exact len_app (by omega) | exact len_snoc_app (by omega))).mono ?_; rintro e w1 ⟨rfl, hB⟩)) | (go_at_call 22; refine (wstrW _ _ _ _ _ (by assumption) (by first | omega | exact len_cons (by omega) | exact len_snoc (by omega) | exact len_app (by omega) | exact len_snoc_app (by omega)) (by first | omega | exact len_cons (by omega) | exact len_snoc (by omega) | exact len_app (by omega) | exact len_snoc_app (by omega))).mono ?_; rintro e w1 ⟨⟨n1, rfl⟩, hB⟩))
        go_roundw
        case rel => exact ⟨i + 1, by omega, by go_num, hid (by rw [HT.out]; exact hB)⟩
        case measure => simp [intOf]; omega
      case neg =>
        have HT := hid (HT.out.trans (show addT i X L = L ++ (plusT X L ++ termT i X) by unfold addT; rw [if_neg h0]))
        have e0 : (X == 0) = false := by simpa using h0
        obtain ⟨b2, hb2⟩ : ∃ b, decide (0 < L.length) = b := ⟨_, rfl⟩
        obtain ⟨b3, hb3⟩ : ∃ b, decide (0 < i) = b := ⟨_, rfl⟩
        have hLn : b2 = true → L ≠ [] := fun e h => by rw [e] at hb2; have := of_decide_eq_true hb2; rw [h] at this; simp at this
        have hLe : b2 = false → L = [] := fun e => by rw [e] at hb2; have := of_decide_eq_false hb2; exact List.eq_nil_of_length_eq_zero (by omega)
        have hin : b3 = true → 0 < i := fun e => by rw [e] at hb3; have := of_decide_eq_true hb3; omega
        have hie : b3 = false → ¬ 0 < i := fun e => by rw [e] at hb3; have := of_decide_eq_false hb3; omega
        have HLn := hid hLn
        have HLe := hid hLe
        have Hin := hid hin
        have Hie := hid hie
        clear hLn hLe hin hie
        by_cases hpos : 0 < X
        · have e1 : decide (0 < X) = true := decide_eq_true hpos
          have hm1 : ¬ X = -1 := by omega
          have em : (X == -1) = false := by simpa using hm1
          have ei : Hid (termT i X = if 0 < i ∧ X = 1 then nameT i else Lib.itoa X ++ nameT i) := hid (by
            unfold termT
            by_cases h : 0 < i ∧ X = 1
            · rw [if_pos h, if_pos h]; rfl
            · rw [if_neg h, if_neg h, if_neg (fun q => hm1 q.2)])
          by_cases hx1 : X = 1
          · have e4 : (X == 1) = true := by simpa using hx1
            cases b2 <;> cases b3
            all_goals
              first | have HP := hid (show plusT X L = [43] by unfold plusT; rw [if_pos ⟨hpos, HLn.out rfl⟩]) | have HP := hid (show plusT X L = [] by unfold plusT; rw [if_neg (fun q => q.2 (HLe.out rfl))])
              first | have HE := hid (ei.out.trans (if_pos ⟨Hin.out rfl, hx1⟩)) | have HE := hid (ei.out.trans (if_neg (fun q => Hie.out rfl q.1)))
              clear ei hpos hx1 hm1 h0
              go_wp2_with (first | (go_at_call 20; refine (blenW _ _ _ _ (by assumption)).mono ?_; rintro e w' ⟨rfl, rfl⟩) | (go_at_call 24; refine (names_any _).mono ?_; rintro e w1 ⟨rfl, hg1⟩; have hB := BldW.grew (by assumption) hg1; clear hg1) | (go_at_call 23; refine (itoaW _ _ _ _ _ (by assumption) (by omega) (by omega)).mono ?_; rintro e w1 ⟨rfl, hB⟩) | (go_at_call 21; first | (with_reducible refine (wplusW _ _ _ _ (by assumption) (by first | omega | exact len_cons (by omega) | exact len_snoc (by omega) | exact len_app (by omega) | exact len_snoc_app (by omega))).mono ?_; rintro e w1 ⟨rfl, hB⟩) | (with_reducible refine (wminusW _ _ _ _ (by assumption) (by first | omega | exact len_cons (by omega) | exact len_snoc (by omega) | exact len_app (by omega) | exact len_snoc_app (by omega))).mono ?_; rintro e w1 ⟨rfl, hB⟩)) | (go_at_call 22; refine (wstrW _ _ _ _ _ (by assumption) (by first | omega | exact len_cons (by omega) | exact len_snoc (by omega) | exact len_app (by omega) | exact len_snoc_app (by omega)) (by first | omega | exact len_cons (by omega) | exact len_snoc (by omega) | exact len_app (by omega) | exact len_snoc_app (by omega))).mono ?_; rintro e w1 ⟨⟨n1, rfl⟩, hB⟩))
              go_roundw
              case rel => exact ⟨i + 1, by omega, by go_num, hid (by rw [HT.out, HP.out, HE.out]; simpa using hB)⟩
              case measure => simp [intOf]; omega
          · have e4 : (X == 1) = false := by simpa using hx1
            have HE := hid (ei.out.trans (if_neg (fun q => hx1 q.2)))
            cases b2 <;> cases b3
            all_goals
              first | have HP := hid (show plusT X L = [43] by unfold plusT; rw [if_pos ⟨hpos, HLn.out rfl⟩]) | have HP := hid (show plusT X L = [] by unfold plusT; rw [if_neg (fun q => q.2 (HLe.out rfl))])
              clear ei hpos hx1 hm1 h0
              go_wp2_with (first | (go_at_call 20; refine (blenW _ _ _ _ (by assumption)).mono ?_; rintro e w' ⟨rfl, rfl⟩) | (go_at_call 24; refine (names_any _).mono ?_; rintro e w1 ⟨rfl, hg1⟩; have hB := BldW.grew (by assumption) hg1; clear hg1) | (go_at_call 23; refine (itoaW _ _ _ _ _ (by assumption) (by omega) (by omega)).mono ?_; rintro e w1 ⟨rfl, hB⟩) | (go_at_call 21; first | (with_reducible refine (wplusW _ _ _ _ (by assumption) (by first | omega | exact len_cons (by omega) | exact len_snoc (by omega) | exact len_app (by omega) | exact len_snoc_app (by omega))).mono ?_; rintro e w1 ⟨rfl, hB⟩) | (with_reducible refine (wminusW _ _ _ _ (by assumption) (by first | omega | exact len_cons (by omega) | exact len_snoc (by omega) | exact len_app (by omega) | exact len_snoc_app (by omega))).mono ?_; rintro e w1 ⟨rfl, hB⟩)) | (go_at_call 22; refine (wstrW _ _ _ _ _ (by assumption) (by first | omega | exact len_cons (by omega) | exact len_snoc (by omega) | exact len_app (by omega) | exact len_snoc_app (by omega)) (by first | omega | exact len_cons (by omega) | exact len_snoc (by omega) | exact len_app (by omega) | exact len_snoc_app (by omega))).mono ?_; rintro e w1 ⟨⟨n1, rfl⟩, hB⟩))
              go_roundw
              case rel => exact ⟨i + 1, by omega, by go_num, hid (by rw [HT.out, HP.out, HE.out]; simpa using hB)⟩
              case measure => simp [intOf]; omega
        · have e1 : decide (0 < X) = false := decide_eq_false hpos
          have HP := hid (show plusT X L = [] by unfold plusT; rw [if_neg (fun q => hpos q.1)])
          have hm1 : ¬ X = 1 := by omega
          have em : (X == 1) = false := by simpa using hm1
          have ei : Hid (termT i X = if 0 < i ∧ X = -1 then [45] ++ nameT i else Lib.itoa X ++ nameT i) := hid (by
            unfold termT
            rw [if_neg (fun q => hm1 q.2)]
            by_cases h : 0 < i ∧ X = -1
            · rw [if_pos h, if_pos h]
            · rw [if_neg h, if_neg h])
          by_cases hx1 : X = -1
          · have e4 : (X == -1) = true := by simpa using hx1
            cases b3
            all_goals
              first | have HE := hid (ei.out.trans (if_pos ⟨Hin.out rfl, hx1⟩)) | have HE := hid (ei.out.trans (if_neg (fun q => Hie.out rfl q.1)))
              clear ei hpos hx1 hm1 h0
              go_wp2_with (first | (go_at_call 20; refine (blenW _ _ _ _ (by assumption)).mono ?_; rintro e w' ⟨rfl, rfl⟩) | (go_at_call 24; refine (names_any _).mono ?_; rintro e w1 ⟨rfl, hg1⟩; have hB := BldW.grew (by assumption) hg1; clear hg1) | (go_at_call 23; refine (itoaW _ _ _ _ _ (by assumption) (by omega) (by omega)).mono ?_; rintro e w1 ⟨rfl, hB⟩) | (go_at_call 21; first | (with_reducible refine (wplusW _ _ _ _ (by assumption) (by first | omega | exact len_cons (by omega) | exact len_snoc (by omega) | exact len_app (by omega) | exact len_snoc_app (by omega))).mono ?_; rintro e w1 ⟨rfl, hB⟩) | (with_reducible refine (wminusW _ _ _ _ (by assumption) (by first | omega | exact len_cons (by omega) | exact len_snoc (by omega) | exact len_app (by omega) | exact len_snoc_app (by omega))).mono ?_; rintro e w1 ⟨rfl, hB⟩)) | (go_at_call 22; refine (wstrW _ _ _ _ _ (by assumption) (by first | omega | exact len_cons (by omega) | exact len_snoc (by omega) | exact len_app (by omega) | exact len_snoc_app (by omega)) (by first | omega | exact len_cons (by omega) | exact len_snoc (by omega) | exact len_app (by omega) | exact len_snoc_app (by omega))).mono ?_; rintro e w1 ⟨⟨n1, rfl⟩, hB⟩))
              go_roundw
              case rel => exact ⟨i + 1, by omega, by go_num, hid (by rw [HT.out, HP.out, HE.out]; simpa using hB)⟩
              case measure => simp [intOf]; omega
          · have e4 : (X == -1) = false := by simpa using hx1
            have HE := hid (ei.out.trans (if_neg (fun q => hx1 q.2)))
            cases b3
            all_goals
              clear ei hpos hx1 hm1 h0
              go_wp2_with (first | (go_at_call 20; refine (blenW _ _ _ _ (by assumption)).mono ?_; rintro e w' ⟨rfl, rfl⟩) | (go_at_call 24; refine (names_any _).mono ?_; rintro e w1 ⟨rfl, hg1⟩; have hB := BldW.grew (by assumption) hg1; clear hg1) | (go_at_call 23; refine (itoaW _ _ _ _ _ (by assumption) (by omega) (by omega)).mono ?_; rintro e w1 ⟨rfl, hB⟩) | (go_at_call 21; first | (with_reducible refine (wplusW _ _ _ _ (by assumption) (by first | omega | exact len_cons (by omega) | exact len_snoc (by omega) | exact len_app (by omega) | exact len_snoc_app (by omega))).mono ?_; rintro e w1 ⟨rfl, hB⟩) | (with_reducible refine (wminusW _ _ _ _ (by assumption) (by first | omega | exact len_cons (by omega) | exact len_snoc (by omega) | exact len_app (by omega) | exact len_snoc_app (by omega))).mono ?_; rintro e w1 ⟨rfl, hB⟩)) | (go_at_call 22; refine (wstrW _ _ _ _ _ (by assumption) (by first | omega | exact len_cons (by omega) | exact len_snoc (by omega) | exact len_app (by omega) | exact len_snoc_app (by omega)) (by first | omega | exact len_cons (by omega) | exact len_snoc (by omega) | exact len_app (by omega) | exact len_snoc_app (by omega))).mono ?_; rintro e w1 ⟨⟨n1, rfl⟩, hB⟩))
              go_roundw
              case rel => exact ⟨i + 1, by omega, by go_num, hid (by rw [HT.out, HP.out, HE.out]; simpa using hB)⟩
              case measure => simp [intOf]; omega

end Go.Proofs.YtmjnjghhdkoljaaDoor
