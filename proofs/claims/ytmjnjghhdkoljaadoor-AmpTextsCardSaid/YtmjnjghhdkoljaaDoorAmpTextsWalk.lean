/- The law AmpTexts: it returns true. Conditions: the text's length is within the reach, the variables are laid. -/
import Derived.Test.YtmjnjghhdkoljaaDoorAmpTxtX
import Derived.Test.YtmjnjghhdkoljaaDoorAmpAwake
namespace Go.Proofs.YtmjnjghhdkoljaaDoor
open Go Go.RowKit Amp

theorem law_parts (x : C4) (k : Int) (w : World) : NumAt w.heap.size x k (w.alloc (.cells #[.int .i64 x.a, .int .i64 x.b, .int .i64 x.c, .int .i64 x.d, .int .i64 k] 24)) ∧ Below w.heap.size w (w.alloc (.cells #[.int .i64 x.a, .int .i64 x.b, .int .i64 x.c, .int .i64 x.d, .int .i64 k] 24)) := ⟨blk_new rfl, (Below.refl _ w).alloc (Nat.le_refl _) _⟩
set_option maxRecDepth 100000 in
set_option maxHeartbeats 8000000 in
theorem ampTexts_walk (x : C4) (k : Int) (l : List UInt8) (w : World) (hl : l.length ≤ 140737488351232) (hL : LaidW w) :
    Calls Tryd.prog 3 #[.agg #[.int .i64 x.a, .int .i64 x.b, .int .i64 x.c, .int .i64 x.d, .int .i64 k], .string (strB l)] w fun e w' => e = .returned (.bool true) ∧ Below w.heap.size w w' := by
  have HF := hid fun w h => aformat_any x k w h
  have HG := hid fun w => rformat_any x k w
  have HP := hid fun w h => aparse_any l w hl h
  have HQ := hid fun w => rparse_any l w hl
  rw [← parse_agree l] at HQ
  obtain ⟨hn0, hb0⟩ := law_parts x k w
  have HN0 := hid hn0
  have HB0 := hid hb0
  have HW0 := (hL.below hb0).tab
  have HLW := hid hL
  clear hn0 hb0 hL
  by_cases hv : validB x k = true
  case pos =>
    have hf : fmtT x k = (textT x k, 0) := by unfold fmtT; rw [if_pos hv]
    rw [hf] at HF HG
    have htl : (textT x k).length ≤ 140737488351232 := by
      have h1 := accT_len (nth_ok hv) 4
      have h2 := validB_k hv
      have h3 := itoa_len (show -1000000000 ≤ k ∧ k ≤ 1000000000 by omega)
      have h4 : (expT k).length ≤ 12 := by
        unfold expT
        split
        · rw [List.length_cons]; omega
        · exact Nat.zero_le _
      rw [accT_body] at h1
      unfold textT
      split
      · simp
      · rw [List.length_append]; omega
    have HPT := hid fun w h => aparse_any (textT x k) w htl h
    rw [parseP_text hv] at HPT
    obtain ⟨T, hT⟩ : ∃ T, textT x k = T := ⟨_, rfl⟩
    rw [hT] at HF HG HPT
    clear hf hT htl
    rcases parseP_cases l with ⟨A, kk, hp⟩ | hp
    · obtain ⟨hv2, ht2⟩ := parseP_ok hp
      have HFA := hid fun w h => aformat_any A kk w h
      rw [show fmtT A kk = (l, 0) by unfold fmtT; rw [if_pos hv2, ht2]] at HFA
      rw [hp] at HP HQ
      clear hp hv2 ht2 hv
      go_enter Tryd.func3, Tryd.ntmps3
      go_wp2_with fail
      refine (HF.out _ HW0).mono ?_
      rintro e w1 ⟨rfl, g1⟩
      have hN1 := NumAt.below (x := x) (k := k) (b := w.heap.size) HN0.out g1 (by simp [go_sem])
      have hB1 := HB0.out.trans (g1.mono (by simp [go_sem]))
      obtain ⟨x0, x1, x2, x3, x4, _⟩ := hN1.cells
      have HB1 := hid hB1
      have HN1 := hid hN1
      clear hB1 hN1 g1
      go_wp2_with fail
      refine (HG.out _).mono ?_
      rintro e w2 ⟨rfl, g2⟩
      have HN2 := hid (HN1.out.below g2.below HN1.out.lt)
      have HB2 := hid (HB1.out.trans (g2.below.mono HB1.out.size))
      clear g2 x0 x1 x2 x3 x4
      go_wp2_with fail
      refine (HP.out _ (HLW.out.below HB2.out)).mono ?_
      rintro e w3 ⟨rfl, g3⟩
      have HN3 := hid (HN2.out.below g3 HN2.out.lt)
      have HB3 := hid (HB2.out.trans (g3.mono HB2.out.size))
      clear g3
      go_wp2_with fail
      refine (HQ.out _).mono ?_
      rintro e w4 ⟨rfl, g4⟩
      have hlt4 : w3.heap.size < w4.heap.size := by have := g4.size; simp [go_sem] at this; omega
      have HN4 := hid ((HN3.out.below ((Below.refl _ w3).alloc (Nat.le_refl _) _) HN3.out.lt).below g4 (by simp [go_sem]; have := HN3.out.lt; omega))
      have HP4 : Hid (NumAt w3.heap.size A kk w4) := hid ((show NumAt w3.heap.size A kk (w3.alloc (.cells #[.int .i64 A.a, .int .i64 A.b, .int .i64 A.c, .int .i64 A.d, .int .i64 kk] 24)) from blk_new rfl).below g4 (by simp [go_sem]))
      have HB4 := hid ((HB3.out.alloc HB3.out.size (.cells #[.int .i64 A.a, .int .i64 A.b, .int .i64 A.c, .int .i64 A.d, .int .i64 kk] 24)).trans (g4.mono (by simp [go_sem]; have := HB3.out.size; omega)))
      have hlt2 := HN4.out.lt
      have hN4 := HN4.out
      have hP4 := HP4.out
      obtain ⟨x0, x1, x2, x3, x4, _⟩ := hN4.cells
      obtain ⟨y0, y1, y2, y3, y4, _⟩ := hP4.cells
      clear hN4 hP4 g4
      have HN5 := hid (HN4.out.below ((Below.refl _ w4).alloc (Nat.le_refl _) (.cells #[.int .i64 A.a, .int .i64 A.b, .int .i64 A.c, .int .i64 A.d, .int .i64 kk] 24)) HN4.out.lt)
      have HP5 := hid (HP4.out.below ((Below.refl _ w4).alloc (Nat.le_refl _) (.cells #[.int .i64 A.a, .int .i64 A.b, .int .i64 A.c, .int .i64 A.d, .int .i64 kk] 24)) HP4.out.lt)
      have HB5 := hid (HB4.out.alloc HB4.out.size (.cells #[.int .i64 A.a, .int .i64 A.b, .int .i64 A.c, .int .i64 A.d, .int .i64 kk] 24))
      go_wp2_with fail
      refine (HPT.out _ (HLW.out.below HB5.out)).mono ?_
      rintro e w6 ⟨rfl, g6⟩
      have HN6 := hid (HN5.out.below g6 HN5.out.lt)
      have HP6 := hid (HP5.out.below g6 HP5.out.lt)
      have HB6 := hid (HB5.out.trans (g6.mono HB5.out.size))
      have hlt6 := HN6.out.lt
      have hlt7 := HP6.out.lt
      have hN6 := HN6.out
      have hP6 := HP6.out
      clear x0 x1 x2 x3 x4 y0 y1 y2 y3 y4
      obtain ⟨x0, x1, x2, x3, x4, _⟩ := hN6.cells
      obtain ⟨y0, y1, y2, y3, y4, _⟩ := hP6.cells
      clear hN6 hP6 g6
      have HB7 := hid (HB6.out.alloc HB6.out.size (.cells #[.int .i64 x.a, .int .i64 x.b, .int .i64 x.c, .int .i64 x.d, .int .i64 k] 24))
      go_wp2_with fail
      refine (HFA.out _ (HLW.out.below HB7.out).tab).mono ?_
      rintro e w8 ⟨rfl, g8⟩
      have HB8 := hid (HB7.out.trans (g8.mono HB7.out.size))
      clear g8
      go_wp2_with fail
      refine (awake_any _).mono ?_
      rintro e w9 ⟨rfl, g9⟩
      go_wp2_with fail
      go_ret
      exact ⟨rfl, HB8.out.trans (g9.below.mono HB8.out.size)⟩
    · obtain ⟨A, hA⟩ : ∃ A, C0 = A := ⟨_, rfl⟩
      obtain ⟨kk, hkk⟩ : ∃ kk : Int, (0 : Int) = kk := ⟨_, rfl⟩
      rw [show parseP l = (A, kk, 3) by rw [hp, hA, hkk]] at HP HQ
      clear hp hv hA hkk
      go_enter Tryd.func3, Tryd.ntmps3
      go_wp2_with fail
      refine (HF.out _ HW0).mono ?_
      rintro e w1 ⟨rfl, g1⟩
      have hN1 := NumAt.below (x := x) (k := k) (b := w.heap.size) HN0.out g1 (by simp [go_sem])
      have hB1 := HB0.out.trans (g1.mono (by simp [go_sem]))
      obtain ⟨x0, x1, x2, x3, x4, _⟩ := hN1.cells
      have HB1 := hid hB1
      have HN1 := hid hN1
      clear hB1 hN1 g1
      go_wp2_with fail
      refine (HG.out _).mono ?_
      rintro e w2 ⟨rfl, g2⟩
      have HN2 := hid (HN1.out.below g2.below HN1.out.lt)
      have HB2 := hid (HB1.out.trans (g2.below.mono HB1.out.size))
      clear g2 x0 x1 x2 x3 x4
      go_wp2_with fail
      refine (HP.out _ (HLW.out.below HB2.out)).mono ?_
      rintro e w3 ⟨rfl, g3⟩
      have HN3 := hid (HN2.out.below g3 HN2.out.lt)
      have HB3 := hid (HB2.out.trans (g3.mono HB2.out.size))
      clear g3
      go_wp2_with fail
      refine (HQ.out _).mono ?_
      rintro e w4 ⟨rfl, g4⟩
      have hlt4 : w3.heap.size < w4.heap.size := by have := g4.size; simp [go_sem] at this; omega
      have HN4 := hid ((HN3.out.below ((Below.refl _ w3).alloc (Nat.le_refl _) _) HN3.out.lt).below g4 (by simp [go_sem]; have := HN3.out.lt; omega))
      have HP4 : Hid (NumAt w3.heap.size A kk w4) := hid ((show NumAt w3.heap.size A kk (w3.alloc (.cells #[.int .i64 A.a, .int .i64 A.b, .int .i64 A.c, .int .i64 A.d, .int .i64 kk] 24)) from blk_new rfl).below g4 (by simp [go_sem]))
      have HB4 := hid ((HB3.out.alloc HB3.out.size (.cells #[.int .i64 A.a, .int .i64 A.b, .int .i64 A.c, .int .i64 A.d, .int .i64 kk] 24)).trans (g4.mono (by simp [go_sem]; have := HB3.out.size; omega)))
      have hlt2 := HN4.out.lt
      have hN4 := HN4.out
      have hP4 := HP4.out
      obtain ⟨x0, x1, x2, x3, x4, _⟩ := hN4.cells
      obtain ⟨y0, y1, y2, y3, y4, _⟩ := hP4.cells
      clear hN4 hP4 g4
      have HN5 := hid (HN4.out.below ((Below.refl _ w4).alloc (Nat.le_refl _) (.cells #[.int .i64 A.a, .int .i64 A.b, .int .i64 A.c, .int .i64 A.d, .int .i64 kk] 24)) HN4.out.lt)
      have HP5 := hid (HP4.out.below ((Below.refl _ w4).alloc (Nat.le_refl _) (.cells #[.int .i64 A.a, .int .i64 A.b, .int .i64 A.c, .int .i64 A.d, .int .i64 kk] 24)) HP4.out.lt)
      have HB5 := hid (HB4.out.alloc HB4.out.size (.cells #[.int .i64 A.a, .int .i64 A.b, .int .i64 A.c, .int .i64 A.d, .int .i64 kk] 24))
      go_wp2_with fail
      refine (HPT.out _ (HLW.out.below HB5.out)).mono ?_
      rintro e w6 ⟨rfl, g6⟩
      have HN6 := hid (HN5.out.below g6 HN5.out.lt)
      have HP6 := hid (HP5.out.below g6 HP5.out.lt)
      have HB6 := hid (HB5.out.trans (g6.mono HB5.out.size))
      have hlt6 := HN6.out.lt
      have hlt7 := HP6.out.lt
      have hN6 := HN6.out
      have hP6 := HP6.out
      clear x0 x1 x2 x3 x4 y0 y1 y2 y3 y4
      obtain ⟨x0, x1, x2, x3, x4, _⟩ := hN6.cells
      obtain ⟨y0, y1, y2, y3, y4, _⟩ := hP6.cells
      clear hN6 hP6 g6
      have HB7 := hid (HB6.out.alloc HB6.out.size (.cells #[.int .i64 x.a, .int .i64 x.b, .int .i64 x.c, .int .i64 x.d, .int .i64 k] 24))
      go_wp2_with fail
      refine (awake_any _).mono ?_
      rintro e w9 ⟨rfl, g9⟩
      go_wp2_with fail
      go_ret
      exact ⟨rfl, HB7.out.trans (g9.below.mono HB7.out.size)⟩
  case neg =>
    have hf : fmtT x k = ([], 10) := by unfold fmtT; rw [if_neg hv]
    rw [hf] at HF HG
    clear hf
    rcases parseP_cases l with ⟨A, kk, hp⟩ | hp
    · obtain ⟨hv2, ht2⟩ := parseP_ok hp
      have HFA := hid fun w h => aformat_any A kk w h
      rw [show fmtT A kk = (l, 0) by unfold fmtT; rw [if_pos hv2, ht2]] at HFA
      rw [hp] at HP HQ
      clear hp hv2 ht2 hv
      go_enter Tryd.func3, Tryd.ntmps3
      go_wp2_with fail
      refine (HF.out _ HW0).mono ?_
      rintro e w1 ⟨rfl, g1⟩
      have hN1 := NumAt.below (x := x) (k := k) (b := w.heap.size) HN0.out g1 (by simp [go_sem])
      have hB1 := HB0.out.trans (g1.mono (by simp [go_sem]))
      obtain ⟨x0, x1, x2, x3, x4, _⟩ := hN1.cells
      have HB1 := hid hB1
      have HN1 := hid hN1
      clear hB1 hN1 g1
      go_wp2_with fail
      refine (HG.out _).mono ?_
      rintro e w2 ⟨rfl, g2⟩
      have HN2 := hid (HN1.out.below g2.below HN1.out.lt)
      have HB2 := hid (HB1.out.trans (g2.below.mono HB1.out.size))
      clear g2 x0 x1 x2 x3 x4
      go_wp2_with fail
      refine (HP.out _ (HLW.out.below HB2.out)).mono ?_
      rintro e w3 ⟨rfl, g3⟩
      have HN3 := hid (HN2.out.below g3 HN2.out.lt)
      have HB3 := hid (HB2.out.trans (g3.mono HB2.out.size))
      clear g3
      go_wp2_with fail
      refine (HQ.out _).mono ?_
      rintro e w4 ⟨rfl, g4⟩
      have hlt4 : w3.heap.size < w4.heap.size := by have := g4.size; simp [go_sem] at this; omega
      have HN4 := hid ((HN3.out.below ((Below.refl _ w3).alloc (Nat.le_refl _) _) HN3.out.lt).below g4 (by simp [go_sem]; have := HN3.out.lt; omega))
      have HP4 : Hid (NumAt w3.heap.size A kk w4) := hid ((show NumAt w3.heap.size A kk (w3.alloc (.cells #[.int .i64 A.a, .int .i64 A.b, .int .i64 A.c, .int .i64 A.d, .int .i64 kk] 24)) from blk_new rfl).below g4 (by simp [go_sem]))
      have HB4 := hid ((HB3.out.alloc HB3.out.size (.cells #[.int .i64 A.a, .int .i64 A.b, .int .i64 A.c, .int .i64 A.d, .int .i64 kk] 24)).trans (g4.mono (by simp [go_sem]; have := HB3.out.size; omega)))
      have hlt2 := HN4.out.lt
      have hN4 := HN4.out
      have hP4 := HP4.out
      obtain ⟨x0, x1, x2, x3, x4, _⟩ := hN4.cells
      obtain ⟨y0, y1, y2, y3, y4, _⟩ := hP4.cells
      clear hN4 hP4 g4
      have HN5 := hid (HN4.out.below ((Below.refl _ w4).alloc (Nat.le_refl _) (.cells #[.int .i64 A.a, .int .i64 A.b, .int .i64 A.c, .int .i64 A.d, .int .i64 kk] 24)) HN4.out.lt)
      have HP5 := hid (HP4.out.below ((Below.refl _ w4).alloc (Nat.le_refl _) (.cells #[.int .i64 A.a, .int .i64 A.b, .int .i64 A.c, .int .i64 A.d, .int .i64 kk] 24)) HP4.out.lt)
      have HB5 := hid (HB4.out.alloc HB4.out.size (.cells #[.int .i64 A.a, .int .i64 A.b, .int .i64 A.c, .int .i64 A.d, .int .i64 kk] 24))
      go_wp2_with fail
      refine (HFA.out _ (HLW.out.below HB5.out).tab).mono ?_
      rintro e w8 ⟨rfl, g8⟩
      have HB8 := hid (HB5.out.trans (g8.mono HB5.out.size))
      clear g8
      go_wp2_with fail
      refine (awake_any _).mono ?_
      rintro e w9 ⟨rfl, g9⟩
      go_wp2_with fail
      go_ret
      exact ⟨rfl, HB8.out.trans (g9.below.mono HB8.out.size)⟩
    · obtain ⟨A, hA⟩ : ∃ A, C0 = A := ⟨_, rfl⟩
      obtain ⟨kk, hkk⟩ : ∃ kk : Int, (0 : Int) = kk := ⟨_, rfl⟩
      rw [show parseP l = (A, kk, 3) by rw [hp, hA, hkk]] at HP HQ
      clear hp hv hA hkk
      go_enter Tryd.func3, Tryd.ntmps3
      go_wp2_with fail
      refine (HF.out _ HW0).mono ?_
      rintro e w1 ⟨rfl, g1⟩
      have hN1 := NumAt.below (x := x) (k := k) (b := w.heap.size) HN0.out g1 (by simp [go_sem])
      have hB1 := HB0.out.trans (g1.mono (by simp [go_sem]))
      obtain ⟨x0, x1, x2, x3, x4, _⟩ := hN1.cells
      have HB1 := hid hB1
      have HN1 := hid hN1
      clear hB1 hN1 g1
      go_wp2_with fail
      refine (HG.out _).mono ?_
      rintro e w2 ⟨rfl, g2⟩
      have HN2 := hid (HN1.out.below g2.below HN1.out.lt)
      have HB2 := hid (HB1.out.trans (g2.below.mono HB1.out.size))
      clear g2 x0 x1 x2 x3 x4
      go_wp2_with fail
      refine (HP.out _ (HLW.out.below HB2.out)).mono ?_
      rintro e w3 ⟨rfl, g3⟩
      have HN3 := hid (HN2.out.below g3 HN2.out.lt)
      have HB3 := hid (HB2.out.trans (g3.mono HB2.out.size))
      clear g3
      go_wp2_with fail
      refine (HQ.out _).mono ?_
      rintro e w4 ⟨rfl, g4⟩
      have hlt4 : w3.heap.size < w4.heap.size := by have := g4.size; simp [go_sem] at this; omega
      have HN4 := hid ((HN3.out.below ((Below.refl _ w3).alloc (Nat.le_refl _) _) HN3.out.lt).below g4 (by simp [go_sem]; have := HN3.out.lt; omega))
      have HP4 : Hid (NumAt w3.heap.size A kk w4) := hid ((show NumAt w3.heap.size A kk (w3.alloc (.cells #[.int .i64 A.a, .int .i64 A.b, .int .i64 A.c, .int .i64 A.d, .int .i64 kk] 24)) from blk_new rfl).below g4 (by simp [go_sem]))
      have HB4 := hid ((HB3.out.alloc HB3.out.size (.cells #[.int .i64 A.a, .int .i64 A.b, .int .i64 A.c, .int .i64 A.d, .int .i64 kk] 24)).trans (g4.mono (by simp [go_sem]; have := HB3.out.size; omega)))
      have hlt2 := HN4.out.lt
      have hN4 := HN4.out
      have hP4 := HP4.out
      obtain ⟨x0, x1, x2, x3, x4, _⟩ := hN4.cells
      obtain ⟨y0, y1, y2, y3, y4, _⟩ := hP4.cells
      clear hN4 hP4 g4
      have HN5 := hid (HN4.out.below ((Below.refl _ w4).alloc (Nat.le_refl _) (.cells #[.int .i64 A.a, .int .i64 A.b, .int .i64 A.c, .int .i64 A.d, .int .i64 kk] 24)) HN4.out.lt)
      have HP5 := hid (HP4.out.below ((Below.refl _ w4).alloc (Nat.le_refl _) (.cells #[.int .i64 A.a, .int .i64 A.b, .int .i64 A.c, .int .i64 A.d, .int .i64 kk] 24)) HP4.out.lt)
      have HB5 := hid (HB4.out.alloc HB4.out.size (.cells #[.int .i64 A.a, .int .i64 A.b, .int .i64 A.c, .int .i64 A.d, .int .i64 kk] 24))
      go_wp2_with fail
      refine (awake_any _).mono ?_
      rintro e w9 ⟨rfl, g9⟩
      go_wp2_with fail
      go_ret
      exact ⟨rfl, HB5.out.trans (g9.below.mono HB5.out.size)⟩

end Go.Proofs.YtmjnjghhdkoljaaDoor
