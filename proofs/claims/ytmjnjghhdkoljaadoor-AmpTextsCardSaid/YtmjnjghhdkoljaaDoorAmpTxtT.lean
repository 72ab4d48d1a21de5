/- Parse: the program. Conditions: the text's length is within the reach, the variables are laid. -/
import Derived.Test.YtmjnjghhdkoljaaDoorAmpTxtS
namespace Go.Proofs.YtmjnjghhdkoljaaDoor
open Go Go.RowKit Amp

theorem termP_suf (l : List UInt8) : (termP l).2.2.1 <:+ l := by
  show (tailP (l.drop (headN l))).2 <:+ l
  have h : ∀ p : List UInt8, Lib.trimPrefix (l.drop (headN l)) p <:+ l := fun p => by
    unfold Lib.trimPrefix
    split
    · exact (List.drop_suffix _ _).trans (List.drop_suffix _ _)
    · exact List.drop_suffix _ _
  unfold tailP
  split
  · exact h _
  · split
    · exact h _
    · split
      · exact h _
      · exact List.drop_suffix _ _
theorem termP_idx (l : List UInt8) : (termP l).2.1 < 4 := by
  show (tailP (l.drop (headN l))).1 < 4
  unfold tailP
  split
  · exact Nat.lt_succ_self 3
  · split
    · exact (show 2 < 4 by decide)
    · split
      · exact (show 1 < 4 by decide)
      · exact (show 0 < 4 by decide)
theorem bel5 {w0 w' : World} (h : Below w0.heap.size w0 w') (v0 v1 v2 v3 v4 : Value) : Below w0.heap.size w0 (((((w'.setCell ⟨w0.heap.size, 0, none⟩ v0).setCell ⟨w0.heap.size, 1, none⟩ v1).setCell ⟨w0.heap.size, 2, none⟩ v2).setCell ⟨w0.heap.size, 3, none⟩ v3).setCell ⟨w0.heap.size, 4, none⟩ v4) :=
  ((((h.setCell (p := ⟨w0.heap.size, 0, none⟩) (Nat.le_refl _) v0).setCell (p := ⟨w0.heap.size, 1, none⟩) (Nat.le_refl _) v1).setCell (p := ⟨w0.heap.size, 2, none⟩) (Nat.le_refl _) v2).setCell (p := ⟨w0.heap.size, 3, none⟩) (Nat.le_refl _) v3).setCell (p := ⟨w0.heap.size, 4, none⟩) (Nat.le_refl _) v4
def strLen : Value → Nat | .string s => s.size | _ => 0
theorem strLen_of (l : List UInt8) : strLen (.string (strB l)) = l.length := strB_size l
/-- What stands in the two blocks at the loop. -/
structure AtLoop (w0 : World) (b2 b7 : Nat) (A : C4) (k : Int) (w : World) : Prop where
  z : NumAt b2 C0 0 w
  n : NumAt b7 A k w
  below : Below w0.heap.size w0 w
theorem AtLoop.by {w0 w w' : World} {b2 b7 : Nat} {A : C4} {k : Int} (h : AtLoop w0 b2 b7 A k w) (hb : Below w.heap.size w w') : AtLoop w0 b2 b7 A k w' :=
  ⟨h.z.below hb h.z.lt, h.n.below hb h.n.lt, h.below.trans (hb.mono h.below.size)⟩
theorem AtLoop.set {w0 w : World} {b2 b7 : Nat} {A : C4} {k : Int} (h : AtLoop w0 b2 b7 A k w) (h2 : w0.heap.size ≤ b7) (hne : b7 ≠ b2) (v : Int) :
    AtLoop w0 b2 b7 (setC A 0 v) k (w.setCell ⟨b7, 0, none⟩ (.int .i64 v)) ∧ AtLoop w0 b2 b7 (setC A 1 v) k (w.setCell ⟨b7, 1, none⟩ (.int .i64 v)) ∧ AtLoop w0 b2 b7 (setC A 2 v) k (w.setCell ⟨b7, 2, none⟩ (.int .i64 v)) ∧ AtLoop w0 b2 b7 (setC A 3 v) k (w.setCell ⟨b7, 3, none⟩ (.int .i64 v)) ∧ AtLoop w0 b2 b7 A v (w.setCell ⟨b7, 4, none⟩ (.int .i64 v)) :=
  ⟨⟨h.z.other hne _, h.n.setA v, h.below.setCell h2 _⟩, ⟨h.z.other hne _, h.n.setB v, h.below.setCell h2 _⟩, ⟨h.z.other hne _, h.n.setC v, h.below.setCell h2 _⟩, ⟨h.z.other hne _, h.n.setD v, h.below.setCell h2 _⟩, ⟨h.z.other hne _, h.n.setK v, h.below.setCell h2 _⟩⟩
set_option maxRecDepth 100000 in
set_option maxHeartbeats 4000000 in
theorem aparse_any (l : List UInt8) (w : World) (hl : l.length ≤ 140737488351232) (hL : LaidW w) :
    Calls Tryd.prog 6 #[.string (strB l)] w fun e w' => e = .returned (.tuple #[.agg #[.int .i64 (parseP l).1.a, .int .i64 (parseP l).1.b, .int .i64 (parseP l).1.c, .int .i64 (parseP l).1.d, .int .i64 (parseP l).2.1], .int .i64 (parseP l).2.2]) ∧ Below w.heap.size w w' := by
  have HC := hid fun w => cut47 l w hl
  have hbl : (bef l).length ≤ l.length := (tw_take l).1
  have hal : (aft l).length ≤ l.length := by rw [← aft_drop, List.length_drop]; omega
  have HLW := hid hL
  clear hL
  have HPP := hid (show parseP l = match kP l with | none => (C0, 0, 3) | some k => if (bodP l).2 ≠ [] ∨ validB (bodP l).1 k = false ∨ textT (bodP l).1 k ≠ l then (C0, 0, 3) else ((bodP l).1, k, 0) from rfl)
  have HKP := hid (show kP l = if has47 l = true then (match Lib.atoiAll (aft l) with | .ok k => some k | .syntax => none | .range => none) else some 0 from rfl)
  have HBD := hid (show bodP l = if l.length ≤ 100 then loopP (l.length + 1) C0 (bef l) else (C0, bef l) from rfl)
  by_cases hb : has47 l = true
  case pos =>
    rw [hb] at HC HKP
    clear hb
    go_enter Tryd.func6, Tryd.ntmps6
    go_wp2_with (go_at_call 14; refine (HC.out _).mono ?_; rintro e wc ⟨rfl, gc⟩)
    have hA : AtLoop w w.heap.size wc.heap.size C0 0 (wc.alloc (.cells #[.int .i64 0, .int .i64 0, .int .i64 0, .int .i64 0, .int .i64 0] 24)) := by
      have h1 : NumAt w.heap.size C0 0 wc := (num_new (w := w) rfl).below gc.below (by simp [go_sem])
      have h2 : Below w.heap.size w wc := ((Below.refl _ w).alloc (Nat.le_refl _) _).trans (gc.below.mono (by simp [go_sem]))
      exact ⟨h1.below ((Below.refl _ wc).alloc (Nat.le_refl _) _) h1.lt, num_new rfl, h2.alloc h2.size _⟩
    have hne : wc.heap.size ≠ w.heap.size := by have := gc.below.size; simp [go_sem] at this; omega
    have hge : w.heap.size ≤ wc.heap.size := by have := gc.below.size; simp [go_sem] at this; omega
    have HA := hid hA
    clear hA gc
    refine (atoi_any _ _ (by omega) (HLW.out.below HA.out.below)).mono ?_
    rintro e w1 ⟨⟨er, rfl, her⟩, hb1⟩
    have hA := HA.out.by hb1
    clear HA hb1
    have hcs : (∃ v, Lib.atoiAll (aft l) = .ok v) ∨ Lib.atoiAll (aft l) = .syntax ∨ Lib.atoiAll (aft l) = .range := by cases Lib.atoiAll (aft l) <;> simp
    rcases hcs with ⟨v, ha⟩ | ha | ha
    case inl =>
      have hn : numA (aft l) = v := by unfold numA; rw [ha]
      have ho : okA (aft l) = true := by unfold okA; rw [ha]
      rw [ho] at her
      obtain rfl : er = .nilIface := her
      rw [hn]
      rw [ha] at HKP
      clear ho hn ha
      obtain ⟨kk, hkk⟩ : ∃ kk : Int, kk = v := ⟨_, rfl⟩
      rw [← hkk] at HKP
      have HKP : Hid (kP l = some kk) := HKP
      have hS := hA.set hge hne v
      obtain ⟨c0, c1, c2, c3, c4, f0, f1, f2, f3, f4⟩ := hA.n.cells
      obtain ⟨d0, d1, d2, d3, d4, q0, q1, q2, q3, q4⟩ := hA.z.cells
      have hS := hS.2.2.2.2
      clear hA
      obtain ⟨b7, hb7⟩ : ∃ b, wc.heap.size = b := ⟨_, rfl⟩
      rw [hb7] at hS hne hge c0 c1 c2 c3 c4 f0 f1 f2 f3 f4 ⊢
      clear hb7
      go_wp2_with fail
      obtain ⟨W0, hW0⟩ : ∃ W0, w1.setCell ⟨b7, 4, none⟩ (.int .i64 kk) = W0 := ⟨_, rfl⟩
      rw [← hkk] at hS
      try rw [← hkk]
      rw [hW0] at hS ⊢
      have hA := hS
      clear hW0 hS hkk c0 c1 c2 c3 c4 f0 f1 f2 f3 f4 d0 d1 d2 d3 d4 q0 q1 q2 q3 q4
      go_loopw [4] (fun v wr => ∃ (f : Nat) (A : C4) (m : List UInt8), v = .string (strB m) ∧ m.length ≤ l.length ∧ m.length < f ∧ Hid (bodP l = if l.length ≤ 100 then loopP f A m else (A, m)) ∧ Hid (AtLoop w w.heap.size b7 A kk wr)) (fun v _ => strLen v)
      case atStart => exact ⟨_, C0, bef l, rfl, hbl, by omega, HBD, hid hA⟩
      case round =>
        clear hA
        obtain ⟨f, A, m, rfl, hm, hmf, HBD', HA⟩ := hrel
        have hA := HA.out
        obtain ⟨c0, c1, c2, c3, c4, f0, f1, f2, f3, f4⟩ := hA.n.cells
        obtain ⟨d0, d1, d2, d3, d4, q0, q1, q2, q3, q4⟩ := hA.z.cells
        clear hA
        by_cases hle : l.length ≤ 100
        case neg =>
          have HBE := hid (HBD'.out.trans (if_neg hle))
          by_cases hm0 : m = []
          case pos =>
            subst hm0
            have HV := hid fun w => aValid_any A kk w
            have HRS := hid (show parseP l = if validB A kk = false ∨ textT A kk ≠ l then (C0, 0, 3) else (A, kk, 0) by
              rw [HPP.out, HKP.out, HBE.out]
              by_cases q : validB A kk = false ∨ textT A kk ≠ l
              · exact (if_pos (.inr q)).trans (if_pos q).symm
              · exact (if_neg (fun z => z.elim (fun z => z rfl) q)).trans (if_neg q).symm)
            by_cases hv : validB A kk = true
            case neg =>
              have hv : validB A kk = false := by simpa using hv
              have HRES := hid (HRS.out.trans (if_pos (.inl hv)))
              rw [hv] at HV
              clear hv HRS
              go_wp2_with fail
              refine (HV.out _).mono ?_
              rintro e w1 ⟨rfl, g1⟩
              have HA := hid (HA.out.by g1.below)
              have hA := HA.out
              obtain ⟨c0, c1, c2, c3, c4, f0, f1, f2, f3, f4⟩ := hA.n.cells
              obtain ⟨d0, d1, d2, d3, d4, q0, q1, q2, q3, q4⟩ := hA.z.cells
              clear hA g1
              go_wp2_with fail
              refine bodyPost_ret (v := .tuple #[.agg #[.int .i64 0, .int .i64 0, .int .i64 0, .int .i64 0, .int .i64 0], .int .i64 3]) (by simp [results, Tryd.results6, go_sem, *]) rfl ?_
              rw [HRES.out]
              exact ⟨rfl, bel5 HA.out.below _ _ _ _ _⟩
            case pos =>
              have HX := hid fun w h => text_any A kk w hv h
              have hTl : textT A kk ≠ l ∨ textT A kk = l := (Classical.em _).symm
              have HRT := hid fun (h : textT A kk ≠ l) => HRS.out.trans (if_pos (.inr h))
              have HRG := hid fun (h : textT A kk = l) => HRS.out.trans (if_neg (fun q => q.elim (fun q => by rw [hv] at q; cases q) (fun q => q h)))
              rw [hv] at HV
              obtain ⟨T, hT⟩ : ∃ T, textT A kk = T := ⟨_, rfl⟩
              rw [hT] at HX HRT HRG hTl
              clear hv HRS hT
              go_wp2_with fail
              refine (HV.out _).mono ?_
              rintro e w1 ⟨rfl, g1⟩
              have HA := hid (HA.out.by g1.below)
              have hA := HA.out
              obtain ⟨c0, c1, c2, c3, c4, f0, f1, f2, f3, f4⟩ := hA.n.cells
              obtain ⟨d0, d1, d2, d3, d4, q0, q1, q2, q3, q4⟩ := hA.z.cells
              clear hA g1
              go_wp2_with fail
              refine (HX.out _ (HLW.out.below HA.out.below).tab).mono ?_
              rintro e w2 ⟨rfl, g2⟩
              have HA := hid (HA.out.by g2)
              have hA := HA.out
              obtain ⟨c0, c1, c2, c3, c4, f0, f1, f2, f3, f4⟩ := hA.n.cells
              obtain ⟨d0, d1, d2, d3, d4, q0, q1, q2, q3, q4⟩ := hA.z.cells
              clear hA g2
              rcases hTl with hTl | hTl
              · have HRES := hid (HRT.out hTl)
                have e2 := eq_f hTl
                clear hTl
                go_wp2_with fail
                refine bodyPost_ret (v := .tuple #[.agg #[.int .i64 0, .int .i64 0, .int .i64 0, .int .i64 0, .int .i64 0], .int .i64 3]) (by simp [results, Tryd.results6, go_sem, *]) rfl ?_
                rw [HRES.out]
                exact ⟨rfl, bel5 HA.out.below _ _ _ _ _⟩
              · have HRES := hid (HRG.out hTl)
                have e2 := eq_t hTl
                clear hTl
                go_wp2_with fail
                refine bodyPost_ret (v := .tuple #[.agg #[.int .i64 A.a, .int .i64 A.b, .int .i64 A.c, .int .i64 A.d, .int .i64 kk], .int .i64 0]) (by simp [results, Tryd.results6, go_sem, *]) rfl ?_
                rw [HRES.out]
                exact ⟨rfl, bel5 HA.out.below _ _ _ _ _⟩
          case neg =>
            have hm1 := isE_f hm0
            have HRES := hid (show parseP l = (C0, 0, 3) by rw [HPP.out, HKP.out]; exact if_pos (.inl (by rw [HBE.out]; exact hm0)))
            go_wp2_with fail
            refine bodyPost_ret (v := .tuple #[.agg #[.int .i64 0, .int .i64 0, .int .i64 0, .int .i64 0, .int .i64 0], .int .i64 3]) (by simp [results, Tryd.results6, go_sem, *]) rfl ?_
            rw [HRES.out]
            exact ⟨rfl, bel5 HA.out.below _ _ _ _ _⟩
        case pos =>
          have HBF := hid (HBD'.out.trans (if_pos hle))
          obtain ⟨f, rfl⟩ : ∃ f', f = f' + 1 := ⟨f - 1, by omega⟩
          by_cases hm0 : m = []
          case pos =>
            subst hm0
            have HBE := hid (HBF.out.trans (show loopP (f + 1) A [] = (A, []) from if_pos rfl))
            have HV := hid fun w => aValid_any A kk w
            have HRS := hid (show parseP l = if validB A kk = false ∨ textT A kk ≠ l then (C0, 0, 3) else (A, kk, 0) by
              rw [HPP.out, HKP.out, HBE.out]
              by_cases q : validB A kk = false ∨ textT A kk ≠ l
              · exact (if_pos (.inr q)).trans (if_pos q).symm
              · exact (if_neg (fun z => z.elim (fun z => z rfl) q)).trans (if_neg q).symm)
            by_cases hv : validB A kk = true
            case neg =>
              have hv : validB A kk = false := by simpa using hv
              have HRES := hid (HRS.out.trans (if_pos (.inl hv)))
              rw [hv] at HV
              clear hv HRS
              go_wp2_with fail
              refine (HV.out _).mono ?_
              rintro e w1 ⟨rfl, g1⟩
              have HA := hid (HA.out.by g1.below)
              have hA := HA.out
              obtain ⟨c0, c1, c2, c3, c4, f0, f1, f2, f3, f4⟩ := hA.n.cells
              obtain ⟨d0, d1, d2, d3, d4, q0, q1, q2, q3, q4⟩ := hA.z.cells
              clear hA g1
              go_wp2_with fail
              refine bodyPost_ret (v := .tuple #[.agg #[.int .i64 0, .int .i64 0, .int .i64 0, .int .i64 0, .int .i64 0], .int .i64 3]) (by simp [results, Tryd.results6, go_sem, *]) rfl ?_
              rw [HRES.out]
              exact ⟨rfl, bel5 HA.out.below _ _ _ _ _⟩
            case pos =>
              have HX := hid fun w h => text_any A kk w hv h
              have hTl : textT A kk ≠ l ∨ textT A kk = l := (Classical.em _).symm
              have HRT := hid fun (h : textT A kk ≠ l) => HRS.out.trans (if_pos (.inr h))
              have HRG := hid fun (h : textT A kk = l) => HRS.out.trans (if_neg (fun q => q.elim (fun q => by rw [hv] at q; cases q) (fun q => q h)))
              rw [hv] at HV
              obtain ⟨T, hT⟩ : ∃ T, textT A kk = T := ⟨_, rfl⟩
              rw [hT] at HX HRT HRG hTl
              clear hv HRS hT
              go_wp2_with fail
              refine (HV.out _).mono ?_
              rintro e w1 ⟨rfl, g1⟩
              have HA := hid (HA.out.by g1.below)
              have hA := HA.out
              obtain ⟨c0, c1, c2, c3, c4, f0, f1, f2, f3, f4⟩ := hA.n.cells
              obtain ⟨d0, d1, d2, d3, d4, q0, q1, q2, q3, q4⟩ := hA.z.cells
              clear hA g1
              go_wp2_with fail
              refine (HX.out _ (HLW.out.below HA.out.below).tab).mono ?_
              rintro e w2 ⟨rfl, g2⟩
              have HA := hid (HA.out.by g2)
              have hA := HA.out
              obtain ⟨c0, c1, c2, c3, c4, f0, f1, f2, f3, f4⟩ := hA.n.cells
              obtain ⟨d0, d1, d2, d3, d4, q0, q1, q2, q3, q4⟩ := hA.z.cells
              clear hA g2
              rcases hTl with hTl | hTl
              · have HRES := hid (HRT.out hTl)
                have e2 := eq_f hTl
                clear hTl
                go_wp2_with fail
                refine bodyPost_ret (v := .tuple #[.agg #[.int .i64 0, .int .i64 0, .int .i64 0, .int .i64 0, .int .i64 0], .int .i64 3]) (by simp [results, Tryd.results6, go_sem, *]) rfl ?_
                rw [HRES.out]
                exact ⟨rfl, bel5 HA.out.below _ _ _ _ _⟩
              · have HRES := hid (HRG.out hTl)
                have e2 := eq_t hTl
                clear hTl
                go_wp2_with fail
                refine bodyPost_ret (v := .tuple #[.agg #[.int .i64 A.a, .int .i64 A.b, .int .i64 A.c, .int .i64 A.d, .int .i64 kk], .int .i64 0]) (by simp [results, Tryd.results6, go_sem, *]) rfl ?_
                rw [HRES.out]
                exact ⟨rfl, bel5 HA.out.below _ _ _ _ _⟩
          case neg =>
            have HST := hid (HBF.out.trans (show loopP (f + 1) A m = if (termP m).2.2.2 = false ∨ (termP m).2.2.1 = m then (A, m) else loopP f (setC A (termP m).2.1 (termP m).1) (termP m).2.2.1 from if_neg hm0))
            have HT := hid fun w h => aterm_any m w (by omega) h
            have hsf := termP_suf m
            have hix := termP_idx m
            obtain ⟨⟨v, i, r, b⟩, ht⟩ : ∃ p, termP m = p := ⟨_, rfl⟩
            rw [ht] at HST HT hsf hix
            dsimp only at HST HT hsf hix
            have hm1 := isE_f hm0
            clear ht
            go_wp2_with fail
            refine (HT.out _ (HLW.out.below HA.out.below)).mono ?_
            rintro e w1 ⟨rfl, g1⟩
            have HA := hid (HA.out.by g1)
            have hA := HA.out
            obtain ⟨c0, c1, c2, c3, c4, f0, f1, f2, f3, f4⟩ := hA.n.cells
            obtain ⟨d0, d1, d2, d3, d4, q0, q1, q2, q3, q4⟩ := hA.z.cells
            clear hA g1
            cases b
            case false =>
              have HBE := hid (HST.out.trans (if_pos (.inl rfl)))
              have hm1 := isE_f hm0
              have HRES := hid (show parseP l = (C0, 0, 3) by rw [HPP.out, HKP.out]; exact if_pos (.inl (by rw [HBE.out]; exact hm0)))
              go_wp2_with fail
              refine bodyPost_ret (v := .tuple #[.agg #[.int .i64 0, .int .i64 0, .int .i64 0, .int .i64 0, .int .i64 0], .int .i64 3]) (by simp [results, Tryd.results6, go_sem, *]) rfl ?_
              rw [HRES.out]
              exact ⟨rfl, bel5 HA.out.below _ _ _ _ _⟩
            case true =>
              by_cases hrm : r = m
              case pos =>
                have HBE := hid (HST.out.trans (if_pos (.inr hrm)))
                have e2 := eq_t hrm
                clear hrm
                have hm1 := isE_f hm0
                have HRES := hid (show parseP l = (C0, 0, 3) by rw [HPP.out, HKP.out]; exact if_pos (.inl (by rw [HBE.out]; exact hm0)))
                go_wp2_with fail
                refine bodyPost_ret (v := .tuple #[.agg #[.int .i64 0, .int .i64 0, .int .i64 0, .int .i64 0, .int .i64 0], .int .i64 3]) (by simp [results, Tryd.results6, go_sem, *]) rfl ?_
                rw [HRES.out]
                exact ⟨rfl, bel5 HA.out.below _ _ _ _ _⟩
              case neg =>
                have HBE := hid (HST.out.trans (if_neg (fun q => q.elim (fun q => by cases q) hrm)))
                have hlt : r.length < m.length := by
                  rcases Nat.lt_or_ge r.length m.length with q | q
                  · exact q
                  · exact absurd (hsf.eq_of_length (Nat.le_antisymm hsf.length_le q)) hrm
                have e2 := eq_f hrm
                clear hrm hsf
                have hset := HA.out.set hge hne v
                obtain ⟨s0, s1, s2, s3, _⟩ := hset
                have S0 := hid s0
                have S1 := hid s1
                have S2 := hid s2
                have S3 := hid s3
                clear s0 s1 s2 s3
                have h4 : i = 0 ∨ i = 1 ∨ i = 2 ∨ i = 3 := by omega
                rcases h4 with rfl | rfl | rfl | rfl
                all_goals
                  go_wp2_with fail
                  go_roundw
                  case rel => exact ⟨f, _, r, rfl, by omega, by omega, hid (HBE.out.trans (if_pos hle).symm), (by first | exact S0 | exact S1 | exact S2 | exact S3)⟩
                  case measure => rw [strLen_of, strLen_of]; exact hlt
    case inr.inl =>
      have ho : okA (aft l) = false := by unfold okA; rw [ha]
      rw [ho] at her
      obtain ⟨N, rfl⟩ : ∃ N, er = .iface 71 (.pointer (some ⟨N, 0, none⟩)) := her
      rw [ha] at HKP
      have HKP : Hid (kP l = none) := HKP
      have HRES := hid (show parseP l = (C0, 0, 3) by rw [HPP.out, HKP.out])
      clear ho ha
      have HA := hid hA
      obtain ⟨c0, c1, c2, c3, c4, f0, f1, f2, f3, f4⟩ := hA.n.cells
      obtain ⟨d0, d1, d2, d3, d4, q0, q1, q2, q3, q4⟩ := hA.z.cells
      clear hA
      go_wp2_with fail
      refine bodyPost_ret (v := .tuple #[.agg #[.int .i64 0, .int .i64 0, .int .i64 0, .int .i64 0, .int .i64 0], .int .i64 3]) (by simp [results, Tryd.results6, go_sem, *]) rfl ?_
      rw [HRES.out]
      exact ⟨rfl, bel5 HA.out.below _ _ _ _ _⟩
    case inr.inr =>
      have ho : okA (aft l) = false := by unfold okA; rw [ha]
      rw [ho] at her
      obtain ⟨N, rfl⟩ : ∃ N, er = .iface 71 (.pointer (some ⟨N, 0, none⟩)) := her
      rw [ha] at HKP
      have HKP : Hid (kP l = none) := HKP
      have HRES := hid (show parseP l = (C0, 0, 3) by rw [HPP.out, HKP.out])
      clear ho ha
      have HA := hid hA
      obtain ⟨c0, c1, c2, c3, c4, f0, f1, f2, f3, f4⟩ := hA.n.cells
      obtain ⟨d0, d1, d2, d3, d4, q0, q1, q2, q3, q4⟩ := hA.z.cells
      clear hA
      go_wp2_with fail
      refine bodyPost_ret (v := .tuple #[.agg #[.int .i64 0, .int .i64 0, .int .i64 0, .int .i64 0, .int .i64 0], .int .i64 3]) (by simp [results, Tryd.results6, go_sem, *]) rfl ?_
      rw [HRES.out]
      exact ⟨rfl, bel5 HA.out.below _ _ _ _ _⟩
  case neg =>
    rw [show has47 l = false by simpa using hb] at HC
    rw [if_neg hb] at HKP
    clear hb
    go_enter Tryd.func6, Tryd.ntmps6
    go_wp2_with (go_at_call 14; refine (HC.out _).mono ?_; rintro e wc ⟨rfl, gc⟩)
    have hA : AtLoop w w.heap.size wc.heap.size C0 0 (wc.alloc (.cells #[.int .i64 0, .int .i64 0, .int .i64 0, .int .i64 0, .int .i64 0] 24)) := by
      have h1 : NumAt w.heap.size C0 0 wc := (num_new (w := w) rfl).below gc.below (by simp [go_sem])
      have h2 : Below w.heap.size w wc := ((Below.refl _ w).alloc (Nat.le_refl _) _).trans (gc.below.mono (by simp [go_sem]))
      exact ⟨h1.below ((Below.refl _ wc).alloc (Nat.le_refl _) _) h1.lt, num_new rfl, h2.alloc h2.size _⟩
    have hne : wc.heap.size ≠ w.heap.size := by have := gc.below.size; simp [go_sem] at this; omega
    have hge : w.heap.size ≤ wc.heap.size := by have := gc.below.size; simp [go_sem] at this; omega
    clear gc
    obtain ⟨W0, hW0⟩ : ∃ W0, wc.alloc (.cells #[.int .i64 0, .int .i64 0, .int .i64 0, .int .i64 0, .int .i64 0] 24) = W0 := ⟨_, rfl⟩
    rw [hW0] at hA ⊢
    obtain ⟨b7, hb7⟩ : ∃ b, wc.heap.size = b := ⟨_, rfl⟩
    rw [hb7] at hA hne hge ⊢
    clear hW0 hb7
    have HKP := hid (HKP.out)
    obtain ⟨kk, hkk⟩ : ∃ kk : Int, kk = 0 := ⟨_, rfl⟩
    rw [← hkk] at HKP
    have hA : AtLoop w w.heap.size b7 C0 kk W0 := by rw [hkk]; exact hA
    clear hkk
    go_loopw [4] (fun v wr => ∃ (f : Nat) (A : C4) (m : List UInt8), v = .string (strB m) ∧ m.length ≤ l.length ∧ m.length < f ∧ Hid (bodP l = if l.length ≤ 100 then loopP f A m else (A, m)) ∧ Hid (AtLoop w w.heap.size b7 A kk wr)) (fun v _ => strLen v)
    case atStart => exact ⟨_, C0, bef l, rfl, hbl, by omega, HBD, hid hA⟩
    case round =>
      clear hA
      obtain ⟨f, A, m, rfl, hm, hmf, HBD', HA⟩ := hrel
      have hA := HA.out
      obtain ⟨c0, c1, c2, c3, c4, f0, f1, f2, f3, f4⟩ := hA.n.cells
      obtain ⟨d0, d1, d2, d3, d4, q0, q1, q2, q3, q4⟩ := hA.z.cells
      clear hA
      by_cases hle : l.length ≤ 100
      case neg =>
        have HBE := hid (HBD'.out.trans (if_neg hle))
        by_cases hm0 : m = []
        case pos =>
          subst hm0
          have HV := hid fun w => aValid_any A kk w
          have HRS := hid (show parseP l = if validB A kk = false ∨ textT A kk ≠ l then (C0, 0, 3) else (A, kk, 0) by
            rw [HPP.out, HKP.out, HBE.out]
            by_cases q : validB A kk = false ∨ textT A kk ≠ l
            · exact (if_pos (.inr q)).trans (if_pos q).symm
            · exact (if_neg (fun z => z.elim (fun z => z rfl) q)).trans (if_neg q).symm)
          by_cases hv : validB A kk = true
          case neg =>
            have hv : validB A kk = false := by simpa using hv
            have HRES := hid (HRS.out.trans (if_pos (.inl hv)))
            rw [hv] at HV
            clear hv HRS
            go_wp2_with fail
            refine (HV.out _).mono ?_
            rintro e w1 ⟨rfl, g1⟩
            have HA := hid (HA.out.by g1.below)
            have hA := HA.out
            obtain ⟨c0, c1, c2, c3, c4, f0, f1, f2, f3, f4⟩ := hA.n.cells
            obtain ⟨d0, d1, d2, d3, d4, q0, q1, q2, q3, q4⟩ := hA.z.cells
            clear hA g1
            go_wp2_with fail
            refine bodyPost_ret (v := .tuple #[.agg #[.int .i64 0, .int .i64 0, .int .i64 0, .int .i64 0, .int .i64 0], .int .i64 3]) (by simp [results, Tryd.results6, go_sem, *]) rfl ?_
            rw [HRES.out]
            exact ⟨rfl, bel5 HA.out.below _ _ _ _ _⟩
          case pos =>
            have HX := hid fun w h => text_any A kk w hv h
            have hTl : textT A kk ≠ l ∨ textT A kk = l := (Classical.em _).symm
            have HRT := hid fun (h : textT A kk ≠ l) => HRS.out.trans (if_pos (.inr h))
            have HRG := hid fun (h : textT A kk = l) => HRS.out.trans (if_neg (fun q => q.elim (fun q => by rw [hv] at q; cases q) (fun q => q h)))
            rw [hv] at HV
            obtain ⟨T, hT⟩ : ∃ T, textT A kk = T := ⟨_, rfl⟩
            rw [hT] at HX HRT HRG hTl
            clear hv HRS hT
            go_wp2_with fail
            refine (HV.out _).mono ?_
            rintro e w1 ⟨rfl, g1⟩
            have HA := hid (HA.out.by g1.below)
            have hA := HA.out
            obtain ⟨c0, c1, c2, c3, c4, f0, f1, f2, f3, f4⟩ := hA.n.cells
            obtain ⟨d0, d1, d2, d3, d4, q0, q1, q2, q3, q4⟩ := hA.z.cells
            clear hA g1
            go_wp2_with fail
            refine (HX.out _ (HLW.out.below HA.out.below).tab).mono ?_
            rintro e w2 ⟨rfl, g2⟩
            have HA := hid (HA.out.by g2)
            have hA := HA.out
            obtain ⟨c0, c1, c2, c3, c4, f0, f1, f2, f3, f4⟩ := hA.n.cells
            obtain ⟨d0, d1, d2, d3, d4, q0, q1, q2, q3, q4⟩ := hA.z.cells
            clear hA g2
            rcases hTl with hTl | hTl
            · have HRES := hid (HRT.out hTl)
              have e2 := eq_f hTl
              clear hTl
              go_wp2_with fail
              refine bodyPost_ret (v := .tuple #[.agg #[.int .i64 0, .int .i64 0, .int .i64 0, .int .i64 0, .int .i64 0], .int .i64 3]) (by simp [results, Tryd.results6, go_sem, *]) rfl ?_
              rw [HRES.out]
              exact ⟨rfl, bel5 HA.out.below _ _ _ _ _⟩
            · have HRES := hid (HRG.out hTl)
              have e2 := eq_t hTl
              clear hTl
              go_wp2_with fail
              refine bodyPost_ret (v := .tuple #[.agg #[.int .i64 A.a, .int .i64 A.b, .int .i64 A.c, .int .i64 A.d, .int .i64 kk], .int .i64 0]) (by simp [results, Tryd.results6, go_sem, *]) rfl ?_
              rw [HRES.out]
              exact ⟨rfl, bel5 HA.out.below _ _ _ _ _⟩
        case neg =>
          have hm1 := isE_f hm0
          have HRES := hid (show parseP l = (C0, 0, 3) by rw [HPP.out, HKP.out]; exact if_pos (.inl (by rw [HBE.out]; exact hm0)))
          go_wp2_with fail
          refine bodyPost_ret (v := .tuple #[.agg #[.int .i64 0, .int .i64 0, .int .i64 0, .int .i64 0, .int .i64 0], .int .i64 3]) (by simp [results, Tryd.results6, go_sem, *]) rfl ?_
          rw [HRES.out]
          exact ⟨rfl, bel5 HA.out.below _ _ _ _ _⟩
      case pos =>
        have HBF := hid (HBD'.out.trans (if_pos hle))
        obtain ⟨f, rfl⟩ : ∃ f', f = f' + 1 := ⟨f - 1, by omega⟩
        by_cases hm0 : m = []
        case pos =>
          subst hm0
          have HBE := hid (HBF.out.trans (show loopP (f + 1) A [] = (A, []) from if_pos rfl))
          have HV := hid fun w => aValid_any A kk w
          have HRS := hid (show parseP l = if validB A kk = false ∨ textT A kk ≠ l then (C0, 0, 3) else (A, kk, 0) by
            rw [HPP.out, HKP.out, HBE.out]
            by_cases q : validB A kk = false ∨ textT A kk ≠ l
            · exact (if_pos (.inr q)).trans (if_pos q).symm
            · exact (if_neg (fun z => z.elim (fun z => z rfl) q)).trans (if_neg q).symm)
          by_cases hv : validB A kk = true
          case neg =>
            have hv : validB A kk = false := by simpa using hv
            have HRES := hid (HRS.out.trans (if_pos (.inl hv)))
            rw [hv] at HV
            clear hv HRS
            go_wp2_with fail
            refine (HV.out _).mono ?_
            rintro e w1 ⟨rfl, g1⟩
            have HA := hid (HA.out.by g1.below)
            have hA := HA.out
            obtain ⟨c0, c1, c2, c3, c4, f0, f1, f2, f3, f4⟩ := hA.n.cells
            obtain ⟨d0, d1, d2, d3, d4, q0, q1, q2, q3, q4⟩ := hA.z.cells
            clear hA g1
            go_wp2_with fail
            refine bodyPost_ret (v := .tuple #[.agg #[.int .i64 0, .int .i64 0, .int .i64 0, .int .i64 0, .int .i64 0], .int .i64 3]) (by simp [results, Tryd.results6, go_sem, *]) rfl ?_
            rw [HRES.out]
            exact ⟨rfl, bel5 HA.out.below _ _ _ _ _⟩
          case pos =>
            have HX := hid fun w h => text_any A kk w hv h
            have hTl : textT A kk ≠ l ∨ textT A kk = l := (Classical.em _).symm
            have HRT := hid fun (h : textT A kk ≠ l) => HRS.out.trans (if_pos (.inr h))
            have HRG := hid fun (h : textT A kk = l) => HRS.out.trans (if_neg (fun q => q.elim (fun q => by rw [hv] at q; cases q) (fun q => q h)))
            rw [hv] at HV
            obtain ⟨T, hT⟩ : ∃ T, textT A kk = T := ⟨_, rfl⟩
            rw [hT] at HX HRT HRG hTl
            clear hv HRS hT
            go_wp2_with fail
            refine (HV.out _).mono ?_
            rintro e w1 ⟨rfl, g1⟩
            have HA := hid (HA.out.by g1.below)
            have hA := HA.out
            obtain ⟨c0, c1, c2, c3, c4, f0, f1, f2, f3, f4⟩ := hA.n.cells
            obtain ⟨d0, d1, d2, d3, d4, q0, q1, q2, q3, q4⟩ := hA.z.cells
            clear hA g1
            go_wp2_with fail
            refine (HX.out _ (HLW.out.below HA.out.below).tab).mono ?_
            rintro e w2 ⟨rfl, g2⟩
            have HA := hid (HA.out.by g2)
            have hA := HA.out
            obtain ⟨c0, c1, c2, c3, c4, f0, f1, f2, f3, f4⟩ := hA.n.cells
            obtain ⟨d0, d1, d2, d3, d4, q0, q1, q2, q3, q4⟩ := hA.z.cells
            clear hA g2
            rcases hTl with hTl | hTl
            · have HRES := hid (HRT.out hTl)
              have e2 := eq_f hTl
              clear hTl
              go_wp2_with fail
              refine bodyPost_ret (v := .tuple #[.agg #[.int .i64 0, .int .i64 0, .int .i64 0, .int .i64 0, .int .i64 0], .int .i64 3]) (by simp [results, Tryd.results6, go_sem, *]) rfl ?_
              rw [HRES.out]
              exact ⟨rfl, bel5 HA.out.below _ _ _ _ _⟩
            · have HRES := hid (HRG.out hTl)
              have e2 := eq_t hTl
              clear hTl
              go_wp2_with fail
              refine bodyPost_ret (v := .tuple #[.agg #[.int .i64 A.a, .int .i64 A.b, .int .i64 A.c, .int .i64 A.d, .int .i64 kk], .int .i64 0]) (by simp [results, Tryd.results6, go_sem, *]) rfl ?_
              rw [HRES.out]
              exact ⟨rfl, bel5 HA.out.below _ _ _ _ _⟩
        case neg =>
          have HST := hid (HBF.out.trans (show loopP (f + 1) A m = if (termP m).2.2.2 = false ∨ (termP m).2.2.1 = m then (A, m) else loopP f (setC A (termP m).2.1 (termP m).1) (termP m).2.2.1 from if_neg hm0))
          have HT := hid fun w h => aterm_any m w (by omega) h
          have hsf := termP_suf m
          have hix := termP_idx m
          obtain ⟨⟨v, i, r, b⟩, ht⟩ : ∃ p, termP m = p := ⟨_, rfl⟩
          rw [ht] at HST HT hsf hix
          dsimp only at HST HT hsf hix
          have hm1 := isE_f hm0
          clear ht
          go_wp2_with fail
          refine (HT.out _ (HLW.out.below HA.out.below)).mono ?_
          rintro e w1 ⟨rfl, g1⟩
          have HA := hid (HA.out.by g1)
          have hA := HA.out
          obtain ⟨c0, c1, c2, c3, c4, f0, f1, f2, f3, f4⟩ := hA.n.cells
          obtain ⟨d0, d1, d2, d3, d4, q0, q1, q2, q3, q4⟩ := hA.z.cells
          clear hA g1
          cases b
          case false =>
            have HBE := hid (HST.out.trans (if_pos (.inl rfl)))
            have hm1 := isE_f hm0
            have HRES := hid (show parseP l = (C0, 0, 3) by rw [HPP.out, HKP.out]; exact if_pos (.inl (by rw [HBE.out]; exact hm0)))
            go_wp2_with fail
            refine bodyPost_ret (v := .tuple #[.agg #[.int .i64 0, .int .i64 0, .int .i64 0, .int .i64 0, .int .i64 0], .int .i64 3]) (by simp [results, Tryd.results6, go_sem, *]) rfl ?_
            rw [HRES.out]
            exact ⟨rfl, bel5 HA.out.below _ _ _ _ _⟩
          case true =>
            by_cases hrm : r = m
            case pos =>
              have HBE := hid (HST.out.trans (if_pos (.inr hrm)))
              have e2 := eq_t hrm
              clear hrm
              have hm1 := isE_f hm0
              have HRES := hid (show parseP l = (C0, 0, 3) by rw [HPP.out, HKP.out]; exact if_pos (.inl (by rw [HBE.out]; exact hm0)))
              go_wp2_with fail
              refine bodyPost_ret (v := .tuple #[.agg #[.int .i64 0, .int .i64 0, .int .i64 0, .int .i64 0, .int .i64 0], .int .i64 3]) (by simp [results, Tryd.results6, go_sem, *]) rfl ?_
              rw [HRES.out]
              exact ⟨rfl, bel5 HA.out.below _ _ _ _ _⟩
            case neg =>
              have HBE := hid (HST.out.trans (if_neg (fun q => q.elim (fun q => by cases q) hrm)))
              have hlt : r.length < m.length := by
                rcases Nat.lt_or_ge r.length m.length with q | q
                · exact q
                · exact absurd (hsf.eq_of_length (Nat.le_antisymm hsf.length_le q)) hrm
              have e2 := eq_f hrm
              clear hrm hsf
              have hset := HA.out.set hge hne v
              obtain ⟨s0, s1, s2, s3, _⟩ := hset
              have S0 := hid s0
              have S1 := hid s1
              have S2 := hid s2
              have S3 := hid s3
              clear s0 s1 s2 s3
              have h4 : i = 0 ∨ i = 1 ∨ i = 2 ∨ i = 3 := by omega
              rcases h4 with rfl | rfl | rfl | rfl
              all_goals
                go_wp2_with fail
                go_roundw
                case rel => exact ⟨f, _, r, rfl, by omega, by omega, hid (HBE.out.trans (if_pos hle).symm), (by first | exact S0 | exact S1 | exact S2 | exact S3)⟩
                case measure => rw [strLen_of, strLen_of]; exact hlt

end Go.Proofs.YtmjnjghhdkoljaaDoor
