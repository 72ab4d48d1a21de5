/- Parse of the reference, and the law AmpTexts: it returns true. Conditions: the text's length is within the reach, the variables are laid. -/
import Derived.Test.YtmjnjghhdkoljaaDoorAmpTxtW
import Derived.Test.YtmjnjghhdkoljaaDoorAmpAwake
namespace Go.Proofs.YtmjnjghhdkoljaaDoor
open Go Go.RowKit Amp

theorem parse_step {w wc : World} (gc : Below (w.alloc (.cells #[.int .i64 0, .int .i64 0, .int .i64 0, .int .i64 0, .int .i64 0] 24)).heap.size (w.alloc (.cells #[.int .i64 0, .int .i64 0, .int .i64 0, .int .i64 0, .int .i64 0] 24)) wc) : NumAt w.heap.size C0 0 wc ∧ Below w.heap.size w wc ∧ w.heap.size < wc.heap.size := by
  have h1 : NumAt w.heap.size C0 0 wc := (num_new (w := w) rfl).below gc (by simp [go_sem])
  have h2 : Below w.heap.size w wc := ((Below.refl _ w).alloc (Nat.le_refl _) _).trans (gc.mono (by simp [go_sem]))
  exact ⟨h1, h2, h1.lt⟩
set_option maxRecDepth 100000 in
set_option maxHeartbeats 4000000 in
theorem rparse_any (l : List UInt8) (w : World) (hl : l.length ≤ 140737488351232) :
    Calls Tryd.prog 7 #[.string (strB l)] w fun e w' => e = .returned (.tuple #[.agg #[.int .i64 (parseR l).1.a, .int .i64 (parseR l).1.b, .int .i64 (parseR l).1.c, .int .i64 (parseR l).1.d, .int .i64 (parseR l).2.1], .int .i64 (parseR l).2.2]) ∧ Below w.heap.size w w' := by
  have HR := hid fun w => read_any l w hl
  have HRV := hid (show readV l = match readR l with | none => (C0, 0, false) | some p => (p.1, p.2, true) from rfl)
  have HPR := hid (show parseR l = match readR l with | none => (C0, 0, 3) | some p => if validB p.1 p.2 = false ∨ textT p.1 p.2 ≠ l then (C0, 0, 3) else (p.1, p.2, 0) from rfl)
  have hcs : readR l = none ∨ ∃ A k, readR l = some (A, k) := by
    cases readR l with
    | none => exact .inl rfl
    | some p => exact .inr ⟨p.1, p.2, rfl⟩
  rcases hcs with hr | ⟨A, kk, hr⟩
  case inl =>
    have hv : readV l = (C0, 0, false) := by rw [HRV.out, hr]
    have HRES := hid (show parseR l = (C0, 0, 3) by rw [HPR.out, hr])
    rw [hv] at HR
    clear hv hr
    go_enter Tryd.func7, Tryd.ntmps7
    go_wp2_with fail
    refine (HR.out _).mono ?_
    rintro e wc ⟨rfl, gc⟩
    obtain ⟨hz, hbw, hlt⟩ := parse_step gc
    obtain ⟨d0, d1, d2, d3, d4, q0, q1, q2, q3, q4⟩ := hz.cells
    have HB := hid hbw
    clear hz gc hbw
    go_wp2_with fail
    refine bodyPost_ret (v := .tuple #[.agg #[.int .i64 0, .int .i64 0, .int .i64 0, .int .i64 0, .int .i64 0], .int .i64 3]) (by simp [results, Tryd.results7, go_sem, *]) rfl ?_
    rw [HRES.out]
    exact ⟨rfl, (by first | exact bel5 (HB.out.alloc HB.out.size _) _ _ _ _ _ | exact (bel5 HB.out _ _ _ _ _).alloc (bel5 HB.out _ _ _ _ _).size _)⟩
  case inr =>
    have hv : readV l = (A, kk, true) := by rw [HRV.out, hr]
    have HRS := hid (show parseR l = if validB A kk = false ∨ textT A kk ≠ l then (C0, 0, 3) else (A, kk, 0) by rw [HPR.out, hr])
    have HF := hid fun w => rformat_any A kk w
    rw [hv] at HR
    clear hv hr
    go_enter Tryd.func7, Tryd.ntmps7
    go_wp2_with fail
    refine (HR.out _).mono ?_
    rintro e wc ⟨rfl, gc⟩
    obtain ⟨hz, hbw, hlt⟩ := parse_step gc
    obtain ⟨d0, d1, d2, d3, d4, q0, q1, q2, q3, q4⟩ := hz.cells
    have HB := hid hbw
    have HZ := hid hz
    have HA : Hid (AtLoop w w.heap.size wc.heap.size A kk (wc.alloc (.cells #[.int .i64 A.a, .int .i64 A.b, .int .i64 A.c, .int .i64 A.d, .int .i64 kk] 24))) :=
      hid ⟨hz.below ((Below.refl _ wc).alloc (Nat.le_refl _) _) hz.lt, blk_new rfl, hbw.alloc hbw.size _⟩
    clear hz gc hbw d0 d1 d2 d3 d4 q0 q1 q2 q3 q4 HZ HB
    go_wp2_with fail
    refine (HF.out _).mono ?_
    rintro e w1 ⟨rfl, g1⟩
    have HA := hid (HA.out.by g1.below)
    have hA := HA.out
    obtain ⟨c0, c1, c2, c3, c4, f0, f1, f2, f3, f4⟩ := hA.n.cells
    obtain ⟨d0, d1, d2, d3, d4, q0, q1, q2, q3, q4⟩ := hA.z.cells
    clear hA g1
    by_cases hv : validB A kk = true
    case neg =>
      have hv : validB A kk = false := by simpa using hv
      have HRES := hid (HRS.out.trans (if_pos (.inl hv)))
      rw [show fmtT A kk = ([], 10) by unfold fmtT; rw [hv]; rfl]
      clear hv
      go_wp2_with fail
      refine bodyPost_ret (v := .tuple #[.agg #[.int .i64 0, .int .i64 0, .int .i64 0, .int .i64 0, .int .i64 0], .int .i64 3]) (by simp [results, Tryd.results7, go_sem, *]) rfl ?_
      rw [HRES.out]
      exact ⟨rfl, bel5 HA.out.below _ _ _ _ _⟩
    case pos =>
      have hTl : textT A kk ≠ l ∨ textT A kk = l := (Classical.em _).symm
      have HRT := hid fun (h : textT A kk ≠ l) => HRS.out.trans (if_pos (.inr h))
      have HRG := hid fun (h : textT A kk = l) => HRS.out.trans (if_neg (fun q => q.elim (fun q => by rw [hv] at q; cases q) (fun q => q h)))
      rw [show fmtT A kk = (textT A kk, 0) by unfold fmtT; rw [if_pos hv]]
      obtain ⟨T, hT⟩ : ∃ T, textT A kk = T := ⟨_, rfl⟩
      rw [hT] at HRT HRG hTl ⊢
      clear hv hT HRS
      rcases hTl with hTl | hTl
      · have HRES := hid (HRT.out hTl)
        have e2 := eq_f hTl
        clear hTl
        go_wp2_with fail
        refine bodyPost_ret (v := .tuple #[.agg #[.int .i64 0, .int .i64 0, .int .i64 0, .int .i64 0, .int .i64 0], .int .i64 3]) (by simp [results, Tryd.results7, go_sem, *]) rfl ?_
        rw [HRES.out]
        exact ⟨rfl, bel5 HA.out.below _ _ _ _ _⟩
      · have HRES := hid (HRG.out hTl)
        have e2 := eq_t hTl
        clear hTl
        go_wp2_with fail
        refine bodyPost_ret (v := .tuple #[.agg #[.int .i64 A.a, .int .i64 A.b, .int .i64 A.c, .int .i64 A.d, .int .i64 kk], .int .i64 0]) (by simp [results, Tryd.results7, go_sem, *]) rfl ?_
        rw [HRES.out]
        exact ⟨rfl, bel5 HA.out.below _ _ _ _ _⟩

end Go.Proofs.YtmjnjghhdkoljaaDoor
