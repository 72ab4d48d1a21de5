/- Layer 9: the octant of the program. No condition. -/
import Derived.Test.YtecnidnaokbaiaaPrbF
import Derived.Test.YtecnidnaokbaiaaPrbAlong
import Derived.Test.YtecnidnaokbaiaaAmpK
import Derived.Test.YtecnidnaokbaiaaAmpP
import Derived.Test.YtecnidnaokbaiaaAmpU
namespace Go.Proofs.Ytecnidnaokbaiaa
open Go Go.RowKit Prb Amp

set_option maxHeartbeats 800000 in
theorem along_any (x y : Int) (k b : Nat) (w : World) (x1 : -1000000 ≤ x) (x2 : x ≤ 1000000) (y1 : -1000000 ≤ y) (y2 : y ≤ 1000000) (hk : k < 8) (hb : b < w.heap.size) (c0 : w.cell? ⟨b, 0, none⟩ = some (.int .i64 x)) (c1 : w.cell? ⟨b, 1, none⟩ = some (.int .i64 0)) (c2 : w.cell? ⟨b, 2, none⟩ = some (.int .i64 y)) (c3 : w.cell? ⟨b, 3, none⟩ = some (.int .i64 0)) (c4 : w.cell? ⟨b, 4, none⟩ = some (.int .i64 0)) :
    Calls Try.prog 20 #[.int .i64 (k : Int), .pointer (some ⟨b, 0, none⟩)] w fun e w' => e = .returned (.agg #[.int .i64 (alngV k x y).a, .int .i64 (alngV k x y).b, .int .i64 (alngV k x y).c, .int .i64 (alngV k x y).d, .int .i64 0]) ∧ Grew w w' := by
  have H1 := fun w => aTurn_any (vec x y) 0 (-(k : Int)) w
  rw [changeR_e (vec_valid x1 x2 y1 y2)] at H1
  have H2 := fun w => aConj_any (back k x y) 0 w
  rw [changeR_e (back_valid x1 x2 y1 y2 k)] at H2
  have H3 := fun w => aAdd_any (back k x y) (conjC (back k x y)) 0 0 w
  rw [along_add x1 x2 y1 y2 hk] at H3
  replace H1 := hid H1
  replace H2 := hid H2
  replace H3 := hid H3
  go_enter Try.func20, Try.ntmps20
  go_wp2_with fail
  refine (H1.out _).mono ?_
  rintro e w' ⟨rfl, g, n, rfl⟩
  go_wp2_with fail
  refine (H2.out _).mono ?_
  rintro e w' ⟨rfl, g1, n1, rfl⟩
  go_wp2_with fail
  refine (H3.out _).mono ?_
  rintro e w' ⟨rfl, g2, n2, rfl⟩
  go_wp2_with fail
  exact bodyPost_ret (v := .agg #[.int .i64 (alngV k x y).a, .int .i64 (alngV k x y).b, .int .i64 (alngV k x y).c, .int .i64 (alngV k x y).d, .int .i64 0]) (by simp [results, Try.results20, go_sem]) rfl ⟨rfl, (by repeat (first | exact Grew.refl _ | refine Grew.drewN ?_ _ | refine Grew.grow ?_ _ | refine Grew.alloc ?_ _ | refine Grew.drew ?_))⟩

set_option maxHeartbeats 2000000 in
theorem aOctant_any (m x y : Int) (w : World) :
    Calls Try.prog 14 #[.agg #[.int .i64 m, .int .i64 x, .int .i64 y]] w fun e w' => e = .returned (.tuple #[.int .i64 (octV m x y), .int .i64 (octE m x y)]) ∧ Grew w w' := by
  have HV := hid fun w => aVldF_any m x y w
  by_cases hv : vldB m x y = true
  case neg =>
    have hE : Hid (octE m x y = 90) := if_neg hv
    have hV : Hid (octV m x y = 0) := if_neg hv
    rw [show vldB m x y = false by simpa using hv] at HV
    clear hv
    go_enter Try.func14, Try.ntmps14
    go_wp2_with fail
    refine (HV.out _).mono ?_
    rintro e w' ⟨rfl, g, n, rfl⟩
    go_wp2_with fail
    go_ret2
    exact ⟨by rw [hE.out, hV.out]; rfl, (by repeat (first | exact Grew.refl _ | refine Grew.drewN ?_ _ | refine Grew.grow ?_ _ | refine Grew.alloc ?_ _ | refine Grew.drew ?_))⟩
  by_cases hz : x = 0 ∧ y = 0
  case pos =>
    have hE : Hid (octE m x y = 5) := (if_pos hv).trans (if_pos hz)
    have hV : Hid (octV m x y = 0) := (if_pos hv).trans (if_pos hz)
    rw [hv] at HV
    clear hv
    obtain ⟨rfl, rfl⟩ := hz
    go_enter Try.func14, Try.ntmps14
    go_wp2_with fail
    refine (HV.out _).mono ?_
    rintro e w' ⟨rfl, g, n, rfl⟩
    go_wp2_with fail
    go_ret2
    exact ⟨by rw [hE.out, hV.out]; rfl, (by repeat (first | exact Grew.refl _ | refine Grew.drewN ?_ _ | refine Grew.grow ?_ _ | refine Grew.alloc ?_ _ | refine Grew.drew ?_))⟩
  have hE : Hid (octE m x y = 0) := (if_pos hv).trans (if_neg hz)
  have hV : Hid (octV m x y = ((octN x y : Nat) : Int)) := (if_pos hv).trans (if_neg hz)
  obtain ⟨⟨m1, m2⟩, ⟨x1, x2⟩, ⟨y1, y2⟩, _⟩ := vldB_iff.1 hv
  have hbo := hid (best_oct hz)
  have hol := octN_lt x y
  rw [hv] at HV
  have hxy : ¬ x = 0 ∨ (x = 0 ∧ ¬ y = 0) := by omega
  clear hv hz
  rcases hxy with h | ⟨h, h'⟩
  case' inl =>
    have g0 : (x == 0) = false := by simpa using h
    clear h
  case' inr =>
    have g1 : (y == 0) = false := by simpa using h'
    clear h'
  case' inr => have g0 : (x == 0) = true := by simpa using h
  case' inr => clear h
  all_goals
    go_enter Try.func14, Try.ntmps14
    go_wp2_with fail
    refine (HV.out _).mono ?_
    rintro e w' ⟨rfl, g, n, rfl⟩
    go_wp2_with fail
    go_loopw [6, 7] (fun p q wr => ∃ b k : Nat, p = .int .i64 (b : Int) ∧ q = .int .i64 (k : Int) ∧ b < k ∧ 1 ≤ k ∧ k ≤ 8 ∧ Hid (octN x y < k → b = octN x y) ∧ Grew (((w.alloc (.cells #[.int .i64 m, .int .i64 x, .int .i64 y] 24)).grow g).alloc (.cells #[.int .i64 x, .int .i64 0, .int .i64 y, .int .i64 0, .int .i64 0] 45)) wr) (fun _ q _ => (8 - intOf q).toNat)
    case atStart => exact ⟨0, 1, rfl, rfl, by omega, by omega, by omega, fun h => by omega, (by repeat (first | exact Grew.refl _ | refine Grew.drewN ?_ _ | refine Grew.grow ?_ _ | refine Grew.alloc ?_ _ | refine Grew.drew ?_))⟩
    case round =>
      obtain ⟨b, k, rfl, rfl, hbk, hk1, hk8, hb, gg, nn, rfl⟩ := hrel
      by_cases hlt : k < 8
      · obtain ⟨e1, e2⟩ := along_cmp x1 x2 y1 y2 hlt (show b < 8 by omega)
        have HC := fun w => aCmp_any (alngV k x y) (alngV b x y) 0 0 w
        rw [e1] at HC
        have hup : Over x y k b → (octN x y < k + 1 → k = octN x y) := fun h ho => by
          apply Classical.byContradiction
          intro hne
          have hb' := hb.out (by omega)
          rw [hb'] at h
          exact over_not (hbo.out k hlt hne) h
        have hdn : ¬ Over x y k b → (octN x y < k + 1 → b = octN x y) := fun h ho => by
          by_cases hok : octN x y = k
          · exact absurd (by have := hbo.out b (by omega) (by omega); rwa [hok] at this) h
          · exact hb.out (by omega)
        generalize cmpV (alngV k x y) 0 (alngV b x y) 0 = c at *
        rw [← e2] at hup hdn
        replace HC := hid HC
        replace hup := hid hup
        replace hdn := hid hdn
        clear e1 e2
        go_wp2_with fail
        refine (along_any x y k _ _ x1 x2 y1 y2 hlt (by simp [go_sem]) (by simp [go_sem]) (by simp [go_sem]) (by simp [go_sem]) (by simp [go_sem]) (by simp [go_sem])).mono ?_
        rintro e w' ⟨rfl, ga, na, rfl⟩
        go_wp2_with fail
        refine (along_any x y b _ _ x1 x2 y1 y2 (by omega) (by simp [go_sem]) (by simp [go_sem]) (by simp [go_sem]) (by simp [go_sem]) (by simp [go_sem]) (by simp [go_sem])).mono ?_
        rintro e w' ⟨rfl, gb, nb, rfl⟩
        go_wp2_with fail
        refine (HC.out _).mono ?_
        rintro e w' ⟨rfl, gc, nc, rfl⟩
        by_cases hc : 0 < c
        · go_wp2_with fail
          go_roundw
          case rel => exact ⟨k, k + 1, rfl, by simp, by omega, by omega, by omega, hup.out hc, (by repeat (first | exact Grew.refl _ | refine Grew.drewN ?_ _ | refine Grew.grow ?_ _ | refine Grew.alloc ?_ _ | refine Grew.drew ?_))⟩
          case measure => simp [intOf]; omega
        · have hcn : decide (0 < c) = false := decide_eq_false hc
          go_wp2_with fail
          go_roundw
          case rel => exact ⟨b, k + 1, rfl, by simp, by omega, by omega, by omega, hdn.out hc, (by repeat (first | exact Grew.refl _ | refine Grew.drewN ?_ _ | refine Grew.grow ?_ _ | refine Grew.alloc ?_ _ | refine Grew.drew ?_))⟩
          case measure => simp [intOf]; omega
      · obtain rfl : k = 8 := by omega
        have hb' := hid (hb.out (by omega))
        go_wp2_with fail
        go_ret2
        exact ⟨by rw [hE.out, hV.out, ← hb'.out]; rfl, (by repeat (first | exact Grew.refl _ | refine Grew.drewN ?_ _ | refine Grew.grow ?_ _ | refine Grew.alloc ?_ _ | refine Grew.drew ?_))⟩

end Go.Proofs.Ytecnidnaokbaiaa
