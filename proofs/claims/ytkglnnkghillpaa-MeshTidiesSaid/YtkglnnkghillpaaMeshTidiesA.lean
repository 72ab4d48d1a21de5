/- The law MeshTidies returns true. Condition: the items lie in memory. -/
import Derived.Test.YtkglnnkghillpaaTidO
import Derived.Test.YtkglnnkghillpaaMshTidy
import Derived.Test.YtkglnnkghillpaaMshR

namespace Go.Proofs.Ytkglnnkghillpaa
open Go Go.RowKit Amp Msh

theorem tidE_chk {g : Int} {l : List It} (h : chkIts g l = 0) : chkIts g (tidR l) = 0 := by
  obtain ⟨q1, q2, q3, q4⟩ := chkIts_zero h
  obtain ⟨h1, h2⟩ := tidR_ok q2 l q4
  unfold chkIts vldIts
  rw [if_pos ⟨q1, q2⟩, decide_eq_true (show 1 ≤ g ∧ g ≤ 6 from ⟨q1, q2⟩), decide_eq_true (show (tidR l).length ≤ 5000 by omega), h1]
  rfl

set_option maxRecDepth 100000 in
set_option maxHeartbeats 800000 in
theorem tidies_long (g : Int) (a0 : Option Addr) (cap : Nat) (its : List It) (w : World) (hl : its.length ≤ 9223372036854775807) (_hc : Its w a0 its) (h : 60 < its.length) :
    Calls Try.prog 10 #[.int .i64 g, .slice a0 its.length cap] w fun e w' => e = .returned (.bool true) ∧ Grew w w' := by
  have e1 : decide ((60 : Int) < its.length) = true := decide_eq_true (by omega)
  clear _hc hl h
  go_enter Try.func10, Try.ntmps10
  go_wp2_with fail
  refine (awake_any _).mono ?_
  rintro e w' ⟨rfl, ga, na, rfl⟩
  go_wp2_with fail
  go_ret
  exact ⟨rfl, (by repeat (first | exact Grew.refl _ | refine Grew.drewN ?_ _ | refine Grew.grow ?_ _ | refine Grew.alloc ?_ _ | refine Grew.drew ?_))⟩

set_option maxRecDepth 100000 in
set_option maxHeartbeats 800000 in
theorem tidies_bad (g : Int) (a0 : Option Addr) (cap : Nat) (its : List It) (w : World) (hl : its.length ≤ 9223372036854775807) (hc : Its w a0 its) (h : its.length ≤ 60) (hk : ¬ chkIts g its = 0) :
    Calls Try.prog 10 #[.int .i64 g, .slice a0 its.length cap] w fun e w' => e = .returned (.bool true) ∧ Grew w w' := by
  have e1 : decide ((60 : Int) < its.length) = false := decide_eq_false (by omega)
  have H1 := hid fun w' (hg : Grew w w') => tidy_any g a0 cap its w' (by omega) (hc.grew hg)
  rw [show tidE g its = ([], chkIts g its) by unfold tidE; rw [if_neg hk]] at H1
  obtain ⟨E, hE⟩ : ∃ E, chkIts g its = E := ⟨_, rfl⟩
  rw [hE] at H1 hk
  have e2 : (E != 0) = true := by simpa using hk
  clear h hl hc hE hk
  go_enter Try.func10, Try.ntmps10
  go_wp2_with fail
  refine (H1.out _ (by repeat (first | exact Grew.refl _ | refine Grew.drewN ?_ _ | refine Grew.grow ?_ _ | refine Grew.alloc ?_ _ | refine Grew.drew ?_))).mono ?_
  rintro e W1 ⟨⟨a2, k2, rfl, _⟩, hg1⟩
  have HG := hid (Grew.trans (a := w) (by repeat (first | exact Grew.refl _ | refine Grew.drewN ?_ _ | refine Grew.grow ?_ _ | refine Grew.alloc ?_ _ | refine Grew.drew ?_)) hg1)
  clear hg1
  dsimp only [List.length_nil]
  go_wp2_with fail
  refine (awake_any _).mono ?_
  rintro e w' ⟨rfl, ga, na, rfl⟩
  go_wp2_with fail
  go_ret
  exact ⟨rfl, HG.out.trans (by repeat (first | exact Grew.refl _ | refine Grew.drewN ?_ _ | refine Grew.grow ?_ _ | refine Grew.alloc ?_ _ | refine Grew.drew ?_))⟩

end Go.Proofs.Ytkglnnkghillpaa

/- The main case of the law MeshTidies. Condition: the items lie in memory, not too many. -/

namespace Go.Proofs.Ytkglnnkghillpaa
open Go Go.RowKit Amp Msh

set_option maxRecDepth 100000 in
set_option maxHeartbeats 4000000 in
theorem tidies_main (n : Nat) (a0 : Option Addr) (cap : Nat) (its : List It) (w : World) (hl : its.length ≤ 9223372036854775807) (hc : Its w a0 its) (h : its.length ≤ 60) (hk : chkIts n its = 0) :
    Calls Try.prog 10 #[.int .i64 n, .slice a0 its.length cap] w fun e w' => e = .returned (.bool true) ∧ Grew w w' := by
  have e1 : decide ((60 : Int) < its.length) = false := decide_eq_false (by omega)
  have H1 := hid fun w' (hg : Grew w w') => tidy_any n a0 cap its w' (by omega) (hc.grew hg)
  have HMA := hid fun w' (hg : Grew w w') => matOf_any n a0 cap its w' hl (hc.grew hg)
  obtain ⟨q1, q2, q3, q4⟩ := chkIts_zero hk
  have n2 : n ≤ 6 := by omega
  obtain ⟨R, hR⟩ : ∃ R, tidR its = R := ⟨_, rfl⟩
  have hRl : R.length ≤ its.length := by rw [← hR]; exact (tidR_ok q2 its q4).2
  rw [show tidE n its = (R, 0) by unfold tidE; rw [if_pos hk, hR]] at H1
  have hE2 : tidE n R = (R, 0) := by
    have h1 := tidE_chk hk
    rw [hR] at h1
    unfold tidE
    rw [if_pos h1, ← hR, tidR_twice q2 its q4]
  obtain ⟨⟨A, E1⟩, hA1⟩ : ∃ R, matOf n its = R := ⟨_, rfl⟩
  rw [hA1, Int.toNat_natCast] at HMA
  have HA1 := hid hA1
  obtain ⟨⟨Bm, E2⟩, hB1⟩ : ∃ X, matOf n R = X := ⟨_, rfl⟩
  have HB1 := hid hB1
  have HR := hid hR
  have HOK := hid q4
  have HE2 := hid hE2
  have e3 : decide ((its.length : Int) < R.length) = false := decide_eq_false (by omega)
  have e3n : decide (its.length < R.length) = false := decide_eq_false (by omega)
  have hR6 : R.length ≤ 60 := by omega
  clear hc hl hk hA1 hB1 q1 q2 q3 q4 hR hE2
  go_enter Try.func10, Try.ntmps10
  go_wp2_with fail
  refine (H1.out _ (by repeat (first | exact Grew.refl _ | refine Grew.drewN ?_ _ | refine Grew.grow ?_ _ | refine Grew.alloc ?_ _ | refine Grew.drew ?_))).mono ?_
  rintro e W1 ⟨⟨a2, k2, rfl, hO⟩, hg1⟩
  dsimp only at hO ⊢
  have HI := hid (OwnI.its hO)
  have HG := hid (Grew.trans (a := w) (by repeat (first | exact Grew.refl _ | refine Grew.drewN ?_ _ | refine Grew.grow ?_ _ | refine Grew.alloc ?_ _ | refine Grew.drew ?_)) hg1)
  have H2 := hid fun w' (hg : Grew W1 w') => tidy_any n a2 k2 R w' (by omega) (HI.out.grew hg)
  rw [HE2.out] at H2
  clear hO hg1 H1
  go_wp2_with fail
  refine (H2.out _ (by repeat (first | exact Grew.refl _ | refine Grew.drewN ?_ _ | refine Grew.grow ?_ _ | refine Grew.alloc ?_ _ | refine Grew.drew ?_))).mono ?_
  rintro e W2 ⟨⟨a3, k3, rfl, hO2⟩, hg2⟩
  dsimp only at hO2 ⊢
  have hg2 : Grew W1 W2 := Grew.trans (by repeat (first | exact Grew.refl _ | refine Grew.drewN ?_ _ | refine Grew.grow ?_ _ | refine Grew.alloc ?_ _ | refine Grew.drew ?_)) hg2
  have HI2 := hid (OwnI.its hO2)
  have HI := hid (HI.out.grew hg2)
  have HG := hid (HG.out.trans hg2)
  clear hO2 hg2 H2
  have HS := hid fun w' (hg : Grew W2 w') => sameItems_same a3 a2 k3 k2 R w' (by omega) (HI2.out.grew hg) (HI.out.grew hg)
  have HMB := hid fun w' (hg : Grew W2 w') => matOf_any n a2 k2 R w' (by omega) (HI.out.grew hg)
  rw [HB1.out, Int.toNat_natCast] at HMB
  go_wp2_with fail
  refine (HS.out _ (by repeat (first | exact Grew.refl _ | refine Grew.drewN ?_ _ | refine Grew.grow ?_ _ | refine Grew.alloc ?_ _ | refine Grew.drew ?_))).mono ?_
  rintro e W3 ⟨rfl, hg3⟩
  have hg3 : Grew W2 W3 := Grew.trans (by repeat (first | exact Grew.refl _ | refine Grew.drewN ?_ _ | refine Grew.grow ?_ _ | refine Grew.alloc ?_ _ | refine Grew.drew ?_)) hg3
  have HG3 := hid hg3
  clear hg3 HS
  go_wp2_with fail
  refine (HMA.out _ (HG.out.trans (HG3.out.trans (by repeat (first | exact Grew.refl _ | refine Grew.drewN ?_ _ | refine Grew.grow ?_ _ | refine Grew.alloc ?_ _ | refine Grew.drew ?_))))).mono ?_
  rintro e W6 ⟨⟨am, km, rfl, hA⟩, hg6⟩
  dsimp only at hA ⊢
  obtain ⟨N1, hN1⟩ : ∃ N, rowsOf n E1 = N := ⟨_, rfl⟩
  rw [hN1]
  have HN1 := hid hN1
  have HA := hid hA
  have HG6 := hid (HG3.out.trans (Grew.trans (by repeat (first | exact Grew.refl _ | refine Grew.drewN ?_ _ | refine Grew.grow ?_ _ | refine Grew.alloc ?_ _ | refine Grew.drew ?_)) hg6))
  clear hN1 hA hg6 HG3
  go_wp2_with fail
  refine (HMB.out _ (HG6.out.trans (by repeat (first | exact Grew.refl _ | refine Grew.drewN ?_ _ | refine Grew.grow ?_ _ | refine Grew.alloc ?_ _ | refine Grew.drew ?_)))).mono ?_
  rintro e W7 ⟨⟨bm, kb, rfl, hB⟩, hg7⟩
  dsimp only at hB ⊢
  obtain ⟨N2, hN2⟩ : ∃ N, rowsOf n E2 = N := ⟨_, rfl⟩
  rw [hN2]
  have HN2 := hid hN2
  obtain ⟨b9, hb9⟩ : ∃ b9, b9 = W6.heap.size := ⟨_, rfl⟩
  rw [← hb9]
  have h9 : W7.heap[b9]? = some (.cells #[.int .i64 N1, .slice am A.length km] 28) := by rw [hb9]; exact (Grew.block hg7 _ (by simp)).trans (heap_new _ _)
  have hg67 : Grew W6 W7 := Grew.trans ((Grew.refl W6).alloc _) hg7
  have y0 : W7.cell? ⟨b9, 0, none⟩ = some (.int .i64 N1) := by simp [World.cell?, h9]
  have y1 : W7.cell? ⟨b9, 1, none⟩ = some (.slice am A.length km) := by simp [World.cell?, h9]
  have z9 := (Array.getElem?_eq_some_iff.1 h9).1
  have HA := hid (HA.out.grew hg67)
  have HB := hid hB
  have HG := hid (HG.out.trans (HG6.out.trans hg67))
  clear hN2 hb9 h9 hg67 hB hg7 HG6 HMA HMB
  have z91 := fun m0 : Nat => Nat.lt_add_right m0 (z9)
  have z92 := fun m0 m1 : Nat => Nat.lt_add_right m1 (z91 m0)
  have z93 := fun m0 m1 m2 : Nat => Nat.lt_add_right m2 (z92 m0 m1)
  by_cases hE1 : E1 = 0
  case neg =>
    have e8 : (E1 != 0) = true := by simpa using hE1
    clear hE1
    go_wp2_with fail
    refine (awake_any _).mono ?_
    rintro e w' ⟨rfl, ga, na, rfl⟩
    go_wp2_with fail
    go_ret
    exact ⟨rfl, HG.out.trans (by repeat (first | exact Grew.refl _ | refine Grew.drewN ?_ _ | refine Grew.grow ?_ _ | refine Grew.alloc ?_ _ | refine Grew.drew ?_))⟩
  case pos =>
    subst hE1
    obtain rfl : N1 = (n : Int) := by rw [← HN1.out, rowsOf, if_pos rfl]
    by_cases hE2 : E2 = 0
    case neg =>
      have e9 : (E2 != 0) = true := by simpa using hE2
      clear hE2
      go_wp2_with fail
      refine (awake_any _).mono ?_
      rintro e w' ⟨rfl, ga, na, rfl⟩
      go_wp2_with fail
      go_ret
      exact ⟨rfl, HG.out.trans (by repeat (first | exact Grew.refl _ | refine Grew.drewN ?_ _ | refine Grew.grow ?_ _ | refine Grew.alloc ?_ _ | refine Grew.drew ?_))⟩
    case pos =>
      subst hE2
      obtain rfl : N2 = (n : Int) := by rw [← HN2.out, rowsOf, if_pos rfl]
      have hIA := (matOf_zero HA1.out).2
      rw [Int.toNat_natCast] at hIA
      have hIB := (matOf_zero HB1.out).2
      rw [Int.toNat_natCast, ← HR.out] at hIB
      have sA := itsM_shape its (idN n) (idN_valid n) (idN_length n) (by rw [hIA])
      rw [hIA] at sA
      have h36 : n * n ≤ 36 := Nat.mul_le_mul n2 n2
      have hAl : A.length ≤ 36 := by rw [sA.2]; exact h36
      obtain rfl : Bm = A := tidR_law n2 HOK.out hIA hIB
      have HSM := hid fun a2 k2 a3 k3 w' (hA : Nms w' a2 Bm) (hB : Nms w' a3 Bm) => sameMatrix_same n a2 a3 k2 k3 Bm w' (by omega) hA hB
      clear hIA hIB sA h36
      go_wp2_with fail
      refine (HSM.out _ _ _ _ _ (HA.out.grew (by repeat (first | exact Grew.refl _ | refine Grew.drewN ?_ _ | refine Grew.grow ?_ _ | refine Grew.alloc ?_ _ | refine Grew.drew ?_))) (HB.out.grew (by repeat (first | exact Grew.refl _ | refine Grew.drewN ?_ _ | refine Grew.grow ?_ _ | refine Grew.alloc ?_ _ | refine Grew.drew ?_)))).mono ?_
      rintro e w' ⟨rfl, gs, ms, rfl⟩
      go_wp2_with fail
      refine (awake_any _).mono ?_
      rintro e w' ⟨rfl, ga, na, rfl⟩
      go_wp2_with fail
      go_ret
      exact ⟨rfl, HG.out.trans (by repeat (first | exact Grew.refl _ | refine Grew.drewN ?_ _ | refine Grew.grow ?_ _ | refine Grew.alloc ?_ _ | refine Grew.drew ?_))⟩
theorem tidies_any (g : Int) (a0 : Option Addr) (cap : Nat) (its : List It) (w : World) (hl : its.length ≤ 9223372036854775807) (hc : Its w a0 its) :
    Calls Try.prog 10 #[.int .i64 g, .slice a0 its.length cap] w fun e w' => e = .returned (.bool true) ∧ Grew w w' := by
  by_cases h : its.length ≤ 60
  case neg => exact tidies_long g a0 cap its w hl hc (by omega)
  by_cases hk : chkIts g its = 0
  case neg => exact tidies_bad g a0 cap its w hl hc h hk
  obtain ⟨q1, _, _, _⟩ := chkIts_zero hk
  obtain ⟨n, rfl⟩ : ∃ n : Nat, g = n := ⟨g.toNat, by omega⟩
  exact tidies_main n a0 cap its w hl hc h hk
theorem meshTidies_walk (g : Int) (a0 : Option Addr) (len cap : Nat) (w : World) (h : len = 0 ∨ ∃ (b off : Nat) (l : List It), a0 = some ⟨b, off, none⟩ ∧ len = l.length ∧ l.length ≤ 9223372036854775807 ∧ b < w.heap.size ∧ ItsAt w b off l) :
    Calls Try.prog 10 #[.int .i64 g, .slice a0 len cap] w fun e w' => e = .returned (.bool true) ∧ Grew w w' := by
  obtain ⟨its, rfl, h1, h2⟩ := its_of h
  exact tidies_any g a0 cap its w h1 h2

end Go.Proofs.Ytkglnnkghillpaa
