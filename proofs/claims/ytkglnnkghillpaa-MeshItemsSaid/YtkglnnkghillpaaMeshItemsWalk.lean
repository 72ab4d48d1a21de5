/- The law MeshItems returns true. Condition: the items and the numbers lie in memory. -/
import Derived.Test.YtkglnnkghillpaaLitE
import Derived.Test.YtkglnnkghillpaaMshX
import Derived.Test.YtkglnnkghillpaaOpenNums
import Derived.Test.YtkglnnkghillpaaMshVal
import Derived.Test.YtkglnnkghillpaaMshVal
namespace Go.Proofs.Ytkglnnkghillpaa
open Go Go.RowKit Amp Msh

theorem nums_of {w : World} {a0 : Option Addr} {len : Nat} (h : len = 0 ∨ ∃ (b off : Nat) (l : List Num), a0 = some ⟨b, off, none⟩ ∧ len = l.length ∧ l.length ≤ 9223372036854775807 ∧ b < w.heap.size ∧ NumsAt w b off l) : ∃ l : List Num, len = l.length ∧ l.length ≤ 9223372036854775807 ∧ Nms w a0 l := by
  rcases h with rfl | ⟨b, off, l, h1, h2, h3, h4, h5⟩
  · exact ⟨[], rfl, by decide, .inl rfl⟩
  · exact ⟨l, h2, h3, .inr ⟨b, off, h1, h4, h5⟩⟩

set_option maxRecDepth 100000 in
set_option maxHeartbeats 800000 in
theorem items_long (g : Int) (a0 : Option Addr) (cap : Nat) (its : List It) (a1 : Option Addr) (k1 : Nat) (v : List Num) (w : World) (hl : its.length ≤ 9223372036854775807) (_hc : Its w a0 its) (_hlv : v.length ≤ 9223372036854775807) (_h1 : Nms w a1 v) (h : 120 < its.length) :
    Calls Try.prog 8 #[.int .i64 g, .slice a0 its.length cap, .slice a1 v.length k1] w fun e w' => e = .returned (.bool true) ∧ Grew w w' := by
  have e1 : decide ((120 : Int) < its.length) = true := decide_eq_true (by omega)
  clear _hc hl h _hlv _h1
  go_enter Try.func8, Try.ntmps8
  go_wp2_with fail
  refine (awake_any _).mono ?_
  rintro e w' ⟨rfl, ga, na, rfl⟩
  go_wp2_with fail
  go_ret
  exact ⟨rfl, (by repeat (first | exact Grew.refl _ | refine Grew.drewN ?_ _ | refine Grew.grow ?_ _ | refine Grew.alloc ?_ _ | refine Grew.drew ?_))⟩

set_option maxRecDepth 100000 in
set_option maxHeartbeats 800000 in
theorem items_wide (g : Int) (a0 : Option Addr) (cap : Nat) (its : List It) (a1 : Option Addr) (k1 : Nat) (v : List Num) (w : World) (hl : its.length ≤ 9223372036854775807) (_hc : Its w a0 its) (hlv : v.length ≤ 9223372036854775807) (_h1 : Nms w a1 v) (h : its.length ≤ 120) (h2 : 20 < v.length) :
    Calls Try.prog 8 #[.int .i64 g, .slice a0 its.length cap, .slice a1 v.length k1] w fun e w' => e = .returned (.bool true) ∧ Grew w w' := by
  have e1 : decide ((120 : Int) < its.length) = false := decide_eq_false (by omega)
  have e2 : decide ((20 : Int) < v.length) = true := decide_eq_true (by omega)
  clear _hc hl h h2 hlv _h1
  go_enter Try.func8, Try.ntmps8
  go_wp2_with fail
  refine (awake_any _).mono ?_
  rintro e w' ⟨rfl, ga, na, rfl⟩
  go_wp2_with fail
  go_ret
  exact ⟨rfl, (by repeat (first | exact Grew.refl _ | refine Grew.drewN ?_ _ | refine Grew.grow ?_ _ | refine Grew.alloc ?_ _ | refine Grew.drew ?_))⟩

set_option maxRecDepth 100000 in
set_option maxHeartbeats 4000000 in
theorem items_main (g : Int) (a0 : Option Addr) (cap : Nat) (its : List It) (a1 : Option Addr) (k1 : Nat) (v : List Num) (w : World) (hl : its.length ≤ 9223372036854775807) (hc : Its w a0 its) (hlv : v.length ≤ 9223372036854775807) (h1 : Nms w a1 v) (h : its.length ≤ 120) (h2 : v.length ≤ 20) :
    Calls Try.prog 8 #[.int .i64 g, .slice a0 its.length cap, .slice a1 v.length k1] w fun e w' => e = .returned (.bool true) ∧ Grew w w' := by
  have e1 : decide ((120 : Int) < its.length) = false := decide_eq_false (by omega)
  have e2 : decide ((20 : Int) < v.length) = false := decide_eq_false (by omega)
  have HM1 := hid fun w' (hg : Grew w w') => matOf_any g a0 cap its w' hl (hc.grew hg)
  have HM2 := hid fun w' (hg : Grew w w') => rmatOf_any g a0 cap its w' hl (hc.grew hg)
  have HV1 := hid fun w' (hg : Grew w w') => vldI_any g a0 cap its w' hl (hc.grew hg)
  have HV2 := hid fun w' (hg : Grew w w') => rvldI_any g a0 cap its w' hl (hc.grew hg)
  have HL1 := hid fun w' (hg : Grew w w') => light_any g a0 cap its a1 k1 v w' hl (hc.grew hg) h2 (h1.grew hg)
  have HL2 := hid fun w' (hg : Grew w w') => rlight_any g a0 cap its a1 k1 v w' hl (hc.grew hg) h2 (h1.grew hg)
  have hLR : (matOf g its).1.length ≤ 9223372036854775807 := by
    unfold matOf
    split
    · rename_i hk
      by_cases he : (itsM g.toNat its (idN g.toNat)).2 = 0
      · rw [(itsM_shape its _ (idN_valid _) (idN_length _) he).2]
        have := Nat.mul_le_mul (show g.toNat ≤ 6 by have := chkIts_zero hk; omega) (show g.toNat ≤ 6 by have := chkIts_zero hk; omega)
        omega
      · rw [itsM_nil he]; exact Nat.zero_le _
    · exact Nat.zero_le _
  have hLQ : (litOf g its v).1.length ≤ 9223372036854775807 := litOf_len g its v h2
  obtain ⟨⟨L, E⟩, hR⟩ : ∃ R, matOf g its = R := ⟨_, rfl⟩
  obtain ⟨⟨V, Fe⟩, hQ⟩ : ∃ R, litOf g its v = R := ⟨_, rfl⟩
  obtain ⟨bv, hbv⟩ : ∃ b, vldIts g its = b := ⟨_, rfl⟩
  rw [hR] at HM1 HM2 hLR
  rw [hQ] at HL1 HL2 hLQ
  rw [hbv] at HV1 HV2
  dsimp only at hLR hLQ
  have HSM := hid fun (n : Int) a2 k2 a3 k3 w' (hA : Nms w' a2 L) (hB : Nms w' a3 L) => sameMatrix_same n a2 a3 k2 k3 L w' hLR hA hB
  have HSN := hid fun a2 k2 a3 k3 w' (hA : Nms w' a2 V) (hB : Nms w' a3 V) => sameNums_same a2 a3 k2 k3 V w' hLQ hA hB
  clear hc hl h h2 hlv h1 hR hQ hbv hLR hLQ
  go_enter Try.func8, Try.ntmps8
  go_wp2_with fail
  refine (HM1.out _ (by repeat (first | exact Grew.refl _ | refine Grew.drewN ?_ _ | refine Grew.grow ?_ _ | refine Grew.alloc ?_ _ | refine Grew.drew ?_))).mono ?_
  rintro e w' ⟨⟨am, km, rfl, hA⟩, g1, n1, rfl⟩
  dsimp only at hA ⊢
  obtain ⟨N, hN⟩ : ∃ N, rowsOf g.toNat E = N := ⟨_, rfl⟩
  rw [hN]
  have HNN := hid hN
  clear hN
  have HA := hid hA.undrew
  clear hA
  go_wp2_with fail
  refine (HM2.out _ (by repeat (first | exact Grew.refl _ | refine Grew.drewN ?_ _ | refine Grew.grow ?_ _ | refine Grew.alloc ?_ _ | refine Grew.drew ?_))).mono ?_
  rintro e w' ⟨⟨am2, km2, rfl, hB⟩, g2, n2, rfl⟩
  dsimp only at hB ⊢
  rw [HNN.out]
  simp only [World.grow_drewN, World.drewN_drewN] at hB
  have HB := hid hB.undrew
  clear hB
  go_wp2_with fail
  refine (HSM.out N _ _ _ _ _ (HA.out.grew (by repeat (first | exact Grew.refl _ | refine Grew.drewN ?_ _ | refine Grew.grow ?_ _ | refine Grew.alloc ?_ _ | refine Grew.drew ?_))) (HB.out.grew (by repeat (first | exact Grew.refl _ | refine Grew.drewN ?_ _ | refine Grew.grow ?_ _ | refine Grew.alloc ?_ _ | refine Grew.drew ?_)))).mono ?_
  rintro e w' ⟨rfl, g3, n3, rfl⟩
  go_wp2_with fail
  refine (HV1.out _ (by repeat (first | exact Grew.refl _ | refine Grew.drewN ?_ _ | refine Grew.grow ?_ _ | refine Grew.alloc ?_ _ | refine Grew.drew ?_))).mono ?_
  rintro e w' ⟨rfl, g4, n4, rfl⟩
  go_wp2_with fail
  refine (HV2.out _ (by repeat (first | exact Grew.refl _ | refine Grew.drewN ?_ _ | refine Grew.grow ?_ _ | refine Grew.alloc ?_ _ | refine Grew.drew ?_))).mono ?_
  rintro e w' ⟨rfl, g5, n5, rfl⟩
  go_wp2_with fail
  refine (HL1.out _ (by repeat (first | exact Grew.refl _ | refine Grew.drewN ?_ _ | refine Grew.grow ?_ _ | refine Grew.alloc ?_ _ | refine Grew.drew ?_))).mono ?_
  rintro e w' ⟨⟨al, kl, rfl, hC⟩, g6, n6, rfl⟩
  dsimp only at hC ⊢
  simp only [World.grow_drewN, World.grow_grow, World.drewN_drewN, List.append_assoc, Nat.add_assoc] at hC
  have HC := hid hC.undrew
  clear hC
  go_wp2_with fail
  refine (HL2.out _ (by repeat (first | exact Grew.refl _ | refine Grew.drewN ?_ _ | refine Grew.grow ?_ _ | refine Grew.alloc ?_ _ | refine Grew.drew ?_))).mono ?_
  rintro e w' ⟨⟨al2, kl2, rfl, hD⟩, g7, n7, rfl⟩
  dsimp only at hD ⊢
  simp only [World.grow_drewN, World.grow_grow, World.drewN_drewN, List.append_assoc, Nat.add_assoc] at hD
  have HD := hid hD.undrew
  clear hD
  go_wp2_with fail
  refine (HSN.out _ _ _ _ _ (HC.out.grew (by rw [show g3 ++ (g4 ++ (g5 ++ (g6 ++ g7))) = (g3 ++ (g4 ++ (g5 ++ g6))) ++ g7 by simp]; first | exact grew_app _ _ _ | exact (grew_app _ _ _).drewN _)) (HD.out.grew (by repeat (first | exact Grew.refl _ | refine Grew.drewN ?_ _ | refine Grew.grow ?_ _ | refine Grew.alloc ?_ _ | refine Grew.drew ?_)))).mono ?_
  rintro e w' ⟨rfl, g8, n8, rfl⟩
  go_wp2_with fail
  refine (awake_any _).mono ?_
  rintro e w' ⟨rfl, ga, na, rfl⟩
  go_wp2_with fail
  go_ret
  exact ⟨rfl, (by repeat (first | exact Grew.refl _ | refine Grew.drewN ?_ _ | refine Grew.grow ?_ _ | refine Grew.alloc ?_ _ | refine Grew.drew ?_))⟩

theorem items_any (g : Int) (a0 : Option Addr) (cap : Nat) (its : List It) (a1 : Option Addr) (k1 : Nat) (v : List Num) (w : World) (hl : its.length ≤ 9223372036854775807) (hc : Its w a0 its) (hlv : v.length ≤ 9223372036854775807) (h1 : Nms w a1 v) :
    Calls Try.prog 8 #[.int .i64 g, .slice a0 its.length cap, .slice a1 v.length k1] w fun e w' => e = .returned (.bool true) ∧ Grew w w' := by
  by_cases h : its.length ≤ 120
  case neg => exact items_long g a0 cap its a1 k1 v w hl hc hlv h1 (by omega)
  by_cases h2 : v.length ≤ 20
  case neg => exact items_wide g a0 cap its a1 k1 v w hl hc hlv h1 h (by omega)
  exact items_main g a0 cap its a1 k1 v w hl hc hlv h1 h h2
theorem meshItems_walk (g : Int) (a0 : Option Addr) (len cap : Nat) (a1 : Option Addr) (len1 cap1 : Nat) (w : World) (h : len = 0 ∨ ∃ (b off : Nat) (l : List It), a0 = some ⟨b, off, none⟩ ∧ len = l.length ∧ l.length ≤ 9223372036854775807 ∧ b < w.heap.size ∧ ItsAt w b off l)
    (h' : len1 = 0 ∨ ∃ (b off : Nat) (l : List Num), a1 = some ⟨b, off, none⟩ ∧ len1 = l.length ∧ l.length ≤ 9223372036854775807 ∧ b < w.heap.size ∧ NumsAt w b off l) :
    Calls Try.prog 8 #[.int .i64 g, .slice a0 len cap, .slice a1 len1 cap1] w fun e w' => e = .returned (.bool true) ∧ Grew w w' := by
  obtain ⟨its, rfl, h1, h2⟩ := its_of h
  obtain ⟨v, rfl, h3, h4⟩ := nums_of h'
  exact items_any g a0 cap its a1 cap1 v w h1 h2 h3 h4

end Go.Proofs.Ytkglnnkghillpaa
