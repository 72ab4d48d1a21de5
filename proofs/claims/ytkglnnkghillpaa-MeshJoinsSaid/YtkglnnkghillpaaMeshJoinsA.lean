/- The law MeshJoins returns true. Condition: the items and the numbers lie in memory. -/
import Derived.Test.YtkglnnkghillpaaItsApp
import Derived.Test.YtkglnnkghillpaaLitD
import Derived.Test.YtkglnnkghillpaaMshW
import Derived.Test.YtkglnnkghillpaaOpenNums
import Derived.Test.YtkglnnkghillpaaMshLin
namespace Go.Proofs.Ytkglnnkghillpaa
open Go Go.RowKit Amp Msh

set_option maxRecDepth 100000 in
set_option maxHeartbeats 800000 in
theorem joins_long (g : Int) (a0 : Option Addr) (cap : Nat) (its : List It) (a1 : Option Addr) (cap1 : Nat) (itm : List It) (a2 : Option Addr) (k2 : Nat) (v : List Num) (w : World) (S : Int) (hS : wrap64 ((its.length : Int) + itm.length) = S) (h : 60 < S) :
    Calls Try.prog 9 #[.int .i64 g, .slice a0 its.length cap, .slice a1 itm.length cap1, .slice a2 v.length k2] w fun e w' => e = .returned (.bool true) ∧ Grew w w' := by
  have e1 : decide ((60 : Int) < S) = true := decide_eq_true h
  clear h
  go_enter Try.func9, Try.ntmps9
  go_wp2_with fail
  refine (awake_any _).mono ?_
  rintro e w' ⟨rfl, ga, na, rfl⟩
  go_wp2_with fail
  go_ret
  exact ⟨rfl, (by repeat (first | exact Grew.refl _ | refine Grew.drewN ?_ _ | refine Grew.grow ?_ _ | refine Grew.alloc ?_ _ | refine Grew.drew ?_))⟩

set_option maxRecDepth 100000 in
set_option maxHeartbeats 800000 in
theorem joins_bad1 (g : Int) (a0 : Option Addr) (cap : Nat) (its : List It) (a1 : Option Addr) (cap1 : Nat) (itm : List It) (a2 : Option Addr) (k2 : Nat) (v : List Num) (w : World) (S : Int) (hS : wrap64 ((its.length : Int) + itm.length) = S) (h : ¬ 60 < S) (hl : its.length ≤ 9223372036854775807) (hc : Its w a0 its) (hk : ¬ chkIts g its = 0) :
    Calls Try.prog 9 #[.int .i64 g, .slice a0 its.length cap, .slice a1 itm.length cap1, .slice a2 v.length k2] w fun e w' => e = .returned (.bool true) ∧ Grew w w' := by
  have e1 : decide ((60 : Int) < S) = false := decide_eq_false h
  have HK1 := hid fun w' (h : Grew w w') => asked_any g a0 cap its w' hl (hc.grew h)
  obtain ⟨E, hE⟩ : ∃ E, chkIts g its = E := ⟨_, rfl⟩
  rw [hE] at HK1 hk
  have e2 : (E != 0) = true := by simpa using hk
  clear h hl hc hE hk
  go_enter Try.func9, Try.ntmps9
  go_wp2_with fail
  refine (HK1.out _ (by repeat (first | exact Grew.refl _ | refine Grew.drewN ?_ _ | refine Grew.grow ?_ _ | refine Grew.alloc ?_ _ | refine Grew.drew ?_))).mono ?_
  rintro e w' ⟨rfl, g1, m1, rfl⟩
  go_wp2_with fail
  refine (awake_any _).mono ?_
  rintro e w' ⟨rfl, ga, na, rfl⟩
  go_wp2_with fail
  go_ret
  exact ⟨rfl, (by repeat (first | exact Grew.refl _ | refine Grew.drewN ?_ _ | refine Grew.grow ?_ _ | refine Grew.alloc ?_ _ | refine Grew.drew ?_))⟩

set_option maxRecDepth 100000 in
set_option maxHeartbeats 800000 in
theorem joins_bad2 (g : Int) (a0 : Option Addr) (cap : Nat) (its : List It) (a1 : Option Addr) (cap1 : Nat) (itm : List It) (a2 : Option Addr) (k2 : Nat) (v : List Num) (w : World) (S : Int) (hS : wrap64 ((its.length : Int) + itm.length) = S) (h : ¬ 60 < S) (hl : its.length ≤ 9223372036854775807) (hc : Its w a0 its) (hm : itm.length ≤ 9223372036854775807) (hcm : Its w a1 itm) (hk : chkIts g its = 0) (hkm : ¬ chkIts g itm = 0) :
    Calls Try.prog 9 #[.int .i64 g, .slice a0 its.length cap, .slice a1 itm.length cap1, .slice a2 v.length k2] w fun e w' => e = .returned (.bool true) ∧ Grew w w' := by
  have e1 : decide ((60 : Int) < S) = false := decide_eq_false h
  have HK1 := hid fun w' (h : Grew w w') => asked_any g a0 cap its w' hl (hc.grew h)
  have HK2 := hid fun w' (h : Grew w w') => asked_any g a1 cap1 itm w' hm (hcm.grew h)
  rw [hk] at HK1
  obtain ⟨E, hE⟩ : ∃ E, chkIts g itm = E := ⟨_, rfl⟩
  rw [hE] at HK2 hkm
  have e2 : (E != 0) = true := by simpa using hkm
  clear h hl hc hE hk hkm hm hcm
  go_enter Try.func9, Try.ntmps9
  go_wp2_with fail
  refine (HK1.out _ (by repeat (first | exact Grew.refl _ | refine Grew.drewN ?_ _ | refine Grew.grow ?_ _ | refine Grew.alloc ?_ _ | refine Grew.drew ?_))).mono ?_
  rintro e w' ⟨rfl, g1, m1, rfl⟩
  go_wp2_with fail
  refine (HK2.out _ (by repeat (first | exact Grew.refl _ | refine Grew.drewN ?_ _ | refine Grew.grow ?_ _ | refine Grew.alloc ?_ _ | refine Grew.drew ?_))).mono ?_
  rintro e w' ⟨rfl, g2, m2, rfl⟩
  go_wp2_with fail
  refine (awake_any _).mono ?_
  rintro e w' ⟨rfl, ga, na, rfl⟩
  go_wp2_with fail
  go_ret
  exact ⟨rfl, (by repeat (first | exact Grew.refl _ | refine Grew.drewN ?_ _ | refine Grew.grow ?_ _ | refine Grew.alloc ?_ _ | refine Grew.drew ?_))⟩

set_option maxRecDepth 100000 in
set_option maxHeartbeats 800000 in
theorem joins_size (g : Int) (a0 : Option Addr) (cap : Nat) (its : List It) (a1 : Option Addr) (cap1 : Nat) (itm : List It) (a2 : Option Addr) (k2 : Nat) (v : List Num) (w : World) (S : Int) (hS : wrap64 ((its.length : Int) + itm.length) = S) (h : ¬ 60 < S) (hl : its.length ≤ 9223372036854775807) (hc : Its w a0 its) (hm : itm.length ≤ 9223372036854775807) (hcm : Its w a1 itm) (hk : chkIts g its = 0) (hkm : chkIts g itm = 0) (hn : ¬ (v.length : Int) = g) :
    Calls Try.prog 9 #[.int .i64 g, .slice a0 its.length cap, .slice a1 itm.length cap1, .slice a2 v.length k2] w fun e w' => e = .returned (.bool true) ∧ Grew w w' := by
  have e1 : decide ((60 : Int) < S) = false := decide_eq_false h
  have HK1 := hid fun w' (h : Grew w w') => asked_any g a0 cap its w' hl (hc.grew h)
  have HK2 := hid fun w' (h : Grew w w') => asked_any g a1 cap1 itm w' hm (hcm.grew h)
  rw [hk] at HK1
  rw [hkm] at HK2
  have e2 : ((v.length : Int) != g) = true := by simpa using hn
  clear h hl hc hk hkm hm hcm hn
  go_enter Try.func9, Try.ntmps9
  go_wp2_with fail
  refine (HK1.out _ (by repeat (first | exact Grew.refl _ | refine Grew.drewN ?_ _ | refine Grew.grow ?_ _ | refine Grew.alloc ?_ _ | refine Grew.drew ?_))).mono ?_
  rintro e w' ⟨rfl, g1, m1, rfl⟩
  go_wp2_with fail
  refine (HK2.out _ (by repeat (first | exact Grew.refl _ | refine Grew.drewN ?_ _ | refine Grew.grow ?_ _ | refine Grew.alloc ?_ _ | refine Grew.drew ?_))).mono ?_
  rintro e w' ⟨rfl, g2, m2, rfl⟩
  go_wp2_with fail
  refine (awake_any _).mono ?_
  rintro e w' ⟨rfl, ga, na, rfl⟩
  go_wp2_with fail
  go_ret
  exact ⟨rfl, (by repeat (first | exact Grew.refl _ | refine Grew.drewN ?_ _ | refine Grew.grow ?_ _ | refine Grew.alloc ?_ _ | refine Grew.drew ?_))⟩

set_option maxRecDepth 100000 in
set_option maxHeartbeats 800000 in
theorem joins_vec (g : Int) (a0 : Option Addr) (cap : Nat) (its : List It) (a1 : Option Addr) (cap1 : Nat) (itm : List It) (a2 : Option Addr) (k2 : Nat) (v : List Num) (w : World) (S : Int) (hS : wrap64 ((its.length : Int) + itm.length) = S) (h : ¬ 60 < S) (hl : its.length ≤ 9223372036854775807) (hc : Its w a0 its) (hm : itm.length ≤ 9223372036854775807) (hcm : Its w a1 itm) (hlv : v.length ≤ 9223372036854775807) (h1 : Nms w a2 v) (hk : chkIts g its = 0) (hkm : chkIts g itm = 0) (hn : (v.length : Int) = g) (hv : isVec v = false) :
    Calls Try.prog 9 #[.int .i64 g, .slice a0 its.length cap, .slice a1 itm.length cap1, .slice a2 v.length k2] w fun e w' => e = .returned (.bool true) ∧ Grew w w' := by
  have e1 : decide ((60 : Int) < S) = false := decide_eq_false h
  have HK1 := hid fun w' (h : Grew w w') => asked_any g a0 cap its w' hl (hc.grew h)
  have HK2 := hid fun w' (h : Grew w w') => asked_any g a1 cap1 itm w' hm (hcm.grew h)
  have HV := hid fun w' (h : Grew w w') => isVec_any a2 k2 v w' hlv (h1.grew h)
  rw [hk] at HK1
  rw [hkm] at HK2
  rw [hv] at HV
  have e2 : ((v.length : Int) != g) = false := by simp [hn]
  clear h hl hc hk hkm hm hcm hn hlv h1 hv
  go_enter Try.func9, Try.ntmps9
  go_wp2_with fail
  refine (HK1.out _ (by repeat (first | exact Grew.refl _ | refine Grew.drewN ?_ _ | refine Grew.grow ?_ _ | refine Grew.alloc ?_ _ | refine Grew.drew ?_))).mono ?_
  rintro e w' ⟨rfl, g1, m1, rfl⟩
  go_wp2_with fail
  refine (HK2.out _ (by repeat (first | exact Grew.refl _ | refine Grew.drewN ?_ _ | refine Grew.grow ?_ _ | refine Grew.alloc ?_ _ | refine Grew.drew ?_))).mono ?_
  rintro e w' ⟨rfl, g2, m2, rfl⟩
  go_wp2_with fail
  refine (HV.out _ (by repeat (first | exact Grew.refl _ | refine Grew.drewN ?_ _ | refine Grew.grow ?_ _ | refine Grew.alloc ?_ _ | refine Grew.drew ?_))).mono ?_
  rintro e w' ⟨rfl, g3, m3, rfl⟩
  go_wp2_with fail
  refine (awake_any _).mono ?_
  rintro e w' ⟨rfl, ga, na, rfl⟩
  go_wp2_with fail
  go_ret
  exact ⟨rfl, (by repeat (first | exact Grew.refl _ | refine Grew.drewN ?_ _ | refine Grew.grow ?_ _ | refine Grew.alloc ?_ _ | refine Grew.drew ?_))⟩

end Go.Proofs.Ytkglnnkghillpaa
