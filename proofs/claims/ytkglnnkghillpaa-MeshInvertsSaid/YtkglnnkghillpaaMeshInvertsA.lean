/- The law MeshInverts returns true. Condition: the items lie in memory. -/
import Derived.Test.YtkglnnkghillpaaMshInvW
import Derived.Test.YtkglnnkghillpaaMshInvV
import Derived.Test.YtkglnnkghillpaaMshW
import Derived.Test.YtkglnnkghillpaaMshX
namespace Go.Proofs.Ytkglnnkghillpaa
open Go Go.RowKit Amp Msh

theorem Its.below {w w' : World} {a0 : Option Addr} {l : List It} (h : Its w a0 l) (hb : Below w.heap.size w w') : Its w' a0 l := by
  rcases h with h | ⟨b, off, h, hl, hc⟩
  · exact .inl h
  · refine .inr ⟨b, off, h, Nat.lt_of_lt_of_le hl hb.size, fun i z hz => ?_⟩
    obtain ⟨c0, c1, c2, c3⟩ := hc i z hz
    exact ⟨(hb.cell (p := ⟨b, _, none⟩) hl).trans c0, (hb.cell (p := ⟨b, _, none⟩) hl).trans c1, (hb.cell (p := ⟨b, _, none⟩) hl).trans c2, (hb.cell (p := ⟨b, _, none⟩) hl).trans c3⟩
theorem Nms.below {w w' : World} {a0 : Option Addr} {l : List Num} (h : Nms w a0 l) (hb : Below w.heap.size w w') : Nms w' a0 l := by
  rcases h with h | ⟨b, off, h, hl, hc⟩
  · exact .inl h
  · refine .inr ⟨b, off, h, Nat.lt_of_lt_of_le hl hb.size, fun i z hz => ?_⟩
    obtain ⟨c0, c1, c2, c3, c4⟩ := hc i z hz
    exact ⟨(hb.cell (p := ⟨b, _, none⟩) hl).trans c0, (hb.cell (p := ⟨b, _, none⟩) hl).trans c1, (hb.cell (p := ⟨b, _, none⟩) hl).trans c2, (hb.cell (p := ⟨b, _, none⟩) hl).trans c3, (hb.cell (p := ⟨b, _, none⟩) hl).trans c4⟩
theorem OwnI.none {w : World} {base : Nat} {a0 : Option Addr} {k0 : Nat} {l : List It} (h : OwnI w base a0 k0 l) : a0 = none → l.length = 0 ∧ k0 = 0 := by
  rintro rfl
  rcases h.2 with ⟨h1, h2⟩ | ⟨g, cap, cur, h1, _⟩
  · injection h1 with _ _ e3
    exact ⟨h2, e3⟩
  · injection h1 with e1
    cases e1
theorem below_grew {w w2 w' : World} (h : Below w.heap.size w w2) (g : Grew w2 w') : Below w.heap.size w w' := h.trans (g.below.mono h.size)

set_option maxRecDepth 100000 in
set_option maxHeartbeats 800000 in
theorem inverts_long (g : Int) (a0 : Option Addr) (cap : Nat) (its : List It) (w : World) (hl : its.length ≤ 9223372036854775807) (_hc : Its w a0 its) (h : 40 < its.length) :
    Calls Try.prog 4 #[.int .i64 g, .slice a0 its.length cap] w fun e w' => e = .returned (.bool true) ∧ Below w.heap.size w w' := by
  have e1 : decide ((40 : Int) < its.length) = true := decide_eq_true (by omega)
  clear _hc hl h
  go_enter Try.func4, Try.ntmps4
  go_wp2_with fail
  refine (awake_any _).mono ?_
  rintro e w' ⟨rfl, ga, na, rfl⟩
  go_wp2_with fail
  go_ret
  exact ⟨rfl, Grew.below (by repeat (first | exact Grew.refl _ | refine Grew.drewN ?_ _ | refine Grew.grow ?_ _ | refine Grew.alloc ?_ _ | refine Grew.drew ?_))⟩

set_option maxRecDepth 100000 in
set_option maxHeartbeats 800000 in
theorem inverts_chk (g : Int) (a0 : Option Addr) (cap : Nat) (its : List It) (w : World) (hl : its.length ≤ 9223372036854775807) (hc : Its w a0 its) (h : its.length ≤ 40) (hk : ¬ chkIts g its = 0) :
    Calls Try.prog 4 #[.int .i64 g, .slice a0 its.length cap] w fun e w' => e = .returned (.bool true) ∧ Below w.heap.size w w' := by
  have e1 : decide ((40 : Int) < its.length) = false := decide_eq_false (by omega)
  have HK1 := hid fun w' (h : Grew w w') => asked_any g a0 cap its w' hl (hc.grew h)
  obtain ⟨E, hE⟩ : ∃ E, chkIts g its = E := ⟨_, rfl⟩
  rw [hE] at HK1 hk
  have e2 : (E != 0) = true := by simpa using hk
  clear h hl hc hE hk
  go_enter Try.func4, Try.ntmps4
  go_wp2_with fail
  refine (HK1.out _ (by repeat (first | exact Grew.refl _ | refine Grew.drewN ?_ _ | refine Grew.grow ?_ _ | refine Grew.alloc ?_ _ | refine Grew.drew ?_))).mono ?_
  rintro e w' ⟨rfl, g1, m1, rfl⟩
  go_wp2_with fail
  refine (awake_any _).mono ?_
  rintro e w' ⟨rfl, ga, na, rfl⟩
  go_wp2_with fail
  go_ret
  exact ⟨rfl, Grew.below (by repeat (first | exact Grew.refl _ | refine Grew.drewN ?_ _ | refine Grew.grow ?_ _ | refine Grew.alloc ?_ _ | refine Grew.drew ?_))⟩

set_option maxRecDepth 100000 in
set_option maxHeartbeats 800000 in
theorem inverts_err (g : Int) (a0 : Option Addr) (cap : Nat) (its : List It) (w : World) (hl : its.length ≤ 9223372036854775807) (hc : Its w a0 its) (h : its.length ≤ 40) (hk : chkIts g its = 0) (he : ¬ (matOf g its).2 = 0) :
    Calls Try.prog 4 #[.int .i64 g, .slice a0 its.length cap] w fun e w' => e = .returned (.bool true) ∧ Below w.heap.size w w' := by
  have e1 : decide ((40 : Int) < its.length) = false := decide_eq_false (by omega)
  have HK1 := hid fun w' (h : Grew w w') => asked_any g a0 cap its w' hl (hc.grew h)
  rw [hk] at HK1
  have HMA := hid fun w' (hg : Grew w w') => matOf_any g a0 cap its w' hl (hc.grew hg)
  obtain ⟨⟨A, E⟩, hA⟩ : ∃ R, matOf g its = R := ⟨_, rfl⟩
  rw [hA] at HMA he
  have e2 : (E != 0) = true := by simpa using he
  clear h hl hc hk he hA
  go_enter Try.func4, Try.ntmps4
  go_wp2_with fail
  refine (HK1.out _ (by repeat (first | exact Grew.refl _ | refine Grew.drewN ?_ _ | refine Grew.grow ?_ _ | refine Grew.alloc ?_ _ | refine Grew.drew ?_))).mono ?_
  rintro e w' ⟨rfl, g1, m1, rfl⟩
  go_wp2_with fail
  refine (HMA.out _ (by repeat (first | exact Grew.refl _ | refine Grew.drewN ?_ _ | refine Grew.grow ?_ _ | refine Grew.alloc ?_ _ | refine Grew.drew ?_))).mono ?_
  rintro e w' ⟨⟨am, km, rfl, hA⟩, g2, m2, rfl⟩
  dsimp only
  clear hA
  go_wp2_with fail
  refine (awake_any _).mono ?_
  rintro e w' ⟨rfl, ga, na, rfl⟩
  go_wp2_with fail
  go_ret
  exact ⟨rfl, Grew.below (by repeat (first | exact Grew.refl _ | refine Grew.drewN ?_ _ | refine Grew.grow ?_ _ | refine Grew.alloc ?_ _ | refine Grew.drew ?_))⟩

end Go.Proofs.Ytkglnnkghillpaa
