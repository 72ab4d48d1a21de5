/- The walk of ProbeVectors: it returns true. Condition: the list that came in lies in memory. -/
import Derived.Test.YtecnidnaokbaiaaPrbJ
import Derived.Test.YtecnidnaokbaiaaOpenFrs
namespace Go.Proofs.Ytecnidnaokbaiaa
open Go Go.RowKit Prb

set_option maxHeartbeats 800000 in
theorem idx_nil (o : Option Addr) (cap : Nat) (w : World) :
    Calls Try.prog 36 #[.slice o 0 cap, .func (.func 27) #[] #[]] w fun e w' => e = .returned (.int .i64 (-1)) ∧ Grew w w' := by
  go_enter Try.func36, Try.ntmps36
  go_wp2_with fail
  refine wp_loop_rounds 1 ?_
  simp only [rounds_succ]
  go_wp2_with fail
  go_ret
  exact ⟨rfl, (by repeat (first | exact Grew.refl _ | refine Grew.drewN ?_ _ | refine Grew.grow ?_ _ | refine Grew.alloc ?_ _ | refine Grew.drew ?_))⟩

set_option maxHeartbeats 800000 in
theorem has_nil (o : Option Addr) (cap : Nat) (w : World) :
    Calls Try.prog 26 #[.slice o 0 cap, .func (.func 27) #[] #[]] w fun e w' => e = .returned (.bool false) ∧ Grew w w' := by
  have H := hid fun w => idx_nil o cap w
  go_enter Try.func26, Try.ntmps26
  go_wp2_with fail
  refine (H.out _).mono ?_
  rintro e w' ⟨rfl, g, n, rfl⟩
  go_wp2_with fail
  go_ret
  exact ⟨rfl, (by repeat (first | exact Grew.refl _ | refine Grew.drewN ?_ _ | refine Grew.grow ?_ _ | refine Grew.alloc ?_ _ | refine Grew.drew ?_))⟩

set_option maxHeartbeats 800000 in
theorem aMixed_nil (o : Option Addr) (cap : Nat) (w : World) :
    Calls Try.prog 17 #[.slice o 0 cap] w fun e w' => e = .returned (.tuple #[.agg #[.int .i64 0, .int .i64 0, .int .i64 0], .int .i64 2]) ∧ Grew w w' := by
  have H := hid fun w => has_nil o cap w
  go_enter Try.func17, Try.ntmps17
  go_wp2_with fail
  refine (H.out _).mono ?_
  rintro e w' ⟨rfl, g, n, rfl⟩
  go_wp2_with fail
  refine (between_low _ _ _ _ (by decide)).mono ?_
  rintro e w' ⟨rfl, g1, n1, rfl⟩
  go_wp2_with fail
  exact bodyPost_ret (v := .tuple #[.agg #[.int .i64 0, .int .i64 0, .int .i64 0], .int .i64 2]) (by simp [results, Try.results17, go_sem]) rfl ⟨rfl, (by repeat (first | exact Grew.refl _ | refine Grew.drewN ?_ _ | refine Grew.grow ?_ _ | refine Grew.alloc ?_ _ | refine Grew.drew ?_))⟩

set_option maxHeartbeats 800000 in
theorem rMixed_nil (o : Option Addr) (cap : Nat) (w : World) :
    Calls Try.prog 18 #[.slice o 0 cap] w fun e w' => e = .returned (.tuple #[.agg #[.int .i64 0, .int .i64 0, .int .i64 0], .int .i64 2]) ∧ Grew w w' := by
  go_enter Try.func18, Try.ntmps18
  go_wp2_with fail
  refine wp_loop_rounds 1 ?_
  simp only [rounds_succ]
  go_wp2_with fail
  exact bodyPost_ret (v := .tuple #[.agg #[.int .i64 0, .int .i64 0, .int .i64 0], .int .i64 2]) (by simp [results, Try.results18, go_sem]) rfl ⟨rfl, (by repeat (first | exact Grew.refl _ | refine Grew.drewN ?_ _ | refine Grew.grow ?_ _ | refine Grew.alloc ?_ _ | refine Grew.drew ?_))⟩

theorem run_neq_ratio (a b c d : Int) (w : World) : (binOp .neq 34 (.agg #[.int .i64 a, .int .i64 b]) (.agg #[.int .i64 c, .int .i64 d])).run Try.prog w = .ok (.bool (!(a == c && b == d))) w := by
  rw [run_neq_struct]
  simp [go_sem]
  by_cases h1 : a = c
  · by_cases h2 : b = d <;> simp [h1, h2]
  · simp [h1]
attribute [go_sem high] run_neq_ratio

set_option maxHeartbeats 800000 in
theorem probeVectors_walk (m x y : Int) (a0 : Option Addr) (len cap : Nat) (w : World) (h : len = 0 ∨ ∃ (b off : Nat) (l : List Fr), a0 = some ⟨b, off, none⟩ ∧ len = l.length ∧ l.length ≤ 9223372036854775807 ∧ b < w.heap.size ∧ FrsAt w b off l) :
    Calls Try.prog 5 #[.agg #[.int .i64 m, .int .i64 x, .int .i64 y], .slice a0 len cap] w fun e w' => e = .returned (.bool true) ∧ Grew w w' := by
  have V1 := fun w => aVis_any m x y w
  have V2 := fun w => rVis_any m x y w
  generalize visN m x y = v at V1 V2
  have O1 := fun w => aOctant_any m x y w
  have O2 := fun w => rOctant_any m x y w
  generalize octV m x y = ov at O1 O2
  generalize octE m x y = oe at O1 O2
  replace V1 := hid V1
  replace V2 := hid V2
  replace O1 := hid O1
  replace O2 := hid O2
  rcases h with rfl | ⟨b, off, l, rfl, rfl, hl, hb, hc⟩
  · have HA := hid fun w => aMixed_nil a0 cap w
    have HR := hid fun w => rMixed_nil a0 cap w
    go_enter Try.func5, Try.ntmps5
    go_wp2_with fail
    refine (V1.out _).mono ?_
    rintro e w' ⟨rfl, g0, n0, rfl⟩
    go_wp2_with fail
    refine (V2.out _).mono ?_
    rintro e w' ⟨rfl, g1, n1, rfl⟩
    go_wp2_with fail
    refine (O1.out _).mono ?_
    rintro e w' ⟨rfl, g2, n2, rfl⟩
    go_wp2_with fail
    refine (O2.out _).mono ?_
    rintro e w' ⟨rfl, g3, n3, rfl⟩
    go_wp2_with fail
    refine (HA.out _).mono ?_
    rintro e w' ⟨rfl, g4, n4, rfl⟩
    go_wp2_with fail
    refine (HR.out _).mono ?_
    rintro e w' ⟨rfl, g5, n5, rfl⟩
    go_wp2_with fail
    refine (awake9_any _).mono ?_
    rintro e w' ⟨rfl, g6, n6, rfl⟩
    go_wp2_with fail
    go_ret
    exact ⟨rfl, (by repeat (first | exact Grew.refl _ | refine Grew.drewN ?_ _ | refine Grew.grow ?_ _ | refine Grew.alloc ?_ _ | refine Grew.drew ?_))⟩
  · have HA := fun w' (hg : Grew w w') => aMixed_any b off cap l w' (Nat.lt_of_lt_of_le hb hg.size) hl (hc.grew hb hg)
    have HR := fun w' (hg : Grew w w') => rMixed_any b off cap l w' (Nat.lt_of_lt_of_le hb hg.size) hl (hc.grew hb hg)
    generalize mixN l = r at HA HR
    replace HA := hid HA
    replace HR := hid HR
    clear hc
    go_enter Try.func5, Try.ntmps5
    go_wp2_with fail
    refine (V1.out _).mono ?_
    rintro e w' ⟨rfl, g0, n0, rfl⟩
    go_wp2_with fail
    refine (V2.out _).mono ?_
    rintro e w' ⟨rfl, g1, n1, rfl⟩
    go_wp2_with fail
    refine (O1.out _).mono ?_
    rintro e w' ⟨rfl, g2, n2, rfl⟩
    go_wp2_with fail
    refine (O2.out _).mono ?_
    rintro e w' ⟨rfl, g3, n3, rfl⟩
    go_wp2_with fail
    refine (HA.out _ (by repeat (first | exact Grew.refl _ | refine Grew.drewN ?_ _ | refine Grew.grow ?_ _ | refine Grew.alloc ?_ _ | refine Grew.drew ?_))).mono ?_
    rintro e w' ⟨rfl, g4, n4, rfl⟩
    go_wp2_with fail
    refine (HR.out _ (by repeat (first | exact Grew.refl _ | refine Grew.drewN ?_ _ | refine Grew.grow ?_ _ | refine Grew.alloc ?_ _ | refine Grew.drew ?_))).mono ?_
    rintro e w' ⟨rfl, g5, n5, rfl⟩
    go_wp2_with fail
    refine (awake9_any _).mono ?_
    rintro e w' ⟨rfl, g6, n6, rfl⟩
    go_wp2_with fail
    go_ret
    exact ⟨rfl, (by repeat (first | exact Grew.refl _ | refine Grew.drewN ?_ _ | refine Grew.grow ?_ _ | refine Grew.alloc ?_ _ | refine Grew.drew ?_))⟩

end Go.Proofs.Ytecnidnaokbaiaa
