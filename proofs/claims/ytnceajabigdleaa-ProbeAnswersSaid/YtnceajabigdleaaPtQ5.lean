/- Layer 9, in main's ghost: awake. No condition. -/
import Derived.Test.YtnceajabigdleaaPtQ4
namespace Go.Proofs.Qm
open Go Go.Pt Go.RowKit

set_option maxHeartbeats 1600000 in
theorem vf_any (w : World) : Calls prog 34 #[.agg #[.int .i64 12, .int .i64 8, .int .i64 2]] w fun e w' => e = .returned (.bool true) ∧ Grew w w' := by
  have HB := hid fun a n b w => btwG a n b w
  go_enter func34, ntmps34
  go_wp2_with fail
  refine (HB.out _ _ _ _).mono ?_
  rintro e w' ⟨rfl, g0, n0, rfl⟩
  go_wp2_with fail
  refine (HB.out _ _ _ _).mono ?_
  rintro e w' ⟨rfl, g1, n1, rfl⟩
  go_wp2_with fail
  refine (HB.out _ _ _ _).mono ?_
  rintro e w' ⟨rfl, g2, n2, rfl⟩
  go_wp2_with fail
  exact bodyPost_ret (v := .bool true) (by simp [results, results34, go_sem]) rfl ⟨rfl, (by repeat (first | exact Grew.refl _ | refine Grew.drewN ?_ _ | refine Grew.grow ?_ _ | refine Grew.alloc ?_ _ | refine Grew.drew ?_))⟩
set_option maxHeartbeats 1600000 in
theorem vis_any (w : World) : Calls prog 23 #[.agg #[.int .i64 12, .int .i64 8, .int .i64 2]] w fun e w' => e = .returned (.tuple #[.agg #[.int .i64 17, .int .i64 36], .int .i64 0]) ∧ Grew w w' := by
  have HV := hid fun w => vf_any w
  go_enter func23, ntmps23
  go_wp2_with fail
  refine (HV.out _).mono ?_
  rintro e w' ⟨rfl, g0, n0, rfl⟩
  go_wp2_with fail
  refine wp_region_gentle_lit (by kernel_rfl) (by kernel_rfl) ?_
  repeat (first | go_big_quiet_skip | (go_big_quiet_want; go_big_quiet_op; first | go_big_quiet_on | fail))
  refine wpQuiet_nil ?_
  rintro _ ⟨gg, ng, rfl⟩
  go_wp2_with fail
  refine wp_loop_rounds 6 ?_
  iterate 4
    simp only [rounds_succ]
    go_wp2_with fail
    refine wp_region_gentle_lit (by kernel_rfl) (by kernel_rfl) ?_
    repeat (first | go_big_quiet_skip | (go_big_quiet_want; go_big_quiet_op; first | go_big_quiet_on | fail))
    refine wpQuiet_nil ?_
    rintro _ ⟨gg, ng, rfl⟩
    go_wp2_with fail
  simp only [rounds_succ]
  go_wp2_with fail
  refine wp_region_gentle_tail 7 (by kernel_rfl) (by kernel_rfl) (by kernel_rfl) ?_
  simp only [List.take_succ_cons, List.take_zero, List.drop_succ_cons, List.drop_zero]
  repeat (first | go_big_quiet_skip | (go_big_quiet_want; go_big_quiet_op; first | go_big_quiet_on | fail))
  refine wpQuiet_nil ?_
  rintro _ ⟨gg, ng, rfl⟩
  go_wp2_with fail
  exact bodyPost_ret (v := .tuple #[.agg #[.int .i64 17, .int .i64 36], .int .i64 0]) (by simp [results, results23, go_sem]) rfl ⟨rfl, (by repeat (first | exact Grew.refl _ | refine Grew.drewN ?_ _ | refine Grew.grow ?_ _ | refine Grew.alloc ?_ _ | refine Grew.drew ?_))⟩
theorem rt1 : prog.stoodInHeld 47 = false := by kernel_rfl
@[go_sem] theorem rt2 : prog.eqGuardType prog.depth 47 = false := by kernel_rfl
theorem rt3 : prog.fieldsOf 47 = Try.prog.fieldsOf 47 := by kernel_rfl
theorem run_eql_ratio (a b c d : Int) (w : World) : (binOp .eql 47 (.agg #[.int .i64 a, .int .i64 b]) (.agg #[.int .i64 c, .int .i64 d])).run prog w = .ok (.bool (a == c && b == d)) w := by
  rw [run_eql_struct, run_equalIn_agg w 9999 47 _ _ (by rw [rt3]; simp [go_sem]) rt1, rt3]
  simp [go_sem]
  by_cases h1 : a = c
  · by_cases h2 : b = d <;> simp [h1, h2]
  · simp [h1]
attribute [go_sem high] run_eql_ratio
set_option maxRecDepth 100000 in
set_option maxHeartbeats 1600000 in
theorem awake_any (w : World) : Calls prog 10 #[] w fun e w' => e = .returned (.bool true) ∧ Grew w w' := by
  have HV := hid fun w => vis_any w
  go_enter func10, ntmps10
  go_wp2_with fail
  refine (HV.out _).mono ?_
  rintro e w' ⟨rfl, g, n, rfl⟩
  go_wp2_with fail
  exact bodyPost_ret (v := .bool true) (by simp [results, results10, go_sem]) rfl ⟨rfl, (by repeat (first | exact Grew.refl _ | refine Grew.drewN ?_ _ | refine Grew.grow ?_ _ | refine Grew.alloc ?_ _ | refine Grew.drew ?_))⟩
end Go.Proofs.Qm
/- The law ProbeAnswers, in main's ghost. Condition: the test's settings lie in memory. -/
namespace Go.Proofs.Qm
open Go Go.Pt Go.RowKit

set_option maxRecDepth 100000 in
set_option maxHeartbeats 3200000 in
theorem probeAnswers_walk (n s i o : Int) (a : Option Addr) (len cap : Nat) (l : List Bool) (w : World) (hl : len ≤ 9223372036854775807) (ht : TurnAt w a len l) :
    Calls prog 3 #[.int .i64 n, .int .i64 s, .agg #[.slice a len cap, .int .i64 i, .int .i64 o]] w fun e w' => e = .returned (.bool true) ∧ Grew w w' := by
  obtain ⟨⟨x, y⟩, hA, hB⟩ := Answers n s a len cap i l w hl ht
  obtain ⟨⟨u, v⟩, hC, hD⟩ := Agrees_both n s i o a len cap l w hl ht
  dsimp only at hA hB hC hD
  have HA := hid hA
  have HB := hid hB
  have HC := hid hC
  have HD := hid hD
  have HS := hid fun w => States_any n w
  have HR := hid fun w => rStates_any n w
  have HW := hid fun w => awake_any w
  obtain ⟨⟨p, q⟩, hpq⟩ : ∃ z, stZ n = z := ⟨_, rfl⟩
  rw [hpq] at HS HR
  dsimp only at HS HR
  clear hA hB hC hD ht hpq
  go_enter func3, ntmps3
  go_wp2_with fail
  refine (HS.out _).mono ?_
  rintro e w' ⟨rfl, g1, n1, rfl⟩
  go_wp2_with fail
  refine (HR.out _).mono ?_
  rintro e w' ⟨rfl, g2, n2, rfl⟩
  go_wp2_with fail
  refine (HA.out _ (by repeat (first | exact Grew.refl _ | refine Grew.drewN ?_ _ | refine Grew.grow ?_ _ | refine Grew.alloc ?_ _ | refine Grew.drew ?_))).mono ?_
  rintro e w' ⟨rfl, g3, n3, rfl⟩
  go_wp2_with fail
  refine (HB.out _ (by repeat (first | exact Grew.refl _ | refine Grew.drewN ?_ _ | refine Grew.grow ?_ _ | refine Grew.alloc ?_ _ | refine Grew.drew ?_))).mono ?_
  rintro e w' ⟨rfl, g4, n4, rfl⟩
  go_wp2_with fail
  refine (HC.out _ (by repeat (first | exact Grew.refl _ | refine Grew.drewN ?_ _ | refine Grew.grow ?_ _ | refine Grew.alloc ?_ _ | refine Grew.drew ?_))).mono ?_
  rintro e w' ⟨rfl, g5, n5, rfl⟩
  go_wp2_with fail
  refine (HD.out _ (by repeat (first | exact Grew.refl _ | refine Grew.drewN ?_ _ | refine Grew.grow ?_ _ | refine Grew.alloc ?_ _ | refine Grew.drew ?_))).mono ?_
  rintro e w' ⟨rfl, g6, n6, rfl⟩
  go_wp2_with fail
  refine (HW.out _).mono ?_
  rintro e w' ⟨rfl, g7, n7, rfl⟩
  go_wp2_with fail
  exact bodyPost_ret (v := .bool true) (by simp [results, results3, go_sem]) rfl ⟨rfl, (by repeat (first | exact Grew.refl _ | refine Grew.drewN ?_ _ | refine Grew.grow ?_ _ | refine Grew.alloc ?_ _ | refine Grew.drew ?_))⟩
end Go.Proofs.Qm
