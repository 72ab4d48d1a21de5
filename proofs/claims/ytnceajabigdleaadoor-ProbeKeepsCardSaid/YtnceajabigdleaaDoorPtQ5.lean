/- Layer 9, in main's ghost: awake. No condition. -/
import Derived.Test.YtnceajabigdleaaDoorPtQ3
namespace Go.Proofs.Qm
open Go Go.Pt Go.RowKit
set_option maxHeartbeats 1600000 in
theorem vf_any (w:World):Calls prog 61 #[.agg #[.int .i64 12,.int .i64 8,.int .i64 2]] w fun e w'=>e=.returned (.bool true)∧Grew w w':=by
 have HB:=hid fun a n b w=>btwG a n b w
 go_enter func61,ntmps61
 go_wp2_with fail
 refine (HB.out _ _ _ _).mono ?_;rintro e w' ⟨rfl,g0,n0,rfl⟩;go_wp2_with fail
 refine (HB.out _ _ _ _).mono ?_;rintro e w' ⟨rfl,g1,n1,rfl⟩;go_wp2_with fail
 refine (HB.out _ _ _ _).mono ?_;rintro e w' ⟨rfl,g2,n2,rfl⟩;go_wp2_with fail
 exact bodyPost_ret (v:=.bool true) (by simp [results,go_sem]) rfl ⟨rfl,gw0⟩
set_option maxHeartbeats 1600000 in
theorem vis_any (w:World):Calls prog 30 #[.agg #[.int .i64 12,.int .i64 8,.int .i64 2]] w fun e w'=>e=.returned (.tuple #[.agg #[.int .i64 17,.int .i64 36],.int .i64 0])∧Grew w w':=by
 have HV:=hid fun w=>vf_any w
 go_enter func30,ntmps30
 go_wp2_with fail
 refine (HV.out _).mono ?_;rintro e w' ⟨rfl,g0,n0,rfl⟩;go_wp2_with fail
 refine wp_region_gentle_lit (by kernel_rfl) (by kernel_rfl) ?_;repeat (first | go_big_quiet_skip | (go_big_quiet_want;go_big_quiet_op;first | go_big_quiet_on | fail))
 refine wpQuiet_nil ?_;rintro _ ⟨gg,ng,rfl⟩;go_wp2_with fail
 refine wp_loop_rounds 6 ?_
 iterate 4
  simp only [rounds_succ];go_wp2_with fail
  refine wp_region_gentle_lit (by kernel_rfl) (by kernel_rfl) ?_;repeat (first | go_big_quiet_skip | (go_big_quiet_want;go_big_quiet_op;first | go_big_quiet_on | fail))
  refine wpQuiet_nil ?_;rintro _ ⟨gg,ng,rfl⟩;go_wp2_with fail
 simp only [rounds_succ];go_wp2_with fail
 refine wp_region_gentle_tail 7 (by kernel_rfl) (by kernel_rfl) (by kernel_rfl) ?_;simp only [List.take_succ_cons,List.take_zero,List.drop_succ_cons,List.drop_zero];repeat (first | go_big_quiet_skip | (go_big_quiet_want;go_big_quiet_op;first | go_big_quiet_on | fail))
 refine wpQuiet_nil ?_;rintro _ ⟨gg,ng,rfl⟩;go_wp2_with fail
 exact bodyPost_ret (v:=.tuple #[.agg #[.int .i64 17,.int .i64 36],.int .i64 0]) (by simp [results,go_sem]) rfl ⟨rfl,gw0⟩
theorem rt1:prog.stoodInHeld 61=false:=by kernel_rfl
@[go_sem] theorem rt2:prog.eqGuardType prog.depth 61=false:=by kernel_rfl
theorem rt3:prog.fieldsOf 61=Tryd.prog.fieldsOf 61:=by kernel_rfl
theorem run_eql_ratio (a b c d:Int) (w:World):(binOp .eql 61 (.agg #[.int .i64 a,.int .i64 b]) (.agg #[.int .i64 c,.int .i64 d])).run prog w=.ok (.bool (a==c&&b==d)) w:=by
 rw [run_eql_struct,run_equalIn_agg w 9999 61 _ _ (by rw [rt3];simp [go_sem]) rt1,rt3];simp [go_sem];by_cases h1:a=c
 · by_cases h2:b=d <;> simp [h1,h2]
 · simp [h1]
attribute [go_sem high] run_eql_ratio
set_option maxRecDepth 100000 in
set_option maxHeartbeats 1600000 in
theorem awake_any (w:World):Calls prog 9 #[] w fun e w'=>e=.returned (.bool true)∧Grew w w':=by
 have HV:=hid fun w=>vis_any w
 go_enter func9,ntmps9
 go_wp2_with fail
 refine (HV.out _).mono ?_;rintro e w' ⟨rfl,g,n,rfl⟩;go_wp2_with fail
 exact bodyPost_ret (v:=.bool true) (by simp [results,go_sem]) rfl ⟨rfl,gw0⟩
end Go.Proofs.Qm
