/- Layer 9, in main's ghost: the pairs that no try parts: the reference. Condition: the states and the tests lie in memory. -/
import Derived.Test.YtnceajabigdleaaDoorPtQ982
namespace Go.Proofs.Qm
open Go Go.Pt Go.RowKit Prb
open Go Go.Pt Go.RowKit Prb
set_option maxRecDepth 10000 in
theorem eq_pair (a b c d:Int) (w:World):(Op.equalIn 10000 57 (.agg #[.int .i64 a,.int .i64 b]) (.agg #[.int .i64 c,.int .i64 d])).run prog w=.ok (a==c&&b==d) w:=by
 have ht:prog.underlying 57=some (.array 2 3):=(p_underlying 57).trans Tryd.underlying57;have h3:prog.underlying 3=some (.int .i64):=(p_underlying 3).trans Tryd.underlying3;have hp0:∀ (x0 x1:Value) w,(part 3 #[x0,x1] 0).run prog w=.ok x0 w:=fun _ _ w=>by kernel_rfl
 have hp1:∀ (x0 x1:Value) w,(part 3 #[x0,x1] 1).run prog w=.ok x1 w:=fun _ _ w=>by kernel_rfl
 have he:∀ (a b:Int) w,(Op.equalIn 9999 3 (.int .i64 a) (.int .i64 b)).run prog w=.ok (a==b) w:=fun a b w=>run_equalIn_int w 9998 3 .i64 .i64 a b h3
 obtain ⟨i,hi,_⟩:=info_parts zok.info;rw [run_equalIn_array w 9999 _ _ ht hi,show prog.cellsOf 3=1 by kernel_rfl,show List.range 2=[0,1] from rfl];simp only [Op.eqItems,Sem.run_bind,Nat.zero_mul,Nat.one_mul,hp0,he,Result.andThen_ok];by_cases e0:a=c
 case neg=>simp [e0]
 by_cases e1:b=d <;> simp [e0,e1,hp1,he]
@[go_sem high] theorem neq_pair (a b c d : Int) (w : World) : (binOp .neq 57 (.agg #[.int .i64 a, .int .i64 b]) (.agg #[.int .i64 c, .int .i64 d])).run prog w = .ok (.bool (!(a == c && b == d))) w := by
  rw [run_neq_struct,eq_pair];rfl
@[go_sem] theorem guard_pair:prog.eqGuardType prog.depth 57=false:=by kernel_rfl
end Go.Proofs.Qm
