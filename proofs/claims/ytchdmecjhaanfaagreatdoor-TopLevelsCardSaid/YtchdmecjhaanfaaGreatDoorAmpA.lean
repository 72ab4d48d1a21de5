import Derived.Test.YtchdmecjhaanfaaGreatDoorRows
import Derived.Test.YtchdmecjhaanfaaGreatDoorHouse
import Derived.Test.YtchdmecjhaanfaaGreatDoorMshPlain
namespace Go.Proofs.YtchdmecjhaanfaaGreatDoor
open Go Go.RowKit Amp
@[go_sem] theorem idxC_0 (x0 x1 x2 x3:Value) (w:World):(Instr.index 104 (.agg #[x0,x1,x2,x3]) (.int .i64 0)).run Tryz.prog w=.ok x0 w:=by kernel_rfl
@[go_sem] theorem idxC_1 (x0 x1 x2 x3:Value) (w:World):(Instr.index 104 (.agg #[x0,x1,x2,x3]) (.int .i64 1)).run Tryz.prog w=.ok x1 w:=by kernel_rfl
@[go_sem] theorem idxC_2 (x0 x1 x2 x3:Value) (w:World):(Instr.index 104 (.agg #[x0,x1,x2,x3]) (.int .i64 2)).run Tryz.prog w=.ok x2 w:=by kernel_rfl
@[go_sem] theorem idxC_3 (x0 x1 x2 x3:Value) (w:World):(Instr.index 104 (.agg #[x0,x1,x2,x3]) (.int .i64 3)).run Tryz.prog w=.ok x3 w:=by kernel_rfl
@[go_sem] theorem idxA_0 (x0 x1 x2 x3:Value) (w:World):(Instr.index 60 (.agg #[x0,x1,x2,x3]) (.int .i64 0)).run Tryz.prog w=.ok x0 w:=by kernel_rfl
@[go_sem] theorem idxA_1 (x0 x1 x2 x3:Value) (w:World):(Instr.index 60 (.agg #[x0,x1,x2,x3]) (.int .i64 1)).run Tryz.prog w=.ok x1 w:=by kernel_rfl
@[go_sem] theorem idxA_2 (x0 x1 x2 x3:Value) (w:World):(Instr.index 60 (.agg #[x0,x1,x2,x3]) (.int .i64 2)).run Tryz.prog w=.ok x2 w:=by kernel_rfl
@[go_sem] theorem idxA_3 (x0 x1 x2 x3:Value) (w:World):(Instr.index 60 (.agg #[x0,x1,x2,x3]) (.int .i64 3)).run Tryz.prog w=.ok x3 w:=by kernel_rfl
theorem ret_bool {a b:Bool} (h:a=b):Ending.returned (.bool a)=.returned (.bool b):=by rw [h]
theorem ret_int {k:IntKind} {a b:Int} (h:a=b):Ending.returned (.int k a)=.returned (.int k b):=by rw [h]
set_option maxHeartbeats 800000 in
theorem small_any (x:C4) (w:World) :
  Calls Tryz.prog 55 #[.agg #[.int .i64 x.a,.int .i64 x.b,.int .i64 x.c,.int .i64 x.d]] w fun e w'=>e=.returned (.bool (smallB x))∧Grew w w':=by
 go_enter Tryz.func55,Tryz.ntmps55
 go_wp2;refine wp_loop_rounds 5 ?_
 iterate 5 (all_goals (try simp only [rounds_succ]);go_wp2)
 all_goals
  go_ret;refine ⟨ret_bool ?_,(Grew.refl _).alloc _⟩;simp [smallB,okC];try omega
set_option maxHeartbeats 800000 in
theorem even_any (x:C4) (w:World) (h:In4 x) :
  Calls Tryz.prog 56 #[.agg #[.int .i64 x.a,.int .i64 x.b,.int .i64 x.c,.int .i64 x.d]] w fun e w'=>e=.returned (.bool (evenB x))∧Grew w w':=by
 obtain ⟨⟨_,_⟩,⟨_,_⟩,⟨_,_⟩,⟨_,_⟩⟩:=h;go_enter Tryz.func56,Tryz.ntmps56
 go_wp2;all_goals
  go_ret;refine ⟨ret_bool ?_,(Grew.refl _).alloc _⟩;simp only [tmod2] at *
  simp [evenB, *]
 rw [Bool.eq_iff_iff];simp [tmod2]
open Go Go.RowKit Amp
set_option maxHeartbeats 800000 in
theorem rValid_any (x:C4) (k:Int) (w:World) :
  Calls Tryz.prog 28 #[.agg #[.int .i64 x.a,.int .i64 x.b,.int .i64 x.c,.int .i64 x.d,.int .i64 k]] w fun e w'=>e=.returned (.bool (validB x k))∧Grew w w':=by
 by_cases hs:smallB x=true
 case neg =>
  have hv:validB x k=false:=by simp [validB,hs]
  rw [hv];go_enter Tryz.func28,Tryz.ntmps28
  go_wp2_with fail
  refine (small_any x _).mono ?_;rintro e w' ⟨rfl,g,n,rfl⟩;rw [show smallB x=false from by simpa using hs];clear hs hv;go_wp2_with fail
  go_ret;exact ⟨rfl,gw0⟩
 have hx:=in4_small hs;by_cases hk:0≤k∧k≤40
 case neg =>
  have hv:validB x k=false:=by simp [validB,hk]
  rw [hv];go_enter Tryz.func28,Tryz.ntmps28
  go_wp2_with fail
  refine (small_any x _).mono ?_;rintro e w' ⟨rfl,g,n,rfl⟩;rw [hs];clear hs hv;by_cases h1:0≤k
  · have h2:¬ k≤40:=fun h=>hk ⟨h1,h⟩
    clear hk;go_wp2_with fail
    go_ret;exact ⟨rfl,gw0⟩
  · clear hk
    go_wp2_with fail
    go_ret;exact ⟨rfl,gw0⟩
 obtain ⟨hk1,hk2⟩:=hk;by_cases hk0:k=0
 · subst hk0
   have hv:validB x 0=true:=by simp [validB,hs]
   rw [hv];go_enter Tryz.func28,Tryz.ntmps28
   go_wp2_with fail
   refine (small_any x _).mono ?_;rintro e w' ⟨rfl,g,n,rfl⟩;rw [hs];clear hs hv;go_wp2_with fail
   go_ret;exact ⟨rfl,gw0⟩
 · have hv:validB x k=!evenB x:=by simp [validB,hs,hk0,hk1,hk2]
   have hkb:(k==0)=false:=by simpa using hk0
   rw [hv];go_enter Tryz.func28,Tryz.ntmps28
   go_wp2_with fail
   refine (small_any x _).mono ?_;rintro e w' ⟨rfl,g,n,rfl⟩;rw [hs];clear hs hv hk0;go_wp2_with fail
   refine (even_any x _ hx).mono ?_;rintro e w' ⟨rfl,g1,n1,rfl⟩;go_wp2_with fail
   go_ret;exact ⟨rfl,gw0⟩
open Go Go.RowKit Amp
def eq4 (x y:C4):Bool:=x.a==y.a&&x.b==y.b&&x.c==y.c&&x.d==y.d
def eq5 (x:C4) (k:Int) (y:C4) (j:Int):Bool:=eq4 x y&&k==j
theorem eq4_iff {x y:C4}:eq4 x y=true↔x=y:=by
 cases x;cases y;simp [eq4,and_assoc]
theorem eq5_iff {x y:C4} {k j:Int}:eq5 x k y j=true↔x=y∧k=j:=by
 simp [eq5,eq4_iff]
set_option maxRecDepth 10000 in
theorem eqArr (d:Nat) (t:Nat) (ht:Tryz.prog.underlying t=some (.array 4 3)) (x y:C4) (w:World):(Op.equalIn (d+2) t (.agg #[.int .i64 x.a,.int .i64 x.b,.int .i64 x.c,.int .i64 x.d]) (.agg #[.int .i64 y.a,.int .i64 y.b,.int .i64 y.c,.int .i64 y.d])).run Tryz.prog w=.ok (eq4 x y) w:=by
 obtain ⟨a0,a1,a2,a3⟩:=x;obtain ⟨b0,b1,b2,b3⟩:=y;have h3:Tryz.prog.underlying 3=some (.int .i64):=by kernel_rfl
 have hs:∀ w,(sizeOf 3).run Tryz.prog w=.ok 1 w:=fun w=>by kernel_rfl
 have hp0:∀ (x0 x1 x2 x3:Value) w,(part 3 #[x0,x1,x2,x3] 0).run Tryz.prog w=.ok x0 w:=fun _ _ _ _ w=>by kernel_rfl
 have hp1:∀ (x0 x1 x2 x3:Value) w,(part 3 #[x0,x1,x2,x3] 1).run Tryz.prog w=.ok x1 w:=fun _ _ _ _ w=>by kernel_rfl
 have hp2:∀ (x0 x1 x2 x3:Value) w,(part 3 #[x0,x1,x2,x3] 2).run Tryz.prog w=.ok x2 w:=fun _ _ _ _ w=>by kernel_rfl
 have hp3:∀ (x0 x1 x2 x3:Value) w,(part 3 #[x0,x1,x2,x3] 3).run Tryz.prog w=.ok x3 w:=fun _ _ _ _ w=>by kernel_rfl
 have he:∀ (a b:Int) w,(Op.equalIn (d+1) 3 (.int .i64 a) (.int .i64 b)).run Tryz.prog w=.ok (a==b) w:=fun a b w=>by
  simp [Op.equalIn,run_underlying h3]
 have hr:List.range' 0 4=[0,1,2,3]:=by decide
 rw [Op.equalIn];simp [run_underlying ht,hs,hr,List.forIn_cons,hp0,hp1,hp2,hp3,he,eq4];by_cases e0:a0=b0
 case neg=>simp [e0]
 by_cases e1:a1=b1
 case neg=>simp [e0,e1]
 by_cases e2:a2=b2
 case neg=>simp [e0,e1,e2]
 by_cases e3:a3=b3 <;> simp [e0,e1,e2,e3]
@[go_sem high] theorem run_eql_arr (a0 a1 a2 a3 b0 b1 b2 b3 : Int) (w : World) : (binOp .eql 60 (.agg #[.int .i64 a0, .int .i64 a1, .int .i64 a2, .int .i64 a3]) (.agg #[.int .i64 b0, .int .i64 b1, .int .i64 b2, .int .i64 b3])).run Tryz.prog w = .ok (.bool (eq4 ⟨a0, a1, a2, a3⟩ ⟨b0, b1, b2, b3⟩)) w := by
  have h:=eqArr 9998 60 (by kernel_rfl) ⟨a0,a1,a2,a3⟩ ⟨b0,b1,b2,b3⟩ w;rw [run_eql_struct,h];rfl
@[go_sem high] theorem run_neq_arr (a0 a1 a2 a3 b0 b1 b2 b3 : Int) (w : World) : (binOp .neq 60 (.agg #[.int .i64 a0, .int .i64 a1, .int .i64 a2, .int .i64 a3]) (.agg #[.int .i64 b0, .int .i64 b1, .int .i64 b2, .int .i64 b3])).run Tryz.prog w = .ok (.bool (!eq4 ⟨a0, a1, a2, a3⟩ ⟨b0, b1, b2, b3⟩)) w := by
  have h:=eqArr 9998 60 (by kernel_rfl) ⟨a0,a1,a2,a3⟩ ⟨b0,b1,b2,b3⟩ w;rw [run_neq_struct,h];rfl
@[go_sem high] theorem run_eql_coefs (a0 a1 a2 a3 b0 b1 b2 b3 : Int) (w : World) : (binOp .eql 104 (.agg #[.int .i64 a0, .int .i64 a1, .int .i64 a2, .int .i64 a3]) (.agg #[.int .i64 b0, .int .i64 b1, .int .i64 b2, .int .i64 b3])).run Tryz.prog w = .ok (.bool (eq4 ⟨a0, a1, a2, a3⟩ ⟨b0, b1, b2, b3⟩)) w := by
  have h:=eqArr 9998 104 (by kernel_rfl) ⟨a0,a1,a2,a3⟩ ⟨b0,b1,b2,b3⟩ w;rw [run_eql_struct,h];rfl
@[go_sem high] theorem run_neq_coefs (a0 a1 a2 a3 b0 b1 b2 b3 : Int) (w : World) : (binOp .neq 104 (.agg #[.int .i64 a0, .int .i64 a1, .int .i64 a2, .int .i64 a3]) (.agg #[.int .i64 b0, .int .i64 b1, .int .i64 b2, .int .i64 b3])).run Tryz.prog w = .ok (.bool (!eq4 ⟨a0, a1, a2, a3⟩ ⟨b0, b1, b2, b3⟩)) w := by
  have h:=eqArr 9998 104 (by kernel_rfl) ⟨a0,a1,a2,a3⟩ ⟨b0,b1,b2,b3⟩ w;rw [run_neq_struct,h];rfl
theorem eqNum (x y:C4) (k j:Int) (w:World):(Op.equalIn 10000 67 (.agg #[.int .i64 x.a,.int .i64 x.b,.int .i64 x.c,.int .i64 x.d,.int .i64 k]) (.agg #[.int .i64 y.a,.int .i64 y.b,.int .i64 y.c,.int .i64 y.d,.int .i64 j])).run Tryz.prog w=.ok (eq5 x k y j) w:=by
 have h22:=fun w=>eqArr 9997 60 (by kernel_rfl) x y w
 simp [go_sem,h22,eq5];cases eq4 x y
 · simp
 · by_cases hk:k=j <;> simp [hk]
@[go_sem high] theorem run_eql_num (a0 a1 a2 a3 k b0 b1 b2 b3 j : Int) (w : World) : (binOp .eql 67 (.agg #[.int .i64 a0, .int .i64 a1, .int .i64 a2, .int .i64 a3, .int .i64 k]) (.agg #[.int .i64 b0, .int .i64 b1, .int .i64 b2, .int .i64 b3, .int .i64 j])).run Tryz.prog w = .ok (.bool (eq5 ⟨a0, a1, a2, a3⟩ k ⟨b0, b1, b2, b3⟩ j)) w := by
  have h:=eqNum ⟨a0,a1,a2,a3⟩ ⟨b0,b1,b2,b3⟩ k j w;rw [run_eql_struct,h];rfl
@[go_sem high] theorem run_neq_num (a0 a1 a2 a3 k b0 b1 b2 b3 j : Int) (w : World) : (binOp .neq 67 (.agg #[.int .i64 a0, .int .i64 a1, .int .i64 a2, .int .i64 a3, .int .i64 k]) (.agg #[.int .i64 b0, .int .i64 b1, .int .i64 b2, .int .i64 b3, .int .i64 j])).run Tryz.prog w = .ok (.bool (!eq5 ⟨a0, a1, a2, a3⟩ k ⟨b0, b1, b2, b3⟩ j)) w := by
  have h:=eqNum ⟨a0,a1,a2,a3⟩ ⟨b0,b1,b2,b3⟩ k j w;rw [run_neq_struct,h];rfl
end Go.Proofs.YtchdmecjhaanfaaGreatDoor
