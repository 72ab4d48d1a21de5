import Derived.Test.YtchdmecjhaanfaaGreatDoorBits
import Derived.Test.YtchdmecjhaanfaaGreatDoorMshPlain
import Derived.Test.YtchdmecjhaanfaaGreatDoorHouse
import Derived.BigRegion
namespace Go.Proofs.YtchdmecjhaanfaaGreatDoor
open Go Go.RowKit Amp
def carryA (x y:Int):Nat→Int
 | 0=>0
 | i+1=>(wd x i+wd y i+carryA x y i) / B64
theorem carryA_step (x y:Int):∀ i,(0≤carryA x y i∧carryA x y i≤1)∧lo x i+lo y i=lo (x+y) i+B64 ^ i*carryA x y i
 | 0=>⟨⟨Int.le_refl 0,(by decide:(0:Int)≤1)⟩,by rw [lo_zero,lo_zero,lo_zero];rfl⟩
 | i + 1 => by
   obtain ⟨⟨h1,h2⟩,h3⟩:=carryA_step x y i;have ha:=wd_range x i;have hb:=wd_range y i;refine ⟨?_,(add_word h3).2⟩;show 0≤(wd x i+wd y i+carryA x y i) / B64∧(wd x i+wd y i+carryA x y i) / B64≤1
   unfold B64 at *
   omega
theorem add64_word (x y:Int) (i:Nat) (w:World):(callFunc 131 #[.int .u64 (wd x i),.int .u64 (wd y i),.int .u64 (carryA x y i)]).run Tryz.prog w=.ok (.value (.tuple #[.int .u64 (wd (x+y) i),.int .u64 (carryA x y (i+1))])) w:=by
 obtain ⟨⟨h1,h2⟩,h3⟩:=carryA_step x y i;have ha:=wd_range x i;have hb:=wd_range y i;have hs:=(add_word h3).1;have hc:carryA x y (i+1)=(wd x i+wd y i+carryA x y i) / B64:=rfl;obtain ⟨a,ea⟩:∃ a:Nat,wd x i=a:=⟨(wd x i).toNat,by omega⟩;obtain ⟨b,eb⟩:∃ a:Nat,wd y i=a:=⟨(wd y i).toNat,by omega⟩;obtain ⟨c,ec⟩:∃ a:Nat,carryA x y i=a:=⟨(carryA x y i).toNat,by omega⟩;rw [hs,hc,ea,eb,ec];have h:=add64 a b c (by omega) w;have e1:((a:Int)+b+c) % B64=(((a+b+c) % 18446744073709551616:Nat):Int):=by unfold B64;omega
 have e2:((a:Int)+b+c) / B64=(((a+b+c) / 18446744073709551616:Nat):Int):=by unfold B64;omega
 rw [e1,e2];exact h
set_option maxRecDepth 100000 in
set_option maxHeartbeats 4000000 in
theorem wadd_any (x y:Int) (w:World):Calls Tryz.prog 122 #[.agg #[.int .u64 (wd x 0),.int .u64 (wd x 1),.int .u64 (wd x 2),.int .u64 (wd x 3),.int .u64 (wd x 4),.int .u64 (wd x 5)],.agg #[.int .u64 (wd y 0),.int .u64 (wd y 1),.int .u64 (wd y 2),.int .u64 (wd y 3),.int .u64 (wd y 4),.int .u64 (wd y 5)]] w fun e w'=>e=.returned (.agg #[.int .u64 (wd (x+y) 0),.int .u64 (wd (x+y) 1),.int .u64 (wd (x+y) 2),.int .u64 (wd (x+y) 3),.int .u64 (wd (x+y) 4),.int .u64 (wd (x+y) 5)])∧Grew w w':=by
 have ad0:=add64_word x y 0;have ad1:=add64_word x y 1;have ad2:=add64_word x y 2;have ad3:=add64_word x y 3;have ad4:=add64_word x y 4;have ad5:=add64_word x y 5;rw [show carryA x y 0=0 from rfl] at ad0;go_enter Tryz.func122,Tryz.ntmps122
 go_wp2_with fail
 refine wp_loop_rounds 7 ?_
 iterate 6 (simp only [rounds_succ];go_wp2_with fail;go_region;go_wp2_with fail)
 simp only [rounds_succ];go_wp2_with fail
 exact bodyPost_ret (v:=.agg #[.int .u64 (wd (x+y) 0),.int .u64 (wd (x+y) 1),.int .u64 (wd (x+y) 2),.int .u64 (wd (x+y) 3),.int .u64 (wd (x+y) 4),.int .u64 (wd (x+y) 5)]) (by simp [results,Tryz.results122,go_sem]) rfl ⟨rfl,gw0⟩
open Go Go.RowKit Amp
theorem sub64 (x y b:Nat) (hb:b≤1) (w:World) :
  (callFunc 166 #[.int .u64 x,.int .u64 y,.int .u64 b]).run Tryz.prog w =
    .ok (.value (.tuple #[.int .u64 (((x+18446744073709551616 - y - b) % 18446744073709551616:Nat):Int),.int .u64 ((if x<y+b then 1 else 0:Nat):Int)])) w:=by
 rw [run_callFunc_extern Tryz.func166 (by kernel_rfl) (by kernel_rfl) (by kernel_rfl) (e:=sub64Entry) (by kernel_rfl),run_sub64 x y b hb];rfl
def borrowA (x:Int):Nat→Int
 | 0=>0
 | i+1=>-((-wd x i+-borrowA x i) / B64)
theorem borrowA_step (x:Int):∀ i,(0≤borrowA x i∧borrowA x i≤1)∧-lo x i=lo (-x) i+B64 ^ i*-borrowA x i
 | 0=>⟨⟨Int.le_refl 0,(by decide:(0:Int)≤1)⟩,by rw [lo_zero,lo_zero];rfl⟩
 | i + 1 => by
   obtain ⟨⟨h1,h2⟩,h3⟩:=borrowA_step x i;have ha:=wd_range x i;refine ⟨?_, ?_⟩
   · show 0≤-((-wd x i+-borrowA x i) / B64)∧-((-wd x i+-borrowA x i) / B64)≤1
     unfold B64 at *
     omega
   · have h:=(neg_word h3).2
     show _=_+_*-(-((-wd x i+-borrowA x i) / B64))
     rw [Int.neg_neg];exact h
theorem sub64_word (x:Int) (i:Nat) (w:World):(callFunc 166 #[.int .u64 0,.int .u64 (wd x i),.int .u64 (borrowA x i)]).run Tryz.prog w=.ok (.value (.tuple #[.int .u64 (wd (-x) i),.int .u64 (borrowA x (i+1))])) w:=by
 obtain ⟨⟨h1,h2⟩,h3⟩:=borrowA_step x i;have ha:=wd_range x i;have hs:=(neg_word h3).1;have hc:borrowA x (i+1)=-((-wd x i+-borrowA x i) / B64):=rfl;obtain ⟨a,ea⟩:∃ a:Nat,wd x i=a:=⟨(wd x i).toNat,by omega⟩;obtain ⟨c,ec⟩:∃ a:Nat,borrowA x i=a:=⟨(borrowA x i).toNat,by omega⟩;rw [hs,hc,ea,ec];rw [ea] at ha;rw [ec] at h1 h2;have h:=sub64 0 a c (by omega) w;have e1:(-(a:Int)+-(c:Int)) % B64=(((0+18446744073709551616 - a - c) % 18446744073709551616:Nat):Int):=by unfold B64 at *;omega
 have e2:-((-(a:Int)+-(c:Int)) / B64)=((if 0<a+c then 1 else 0:Nat):Int):=by
  unfold B64 at *
  split <;> omega
 rw [e1,e2];exact h
set_option maxRecDepth 100000 in
set_option maxHeartbeats 4000000 in
theorem wneg_any (x:Int) (w:World):Calls Tryz.prog 148 #[.agg #[.int .u64 (wd x 0),.int .u64 (wd x 1),.int .u64 (wd x 2),.int .u64 (wd x 3),.int .u64 (wd x 4),.int .u64 (wd x 5)]] w fun e w'=>e=.returned (.agg #[.int .u64 (wd (-x) 0),.int .u64 (wd (-x) 1),.int .u64 (wd (-x) 2),.int .u64 (wd (-x) 3),.int .u64 (wd (-x) 4),.int .u64 (wd (-x) 5)])∧Grew w w':=by
 have ad0:=sub64_word x 0;have ad1:=sub64_word x 1;have ad2:=sub64_word x 2;have ad3:=sub64_word x 3;have ad4:=sub64_word x 4;have ad5:=sub64_word x 5;rw [show borrowA x 0=0 from rfl] at ad0;go_enter Tryz.func148,Tryz.ntmps148
 go_wp2_with fail
 refine wp_loop_rounds 7 ?_
 iterate 6 (simp only [rounds_succ];go_wp2_with fail)
 simp only [rounds_succ];go_wp2_with fail
 exact bodyPost_ret (v:=.agg #[.int .u64 (wd (-x) 0),.int .u64 (wd (-x) 1),.int .u64 (wd (-x) 2),.int .u64 (wd (-x) 3),.int .u64 (wd (-x) 4),.int .u64 (wd (-x) 5)]) (by simp [results,Tryz.results148,go_sem]) rfl ⟨rfl,gw0⟩
theorem wd_small {n:Int} (h0:0≤n) (h1:n<18446744073709551616):wd n 0=n∧∀ i,wd n (i+1)=0:=by
 refine ⟨?_,fun i=>?_⟩
 · unfold wd B64
   rw [Int.pow_zero,Int.ediv_one];omega
 · unfold wd
   have hp:=B_pos i;have h2:n<B64 ^ (i+1):=by
    rw [Int.pow_succ];have h3:(1:Int)*B64≤B64 ^ i*B64:=Int.mul_le_mul_of_nonneg_right (by omega) (by decide);unfold B64 at *
    omega
   rw [Int.ediv_eq_zero_of_lt h0 h2];rfl
set_option maxRecDepth 100000 in
set_option maxHeartbeats 4000000 in
theorem whole_any (n:Int) (w:World) (h0:0≤n) (h1:n≤4611686018427387904):Calls Tryz.prog 82 #[.int .i64 n] w fun e w'=>e=.returned (.agg #[.int .u64 (wd n 0),.int .u64 (wd n 1),.int .u64 (wd n 2),.int .u64 (wd n 3),.int .u64 (wd n 4),.int .u64 (wd n 5)])∧Grew w w':=by
 obtain ⟨e0,e1⟩:=wd_small h0 (by omega);rw [e0,e1 0,e1 1,e1 2,e1 3,e1 4];have e2:decide (n<0)=false:=decide_eq_false (by omega);clear e0 e1;go_enter Tryz.func82,Tryz.ntmps82
 go_wp2_with fail
 exact bodyPost_ret (v:=.agg #[.int .u64 n,.int .u64 0,.int .u64 0,.int .u64 0,.int .u64 0,.int .u64 0]) (by simp [results,Tryz.results82,go_sem]) rfl ⟨rfl,gw0⟩
open Go Go.RowKit Amp
def hiM (x n:Int) (i:Nat):Int:=wd x i*n / B64
def loM (x n:Int) (i:Nat):Int:=wd x i*n % B64
def carryM (x n:Int):Nat→Int
 | 0=>0
 | i+1=>(wd x i*n+carryM x n i) / B64
def moreM (x n:Int) (i:Nat):Int:=(loM x n i+carryM x n i) / B64
theorem carryM_step (x:Int) {n:Int} (h0:0≤n):∀ i,(0≤carryM x n i∧carryM x n i≤n)∧lo x i*n=lo (x*n) i+B64 ^ i*carryM x n i
 | 0=>⟨⟨Int.le_refl 0,h0⟩,by rw [lo_zero,lo_zero,Int.zero_mul];rfl⟩
 | i + 1 => by
   obtain ⟨h1,h3⟩:=carryM_step x h0 i;exact ⟨carry_mul (wd_range x i) h0 h1,(mul_word h3).2⟩
theorem prod_parts (x n:Int) (i:Nat):wd x i*n=loM x n i+B64*hiM x n i:=(Int.emod_add_mul_ediv _ B64).symm
theorem loM_range (x n:Int) (i:Nat):0≤loM x n i∧loM x n i<B64:=⟨Int.emod_nonneg _ (by decide),Int.emod_lt_of_pos _ (by decide)⟩
theorem carry_next (x n:Int) (i:Nat):carryM x n (i+1)=hiM x n i+moreM x n i:=by
 show (wd x i*n+carryM x n i) / B64=hiM x n i+(loM x n i+carryM x n i) / B64
 rw [prod_parts x n i,show loM x n i+B64*hiM x n i+carryM x n i=loM x n i+carryM x n i+B64*hiM x n i by omega,Int.add_mul_ediv_left _ _ (by decide),Int.add_comm]
theorem word_of {x n:Int} (h0:0≤n) (i:Nat):wd (x*n) i=(loM x n i+carryM x n i) % B64:=by
 rw [(mul_word (carryM_step x h0 i).2).1,prod_parts x n i,show loM x n i+B64*hiM x n i+carryM x n i=loM x n i+carryM x n i+B64*hiM x n i by omega,Int.add_mul_emod_self_left]
theorem mul64_word (x n:Int) (i:Nat) (w:World) (h0:0≤n) (h1:n≤4611686018427387904):Calls Tryz.prog 149 #[.int .u64 (wd x i),.int .u64 n] w fun e w'=>e=.returned (.tuple #[.int .u64 (hiM x n i),.int .u64 (loM x n i)])∧w'=w:=by
 have ha:=wd_range x i;obtain ⟨a,ea⟩:∃ a:Nat,wd x i=a:=⟨(wd x i).toNat,by omega⟩;obtain ⟨m,em⟩:∃ a:Nat,n=a:=⟨n.toNat,by omega⟩;have e1:hiM x n i=((a*m / 18446744073709551616:Nat):Int):=by unfold hiM B64;rw [ea,em,Int.natCast_ediv,Int.natCast_mul];rfl
 have e2:loM x n i=((a*m % 18446744073709551616:Nat):Int):=by unfold loM B64;rw [ea,em,Int.natCast_emod,Int.natCast_mul];rfl
 rw [e1,e2,ea,em];rw [ea] at ha;unfold B64 at ha;exact Tryz.bits_Mul64 a m (by omega) (by omega) w
theorem addM_word (x n:Int) (i:Nat) (w:World) (h0:0≤n):(callFunc 131 #[.int .u64 (loM x n i),.int .u64 (carryM x n i),.int .u64 0]).run Tryz.prog w=.ok (.value (.tuple #[.int .u64 (wd (x*n) i),.int .u64 (moreM x n i)])) w:=by
 obtain ⟨⟨h1,h2⟩,_⟩:=carryM_step x h0 i;have ha:=loM_range x n i;rw [word_of h0 i];unfold moreM;obtain ⟨a,ea⟩:∃ a:Nat,loM x n i=a:=⟨(loM x n i).toNat,by omega⟩;obtain ⟨c,ec⟩:∃ a:Nat,carryM x n i=a:=⟨(carryM x n i).toNat,by omega⟩;rw [ea,ec];have h:=add64 a c 0 (by omega) w;have e1:((a:Int)+c) % B64=(((a+c+0) % 18446744073709551616:Nat):Int):=by unfold B64;omega
 have e2:((a:Int)+c) / B64=(((a+c+0) / 18446744073709551616:Nat):Int):=by unfold B64;omega
 rw [e1,e2];exact h
theorem more_in (x:Int) {n:Int} (i:Nat) (h0:0≤n):0≤hiM x n i+moreM x n i∧hiM x n i+moreM x n i≤n:=by
 rw [← carry_next];exact (carryM_step x h0 (i+1)).1
theorem wrapM (x n:Int) (i:Nat) (h0:0≤n) (h1:n≤4611686018427387904):IntKind.u64.wrap (hiM x n i+moreM x n i)=carryM x n (i+1):=by
 have h:=more_in x i h0;rw [carry_next];exact IntWalk.u64_in _ (by omega)
@[go_sem] theorem idxW_0 (x0 x1 x2 x3 x4 x5:Value) (w:World):(Instr.index 143 (.agg #[x0,x1,x2,x3,x4,x5]) (.int .i64 0)).run Tryz.prog w=.ok x0 w:=by kernel_rfl
@[go_sem] theorem idxW_1 (x0 x1 x2 x3 x4 x5:Value) (w:World):(Instr.index 143 (.agg #[x0,x1,x2,x3,x4,x5]) (.int .i64 1)).run Tryz.prog w=.ok x1 w:=by kernel_rfl
@[go_sem] theorem idxW_2 (x0 x1 x2 x3 x4 x5:Value) (w:World):(Instr.index 143 (.agg #[x0,x1,x2,x3,x4,x5]) (.int .i64 2)).run Tryz.prog w=.ok x2 w:=by kernel_rfl
@[go_sem] theorem idxW_3 (x0 x1 x2 x3 x4 x5:Value) (w:World):(Instr.index 143 (.agg #[x0,x1,x2,x3,x4,x5]) (.int .i64 3)).run Tryz.prog w=.ok x3 w:=by kernel_rfl
@[go_sem] theorem idxW_4 (x0 x1 x2 x3 x4 x5:Value) (w:World):(Instr.index 143 (.agg #[x0,x1,x2,x3,x4,x5]) (.int .i64 4)).run Tryz.prog w=.ok x4 w:=by kernel_rfl
@[go_sem] theorem idxW_5 (x0 x1 x2 x3 x4 x5:Value) (w:World):(Instr.index 143 (.agg #[x0,x1,x2,x3,x4,x5]) (.int .i64 5)).run Tryz.prog w=.ok x5 w:=by kernel_rfl
set_option maxRecDepth 100000 in
set_option maxHeartbeats 4000000 in
theorem wtimes_pos (x n:Int) (w:World) (h0:0≤n) (h1:n≤4611686018427387904):Calls Tryz.prog 123 #[.agg #[.int .u64 (wd x 0),.int .u64 (wd x 1),.int .u64 (wd x 2),.int .u64 (wd x 3),.int .u64 (wd x 4),.int .u64 (wd x 5)],.int .i64 n] w fun e w'=>e=.returned (.agg #[.int .u64 (wd (x*n) 0),.int .u64 (wd (x*n) 1),.int .u64 (wd (x*n) 2),.int .u64 (wd (x*n) 3),.int .u64 (wd (x*n) 4),.int .u64 (wd (x*n) 5)])∧Grew w w':=by
 have HM:=hid fun i w=>mul64_word x n i w h0 h1
 have ad0:=fun w=>addM_word x n 0 w h0
 have ad1:=fun w=>addM_word x n 1 w h0
 have ad2:=fun w=>addM_word x n 2 w h0
 have ad3:=fun w=>addM_word x n 3 w h0
 have ad4:=fun w=>addM_word x n 4 w h0
 have ad5:=fun w=>addM_word x n 5 w h0
 rw [show carryM x n 0=0 from rfl] at ad0;have q0:=wrapM x n 0 h0 h1;have q1:=wrapM x n 1 h0 h1;have q2:=wrapM x n 2 h0 h1;have q3:=wrapM x n 3 h0 h1;have q4:=wrapM x n 4 h0 h1;have q5:=wrapM x n 5 h0 h1;have e2:decide (n<0)=false:=decide_eq_false (by omega);go_enter Tryz.func123,Tryz.ntmps123
 go_wp2_with fail
 refine wp_loop_rounds 7 ?_
 iterate 6
  simp only [rounds_succ];go_wp2_with fail
  refine (HM.out _ _).mono ?_;rintro e w' ⟨rfl,rfl⟩;go_wp2_with fail
 simp only [rounds_succ];go_wp2_with fail
 exact bodyPost_ret (v:=.agg #[.int .u64 (wd (x*n) 0),.int .u64 (wd (x*n) 1),.int .u64 (wd (x*n) 2),.int .u64 (wd (x*n) 3),.int .u64 (wd (x*n) 4),.int .u64 (wd (x*n) 5)]) (by simp [results,Tryz.results123,go_sem]) rfl ⟨rfl,gw0⟩
theorem wtimes_any (x n:Int) (w:World) (h0:-4611686018427387904≤n) (h1:n≤4611686018427387904):Calls Tryz.prog 123 #[.agg #[.int .u64 (wd x 0),.int .u64 (wd x 1),.int .u64 (wd x 2),.int .u64 (wd x 3),.int .u64 (wd x 4),.int .u64 (wd x 5)],.int .i64 n] w fun e w'=>e=.returned (.agg #[.int .u64 (wd (x*n) 0),.int .u64 (wd (x*n) 1),.int .u64 (wd (x*n) 2),.int .u64 (wd (x*n) 3),.int .u64 (wd (x*n) 4),.int .u64 (wd (x*n) 5)])∧Grew w w':=by
 by_cases h:0≤n
 · exact wtimes_pos x n w h h1
 · have e2:decide (n<0)=true:=decide_eq_true (by omega)
   have HN:=hid fun w=>wneg_any x w
   have HT:=hid fun w=>wtimes_pos (-x) (-n) w (by omega) (by omega)
   rw [Int.neg_mul_neg] at HT;clear h;go_enter Tryz.func123,Tryz.ntmps123
   go_wp2_with fail
   refine (HN.out _).mono ?_;rintro e w' ⟨rfl,g,n1,rfl⟩;go_wp2_with fail
   refine (HT.out _).mono ?_;rintro e w' ⟨rfl,g2,n2,rfl⟩;go_wp2_with fail
   exact bodyPost_ret (v:=.agg #[.int .u64 (wd (x*n) 0),.int .u64 (wd (x*n) 1),.int .u64 (wd (x*n) 2),.int .u64 (wd (x*n) 3),.int .u64 (wd (x*n) 4),.int .u64 (wd (x*n) 5)]) (by simp [results,Tryz.results123,go_sem]) rfl ⟨rfl,gw0⟩
open Go Go.RowKit Amp
theorem Grew.row {w W:World} (hG:Grew w W) {g:Nat} (hb:w.heap.size≤g) (cs:Array Value):Grew w (W.setRow g cs):=by
 obtain ⟨l,n,rfl⟩:=hG;refine ⟨(l.toArray.modify (g - w.heap.size) (fun o=>match o with | .cells _ elem frozen=>.cells cs elem frozen | o=>o)).toList,n, ?_⟩;unfold World.setRow World.grow World.drewN;dsimp only
 congr 1
 rw [Array.toArray_toList];apply Array.ext_getElem?;intro k;rw [Array.getElem?_modify,Array.getElem?_append,Array.getElem?_append,Array.getElem?_modify];by_cases hk:k<w.heap.size
 · rw [if_pos hk,if_neg (by omega),if_pos hk]
 · rw [if_neg hk,if_neg hk]
   by_cases hg:g=k
   · rw [if_pos hg,if_pos (by omega)]
     rfl
   · rw [if_neg hg,if_neg (by omega)]
theorem wblk_past {w:World} {o:Obj} {k:Nat} (h:k<w.heap.size):(w.alloc o).heap[k]? = w.heap[k]? := by
 show (w.heap.push o)[k]? = _
 rw [Array.getElem?_push,if_neg (by omega)]
theorem wblk_new {w:World} {o:Obj} {n:Nat} (hn:n=w.heap.size):(w.alloc o).heap[n]? = some o:=by
 subst hn;show (w.heap.push o)[w.heap.size]? = _
 simp
theorem wpList_build_to {P:Program} {ops:Array Oper} {rest:List Oper} {o:Oper} {a:Act} {w:World} {Q:Exit→Act→World→Prop} {t:TypeId} (hg:o.guard=none) (parts:Array (Nat × Operand)) (ho:o.op=.build t parts) {cells:Array Value}
  (hf:P.built t (parts.map fun (i,x)=>(i,a.eval x)).toList=some cells) (h:wpList P ops Q rest (a.put o.dst (.agg cells)) w):wpList P ops Q (o::rest) a w :=
 wpList_build hg t parts ho (by rw [hf];rfl) (by rw [hf];exact h)
theorem wblk_drewN {w:World} {n k:Nat} {x:Option Obj} (h:w.heap[k]? = x):(w.drewN n).heap[k]? = x:=h
theorem wblk_grow {w:World} {g:List Obj} {k:Nat} {x:Option Obj} (hk:k<w.heap.size) (h:w.heap[k]? = x):(w.grow g).heap[k]? = x:=by
 rw [World.grow_heap_lt _ _ _ hk];exact h
theorem wblk_pastT {w:World} {o:Obj} {k:Nat} {x:Option Obj} (hk:k<w.heap.size) (h:w.heap[k]? = x):(w.alloc o).heap[k]? = x:=by
 rw [wblk_past hk];exact h
theorem blk_gd (w:World) (o:Obj) (l:List Obj) (n:Nat):(((w.alloc o).grow l).drewN n).heap[w.heap.size]? = some o:=by
 rw [World.heap_drewN,World.grow_heap_lt _ _ _ (by simp [go_sem])];exact wblk_new rfl
theorem sum_size:(Tryz.prog.info? 145).map (·.size)=some 24:=by kernel_rfl
theorem sum_end {fn:Func} {id s p q:Nat} {t1 t2:TypeId} {p1 p2:String} {f1 f2:Array Edge} {a:Act} {w W:World} {R:Ending→World→Prop} (hfn:fn.results=#[.cell q 145]) (hd:a.defers=[])
  {g h:Nat} (hp:a.tmps.getD p undef=.pointer (some ⟨g,0,none⟩)) (hq:a.tmps.getD q undef=.pointer (some ⟨h,0,none⟩)) (hsq:s≠q) (cs old:Array Value) (hg:W.heap[g]? = some (.cells cs 145 (0,0))) (hh:W.heap[h]? = some (.cells old 145 (0,0)))
  (hcs:cs.size=24) (hold:old.size=24) (h1:cs.all (·.oneCell')=true) (hG:Grew w W) (hb:w.heap.size≤h) (hss:s<a.tmps.size) (hR:∀ W',Grew w W'→R (.returned (.agg cs)) W') :
  Code.wp Tryz.prog ((Code.region id #[⟨some s,.load 145 (.tmp p),t1,p1,f1,none⟩,⟨none,.store 145 (.tmp q) (.tmp s),t2,p2,f2,none⟩] false).seq .ret) (bodyPost Tryz.prog fn R) a W:=by
 apply wp_seq_k;intro K hK;apply wp_region_lit;refine wpList_load_row rfl 145 (.tmp p) rfl g hp 145 cs (0,0) _ hg Tryz.underlying145 rfl (by rw [hcs];exact sum_size) ?_;refine wpList_store_row rfl 145 (.tmp q) (.tmp s) rfl h cs ?_ ?_ 145 old hh (by rw [hcs];exact sum_size) (by omega) h1 ?_
 · show (a.tmps.setIfInBounds s _).getD q undef=_
   rw [Array.getD_eq_getD_getElem?,Array.getElem?_setIfInBounds_ne hsq,← Array.getD_eq_getD_getElem?];exact hq
 · show (a.tmps.setIfInBounds s _).getD s undef=_
   rw [Array.getD_eq_getD_getElem?,Array.getElem?_setIfInBounds_self_of_lt hss];rfl
 apply wpList_nil;refine hK _ _ ?_;apply wp_ret;refine ⟨hd,_,results_cell_row hfn _ _ h 145 cs (0,0) _ ?_ (setRow_heap W h old cs 145 (0,0) hh) Tryz.underlying145 rfl (by rw [hcs];exact sum_size),hR _ (Grew.row hG hb cs)⟩;show (a.tmps.setIfInBounds s _).getD q undef=_
 rw [Array.getD_eq_getD_getElem?,Array.getElem?_setIfInBounds_ne hsq,← Array.getD_eq_getD_getElem?];exact hq
set_option maxRecDepth 100000 in
set_option maxHeartbeats 4000000 in
theorem splus_any (a b c d p q r s:Int) (w:World):Calls Tryz.prog 79 #[.agg #[.int .u64 (wd a 0),.int .u64 (wd a 1),.int .u64 (wd a 2),.int .u64 (wd a 3),.int .u64 (wd a 4),.int .u64 (wd a 5),.int .u64 (wd b 0),.int .u64 (wd b 1),.int .u64 (wd b 2),.int .u64 (wd b 3),.int .u64 (wd b 4),.int .u64 (wd b 5),.int .u64 (wd c 0),.int .u64 (wd c 1),.int .u64 (wd c 2),.int .u64 (wd c 3),.int .u64 (wd c 4),.int .u64 (wd c 5),.int .u64 (wd d 0),.int .u64 (wd d 1),.int .u64 (wd d 2),.int .u64 (wd d 3),.int .u64 (wd d 4),.int .u64 (wd d 5)],.agg #[.int .u64 (wd p 0),.int .u64 (wd p 1),.int .u64 (wd p 2),.int .u64 (wd p 3),.int .u64 (wd p 4),.int .u64 (wd p 5),.int .u64 (wd q 0),.int .u64 (wd q 1),.int .u64 (wd q 2),.int .u64 (wd q 3),.int .u64 (wd q 4),.int .u64 (wd q 5),.int .u64 (wd r 0),.int .u64 (wd r 1),.int .u64 (wd r 2),.int .u64 (wd r 3),.int .u64 (wd r 4),.int .u64 (wd r 5),.int .u64 (wd s 0),.int .u64 (wd s 1),.int .u64 (wd s 2),.int .u64 (wd s 3),.int .u64 (wd s 4),.int .u64 (wd s 5)]] w fun e w'=>e=.returned (.agg #[.int .u64 (wd (a+p) 0),.int .u64 (wd (a+p) 1),.int .u64 (wd (a+p) 2),.int .u64 (wd (a+p) 3),.int .u64 (wd (a+p) 4),.int .u64 (wd (a+p) 5),.int .u64 (wd (b+q) 0),.int .u64 (wd (b+q) 1),.int .u64 (wd (b+q) 2),.int .u64 (wd (b+q) 3),.int .u64 (wd (b+q) 4),.int .u64 (wd (b+q) 5),.int .u64 (wd (c+r) 0),.int .u64 (wd (c+r) 1),.int .u64 (wd (c+r) 2),.int .u64 (wd (c+r) 3),.int .u64 (wd (c+r) 4),.int .u64 (wd (c+r) 5),.int .u64 (wd (d+s) 0),.int .u64 (wd (d+s) 1),.int .u64 (wd (d+s) 2),.int .u64 (wd (d+s) 3),.int .u64 (wd (d+s) 4),.int .u64 (wd (d+s) 5)])∧Grew w w':=by
 have HA:=hid fun x y w=>wadd_any x y w
 go_enter Tryz.func79,Tryz.ntmps79
 go_wp2_with fail
 rename_i K0 hK0
 have HK:=hid hK0;clear hK0;refine wp_loop_rounds 5 ?_
 iterate 4
  simp only [rounds_succ];go_wp2_with fail
  refine R3.wp_region_gentle_tail 8 (by kernel_rfl) (by kernel_rfl) (by kernel_rfl) ?_;simp only [List.take_succ_cons,List.take_zero,List.drop_succ_cons,List.drop_zero];repeat (first | go_big_quiet_skip | (go_big_quiet_want;go_big_quiet_op;first | go_big_quiet_on | (apply Exists.intro;refine ⟨fun qq=>?_, ?_⟩;(focus ((first | (go_at_call 122;with_reducible refine Calls.gentle_of (HA.out _ _ _) ?_));rintro _ ⟨g',n',rfl⟩;exact ⟨⟨qq.g++g',qq.n+n'⟩,by rw [World.grow_drewN,World.grow_grow,World.drewN_drewN];repeat (first | rw [List.append_assoc] | rw [Nat.add_assoc])⟩));go_big_quiet_on)))
  refine wpQuiet_nil ?_;rintro _ ⟨gg,ng,rfl⟩;go_wp2_with fail
 simp only [rounds_succ];go_wp2_with fail
 refine HK.out _ _ ?_;clear HK;refine sum_end (w:=w) rfl rfl rfl rfl (by decide) #[.int .u64 (wd (a+p) 0),.int .u64 (wd (a+p) 1),.int .u64 (wd (a+p) 2),.int .u64 (wd (a+p) 3),.int .u64 (wd (a+p) 4),.int .u64 (wd (a+p) 5),.int .u64 (wd (b+q) 0),.int .u64 (wd (b+q) 1),.int .u64 (wd (b+q) 2),.int .u64 (wd (b+q) 3),.int .u64 (wd (b+q) 4),.int .u64 (wd (b+q) 5),.int .u64 (wd (c+r) 0),.int .u64 (wd (c+r) 1),.int .u64 (wd (c+r) 2),.int .u64 (wd (c+r) 3),.int .u64 (wd (c+r) 4),.int .u64 (wd (c+r) 5),.int .u64 (wd (d+s) 0),.int .u64 (wd (d+s) 1),.int .u64 (wd (d+s) 2),.int .u64 (wd (d+s) 3),.int .u64 (wd (d+s) 4),.int .u64 (wd (d+s) 5)] _ (by repeat (first | (refine wblk_new ?_;(try simp [go_sem]);done) | refine wblk_drewN ?_ | (refine wblk_grow ?_ ?_;focus (simp [go_sem] <;> omega)) | (refine wblk_pastT ?_ ?_;focus (simp [go_sem] <;> omega)))) (by repeat (first | (refine wblk_new ?_;(try simp [go_sem]);done) | refine wblk_drewN ?_ | (refine wblk_grow ?_ ?_;focus (simp [go_sem] <;> omega)) | (refine wblk_pastT ?_ ?_;focus (simp [go_sem] <;> omega)))) rfl rfl (by simp [Value.oneCell']) gw0 (by omega) (by simp) fun W' g=>⟨rfl,g⟩
set_option maxHeartbeats 2000000 in
theorem wd_zero (i:Nat):wd 0 i=0:=by
 unfold wd;rw [Int.zero_ediv];rfl
theorem sone_any (w:World):Calls Tryz.prog 80 #[] w fun e w'=>e=.returned (.agg #[.int .u64 (wd 1 0),.int .u64 (wd 1 1),.int .u64 (wd 1 2),.int .u64 (wd 1 3),.int .u64 (wd 1 4),.int .u64 (wd 1 5),.int .u64 (wd 0 0),.int .u64 (wd 0 1),.int .u64 (wd 0 2),.int .u64 (wd 0 3),.int .u64 (wd 0 4),.int .u64 (wd 0 5),.int .u64 (wd 0 0),.int .u64 (wd 0 1),.int .u64 (wd 0 2),.int .u64 (wd 0 3),.int .u64 (wd 0 4),.int .u64 (wd 0 5),.int .u64 (wd 0 0),.int .u64 (wd 0 1),.int .u64 (wd 0 2),.int .u64 (wd 0 3),.int .u64 (wd 0 4),.int .u64 (wd 0 5)])∧Grew w w':=by
 have HW:=hid fun w=>whole_any 1 w (by decide) (by decide)
 simp only [wd_zero];go_enter Tryz.func80,Tryz.ntmps80
 go_wp2_with fail
 refine (HW.out _).mono ?_;rintro e w' ⟨rfl,g,n1,rfl⟩
 rename_i Q' K1 hK1 K2 hK2
 refine hK2 _ _ ?_;refine wpList_build_to (t:=145) rfl #[(0,.tmp 1)] rfl (cells:=#[.int .u64 (wd 1 0),.int .u64 (wd 1 1),.int .u64 (wd 1 2),.int .u64 (wd 1 3),.int .u64 (wd 1 4),.int .u64 (wd 1 5),.int .u64 0,.int .u64 0,.int .u64 0,.int .u64 0,.int .u64 0,.int .u64 0,.int .u64 0,.int .u64 0,.int .u64 0,.int .u64 0,.int .u64 0,.int .u64 0,.int .u64 0,.int .u64 0,.int .u64 0,.int .u64 0,.int .u64 0,.int .u64 0]) (by kernel_rfl) ?_;refine wpList_store_row rfl 145 (.tmp 0) (.tmp 2) rfl w.heap.size _ rfl rfl 145 _ (blk_gd _ _ _ _) sum_size rfl (by simp [Value.oneCell']) ?_;apply wpList_nil;refine hK1 _ _ ?_;apply wp_ret;refine ⟨rfl,_,results_cell_row (p:=0) (ty:=145) rfl _ _ w.heap.size 145 _ (0,0) _ rfl (setRow_heap _ w.heap.size _ _ 145 (0,0) (blk_gd _ _ _ _)) Tryz.underlying145 rfl sum_size,rfl,Grew.row gw0 (Nat.le_refl _) _⟩
end Go.Proofs.YtchdmecjhaanfaaGreatDoor
