import Derived.Test.YtchdmecjhaanfaaGreatDoorAmpA
namespace Go.Proofs.YtchdmecjhaanfaaGreatDoor
open Go Go.RowKit Amp
theorem _root_.k38_ {p:Prop} (h:p:=by
 simp [results,Tryz.results125,go_sem];try first
  | (simp [okRes,smallB,okC];done)
  | (simp [okRes,smallB,okC];omega)
  | (simp [okRes,smallB,okC, *];done)):p:=h
set_option maxHeartbeats 800000 in
theorem areduced_nat (x0:C4) (k:Nat) (w:World) (h:In4 x0) (hk:k≤2000) :
  Calls Tryz.prog 125 #[.agg #[.int .i64 x0.a,.int .i64 x0.b,.int .i64 x0.c,.int .i64 x0.d,.int .i64 k]] w fun e w'=>e=.returned (.tuple #[.agg #[.int .i64 (red k x0).1.a,.int .i64 (red k x0).1.b,.int .i64 (red k x0).1.c,.int .i64 (red k x0).1.d,.int .i64 (red k x0).2],.bool (okRes (red k x0).1 (red k x0).2)])∧Grew w w':=by
 go_enter Tryz.func125,Tryz.ntmps125
 go_wp2;go_loopg [] k (fun m wr=>∃ (x:C4),m≤2000∧In4 x∧Hid (red m x=red k x0)∧Grew ((w.alloc (.cells #[.int .i64 x.a,.int .i64 x.b,.int .i64 x.c,.int .i64 x.d,.int .i64 m] 158)).alloc (.cells #[.int .i64 0,.int .i64 0,.int .i64 0,.int .i64 0,.int .i64 0] 67)) wr)
 case atStart=>exact ⟨x0,hk,h,rfl,Grew.refl _⟩
 case round =>
  obtain ⟨m,hmk⟩:∃ m,m=gk:=⟨_,rfl⟩;subst hmk;obtain ⟨x,hm,hx,hr,g,n,rfl⟩:=hrel;clear h;have hx':=hx;obtain ⟨⟨_,_⟩,⟨_,_⟩,⟨_,_⟩,⟨_,_⟩⟩:=hx';by_cases h0:0<m
  case neg =>
   obtain rfl:m=0:=by omega
   have Hr:=hid (show (x,0)=red k x0 from hr.out);clear hr;go_wp2_with fail
   refine wp_loop_rounds 5 ?_
   iterate 5 (all_goals (try simp only [rounds_succ]);go_wp2_with fail)
   all_goals
    refine bodyPost_ret (v:=.tuple #[.agg #[.int .i64 x.a,.int .i64 x.b,.int .i64 x.c,.int .i64 x.d,.int .i64 (0:Nat)],.bool (okRes x (0:Nat))]) ?_ rfl ⟨by rw [← Hr.out],gw0⟩;exact k38_
  have he:((x.a+x.c) % 2=0∧(x.b+x.d) % 2=0)↔evenB x=true:=by simp [evenB]
  by_cases h1:(x.a+x.c) % 2=0
  case neg =>
   have Hr:Hid ((x,m)=red k x0):=by
    rw [← hr.out];obtain ⟨q,rfl⟩:∃ q,m=q+1:=⟨m - 1,by omega⟩;have:¬ evenB x=true:=fun h=>h1 (he.2 h).1
    exact (if_neg this).symm
   have h1':((x.a+x.c) % 2==0)=false:=by simpa using h1
   clear hr he h1;go_wp2_with fail
   refine wp_loop_rounds 5 ?_
   iterate 5 (all_goals (try simp only [rounds_succ]);go_wp2_with fail)
   all_goals
    refine bodyPost_ret (v:=.tuple #[.agg #[.int .i64 x.a,.int .i64 x.b,.int .i64 x.c,.int .i64 x.d,.int .i64 m],.bool (okRes x m)]) ?_ rfl ⟨by rw [← Hr.out],gw0⟩;exact k38_
  by_cases h2:(x.b+x.d) % 2=0
  case neg =>
   have Hr:Hid ((x,m)=red k x0):=by
    rw [← hr.out];obtain ⟨q,rfl⟩:∃ q,m=q+1:=⟨m - 1,by omega⟩;have:¬ evenB x=true:=fun h=>h2 (he.2 h).2
    exact (if_neg this).symm
   have h1':((x.a+x.c) % 2==0)=true:=by simpa using h1
   have h2':((x.b+x.d) % 2==0)=false:=by simpa using h2
   clear hr he h1 h2;go_wp2_with fail
   refine wp_loop_rounds 5 ?_
   iterate 5 (all_goals (try simp only [rounds_succ]);go_wp2_with fail)
   all_goals
    refine bodyPost_ret (v:=.tuple #[.agg #[.int .i64 x.a,.int .i64 x.b,.int .i64 x.c,.int .i64 x.d,.int .i64 m],.bool (okRes x m)]) ?_ rfl ⟨by rw [← Hr.out],gw0⟩;exact k38_
  have hrm:red m x=red (m - 1) (half (root x)):=by
   obtain ⟨q,rfl⟩:∃ q,m=q+1:=⟨m - 1,by omega⟩;exact if_pos (he.1 ⟨h1,h2⟩)
  have Hr:Hid (red (m - 1) (half (root x))=red k x0):=by rw [← hrm];exact hr
  have h1':((x.a+x.c) % 2==0)=true:=by simpa using h1
  have h2':((x.b+x.d) % 2==0)=true:=by simpa using h2
  clear hr he h1 h2 hrm;go_wp2_with fail
  go_roundg (m - 1)
  case measure=>omega
  case rel =>
   refine ⟨half (root x),by omega,in4_half_root hx,Hr, ?_⟩;have hk1:((m:Int) - 1)=((m - 1:Nat):Int):=by omega
   simp only [hk1];exact gw0
set_option maxHeartbeats 800000 in
theorem aresult_any (x:C4) (k:Int) (w:World) (h:In4 x) (h0:0≤k) (h1:k≤2000) :
  Calls Tryz.prog 128 #[.agg #[.int .i64 x.a,.int .i64 x.b,.int .i64 x.c,.int .i64 x.d,.int .i64 k]] w fun e w'=>e=.returned (.tuple #[.agg #[.int .i64 (made x k).x.a,.int .i64 (made x k).x.b,.int .i64 (made x k).x.c,.int .i64 (made x k).x.d,.int .i64 (made x k).k],.int .i64 (made x k).e])∧Grew w w':=by
 obtain ⟨q,rfl⟩:=Int.eq_ofNat_of_zero_le h0;have hm:made x q=if validB (red q x).1 (red q x).2=true then ⟨(red q x).1,(red q x).2,0⟩ else fail 4:=rfl
 have hv:=validB_red q x;have hred:=fun w=>areduced_nat x q w h (by omega)
 generalize red q x=r at *
 obtain ⟨y,j⟩:=r;have Hm:=hid hm;clear hm;have Hr:=hid hred;clear hred;go_enter Tryz.func128,Tryz.ntmps128
 go_wp2_with fail
 refine (Hr.out _).mono ?_;rintro e w' ⟨rfl,g,n,rfl⟩;by_cases hb:okRes y j=true
 · have He:=hid (Hm.out.trans (if_pos (hv.trans hb)))
   rw [hb];clear hb hv Hm;go_wp2_with fail
   exact bodyPost_ret (v:=.tuple #[.agg #[.int .i64 y.a,.int .i64 y.b,.int .i64 y.c,.int .i64 y.d,.int .i64 j],.int .i64 0]) (by simp [results,Tryz.results128,go_sem]) rfl ⟨by rw [He.out],gw0⟩
 · have He:=hid (Hm.out.trans (if_neg (by rw [hv];exact hb)))
   rw [show okRes y j=false from by simpa using hb];clear hb hv Hm;go_wp2_with fail
   exact bodyPost_ret (v:=.tuple #[.agg #[.int .i64 0,.int .i64 0,.int .i64 0,.int .i64 0,.int .i64 0],.int .i64 4]) (by simp [results,Tryz.results128,go_sem]) rfl ⟨by rw [He.out];rfl,gw0⟩
open Go Go.RowKit Amp
set_option maxHeartbeats 800000 in
theorem aValid_any (x:C4) (k:Int) (w:World) :
  Calls Tryz.prog 85 #[.agg #[.int .i64 x.a,.int .i64 x.b,.int .i64 x.c,.int .i64 x.d,.int .i64 k]] w fun e w'=>e=.returned (.bool (validB x k))∧Grew w w':=by
 by_cases hk:0≤k∧k≤40
 case neg =>
  have hv:validB x k=false:=by simp [validB,hk]
  rw [hv];have hk':k<0∨40<k:=by omega
  clear hk hv;go_enter Tryz.func85,Tryz.ntmps85
  rcases hk' with h | h
  · go_wp2_with fail
    go_ret;exact ⟨rfl,gw0⟩
  · have h0:0≤k:=by omega
    go_wp2_with fail
    go_ret;exact ⟨rfl,gw0⟩
 obtain ⟨hk1,hk2⟩:=hk;by_cases hs:smallB x=true
 case neg =>
  have hv:validB x k=false:=by simp [validB,hs]
  rw [hv];have hb:=mt smallB_iff.2 hs;clear hs hv;go_enter Tryz.func85,Tryz.ntmps85
  go_wp2_with fail
  refine wp_loop_rounds 5 ?_
  iterate 5 (all_goals (try simp only [rounds_succ]);go_wp2_with fail)
  all_goals first
   | (go_ret;exact ⟨rfl,gw0⟩)
   | (exfalso;exact hb (by omega))
 have hx:=in4_small hs;have hb:=smallB_iff.1 hs;obtain ⟨⟨_,_⟩,⟨_,_⟩,⟨_,_⟩,⟨_,_⟩⟩:=hb;obtain ⟨q,rfl⟩:=Int.eq_ofNat_of_zero_le hk1;have hv:validB x q=decide (red q x=(x,q)):=by
  have h0:=@red_valid q x;have h1:=@red_same q x;simp only [validB,hs,Bool.true_and];rw [Bool.eq_iff_iff];simp only [Bool.and_eq_true,decide_eq_true_eq,Bool.or_eq_true,Bool.not_eq_true'];constructor
  · rintro ⟨_,h⟩;exact h0 (h.imp (fun h=>by omega) id)
  · intro h;exact ⟨by omega,(h1 h).imp (fun h=>by omega) id⟩
 rw [hv];clear hv;have hred:=fun w=>areduced_nat x q w hx (by omega)
 generalize red q x=r at *
 obtain ⟨y,j⟩:=r;have Hr:=hid hred;clear hred hs;go_enter Tryz.func85,Tryz.ntmps85
 go_wp2_with fail
 refine wp_loop_rounds 5 ?_
 iterate 5 (all_goals (try simp only [rounds_succ]);go_wp2_with fail)
 refine (Hr.out _).mono ?_;rintro e w' ⟨rfl,g,n,rfl⟩;go_wp2_with fail
 go_ret;refine ⟨ret_bool ?_,gw0⟩;rw [Bool.eq_iff_iff,eq5_iff];simp only [decide_eq_true_eq,Prod.mk.injEq];constructor <;> rintro ⟨h1,h2⟩ <;> exact ⟨h1,by omega⟩
end Go.Proofs.YtchdmecjhaanfaaGreatDoor
