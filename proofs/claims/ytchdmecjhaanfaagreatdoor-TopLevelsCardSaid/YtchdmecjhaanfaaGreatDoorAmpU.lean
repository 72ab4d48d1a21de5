import Derived.Test.YtchdmecjhaanfaaGreatDoorAmpT
import Derived.Test.YtchdmecjhaanfaaGreatDoorAmpI
import Derived.Test.YtchdmecjhaanfaaGreatDoorHouse
import Derived.Test.YtchdmecjhaanfaaGreatDoorHouse
namespace Go.Proofs.YtchdmecjhaanfaaGreatDoor
open Go Go.RowKit Amp
theorem _root_.k59_ {p:Prop} (h:p:=by
 go_wp2_with fail
 go_ret2
 exact ⟨by rw [hE.out,hV.out];rfl,gw0⟩):p:=h
def cmpE (x:C4) (k:Int) (y:C4) (j:Int):Int:=if validB x k=true∧validB y j=true then (if realB x=true∧realB y=true then 0 else 11) else 10
def cmpV (x:C4) (k:Int) (y:C4) (j:Int):Int:=if validB x k=true∧validB y j=true then (if realB x=true∧realB y=true then sgn (addK x k (negC y) j).a (addK x k (negC y) j).b else 0) else 0
theorem in4_neg1 {x:C4} (h:In4 x):(-4611686018427387903≤x.a∧x.a≤4611686018427387903)∧(-4611686018427387903≤x.b∧x.b≤4611686018427387903):=⟨h.1,h.2.1⟩
set_option maxHeartbeats 2000000 in
theorem aCmp_any (x y:C4) (k j:Int) (w:World) :
  Calls Tryz.prog 42 #[.agg #[.int .i64 x.a,.int .i64 x.b,.int .i64 x.c,.int .i64 x.d,.int .i64 k],.agg #[.int .i64 y.a,.int .i64 y.b,.int .i64 y.c,.int .i64 y.d,.int .i64 j]] w fun e w'=>e=.returned (.tuple #[.int .i64 (cmpV x k y j),.int .i64 (cmpE x k y j)])∧Grew w w':=by
 by_cases hv:validB x k=true∧validB y j=true
 case neg =>
  have hE:Hid (cmpE x k y j=10):=if_neg hv;have hV:Hid (cmpV x k y j=0):=if_neg hv;have hb:(validB x k&&validB y j)=false:=by
   rw [Bool.eq_false_iff];simpa using hv
  clear hv;go_enter Tryz.func42,Tryz.ntmps42
  go_wp2_with fail
  refine (valid2_any x y k j _ _ _ _ (by first | exact blk_new_drewN (by simp [go_sem]) | exact blk_new (by simp [go_sem]))).mono ?_;rintro e w1 ⟨rfl,g,n,rfl⟩;rw [hb];clear hb;exact k59_
 have hE:cmpE x k y j=(if realB x=true∧realB y=true then 0 else 11):=if_pos hv;have hV:cmpV x k y j=(if realB x=true∧realB y=true then sgn (addK x k (negC y) j).a (addK x k (negC y) j).b else 0):=if_pos hv;have hb:(validB x k&&validB y j)=true:=by simpa using hv
 obtain ⟨h1,h2⟩:=hv;have sx:=validB_small h1;have sy:=validB_small h2;have kx:=validB_k h1;have ky:=validB_k h2;have HX:=hid fun w=>aconj_any x k w sx
 have HY:=hid fun w=>aconj_any y j w sy
 have HA:=hid fun w=>add_any x (negC y) k j w sx (small_neg sy) kx ky
 have HN:=hid fun w=>neg_any y j w sy
 have hi:=in4_addK sx (small_neg sy) kx ky;clear h1 h2 sx sy kx ky;by_cases hr:realB x=true∧realB y=true
 case neg =>
  have hE:Hid (cmpE x k y j=11):=hE.trans (if_neg hr);have hV:Hid (cmpV x k y j=0):=hV.trans (if_neg hr)
  rename_i hE' hV'
  clear hE' hV' hi;by_cases hrx:realB x=true
  · have e1:eq4 x (conjC x)=true:=hrx
    have e2:eq4 y (conjC y)=false:=by
     have:¬ realB y=true:=fun h=>hr ⟨hrx,h⟩
     simpa [realB] using this
    clear hr hrx;go_enter Tryz.func42,Tryz.ntmps42
    go_wp2_with fail
    refine (valid2_any x y k j _ _ _ _ (by first | exact blk_new_drewN (by simp [go_sem]) | exact blk_new (by simp [go_sem]))).mono ?_;rintro e w1 ⟨rfl,g,n,rfl⟩;rw [hb];clear hb;go_wp2_with fail
    refine wp_region_gentle_lit (by kernel_rfl) (by kernel_rfl) ?_;repeat (first | go_big_quiet_skip | (go_big_quiet_want;go_big_quiet_op;first | go_big_quiet_on | (apply Exists.intro;refine ⟨fun qq=>?_, ?_⟩;(focus ((first | (go_at_call 93;with_reducible refine Calls.gentle_of (HX.out _) ?_) | (go_at_call 93;with_reducible refine Calls.gentle_of (HY.out _) ?_));rintro _ ⟨g',n',rfl⟩;exact ⟨⟨qq.g++g',qq.n+n'⟩,by rw [World.grow_drewN,World.grow_grow,World.drewN_drewN];repeat (first | rw [List.append_assoc] | rw [Nat.add_assoc])⟩));go_big_quiet_on)))
    refine wpQuiet_nil ?_;rintro _ ⟨gg,ng,rfl⟩;exact k59_
  · have e1:eq4 x (conjC x)=false:=by simpa [realB] using hrx
    clear hr hrx;go_enter Tryz.func42,Tryz.ntmps42
    go_wp2_with fail
    refine (valid2_any x y k j _ _ _ _ (by first | exact blk_new_drewN (by simp [go_sem]) | exact blk_new (by simp [go_sem]))).mono ?_;rintro e w1 ⟨rfl,g,n,rfl⟩;rw [hb];clear hb;go_wp2_with fail
    refine wp_region_gentle_lit (by kernel_rfl) (by kernel_rfl) ?_;repeat (first | go_big_quiet_skip | (go_big_quiet_want;go_big_quiet_op;first | go_big_quiet_on | (apply Exists.intro;refine ⟨fun qq=>?_, ?_⟩;(focus ((first | (go_at_call 93;with_reducible refine Calls.gentle_of (HX.out _) ?_));rintro _ ⟨g',n',rfl⟩;exact ⟨⟨qq.g++g',qq.n+n'⟩,by rw [World.grow_drewN,World.grow_grow,World.drewN_drewN];repeat (first | rw [List.append_assoc] | rw [Nat.add_assoc])⟩));go_big_quiet_on)))
    refine wpQuiet_nil ?_;rintro _ ⟨gg,ng,rfl⟩;exact k59_
 have hE:Hid (cmpE x k y j=0):=hE.trans (if_pos hr);have hV:Hid (cmpV x k y j=sgn (addK x k (negC y) j).a (addK x k (negC y) j).b):=hV.trans (if_pos hr)
 rename_i hE' hV'
 clear hE' hV';obtain ⟨⟨i1,i2⟩,i3,i4⟩:=in4_neg1 hi;have e1:eq4 x (conjC x)=true:=hr.1;have e2:eq4 y (conjC y)=true:=hr.2;clear hr hi;have HS:=hid fun w=>sign_any (addK x k (negC y) j).a (addK x k (negC y) j).b w (by omega) (by omega) (by omega) (by omega)
 clear i1 i2 i3 i4;go_enter Tryz.func42,Tryz.ntmps42
 go_wp2_with fail
 refine (valid2_any x y k j _ _ _ _ (by first | exact blk_new_drewN (by simp [go_sem]) | exact blk_new (by simp [go_sem]))).mono ?_;rintro e w1 ⟨rfl,g,n,rfl⟩;rw [hb];clear hb;go_wp2_with fail
 refine wp_region_gentle_lit (by kernel_rfl) (by kernel_rfl) ?_;repeat (first | go_big_quiet_skip | (go_big_quiet_want;go_big_quiet_op;first | go_big_quiet_on | (apply Exists.intro;refine ⟨fun qq=>?_, ?_⟩;(focus ((first | (go_at_call 93;with_reducible refine Calls.gentle_of (HX.out _) ?_) | (go_at_call 93;with_reducible refine Calls.gentle_of (HY.out _) ?_));rintro _ ⟨g',n',rfl⟩;exact ⟨⟨qq.g++g',qq.n+n'⟩,by rw [World.grow_drewN,World.grow_grow,World.drewN_drewN];repeat (first | rw [List.append_assoc] | rw [Nat.add_assoc])⟩));go_big_quiet_on)))
 refine wpQuiet_nil ?_;rintro _ ⟨gg,ng,rfl⟩;go_wp2_with fail
 refine R2.wp_region_makes_one 4 (.cells #[.int .i64 0,.int .i64 0,.int .i64 0,.int .i64 0,.int .i64 0] 158) (by kernel_rfl) (by kernel_rfl) (by decide) (fun _ _=>by kernel_rfl) ?_;simp only [List.take_succ_cons,List.take_zero];repeat (refine wpGentle_step (fun K hK=>?_);go_simp;first | (refine hK _ ?_;clear hK K) | (apply Exists.intro;refine ⟨fun gq kq=>?_,hK _ ?_⟩;(focus (first | (go_at_call 95;with_reducible exact HN.out _) | (go_at_call 94;with_reducible exact HA.out _)));clear hK K))
 refine wpGentle_nil ?_;simp only [List.drop_succ_cons,List.drop_zero,List.getElem_cons_succ,List.getElem_cons_zero,Act.put,List.setIfInBounds_toArray,List.set_cons_zero,List.set_cons_succ];intro ga gb kk;go_wp2_with fail
 refine (HS.out _).mono ?_;rintro e w' ⟨rfl,rfl⟩;exact k59_
end Go.Proofs.YtchdmecjhaanfaaGreatDoor
