import Derived.Test.YtchdmecjhaanfaaGreatDoorAmpF
import Derived.Test.YtchdmecjhaanfaaGreatDoorMshPlain
import Derived.Test.YtchdmecjhaanfaaGreatDoorHouse
namespace Go.Proofs.YtchdmecjhaanfaaGreatDoor
open Go Go.RowKit Amp
@[go_sem] theorem eq5_k (x y:C4) (k:Int):eq5 x k y k=eq4 x y:=by simp [eq5]
set_option maxHeartbeats 800000 in
theorem aMul_any (x y:C4) (k j:Int) (w:World) :
  Calls Tryz.prog 126 #[.agg #[.int .i64 x.a,.int .i64 x.b,.int .i64 x.c,.int .i64 x.d,.int .i64 k],.agg #[.int .i64 y.a,.int .i64 y.b,.int .i64 y.c,.int .i64 y.d,.int .i64 j]] w fun e w'=>e=.returned (.tuple #[.agg #[.int .i64 (mulN x k y j).x.a,.int .i64 (mulN x k y j).x.b,.int .i64 (mulN x k y j).x.c,.int .i64 (mulN x k y j).x.d,.int .i64 (mulN x k y j).k],.int .i64 (mulN x k y j).e])∧Grew w w':=by
 by_cases hv:validB x k=true∧validB y j=true
 case neg =>
  have he:Hid (mulN x k y j=fail 10):=if_neg hv;have hb:(validB x k&&validB y j)=false:=by
   rw [Bool.eq_false_iff];simpa using hv
  clear hv;go_enter Tryz.func126,Tryz.ntmps126
  go_wp2_with fail
  refine (valid2_any x y k j _ _ _ _ (by first | exact blk_new_drewN (by simp [go_sem]) | exact blk_new (by simp [go_sem]))).mono ?_;rintro e w1 ⟨rfl,g,n,rfl⟩;rw [hb];clear hb;go_wp2_with fail
  exact bodyPost_ret (v:=.tuple #[.agg #[.int .i64 0,.int .i64 0,.int .i64 0,.int .i64 0,.int .i64 0],.int .i64 10]) (by simp [results,Tryz.results126,go_sem]) rfl ⟨by rw [he.out];rfl,gw0⟩
 have he:Hid (mulN x k y j=made (mulC x y) (k+j)):=if_pos hv;have hb:(validB x k&&validB y j)=true:=by simpa using hv
 obtain ⟨h1,h2⟩:=hv;have sx:=validB_small h1;have sy:=validB_small h2;have kx:=validB_k h1;have ky:=validB_k h2;clear h1 h2;go_enter Tryz.func126,Tryz.ntmps126
 go_wp2_with fail
 refine (valid2_any x y k j _ _ _ _ (by first | exact blk_new_drewN (by simp [go_sem]) | exact blk_new (by simp [go_sem]))).mono ?_;rintro e w1 ⟨rfl,g,n,rfl⟩;rw [hb];have hi:=in4_mul sx sy;have Hs:=hid (And.intro sx sy);clear hb sx sy;go_wp2_with fail
 refine (amul_any x y k j _ Hs.out.1 Hs.out.2 kx ky).mono ?_;rintro e w' ⟨rfl,g1,n1,rfl⟩;go_wp2_with fail
 refine (aresult_any (mulC x y) (k+j) _ hi (by omega) (by omega)).mono ?_;rintro e w' ⟨rfl,g2,n2,rfl⟩;go_wp2_with fail
 exact bodyPost_ret (v:=.tuple #[.agg #[.int .i64 (made (mulC x y) (k+j)).x.a,.int .i64 (made (mulC x y) (k+j)).x.b,.int .i64 (made (mulC x y) (k+j)).x.c,.int .i64 (made (mulC x y) (k+j)).x.d,.int .i64 (made (mulC x y) (k+j)).k],.int .i64 (made (mulC x y) (k+j)).e]) (by simp [results,Tryz.results126,go_sem]) rfl ⟨by rw [he.out],gw0⟩
set_option maxHeartbeats 800000 in
theorem aPower_any (x:C4) (k:Int) (w:World) :
  Calls Tryz.prog 90 #[.agg #[.int .i64 x.a,.int .i64 x.b,.int .i64 x.c,.int .i64 x.d,.int .i64 k]] w fun e w'=>e=.returned (.tuple #[.agg #[.int .i64 (powerN x k).x.a,.int .i64 (powerN x k).x.b,.int .i64 (powerN x k).x.c,.int .i64 (powerN x k).x.d,.int .i64 (powerN x k).k],.int .i64 (powerN x k).e])∧Grew w w':=by
 have hA:=fun w=>aValid_any x k w
 by_cases h1:validB x k=true
 case neg =>
  have he:Hid (powerN x k=fail 10):=if_neg h1;rw [show validB x k=false by simpa using h1] at hA;have HA:=hid hA;clear hA h1;go_enter Tryz.func90,Tryz.ntmps90
  go_wp2_with fail
  refine (HA.out _).mono ?_;rintro e w' ⟨rfl,g,n,rfl⟩;go_wp2_with fail
  exact bodyPost_ret (v:=.tuple #[.agg #[.int .i64 0,.int .i64 0,.int .i64 0,.int .i64 0,.int .i64 0],.int .i64 10]) (by simp [results,Tryz.results90,go_sem]) rfl ⟨by rw [he.out];rfl,gw0⟩
 rw [h1] at hA;have HA:=hid hA;clear hA;have he:Hid (powerN x k=made (mulC x (conjC x)) (k+k)):=if_pos h1;have sx:=validB_small h1;have kx:=validB_k h1;have hi:=in4_mul sx (small_conj sx);have HC:=hid fun w=>aconj_any x k w sx
 have HP:=hid fun w=>amul_any x (conjC x) k k w sx (small_conj sx) kx kx
 have HM:=hid fun w=>aresult_any (mulC x (conjC x)) (k+k) w hi (by omega) (by omega)
 clear h1 sx hi;go_enter Tryz.func90,Tryz.ntmps90
 go_wp2_with fail
 refine (HA.out _).mono ?_;rintro e w' ⟨rfl,g,n,rfl⟩;go_wp2_with fail
 refine wp_region_gentle_tail 7 (by kernel_rfl) (by kernel_rfl) (by kernel_rfl) ?_;simp only [List.take_succ_cons,List.take_zero,List.drop_succ_cons,List.drop_zero];repeat (first | go_big_quiet_skip | (go_big_quiet_want;go_big_quiet_op;first | go_big_quiet_on | (apply Exists.intro;refine ⟨fun qq=>?_, ?_⟩;(focus ((first | (go_at_call 93;refine Calls.gentle_of (HC.out _) ?_) | (go_at_call 127;refine Calls.gentle_of (HP.out _) ?_) | (go_at_call 128;refine Calls.gentle_of (HM.out _) ?_));rintro _ ⟨g',n',rfl⟩;exact ⟨⟨qq.g++g',qq.n+n'⟩,by rw [World.grow_drewN,World.grow_grow,World.drewN_drewN];repeat (first | rw [List.append_assoc] | rw [Nat.add_assoc])⟩));go_big_quiet_on)))
 refine wpQuiet_nil ?_;rintro _ ⟨gg,ng,rfl⟩;go_wp2_with fail
 exact bodyPost_ret (v:=.tuple #[.agg #[.int .i64 (made (mulC x (conjC x)) (k+k)).x.a,.int .i64 (made (mulC x (conjC x)) (k+k)).x.b,.int .i64 (made (mulC x (conjC x)) (k+k)).x.c,.int .i64 (made (mulC x (conjC x)) (k+k)).x.d,.int .i64 (made (mulC x (conjC x)) (k+k)).k],.int .i64 (made (mulC x (conjC x)) (k+k)).e]) (by simp [results,Tryz.results90,go_sem]) rfl ⟨by rw [he.out],gw0⟩
open Go Go.RowKit Amp
set_option maxHeartbeats 800000 in
theorem neg_any (x:C4) (k:Int) (w:World) (h:smallB x=true) :
  Calls Tryz.prog 95 #[.agg #[.int .i64 x.a,.int .i64 x.b,.int .i64 x.c,.int .i64 x.d,.int .i64 k]] w fun e w'=>e=.returned (.agg #[.int .i64 (negC x).a,.int .i64 (negC x).b,.int .i64 (negC x).c,.int .i64 (negC x).d,.int .i64 k])∧Grew w w':=by
 obtain ⟨⟨_,_⟩,⟨_,_⟩,⟨_,_⟩,⟨_,_⟩⟩:=smallB_iff.1 h;clear h;go_enter Tryz.func95,Tryz.ntmps95
 go_wp2_with fail
 refine wp_loop_rounds 5 ?_
 iterate 5 (simp only [rounds_succ];go_wp2_with fail)
 exact bodyPost_ret (v:=.agg #[.int .i64 (-x.a),.int .i64 (-x.b),.int .i64 (-x.c),.int .i64 (-x.d),.int .i64 k]) (by simp [results,Tryz.results95,go_sem]) rfl ⟨rfl,gw0⟩
set_option maxHeartbeats 800000 in
theorem turn1_any (x:C4) (k n:Int) (b:Nat) (w:World) (h:smallB x=true) (hb:b<w.heap.size) (hn:w.cell? ⟨b,0,none⟩=some (.int .i64 n)) :
  Calls Tryz.prog 134 #[.agg #[.int .i64 x.a,.int .i64 x.b,.int .i64 x.c,.int .i64 x.d,.int .i64 k],.pointer (some ⟨b,0,none⟩)] w fun e w'=>e=.returned (.agg #[.int .i64 (turnC (n % 8).toNat x).a,.int .i64 (turnC (n % 8).toNat x).b,.int .i64 (turnC (n % 8).toNat x).c,.int .i64 (turnC (n % 8).toNat x).d,.int .i64 k])∧Grew w w':=by
 obtain ⟨m,hm⟩:∃ m:Nat,n % 8=m:=⟨(n % 8).toNat,by omega⟩;have hm8:m<8:=by omega
 have he:Hid ((n % 8).toNat=m):=by unfold Hid;omega
 go_enter Tryz.func134,Tryz.ntmps134
 go_wp2_with fail
 go_loopw [6] (fun i wr=>∃ (q:Nat) (y:C4),q≤m∧i=.int .i64 q∧smallB y=true∧Hid (turnC (m - q) y=turnC m x)∧Grew ((w.alloc (.cells #[.int .i64 y.a,.int .i64 y.b,.int .i64 y.c,.int .i64 y.d,.int .i64 k] 67)).alloc (.cells #[.int .i64 0,.int .i64 0,.int .i64 0,.int .i64 0,.int .i64 0] 67)) wr) (fun i _=>m - (intOf i).toNat)
 case atStart=>exact ⟨0,x,Nat.zero_le _,rfl,h,rfl,Grew.refl _⟩
 case round =>
  obtain ⟨q,y,hq,rfl,hy,ht,g,n1,rfl⟩:=hrel;obtain ⟨⟨_,_⟩,⟨_,_⟩,⟨_,_⟩,⟨_,_⟩⟩:=smallB_iff.1 hy;have hr:=hid (small_rot hy);clear h hy;by_cases hlt:q<m
  · go_wp2_with fail
    go_roundw
    case rel=>exact ⟨q+1,rotC y,by omega,by go_num,hr.out,by unfold Hid;rw [← ht.out,show m - q=(m - (q+1))+1 by omega];rfl,gw0⟩
    case measure=>simp [intOf];omega
  · obtain rfl:q=m:=by omega
    have ht':Hid (y=turnC q x):=by have:=ht.out;rw [Nat.sub_self] at this;exact this
    clear ht;go_wp2_with fail
    exact bodyPost_ret (v:=.agg #[.int .i64 y.a,.int .i64 y.b,.int .i64 y.c,.int .i64 y.d,.int .i64 k]) (by simp [results,Tryz.results134,go_sem]) rfl ⟨by rw [he.out,← ht'.out],gw0⟩
open Go Go.RowKit Amp
set_option maxHeartbeats 800000 in
theorem changed_conj (x:C4) (k:Int) (w:World)  :
  Calls Tryz.prog 121 #[.agg #[.int .i64 x.a,.int .i64 x.b,.int .i64 x.c,.int .i64 x.d,.int .i64 k],.func (.func 93) #[] #[]] w fun e w'=>e=.returned (.tuple #[.agg #[.int .i64 (changeR (validB x k) (conjC x) k).x.a,.int .i64 (changeR (validB x k) (conjC x) k).x.b,.int .i64 (changeR (validB x k) (conjC x) k).x.c,.int .i64 (changeR (validB x k) (conjC x) k).x.d,.int .i64 (changeR (validB x k) (conjC x) k).k],.int .i64 (changeR (validB x k) (conjC x) k).e])∧Grew w w':=by
 have hA:=fun w=>aValid_any x k w
 by_cases h1:validB x k=true
 case neg =>
  have h2:validB x k=false:=by simpa using h1
  have he:Hid (changeR (validB x k) (conjC x) k=fail 10):=changeR_f h2;rw [h2] at hA;have HA:=hid hA;clear hA h1 h2;go_enter Tryz.func121,Tryz.ntmps121
  go_wp2_with fail
  refine (HA.out _).mono ?_;rintro e w' ⟨rfl,g,n,rfl⟩;go_wp2_with fail
  exact bodyPost_ret (v:=.tuple #[.agg #[.int .i64 0,.int .i64 0,.int .i64 0,.int .i64 0,.int .i64 0],.int .i64 10]) (by simp [results,Tryz.results121,go_sem]) rfl ⟨by rw [he.out];rfl,gw0⟩
 have he:Hid (changeR (validB x k) (conjC x) k=⟨(conjC x),k,0⟩):=changeR_e h1;rw [h1] at hA;have HA:=hid hA;have HS:=hid (validB_small h1);have hk0:=(validB_k h1).1;clear hA h1;go_enter Tryz.func121,Tryz.ntmps121
 go_wp2_with fail
 refine (HA.out _).mono ?_;rintro e w' ⟨rfl,g,n,rfl⟩;go_wp2_with fail
 refine (aconj_any x k _ HS.out).mono ?_;rintro e w' ⟨rfl,g1,n1,rfl⟩;go_wp2_with fail
 exact bodyPost_ret (v:=.tuple #[.agg #[.int .i64 (conjC x).a,.int .i64 (conjC x).b,.int .i64 (conjC x).c,.int .i64 (conjC x).d,.int .i64 k],.int .i64 0]) (by simp [results,Tryz.results121,go_sem]) rfl ⟨by rw [he.out],gw0⟩
set_option maxHeartbeats 800000 in
theorem changed_turn (x:C4) (k:Int) (m:Int) (b:Nat) (w:World) (hb:b<w.heap.size) (hn:w.cell? ⟨b,0,none⟩=some (.int .i64 m)) :
  Calls Tryz.prog 121 #[.agg #[.int .i64 x.a,.int .i64 x.b,.int .i64 x.c,.int .i64 x.d,.int .i64 k],.func (.func 134) #[] #[.pointer (some ⟨b,0,none⟩)]] w fun e w'=>e=.returned (.tuple #[.agg #[.int .i64 (changeR (validB x k) (turnC (m % 8).toNat x) k).x.a,.int .i64 (changeR (validB x k) (turnC (m % 8).toNat x) k).x.b,.int .i64 (changeR (validB x k) (turnC (m % 8).toNat x) k).x.c,.int .i64 (changeR (validB x k) (turnC (m % 8).toNat x) k).x.d,.int .i64 (changeR (validB x k) (turnC (m % 8).toNat x) k).k],.int .i64 (changeR (validB x k) (turnC (m % 8).toNat x) k).e])∧Grew w w':=by
 have hA:=fun w=>aValid_any x k w
 by_cases h1:validB x k=true
 case neg =>
  have h2:validB x k=false:=by simpa using h1
  have he:Hid (changeR (validB x k) (turnC (m % 8).toNat x) k=fail 10):=changeR_f h2;rw [h2] at hA;have HA:=hid hA;clear hA h1 h2;go_enter Tryz.func121,Tryz.ntmps121
  go_wp2_with fail
  refine (HA.out _).mono ?_;rintro e w' ⟨rfl,g,n,rfl⟩;go_wp2_with fail
  exact bodyPost_ret (v:=.tuple #[.agg #[.int .i64 0,.int .i64 0,.int .i64 0,.int .i64 0,.int .i64 0],.int .i64 10]) (by simp [results,Tryz.results121,go_sem]) rfl ⟨by rw [he.out];rfl,gw0⟩
 have he:Hid (changeR (validB x k) (turnC (m % 8).toNat x) k=⟨(turnC (m % 8).toNat x),k,0⟩):=changeR_e h1;rw [h1] at hA;have HA:=hid hA;have HS:=hid (validB_small h1);have hk0:=(validB_k h1).1;clear hA h1;go_enter Tryz.func121,Tryz.ntmps121
 go_wp2_with fail
 refine (HA.out _).mono ?_;rintro e w' ⟨rfl,g,n,rfl⟩;go_wp2_with fail
 refine (turn1_any x k m b _ HS.out (by simp [go_sem];omega) ((Grew.cell (a:=w) gw0 hb 0).trans hn)).mono ?_;rintro e w' ⟨rfl,g1,n1,rfl⟩;go_wp2_with fail
 exact bodyPost_ret (v:=.tuple #[.agg #[.int .i64 (turnC (m % 8).toNat x).a,.int .i64 (turnC (m % 8).toNat x).b,.int .i64 (turnC (m % 8).toNat x).c,.int .i64 (turnC (m % 8).toNat x).d,.int .i64 k],.int .i64 0]) (by simp [results,Tryz.results121,go_sem]) rfl ⟨by rw [he.out],gw0⟩
set_option maxHeartbeats 800000 in
theorem aConj_any (x:C4) (k:Int) (w:World) :
  Calls Tryz.prog 75 #[.agg #[.int .i64 x.a,.int .i64 x.b,.int .i64 x.c,.int .i64 x.d,.int .i64 k]] w fun e w'=>e=.returned (.tuple #[.agg #[.int .i64 (changeR (validB x k) (conjC x) k).x.a,.int .i64 (changeR (validB x k) (conjC x) k).x.b,.int .i64 (changeR (validB x k) (conjC x) k).x.c,.int .i64 (changeR (validB x k) (conjC x) k).x.d,.int .i64 (changeR (validB x k) (conjC x) k).k],.int .i64 (changeR (validB x k) (conjC x) k).e])∧Grew w w':=by
 go_enter Tryz.func75,Tryz.ntmps75
 go_wp2_with fail
 refine (changed_conj x k _).mono ?_;rintro e w' ⟨rfl,g,n,rfl⟩;go_wp2_with fail
 exact bodyPost_ret (v:=.tuple #[.agg #[.int .i64 (changeR (validB x k) (conjC x) k).x.a,.int .i64 (changeR (validB x k) (conjC x) k).x.b,.int .i64 (changeR (validB x k) (conjC x) k).x.c,.int .i64 (changeR (validB x k) (conjC x) k).x.d,.int .i64 (changeR (validB x k) (conjC x) k).k],.int .i64 (changeR (validB x k) (conjC x) k).e]) (by simp [results,Tryz.results75,go_sem]) rfl ⟨rfl,gw0⟩
set_option maxHeartbeats 800000 in
theorem aTurn_any (x:C4) (k m:Int) (w:World) :
  Calls Tryz.prog 105 #[.agg #[.int .i64 x.a,.int .i64 x.b,.int .i64 x.c,.int .i64 x.d,.int .i64 k],.int .i64 m] w fun e w'=>e=.returned (.tuple #[.agg #[.int .i64 (changeR (validB x k) (turnC (m % 8).toNat x) k).x.a,.int .i64 (changeR (validB x k) (turnC (m % 8).toNat x) k).x.b,.int .i64 (changeR (validB x k) (turnC (m % 8).toNat x) k).x.c,.int .i64 (changeR (validB x k) (turnC (m % 8).toNat x) k).x.d,.int .i64 (changeR (validB x k) (turnC (m % 8).toNat x) k).k],.int .i64 (changeR (validB x k) (turnC (m % 8).toNat x) k).e])∧Grew w w':=by
 go_enter Tryz.func105,Tryz.ntmps105
 go_wp2_with fail
 refine (changed_turn x k m _ _ (by simp [go_sem]) (by simp [go_sem])).mono ?_;rintro e w' ⟨rfl,g,n,rfl⟩;go_wp2_with fail
 exact bodyPost_ret (v:=.tuple #[.agg #[.int .i64 (changeR (validB x k) (turnC (m % 8).toNat x) k).x.a,.int .i64 (changeR (validB x k) (turnC (m % 8).toNat x) k).x.b,.int .i64 (changeR (validB x k) (turnC (m % 8).toNat x) k).x.c,.int .i64 (changeR (validB x k) (turnC (m % 8).toNat x) k).x.d,.int .i64 (changeR (validB x k) (turnC (m % 8).toNat x) k).k],.int .i64 (changeR (validB x k) (turnC (m % 8).toNat x) k).e]) (by simp [results,Tryz.results105,go_sem]) rfl ⟨rfl,gw0⟩
open Go Go.RowKit Amp
open Go Go.RowKit Amp
set_option maxHeartbeats 800000 in
theorem by_nat (x:C4) (n:Nat) (w:World) (h:smallB x=true) (hn:n≤40) :
  Calls Tryz.prog 129 #[.agg #[.int .i64 x.a,.int .i64 x.b,.int .i64 x.c,.int .i64 x.d],.int .i64 n] w fun e w'=>e=.returned (.agg #[.int .i64 (rpow n x).a,.int .i64 (rpow n x).b,.int .i64 (rpow n x).c,.int .i64 (rpow n x).d])∧Grew w w':=by
 go_enter Tryz.func129,Tryz.ntmps129
 go_wp2_with fail
 go_loopw [1] (fun i wr=>∃ (m j:Nat) (y:C4),m+2*j=n∧i=.int .i64 m∧Hid (y=rpow (2*j) x)∧Grew ((w.alloc (.cells #[.int .i64 y.a,.int .i64 y.b,.int .i64 y.c,.int .i64 y.d] 60)).alloc (.cells #[.int .i64 0,.int .i64 0,.int .i64 0,.int .i64 0] 60)) wr) (fun i _=>(intOf i).toNat)
 case atStart=>exact ⟨n,0,x,rfl,rfl,rfl,Grew.refl _⟩
 case round =>
  obtain ⟨m,j,y,hm,rfl,hy,g,n1,rfl⟩:=hrel;have hb:Bd 1048576000000000 y:=by rw [hy.out];exact bd_rpow (by omega) h
  obtain ⟨⟨_,_⟩,⟨_,_⟩,⟨_,_⟩,⟨_,_⟩⟩:=hb;have Hm:=hid hm;have hm40:m≤40:=by omega
  clear h hm;by_cases h2:2≤m
  · go_wp2_with fail
    refine wp_loop_rounds 5 ?_
    iterate 5 (simp only [rounds_succ];go_wp2_with fail)
    go_roundw
    case rel =>
     refine ⟨m - 2,j+1,dbl y,by have:=Hm.out;omega,congrArg (Value.int .i64) (by omega), ?_,gw0⟩;unfold Hid;rw [hy.out,← root_root,← rpow_succ,← rpow_succ];rfl
    case measure=>simp [intOf];omega
  · by_cases h1:m=1
    · subst h1
      have he:Hid (rpow n x=root y):=by
       unfold Hid;rw [hy.out,← rpow_succ,← Hm.out,Nat.add_comm]
      clear hy hn;go_wp2_with fail
      exact bodyPost_ret (v:=.agg #[.int .i64 (y.b - y.d),.int .i64 (y.a+y.c),.int .i64 (y.b+y.d),.int .i64 (y.c - y.a)]) (by simp [results,Tryz.results129,go_sem]) rfl ⟨by rw [he.out];rfl,gw0⟩
    · obtain rfl:m=0:=by omega
      have he:Hid (rpow n x=y):=by
       unfold Hid;rw [hy.out,← Hm.out,Nat.zero_add]
      clear hy hn;go_wp2_with fail
      exact bodyPost_ret (v:=.agg #[.int .i64 y.a,.int .i64 y.b,.int .i64 y.c,.int .i64 y.d]) (by simp [results,Tryz.results129,go_sem]) rfl ⟨by rw [he.out],gw0⟩
theorem by_any (x:C4) (n:Int) (w:World) (h:smallB x=true) (h0:0≤n) (hn:n≤40) :
  Calls Tryz.prog 129 #[.agg #[.int .i64 x.a,.int .i64 x.b,.int .i64 x.c,.int .i64 x.d],.int .i64 n] w fun e w'=>e=.returned (.agg #[.int .i64 (rpow n.toNat x).a,.int .i64 (rpow n.toNat x).b,.int .i64 (rpow n.toNat x).c,.int .i64 (rpow n.toNat x).d])∧Grew w w':=by
 obtain ⟨q,rfl⟩:=Int.eq_ofNat_of_zero_le h0;exact by_nat x q w h (by omega)
open Go Go.RowKit Amp
set_option maxHeartbeats 2000000 in
theorem add_lt (x y:C4) (k j:Int) (w:World) (hx:smallB x=true) (hy:smallB y=true) (hk:0≤k∧k≤40) (hj:0≤j∧j≤40) (hlt:k<j) :
  Calls Tryz.prog 94 #[.agg #[.int .i64 x.a,.int .i64 x.b,.int .i64 x.c,.int .i64 x.d,.int .i64 k],.agg #[.int .i64 y.a,.int .i64 y.b,.int .i64 y.c,.int .i64 y.d,.int .i64 j]] w fun e w'=>e=.returned (.agg #[.int .i64 ((rpow (j - k).toNat x).a+y.a),.int .i64 ((rpow (j - k).toNat x).b+y.b),.int .i64 ((rpow (j - k).toNat x).c+y.c),.int .i64 ((rpow (j - k).toNat x).d+y.d),.int .i64 j])∧Grew w w':=by
 obtain ⟨_,_⟩:=hk;obtain ⟨_,_⟩:=hj;have hm:max k j=j:=by omega
 have HB:=hid fun w=>by_any x (j - k) w hx (by omega) (by omega)
 obtain ⟨⟨_,_⟩,⟨_,_⟩,⟨_,_⟩,⟨_,_⟩⟩:=bd_rpow (n:=(j - k).toNat) (by omega) hx;obtain ⟨⟨_,_⟩,⟨_,_⟩,⟨_,_⟩,⟨_,_⟩⟩:=smallB_iff.1 hy;have Hm:=hid hm;clear hx hy hm;go_enter Tryz.func94,Tryz.ntmps94
 go_wp2_with fail
 refine (HB.out _).mono ?_;rintro e w' ⟨rfl,g,n,rfl⟩;go_wp2_with fail
 refine wp_loop_rounds 5 ?_;simp only [rounds_succ];go_wp2_with fail
 refine wp_region_gentle_tail 9 (by kernel_rfl) (by kernel_rfl) (by kernel_rfl) ?_;simp only [List.take_succ_cons,List.take_zero,List.drop_succ_cons,List.drop_zero];repeat (first | go_big_quiet_skip | (go_big_quiet_want;go_big_quiet_op;first | go_big_quiet_on | fail))
 refine wpQuiet_nil ?_;rintro _ ⟨gg,ng,rfl⟩;go_wp2_with fail
 simp only [rounds_succ];go_wp2_with fail
 refine wp_region_gentle_tail 9 (by kernel_rfl) (by kernel_rfl) (by kernel_rfl) ?_;simp only [List.take_succ_cons,List.take_zero,List.drop_succ_cons,List.drop_zero];repeat (first | go_big_quiet_skip | (go_big_quiet_want;go_big_quiet_op;first | go_big_quiet_on | fail))
 refine wpQuiet_nil ?_;rintro _ ⟨gg,ng,rfl⟩;go_wp2_with fail
 simp only [rounds_succ];go_wp2_with fail
 refine wp_region_gentle_tail 9 (by kernel_rfl) (by kernel_rfl) (by kernel_rfl) ?_;simp only [List.take_succ_cons,List.take_zero,List.drop_succ_cons,List.drop_zero];repeat (first | go_big_quiet_skip | (go_big_quiet_want;go_big_quiet_op;first | go_big_quiet_on | fail))
 refine wpQuiet_nil ?_;rintro _ ⟨gg,ng,rfl⟩;go_wp2_with fail
 simp only [rounds_succ];go_wp2_with fail
 refine wp_region_gentle_tail 9 (by kernel_rfl) (by kernel_rfl) (by kernel_rfl) ?_;simp only [List.take_succ_cons,List.take_zero,List.drop_succ_cons,List.drop_zero];repeat (first | go_big_quiet_skip | (go_big_quiet_want;go_big_quiet_op;first | go_big_quiet_on | fail))
 refine wpQuiet_nil ?_;rintro _ ⟨gg,ng,rfl⟩;go_wp2_with fail
 simp only [rounds_succ];go_wp2_with fail
 exact bodyPost_ret (v:=.agg #[.int .i64 ((rpow (j - k).toNat x).a+y.a),.int .i64 ((rpow (j - k).toNat x).b+y.b),.int .i64 ((rpow (j - k).toNat x).c+y.c),.int .i64 ((rpow (j - k).toNat x).d+y.d),.int .i64 j]) (by simp [results,Tryz.results94,go_sem]) rfl ⟨rfl,gw0⟩
set_option maxHeartbeats 2000000 in
theorem add_ge (x y:C4) (k j:Int) (w:World) (hx:smallB x=true) (hy:smallB y=true) (hk:0≤k∧k≤40) (hj:0≤j∧j≤40) (hlt:¬ k<j) :
  Calls Tryz.prog 94 #[.agg #[.int .i64 x.a,.int .i64 x.b,.int .i64 x.c,.int .i64 x.d,.int .i64 k],.agg #[.int .i64 y.a,.int .i64 y.b,.int .i64 y.c,.int .i64 y.d,.int .i64 j]] w fun e w'=>e=.returned (.agg #[.int .i64 ((rpow (k - j).toNat y).a+x.a),.int .i64 ((rpow (k - j).toNat y).b+x.b),.int .i64 ((rpow (k - j).toNat y).c+x.c),.int .i64 ((rpow (k - j).toNat y).d+x.d),.int .i64 k])∧Grew w w':=by
 obtain ⟨_,_⟩:=hk;obtain ⟨_,_⟩:=hj;have hm:max k j=k:=by omega
 have HB:=hid fun w=>by_any y (k - j) w hy (by omega) (by omega)
 obtain ⟨⟨_,_⟩,⟨_,_⟩,⟨_,_⟩,⟨_,_⟩⟩:=bd_rpow (n:=(k - j).toNat) (by omega) hy;obtain ⟨⟨_,_⟩,⟨_,_⟩,⟨_,_⟩,⟨_,_⟩⟩:=smallB_iff.1 hx;have Hm:=hid hm;clear hx hy hm;go_enter Tryz.func94,Tryz.ntmps94
 go_wp2_with fail
 refine (HB.out _).mono ?_;rintro e w' ⟨rfl,g,n,rfl⟩;go_wp2_with fail
 refine wp_loop_rounds 5 ?_;simp only [rounds_succ];go_wp2_with fail
 refine wp_region_gentle_tail 9 (by kernel_rfl) (by kernel_rfl) (by kernel_rfl) ?_;simp only [List.take_succ_cons,List.take_zero,List.drop_succ_cons,List.drop_zero];repeat (first | go_big_quiet_skip | (go_big_quiet_want;go_big_quiet_op;first | go_big_quiet_on | fail))
 refine wpQuiet_nil ?_;rintro _ ⟨gg,ng,rfl⟩;go_wp2_with fail
 simp only [rounds_succ];go_wp2_with fail
 refine wp_region_gentle_tail 9 (by kernel_rfl) (by kernel_rfl) (by kernel_rfl) ?_;simp only [List.take_succ_cons,List.take_zero,List.drop_succ_cons,List.drop_zero];repeat (first | go_big_quiet_skip | (go_big_quiet_want;go_big_quiet_op;first | go_big_quiet_on | fail))
 refine wpQuiet_nil ?_;rintro _ ⟨gg,ng,rfl⟩;go_wp2_with fail
 simp only [rounds_succ];go_wp2_with fail
 refine wp_region_gentle_tail 9 (by kernel_rfl) (by kernel_rfl) (by kernel_rfl) ?_;simp only [List.take_succ_cons,List.take_zero,List.drop_succ_cons,List.drop_zero];repeat (first | go_big_quiet_skip | (go_big_quiet_want;go_big_quiet_op;first | go_big_quiet_on | fail))
 refine wpQuiet_nil ?_;rintro _ ⟨gg,ng,rfl⟩;go_wp2_with fail
 simp only [rounds_succ];go_wp2_with fail
 refine wp_region_gentle_tail 9 (by kernel_rfl) (by kernel_rfl) (by kernel_rfl) ?_;simp only [List.take_succ_cons,List.take_zero,List.drop_succ_cons,List.drop_zero];repeat (first | go_big_quiet_skip | (go_big_quiet_want;go_big_quiet_op;first | go_big_quiet_on | fail))
 refine wpQuiet_nil ?_;rintro _ ⟨gg,ng,rfl⟩;go_wp2_with fail
 simp only [rounds_succ];go_wp2_with fail
 exact bodyPost_ret (v:=.agg #[.int .i64 ((rpow (k - j).toNat y).a+x.a),.int .i64 ((rpow (k - j).toNat y).b+x.b),.int .i64 ((rpow (k - j).toNat y).c+x.c),.int .i64 ((rpow (k - j).toNat y).d+x.d),.int .i64 k]) (by simp [results,Tryz.results94,go_sem]) rfl ⟨rfl,gw0⟩
theorem add_any (x y:C4) (k j:Int) (w:World) (hx:smallB x=true) (hy:smallB y=true) (hk:0≤k∧k≤40) (hj:0≤j∧j≤40) :
  Calls Tryz.prog 94 #[.agg #[.int .i64 x.a,.int .i64 x.b,.int .i64 x.c,.int .i64 x.d,.int .i64 k],.agg #[.int .i64 y.a,.int .i64 y.b,.int .i64 y.c,.int .i64 y.d,.int .i64 j]] w fun e w'=>e=.returned (.agg #[.int .i64 (addK x k y j).a,.int .i64 (addK x k y j).b,.int .i64 (addK x k y j).c,.int .i64 (addK x k y j).d,.int .i64 (max k j)])∧Grew w w':=by
 by_cases hlt:k<j
 · refine (add_lt x y k j w hx hy hk hj hlt).mono fun e w' h=>⟨h.1.trans ?_,h.2⟩
   rw [addK_lt hlt,show max k j=j by omega]
 · refine (add_ge x y k j w hx hy hk hj hlt).mono fun e w' h=>⟨h.1.trans ?_,h.2⟩
   rw [addK_ge hlt,show max k j=k by omega];simp only [Int.add_comm]
open Go Go.RowKit Amp
open Go Go.RowKit Amp
set_option maxHeartbeats 800000 in
theorem aAdd_any (x y:C4) (k j:Int) (w:World) :
  Calls Tryz.prog 91 #[.agg #[.int .i64 x.a,.int .i64 x.b,.int .i64 x.c,.int .i64 x.d,.int .i64 k],.agg #[.int .i64 y.a,.int .i64 y.b,.int .i64 y.c,.int .i64 y.d,.int .i64 j]] w fun e w'=>e=.returned (.tuple #[.agg #[.int .i64 (addN x k y j).x.a,.int .i64 (addN x k y j).x.b,.int .i64 (addN x k y j).x.c,.int .i64 (addN x k y j).x.d,.int .i64 (addN x k y j).k],.int .i64 (addN x k y j).e])∧Grew w w':=by
 by_cases hv:validB x k=true∧validB y j=true
 case neg =>
  have he:Hid ((addN x k y j)=fail 10):=if_neg hv;have hb:(validB x k&&validB y j)=false:=by
   rw [Bool.eq_false_iff];simpa using hv
  clear hv;go_enter Tryz.func91,Tryz.ntmps91
  go_wp2_with fail
  refine (valid2_any x y k j _ _ _ _ (by first | exact blk_new_drewN (by simp [go_sem]) | exact blk_new (by simp [go_sem]))).mono ?_;rintro e w1 ⟨rfl,g,n,rfl⟩;rw [hb];clear hb;go_wp2_with fail
  exact bodyPost_ret (v:=.tuple #[.agg #[.int .i64 0,.int .i64 0,.int .i64 0,.int .i64 0,.int .i64 0],.int .i64 10]) (by simp [results,Tryz.results91,go_sem]) rfl ⟨by rw [he.out];rfl,gw0⟩
 have he:Hid ((addN x k y j)=(made (addK x k y j) (max k j))):=if_pos hv;have hb:(validB x k&&validB y j)=true:=by simpa using hv
 obtain ⟨h1,h2⟩:=hv;have sx:=validB_small h1;have sy:=validB_small h2;have kx:=validB_k h1;have ky:=validB_k h2;have HM:=hid fun w=>aresult_any (addK x k y j) (max k j) w (in4_addK sx sy kx ky) (by omega) (by omega)
 have HA:=hid fun w=>add_any x y k j w sx sy kx ky
 clear h1 h2 sx sy kx ky;go_enter Tryz.func91,Tryz.ntmps91
 go_wp2_with fail
 refine (valid2_any x y k j _ _ _ _ (by first | exact blk_new_drewN (by simp [go_sem]) | exact blk_new (by simp [go_sem]))).mono ?_;rintro e w1 ⟨rfl,g,n,rfl⟩;rw [hb];clear hb;go_wp2_with fail
 refine (HA.out _).mono ?_;rintro e w' ⟨rfl,g1,n1,rfl⟩;go_wp2_with fail
 refine (HM.out _).mono ?_;rintro e w' ⟨rfl,g2,n2,rfl⟩;go_wp2_with fail
 exact bodyPost_ret (v:=.tuple #[.agg #[.int .i64 (made (addK x k y j) (max k j)).x.a,.int .i64 (made (addK x k y j) (max k j)).x.b,.int .i64 (made (addK x k y j) (max k j)).x.c,.int .i64 (made (addK x k y j) (max k j)).x.d,.int .i64 (made (addK x k y j) (max k j)).k],.int .i64 (made (addK x k y j) (max k j)).e]) (by simp [results,Tryz.results91,go_sem]) rfl ⟨by rw [he.out],gw0⟩
end Go.Proofs.YtchdmecjhaanfaaGreatDoor
