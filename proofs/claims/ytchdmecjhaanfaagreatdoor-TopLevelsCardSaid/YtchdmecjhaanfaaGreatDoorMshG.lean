import Derived.Test.YtchdmecjhaanfaaGreatDoorMshE
import Derived.Test.YtchdmecjhaanfaaGreatDoorAmpI
import Derived.Test.YtchdmecjhaanfaaGreatDoorMshPlain
import Derived.Test.YtchdmecjhaanfaaGreatDoorHouse
namespace Go.Proofs.YtchdmecjhaanfaaGreatDoor
open Go Go.RowKit Amp Msh
set_option maxHeartbeats 800000 in
theorem products_mul (p0 p1 p2 p3:Nat) (l:List (Num × Num)) (w:World) (hl:l.length≤6)
  (HF:∀ (j:Nat) (p:Num × Num) (w':World),l[j]? = some p→Grew w w'→Calls Tryz.prog 107 #[.int .i64 j,.pointer (some ⟨p0,0,none⟩),.pointer (some ⟨p1,0,none⟩),.pointer (some ⟨p2,0,none⟩),.pointer (some ⟨p3,0,none⟩)] w' fun e w''=>e=.returned (.tuple #[.agg #[.int .i64 p.1.x.a,.int .i64 p.1.x.b,.int .i64 p.1.x.c,.int .i64 p.1.x.d,.int .i64 p.1.k],.agg #[.int .i64 p.2.x.a,.int .i64 p.2.x.b,.int .i64 p.2.x.c,.int .i64 p.2.x.d,.int .i64 p.2.k]])∧Grew w' w'') :
  Calls Tryz.prog 88 #[.int .i64 l.length,.func (.func 107) #[] #[.pointer (some ⟨p0,0,none⟩),.pointer (some ⟨p1,0,none⟩),.pointer (some ⟨p2,0,none⟩),.pointer (some ⟨p3,0,none⟩)]] w fun e w'=>e=.returned (.tuple #[.agg #[.int .i64 (rowN l).x.a,.int .i64 (rowN l).x.b,.int .i64 (rowN l).x.c,.int .i64 (rowN l).x.d,.int .i64 (rowN l).k],.int .i64 (rowN l).e])∧Grew w w':=by
 have HF:=hid HF;go_enter Tryz.func88,Tryz.ntmps88
 go_wp2_with fail
 go_loopw [13] (fun n wr=>∃ (i:Nat) (s:C4) (k:Int),i≤l.length∧n=.int .i64 i∧Hid (rowA s k (l.drop i)=rowN l)∧Grew ((w.alloc (.cells #[.int .i64 0,.int .i64 0,.int .i64 0,.int .i64 0,.int .i64 0] 67)).alloc (.cells #[.int .i64 s.a,.int .i64 s.b,.int .i64 s.c,.int .i64 s.d,.int .i64 k] 67)) wr) (fun n _=>l.length - (intOf n).toNat)
 case atStart=>exact ⟨0,zero,0,Nat.zero_le _,rfl,rfl,gw0⟩
 case round =>
  obtain ⟨i,s,k,hi,rfl,hs,g,n,rfl⟩:=hrel;by_cases hlt:i<l.length
  · obtain ⟨p,hp⟩:∃ p,l[i]? = some p:=⟨l[i],List.getElem?_eq_getElem hlt⟩
    have Hp:=hid hp;clear hp;go_wp2_with fail
    refine (HF.out i p _ Hp.out gw0).mono ?_;rintro e w' ⟨rfl,g1,n1,rfl⟩;go_wp2_with fail
    have HM:=hid fun w=>aMul_any p.1.x p.2.x p.1.k p.2.k w
    obtain ⟨m,hm⟩:∃ m,mulN p.1.x p.1.k p.2.x p.2.k=m:=⟨_,rfl⟩;rw [hm] at HM;have Hm:=hid hm;clear hm;refine (HM.out _).mono ?_;rintro e w' ⟨rfl,g2,n2,rfl⟩;by_cases he:m.e=0
    case neg =>
     have h0:Hid (rowN l=⟨zero,0,m.e⟩):=hs.out.symm.trans (rowA_mul Hp.out Hm.out he);have e1:(m.e != 0)=true:=by simpa using he
     clear he hs Hp Hm;go_wp2_with fail
     exact bodyPost_ret (v:=.tuple #[.agg #[.int .i64 0,.int .i64 0,.int .i64 0,.int .i64 0,.int .i64 0],.int .i64 m.e]) (by simp [results,Tryz.results88,go_sem]) rfl ⟨by rw [h0.out];rfl,gw0⟩
    have He:=hid he;rw [he];clear he;go_wp2_with fail
    have HA:=hid fun w=>aAdd_any s m.x k m.k w
    obtain ⟨a,ha⟩:∃ a,addN s k m.x m.k=a:=⟨_,rfl⟩;rw [ha] at HA;have Ha:=hid ha;clear ha;refine (HA.out _).mono ?_;rintro e w' ⟨rfl,g3,n3,rfl⟩;by_cases hae:a.e=0
    case neg =>
     have h0:Hid (rowN l=⟨zero,0,a.e⟩):=hs.out.symm.trans (rowA_add Hp.out Hm.out He.out Ha.out hae);have e1:(a.e != 0)=true:=by simpa using hae
     clear hae hs Hp Hm Ha;go_wp2_with fail
     exact bodyPost_ret (v:=.tuple #[.agg #[.int .i64 0,.int .i64 0,.int .i64 0,.int .i64 0,.int .i64 0],.int .i64 a.e]) (by simp [results,Tryz.results88,go_sem]) rfl ⟨by rw [h0.out];rfl,gw0⟩
    have h0:Hid (rowA a.x a.k (l.drop (i+1))=rowN l):=(rowA_step Hp.out Hm.out He.out Ha.out hae).symm.trans hs.out;rw [hae];clear hae hs Hp Hm Ha He;go_wp2_with fail
    go_roundw
    case rel=>exact ⟨i+1,a.x,a.k,by omega,by go_num,h0,gw0⟩
    case measure=>simp [intOf];omega
  · obtain rfl:i=l.length:=by omega
    have h0:Hid (rowN l=⟨s,k,0⟩):=hs.out.symm.trans (rowA_end s k l);clear hs;go_wp2_with fail
    exact bodyPost_ret (v:=.tuple #[.agg #[.int .i64 s.a,.int .i64 s.b,.int .i64 s.c,.int .i64 s.d,.int .i64 k],.int .i64 0]) (by simp [results,Tryz.results88,go_sem]) rfl ⟨by rw [h0.out],gw0⟩
open Go Go.RowKit Amp Msh
set_option maxHeartbeats 800000 in
theorem mulF_any (n i k j:Nat) (px pi py pk:Nat) (a0 a1:Option Addr) (k0 k1:Nat) (la lb:List Num) (x y:Num) (w:World) (bx:px<w.heap.size) (bi:pi<w.heap.size) (by_:py<w.heap.size) (bk:pk<w.heap.size) (hx0:w.cell? ⟨px,0,none⟩=some (.int .i64 n)) (hx1:w.cell? ⟨px,1,none⟩=some (.slice a0 la.length k0)) (hi:w.cell? ⟨pi,0,none⟩=some (.int .i64 i)) (hy0:w.cell? ⟨py,0,none⟩=some (.int .i64 n)) (hy1:w.cell? ⟨py,1,none⟩=some (.slice a1 lb.length k1)) (hk:w.cell? ⟨pk,0,none⟩=some (.int .i64 k))
  (hla:la.length≤36) (hlb:lb.length≤36) (h0:Nms w a0 la) (h1:Nms w a1 lb) (hin:i*n≤36) (hjn:j*n≤36) (hx:la[i*n+j]? = some x) (hy:lb[j*n+k]? = some y) :
  Calls Tryz.prog 107 #[.int .i64 j,.pointer (some ⟨px,0,none⟩),.pointer (some ⟨pi,0,none⟩),.pointer (some ⟨py,0,none⟩),.pointer (some ⟨pk,0,none⟩)] w fun e w'=>e=.returned (.tuple #[.agg #[.int .i64 x.x.a,.int .i64 x.x.b,.int .i64 x.x.c,.int .i64 x.x.d,.int .i64 x.k],.agg #[.int .i64 y.x.a,.int .i64 y.x.b,.int .i64 y.x.c,.int .i64 y.x.d,.int .i64 y.k]])∧Grew w w':=by
 have c1:(i:Int)*n=((i*n:Nat):Int):=by simp
 have c2:(j:Int)*n=((j*n:Nat):Int):=by simp
 have HX:=hid fun w' (hg:Grew w w')=>at_any n i j (i*n+j) x a0 k0 la w' hla (h0.grew hg) (by omega) (by omega) (by omega) hx
 have HY:=hid fun w' (hg:Grew w w')=>at_any n j k (j*n+k) y a1 k1 lb w' hlb (h1.grew hg) (by omega) (by omega) (by omega) hy
 clear h0 h1 hx hy c1 c2;have bx1:=fun m0:Nat=>Nat.lt_add_right m0 (bx)
 have bx2:=fun m0 m1:Nat=>Nat.lt_add_right m1 (bx1 m0)
 have bx3:=fun m0 m1 m2:Nat=>Nat.lt_add_right m2 (bx2 m0 m1)
 have bi1:=fun m0:Nat=>Nat.lt_add_right m0 (bi)
 have bi2:=fun m0 m1:Nat=>Nat.lt_add_right m1 (bi1 m0)
 have bi3:=fun m0 m1 m2:Nat=>Nat.lt_add_right m2 (bi2 m0 m1)
 have by_1:=fun m0:Nat=>Nat.lt_add_right m0 (by_)
 have by_2:=fun m0 m1:Nat=>Nat.lt_add_right m1 (by_1 m0)
 have by_3:=fun m0 m1 m2:Nat=>Nat.lt_add_right m2 (by_2 m0 m1)
 have bk1:=fun m0:Nat=>Nat.lt_add_right m0 (bk)
 have bk2:=fun m0 m1:Nat=>Nat.lt_add_right m1 (bk1 m0)
 have bk3:=fun m0 m1 m2:Nat=>Nat.lt_add_right m2 (bk2 m0 m1)
 go_enter Tryz.func107,Tryz.ntmps107
 go_wp2_with fail
 refine R3.wp_region_gentle_tail 8 (by kernel_rfl) (by kernel_rfl) (by kernel_rfl) ?_;simp only [List.take_succ_cons,List.take_zero,List.drop_succ_cons,List.drop_zero];repeat (first | go_big_quiet_skip | (go_big_quiet_want;go_big_quiet_op;first | go_big_quiet_on | (apply Exists.intro;refine ⟨fun qq=>?_, ?_⟩;(focus ((first | (go_at_call 76;with_reducible refine Calls.gentle_of (HX.out _ gw0) ?_) | (go_at_call 76;with_reducible refine Calls.gentle_of (HY.out _ gw0) ?_));rintro _ ⟨g',n',rfl⟩;exact ⟨⟨qq.g++g',qq.n+n'⟩,by rw [World.grow_drewN,World.grow_grow,World.drewN_drewN];repeat (first | rw [List.append_assoc] | rw [Nat.add_assoc])⟩));go_big_quiet_on)))
 refine wpQuiet_nil ?_;rintro _ ⟨gg,ng,rfl⟩;go_wp2_with fail
 exact bodyPost_ret (v:=.tuple #[.agg #[.int .i64 x.x.a,.int .i64 x.x.b,.int .i64 x.x.c,.int .i64 x.x.d,.int .i64 x.k],.agg #[.int .i64 y.x.a,.int .i64 y.x.b,.int .i64 y.x.c,.int .i64 y.x.d,.int .i64 y.k]]) (by simp [results,Tryz.results107,go_sem]) rfl ⟨rfl,gw0⟩
theorem products_mulN (p0 p1 p2 p3:Nat) (l:List (Num × Num)) (n:Nat) (hn:l.length=n) (w:World) (hl:n≤6)
  (HF:∀ (j:Nat) (p:Num × Num) (w':World),l[j]? = some p→Grew w w'→Calls Tryz.prog 107 #[.int .i64 j,.pointer (some ⟨p0,0,none⟩),.pointer (some ⟨p1,0,none⟩),.pointer (some ⟨p2,0,none⟩),.pointer (some ⟨p3,0,none⟩)] w' fun e w''=>e=.returned (.tuple #[.agg #[.int .i64 p.1.x.a,.int .i64 p.1.x.b,.int .i64 p.1.x.c,.int .i64 p.1.x.d,.int .i64 p.1.k],.agg #[.int .i64 p.2.x.a,.int .i64 p.2.x.b,.int .i64 p.2.x.c,.int .i64 p.2.x.d,.int .i64 p.2.k]])∧Grew w' w'') :
  Calls Tryz.prog 88 #[.int .i64 n,.func (.func 107) #[] #[.pointer (some ⟨p0,0,none⟩),.pointer (some ⟨p1,0,none⟩),.pointer (some ⟨p2,0,none⟩),.pointer (some ⟨p3,0,none⟩)]] w fun e w'=>e=.returned (.tuple #[.agg #[.int .i64 (rowN l).x.a,.int .i64 (rowN l).x.b,.int .i64 (rowN l).x.c,.int .i64 (rowN l).x.d,.int .i64 (rowN l).k],.int .i64 (rowN l).e])∧Grew w w':=by
 subst hn;exact products_mul p0 p1 p2 p3 l w hl HF
set_option maxHeartbeats 800000 in
theorem mulK_any (n i k:Nat) (pm px py:Nat) (a0 a1:Option Addr) (k0 k1:Nat) (la lb:List Num) (w:World) (bm:pm<w.heap.size) (bx:px<w.heap.size) (by_:py<w.heap.size)
  (hm:w.cell? ⟨pm,0,none⟩=some (.int .i64 n)) (hx0:w.cell? ⟨px,0,none⟩=some (.int .i64 n)) (hx1:w.cell? ⟨px,1,none⟩=some (.slice a0 la.length k0)) (hy0:w.cell? ⟨py,0,none⟩=some (.int .i64 n)) (hy1:w.cell? ⟨py,1,none⟩=some (.slice a1 lb.length k1))
  (hla:la.length=n*n) (hlb:lb.length=n*n) (h0:Nms w a0 la) (h1:Nms w a1 lb) (hn:n≤6) (hi:i<n) (hk:k<n) :
  Calls Tryz.prog 106 #[.int .i64 i,.int .i64 k,.pointer (some ⟨pm,0,none⟩),.pointer (some ⟨px,0,none⟩),.pointer (some ⟨py,0,none⟩)] w fun e w'=>e=.returned (.tuple #[.agg #[.int .i64 (rowN (prow la lb n i k)).x.a,.int .i64 (rowN (prow la lb n i k)).x.b,.int .i64 (rowN (prow la lb n i k)).x.c,.int .i64 (rowN (prow la lb n i k)).x.d,.int .i64 (rowN (prow la lb n i k)).k],.int .i64 (rowN (prow la lb n i k)).e])∧Grew w w':=by
 have q:n*n≤36:=by have h:=Nat.mul_le_mul hn hn;omega
 have HP:=hid fun (bi bk:Nat) (w':World) (hg:Grew w w') (h2:bi<w'.heap.size) (h3:bk<w'.heap.size) (h4:w'.cell? ⟨bi,0,none⟩=some (.int .i64 i)) (h5:w'.cell? ⟨bk,0,none⟩=some (.int .i64 k)) =>
  products_mulN px bi py bk (prow la lb n i k) n (prow_length _ _ _ _ _) w' hn (fun j p w'' hp hg'=>by
   obtain ⟨hj,hx,hy⟩:=prow_at hla hlb hi hk hp;have G:=hg.trans hg';exact mulF_any n i k j px bi py bk a0 a1 k0 k1 la lb p.1 p.2 w'' (Nat.lt_of_lt_of_le bx G.size) (Nat.lt_of_lt_of_le h2 hg'.size) (Nat.lt_of_lt_of_le by_ G.size) (Nat.lt_of_lt_of_le h3 hg'.size)
    ((G.cell bx _).trans hx0) ((G.cell bx _).trans hx1) ((hg'.cell h2 _).trans h4) ((G.cell by_ _).trans hy0) ((G.cell by_ _).trans hy1) ((hg'.cell h3 _).trans h5)
    (by omega) (by omega) (h0.grew G) (h1.grew G) (sq_le hi hn) (sq_le hj hn) hx hy)
 clear hx0 hx1 hy0 hy1 h0 h1 hla hlb;have bm1:=fun m0:Nat=>Nat.lt_add_right m0 (bm)
 have bm2:=fun m0 m1:Nat=>Nat.lt_add_right m1 (bm1 m0)
 have bm3:=fun m0 m1 m2:Nat=>Nat.lt_add_right m2 (bm2 m0 m1)
 go_enter Tryz.func106,Tryz.ntmps106
 go_wp2_with fail
 refine (HP.out _ _ _ gw0 (by simp <;> omega) (by simp <;> omega) (by simp [go_sem]) (by simp [go_sem])).mono ?_;rintro e w' ⟨rfl,g,n',rfl⟩;obtain ⟨R,hR⟩:∃ R,rowN (prow la lb n i k)=R:=⟨_,rfl⟩;rw [hR];have HR:=hid hR;clear hR;go_wp2_with fail
 exact bodyPost_ret (v:=.tuple #[.agg #[.int .i64 R.x.a,.int .i64 R.x.b,.int .i64 R.x.c,.int .i64 R.x.d,.int .i64 R.k],.int .i64 R.e]) (by simp [results,Tryz.results106,go_sem]) rfl ⟨by rw [HR.out],gw0⟩
open Go Go.RowKit Amp Msh
set_option maxHeartbeats 800000 in
theorem idP_on (i k:Int) (w:World) (h:i=k) :
  Calls Tryz.prog 104 #[.int .i64 i,.int .i64 k] w fun e w'=>e=.returned (.tuple #[.agg #[.int .i64 1,.int .i64 0,.int .i64 0,.int .i64 0,.int .i64 0],.int .i64 0])∧Grew w w':=by
 subst h;go_enter Tryz.func104,Tryz.ntmps104
 go_wp2_with fail
 exact bodyPost_ret (v:=.tuple #[.agg #[.int .i64 1,.int .i64 0,.int .i64 0,.int .i64 0,.int .i64 0],.int .i64 0]) (by simp [results,Tryz.results104,go_sem]) rfl ⟨rfl,gw0⟩
set_option maxHeartbeats 800000 in
theorem idP_off (i k:Int) (w:World) (h:¬ i=k) :
  Calls Tryz.prog 104 #[.int .i64 i,.int .i64 k] w fun e w'=>e=.returned (.tuple #[.agg #[.int .i64 0,.int .i64 0,.int .i64 0,.int .i64 0,.int .i64 0],.int .i64 0])∧Grew w w':=by
 have e1:(i==k)=false:=by simpa using h
 clear h;go_enter Tryz.func104,Tryz.ntmps104
 go_wp2_with fail
 exact bodyPost_ret (v:=.tuple #[.agg #[.int .i64 0,.int .i64 0,.int .i64 0,.int .i64 0,.int .i64 0],.int .i64 0]) (by simp [results,Tryz.results104,go_sem]) rfl ⟨rfl,gw0⟩
theorem idP_any (i k:Int) (w:World) :
  Calls Tryz.prog 104 #[.int .i64 i,.int .i64 k] w fun e w'=>e=.returned (.tuple #[.agg #[.int .i64 (if i=k then 1 else 0),.int .i64 0,.int .i64 0,.int .i64 0,.int .i64 0],.int .i64 0])∧Grew w w':=by
 by_cases h:i=k
 · rw [if_pos h];exact idP_on i k w h
 · rw [if_neg h];exact idP_off i k w h
end Go.Proofs.YtchdmecjhaanfaaGreatDoor
