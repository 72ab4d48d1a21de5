import Derived.Test.YtchdmecjhaanfaaGreatDoorMshR
import Derived.Test.YtchdmecjhaanfaaGreatDoorMshLin
import Derived.Test.YtchdmecjhaanfaaGreatDoorAmpI
import Derived.Test.YtchdmecjhaanfaaGreatDoorMshPlain
namespace Go.Proofs.YtchdmecjhaanfaaGreatDoor
open Go Go.RowKit Amp Msh
theorem _root_.k48_ {p:Prop} (h:p:=by
 conv=>arg 3;rw [e2]
 clear e2;go_simp;exact ⟨by rw [R4.upd_same];exact ⟨a2,k2,rfl,h2⟩,.inl (Grew.refl _)⟩):p:=h
theorem _root_.k28_ {p:Prop} (h:p:=by
 obtain rfl:=Option.some.inj ho;change R4.Oper.slotAt _ _ { tmps:=_,defers:=_ } _ _;obtain ⟨gq,nq,rfl⟩:=hg;go_simp;exact ⟨R4.upd_same _ _ _,.inl (Grew.refl _)⟩):p:=h
set_option maxHeartbeats 800000 in
theorem products_app (p0 p1 p2:Nat) (l:List (Num × Num)) (w:World) (hl:l.length≤6)
  (HF:∀ (j:Nat) (p:Num × Num) (w':World),l[j]? = some p→Grew w w'→Calls Tryz.prog 89 #[.int .i64 j,.pointer (some ⟨p0,0,none⟩),.pointer (some ⟨p1,0,none⟩),.pointer (some ⟨p2,0,none⟩)] w' fun e w''=>e=.returned (.tuple #[.agg #[.int .i64 p.1.x.a,.int .i64 p.1.x.b,.int .i64 p.1.x.c,.int .i64 p.1.x.d,.int .i64 p.1.k],.agg #[.int .i64 p.2.x.a,.int .i64 p.2.x.b,.int .i64 p.2.x.c,.int .i64 p.2.x.d,.int .i64 p.2.k]])∧Grew w' w'') :
  Calls Tryz.prog 88 #[.int .i64 l.length,.func (.func 89) #[] #[.pointer (some ⟨p0,0,none⟩),.pointer (some ⟨p1,0,none⟩),.pointer (some ⟨p2,0,none⟩)]] w fun e w'=>e=.returned (.tuple #[.agg #[.int .i64 (rowN l).x.a,.int .i64 (rowN l).x.b,.int .i64 (rowN l).x.c,.int .i64 (rowN l).x.d,.int .i64 (rowN l).k],.int .i64 (rowN l).e])∧Grew w w':=by
 have HF:=hid HF;go_enter Tryz.func88,Tryz.ntmps88
 go_wp2_with fail
 go_loopw [13] (fun n wr=>∃ (i:Nat) (s:C4) (k:Int),i≤l.length∧n=.int .i64 i∧Hid (rowA s k (l.drop i)=rowN l)∧Grew ((w.alloc (.cells #[.int .i64 0,.int .i64 0,.int .i64 0,.int .i64 0,.int .i64 0] 67)).alloc (.cells #[.int .i64 s.a,.int .i64 s.b,.int .i64 s.c,.int .i64 s.d,.int .i64 k] 67)) wr) (fun n _=>l.length - (intOf n).toNat)
 case atStart=>exact ⟨0,zero,0,Nat.zero_le _,rfl,rfl,gw0⟩
 case round =>
  obtain ⟨i,s,k,hi,rfl,hs,g,n,rfl⟩:=hrel;by_cases hlt:i<l.length
  · obtain ⟨p,hp⟩:∃ p,l[i]? = some p:=⟨l[i],List.getElem?_eq_getElem hlt⟩
    have Hp:=hid hp;clear hp;go_wp2_with fail
    refine (HF.out i p _ Hp.out gw0).mono ?_;rintro e w' ⟨rfl,g1,n1,rfl⟩;go_wp2_with fail
    have HM:=hid fun w=>aMul_any p.1.x p.2.x p.1.k p.2.k w
    obtain ⟨m,hm⟩:∃ m,mulN p.1.x p.1.k p.2.x p.2.k=m:=⟨_,rfl⟩;rw [hm] at HM;have Hm:=hid hm;clear hm;refine (HM.out _).mono ?_;rintro e w' ⟨rfl,g2,n2,rfl⟩;by_cases he:m.e=0
    case neg =>
     have h0:Hid (rowN l=⟨zero,0,m.e⟩):=hs.out.symm.trans (rowA_mul Hp.out Hm.out he);have e1:(m.e != 0)=true:=by simpa using he
     clear he hs Hp Hm;go_wp2_with fail
     exact bodyPost_ret (v:=.tuple #[.agg #[.int .i64 0,.int .i64 0,.int .i64 0,.int .i64 0,.int .i64 0],.int .i64 m.e]) (by simp [results,Tryz.results88,go_sem]) rfl ⟨by rw [h0.out];rfl,gw0⟩
    have He:=hid he;rw [he];clear he;go_wp2_with fail
    have HA:=hid fun w=>aAdd_any s m.x k m.k w
    obtain ⟨a,ha⟩:∃ a,addN s k m.x m.k=a:=⟨_,rfl⟩;rw [ha] at HA;have Ha:=hid ha;clear ha;refine (HA.out _).mono ?_;rintro e w' ⟨rfl,g3,n3,rfl⟩;by_cases hae:a.e=0
    case neg =>
     have h0:Hid (rowN l=⟨zero,0,a.e⟩):=hs.out.symm.trans (rowA_add Hp.out Hm.out He.out Ha.out hae);have e1:(a.e != 0)=true:=by simpa using hae
     clear hae hs Hp Hm Ha;go_wp2_with fail
     exact bodyPost_ret (v:=.tuple #[.agg #[.int .i64 0,.int .i64 0,.int .i64 0,.int .i64 0,.int .i64 0],.int .i64 a.e]) (by simp [results,Tryz.results88,go_sem]) rfl ⟨by rw [h0.out];rfl,gw0⟩
    have h0:Hid (rowA a.x a.k (l.drop (i+1))=rowN l):=(rowA_step Hp.out Hm.out He.out Ha.out hae).symm.trans hs.out;rw [hae];clear hae hs Hp Hm Ha He;go_wp2_with fail
    go_roundw
    case rel=>exact ⟨i+1,a.x,a.k,by omega,by go_num,h0,gw0⟩
    case measure=>simp [intOf];omega
  · obtain rfl:i=l.length:=by omega
    have h0:Hid (rowN l=⟨s,k,0⟩):=hs.out.symm.trans (rowA_end s k l);clear hs;go_wp2_with fail
    exact bodyPost_ret (v:=.tuple #[.agg #[.int .i64 s.a,.int .i64 s.b,.int .i64 s.c,.int .i64 s.d,.int .i64 k],.int .i64 0]) (by simp [results,Tryz.results88,go_sem]) rfl ⟨by rw [h0.out],gw0⟩
theorem products_appN (p0 p1 p2:Nat) (l:List (Num × Num)) (n:Nat) (hn:l.length=n) (w:World) (hl:n≤6)
  (HF:∀ (j:Nat) (p:Num × Num) (w':World),l[j]? = some p→Grew w w'→Calls Tryz.prog 89 #[.int .i64 j,.pointer (some ⟨p0,0,none⟩),.pointer (some ⟨p1,0,none⟩),.pointer (some ⟨p2,0,none⟩)] w' fun e w''=>e=.returned (.tuple #[.agg #[.int .i64 p.1.x.a,.int .i64 p.1.x.b,.int .i64 p.1.x.c,.int .i64 p.1.x.d,.int .i64 p.1.k],.agg #[.int .i64 p.2.x.a,.int .i64 p.2.x.b,.int .i64 p.2.x.c,.int .i64 p.2.x.d,.int .i64 p.2.k]])∧Grew w' w'') :
  Calls Tryz.prog 88 #[.int .i64 n,.func (.func 89) #[] #[.pointer (some ⟨p0,0,none⟩),.pointer (some ⟨p1,0,none⟩),.pointer (some ⟨p2,0,none⟩)]] w fun e w'=>e=.returned (.tuple #[.agg #[.int .i64 (rowN l).x.a,.int .i64 (rowN l).x.b,.int .i64 (rowN l).x.c,.int .i64 (rowN l).x.d,.int .i64 (rowN l).k],.int .i64 (rowN l).e])∧Grew w w':=by
 subst hn;exact products_app p0 p1 p2 l w hl HF
theorem prowV_both {la lv:List Num} {n i j:Nat} {p:Num × Num} (hla:la.length=n*n) (hlv:lv.length=n) (hi:i<n) (h:(prowV la lv n i)[j]? = some p):j<n∧la[i*n+j]? = some p.1∧lv[j]? = some p.2:=by
 have hj:j<n:=by have:=(List.getElem?_eq_some_iff.1 h).1;rwa [prowV_length] at this
 have h1:i*n+j<la.length:=by rw [hla];exact grid_lt hi hj
 have h2:j<lv.length:=by rw [hlv];exact hj
 have e:=prowV_at hj (List.getElem?_eq_getElem h1) (List.getElem?_eq_getElem h2);rw [h] at e;obtain rfl:=Option.some.inj e;exact ⟨hj,List.getElem?_eq_getElem h1,List.getElem?_eq_getElem h2⟩
set_option maxRecDepth 100000 in
set_option maxHeartbeats 4000000 in
theorem apply_any (n:Nat) (a0 a1:Option Addr) (k0 k1:Nat) (la lv:List Num) (w:World) (n1:1≤n) (n2:n≤6) (hla:la.length=n*n) (hlv:lv.length=n) (h0:Nms w a0 la) (h1:Nms w a1 lv) (va:VldL la) (vv:VldL lv) :
  Calls Tryz.prog 40 #[.agg #[.int .i64 n,.slice a0 la.length k0],.slice a1 lv.length k1] w (ListE (appM n la lv) w):=by
 obtain ⟨i0,hi,hz0,hz1,hz2⟩:=info_parts info_num;have q:n*n≤36:=Nat.mul_le_mul n2 n2;have i1:(1:Int)≤n:=by omega
 have i2:(n:Int)≤6:=by omega
 have la9:la.length≤9223372036854775807:=by omega
 have lv9:lv.length≤9223372036854775807:=by omega
 have laI:(la.length:Int)=(n:Int)*n:=by rw [hla];exact Int.natCast_mul n n
 have HVA:=hid fun w' (hg:Grew w w')=>mvalid_ok n i1 i2 a0 k0 la w' la9 (h0.grew hg) va laI
 have HVB:=hid fun w' (hg:Grew w w')=>vector_ok a1 k1 lv w' lv9 (h1.grew hg) vv (by omega) (by omega)
 have HP:=hid fun (i:Nat) (px pi pv:Nat) w' (hg:Grew w w') (hin:i<n) (bx:px<w'.heap.size) (bi:pi<w'.heap.size) (bv:pv<w'.heap.size) hx0 hx1 hi0 hv0 =>
  products_appN px pi pv (prowV la lv n i) n (prowV_length _ _ _ _) w' n2 fun j p w'' hp hg'=>by
   obtain ⟨hj,hx,hy⟩:=prowV_both hla hlv hin hp;have G:=hg.trans hg';exact appF_any n i j px pi pv a0 a1 k0 k1 la lv p.1 p.2 w'' (Nat.lt_of_lt_of_le bx hg'.size) (Nat.lt_of_lt_of_le bi hg'.size) (Nat.lt_of_lt_of_le bv hg'.size) ((hg'.cell bx _).trans hx0) ((hg'.cell bx _).trans hx1) ((hg'.cell bi _).trans hi0) ((hg'.cell bv _).trans hv0) (by omega) (by omega) (h0.grew G) (h1.grew G) (sq_le hin n2) hx hy
 have hlvn:(lv.length:Int)=n:=by omega
 have e0:((lv.length:Int) != n)=false:=by simp [hlvn]
 have HLV:=hid hlv;clear h0 h1 va vv laI la9 lv9 i1 i2 q hla hlv hlvn;go_enter Tryz.func40,Tryz.ntmps40
 go_wp2_with fail
 refine (HVA.out _ gw0).mono ?_;rintro e w' ⟨rfl,g,n',rfl⟩;go_wp2_with fail
 refine (HVB.out _ gw0).mono ?_;rintro e w' ⟨rfl,g',n'',rfl⟩;go_wp2_with fail
 obtain ⟨W,hW⟩:∃ W,W=((((w.alloc (.cells #[.int .i64 n,.slice a0 la.length k0] 35)).alloc (.cells #[.slice a1 lv.length k1] 23)).grow (g++g')).alloc (.cells #[.int .i64 n,.slice a0 la.length k0] 135)).drewN (n'+n''):=⟨_,rfl⟩;have hWg:Grew w W:=by rw [hW];exact gw0
 obtain ⟨b6,hb6⟩:∃ b6,b6=w.heap.size+1+1+g.length+g'.length:=⟨_,rfl⟩;obtain ⟨b3,hb3⟩:∃ b3,b3=w.heap.size+1:=⟨_,rfl⟩;have hk:(W.cell? ⟨w.heap.size,0,none⟩=some (.int .i64 n)∧W.cell? ⟨w.heap.size,1,none⟩=some (.slice a0 la.length k0)∧W.cell? ⟨b3,0,none⟩=some (.slice a1 lv.length k1)∧W.cell? ⟨b6,0,none⟩=some (.int .i64 n)∧W.cell? ⟨b6,1,none⟩=some (.slice a0 la.length k0))∧w.heap.size<W.heap.size∧b3<W.heap.size∧b6<W.heap.size:=by rw [hW,hb6,hb3];simp [go_sem] <;> omega
 obtain ⟨⟨y0,y1,y2,y3,y4⟩,z0,z3,z6⟩:=hk;rw [← hW,← hb6,← hb3];have HWG:=hid hWg;clear hW hb6 hb3 hWg;obtain ⟨L,hL⟩:∃ L,appR n la lv=L:=⟨_,rfl⟩;have HL:=hid hL;have HLn:=hid (show L.length=n by rw [← hL];exact appR_length _ _ _);have HR:Hid (appM n la lv=seqR L):=hid (by rw [← hL];rfl);clear hL;go_loopw [7,30] (fun c v wr=>∃ (q:Nat) (ac:Option Addr) (kc:Nat) (lq:List Num),q≤n∧v=.int .i64 q∧c=.slice ac lq.length kc∧Grew W wr∧Hid (seqR (L.take q)=(lq,0))∧Hid (wr.ownsRow W.heap.size 67 5 (.slice ac lq.length kc) lq.length (numsCells lq))) (fun _ v _=>n - (intOf v).toNat)
 case atStart=>exact ⟨0,none,0,[],Nat.zero_le _,rfl,rfl,Grew.refl _,hid (by simp [seqR]),hid (World.ownsRow_nil _ _ _ _)⟩
 case round =>
  obtain ⟨q,ac,kc,lq,hq,rfl,rfl,hg2,hs,hoc⟩:=hrel;have hsz:=hg2.size;obtain ⟨g2,n2',rfl⟩:=hg2;by_cases hlt:q<n
  · have hlen:lq.length≤6:=by rw [seqR_len hs.out (by rw [HLn.out];omega)];omega
    have z01:=fun m0:Nat=>Nat.lt_add_right m0 (z0)
    have z02:=fun m0 m1:Nat=>Nat.lt_add_right m1 (z01 m0)
    have z03:=fun m0 m1 m2:Nat=>Nat.lt_add_right m2 (z02 m0 m1)
    have z31:=fun m0:Nat=>Nat.lt_add_right m0 (z3)
    have z32:=fun m0 m1:Nat=>Nat.lt_add_right m1 (z31 m0)
    have z33:=fun m0 m1 m2:Nat=>Nat.lt_add_right m2 (z32 m0 m1)
    have z61:=fun m0:Nat=>Nat.lt_add_right m0 (z6)
    have z62:=fun m0 m1:Nat=>Nat.lt_add_right m1 (z61 m0)
    have z63:=fun m0 m1 m2:Nat=>Nat.lt_add_right m2 (z62 m0 m1)
    go_wp2_with fail
    refine (HP.out q _ _ _ _ (HWG.out.trans gw0) hlt (by simp [go_sem] <;> omega) (by simp [go_sem] <;> omega) (by simp [go_sem] <;> omega) (by simp [go_sem,y3,z6,z61]) (by simp [go_sem,y4,z6,z61]) (by simp [go_sem]) (by simp [go_sem,y2,z3,z31])).mono ?_;rintro e w' ⟨rfl,g3,n3,rfl⟩;obtain ⟨R,hR⟩:∃ R,rowN (prowV la lv n q)=R:=⟨_,rfl⟩;rw [hR];have HRq:Hid (L[q]? = some R):=hid (by rw [← HL.out,← hR];exact appR_at la lv hlt);clear hR;by_cases hRe:R.e=0
    · have HRe:=hid hRe
      rw [hRe];clear hRe;have HOC:=hid fun w2 (h:Grew (W.grow g2) w2)=>World.ownsRow.grew (w:=W.grow g2) hoc.out h
      go_wp2_with (at_builtin;refine wpList_append_behind rfl _ _ 23 rfl W.heap.size 67 i0 (.agg #[.int .i64 0,.int .i64 0,.int .i64 0,.int .i64 0,.int .i64 0]) 5 40 Tryz.underlying23 hi hz0 hz1 hz2 rfl (by decide) _ _ (numsCells lq) rfl (HOC.out _ gw0) ⟨_,0,none⟩ 1 1 (numCells ⟨R.x,R.k⟩) rfl rfl ?c1 (fun u hu=>numCells_one hu) ?c3 ?c4 ?c5 ?_)
      case c1=>exact numCells_in (z:=⟨R.x,R.k⟩) (by simp [go_sem]) (by simp [go_sem]) (by simp [go_sem]) (by simp [go_sem]) (by simp [go_sem])
      case c3=>unfold maxLen;omega
      case c4=>omega
      case c5=>simp [go_sem] <;> omega
      · intro v' w1 hown' hgrow hwh hdr
        obtain ⟨a2,k2,rfl⟩:=ownsRow_slice hown';have hg4:Grew W w1:=Grew.by (w':=_) gw0 hgrow hdr (fun jj hjj=>ownsRow_above hoc.out jj hjj)
        rw [← numsCells_append] at hown';have HG4:=hid hg4;have HO4:=hid hown';clear hgrow hown' hwh hdr HOC hg4 hoc;go_wp2_with fail
        go_roundw
        case rel=>exact ⟨q+1,a2,k2,lq++[⟨R.x,R.k⟩],by omega,by go_num,by simp,HG4.out,hid (seqR_step hs.out HRq.out HRe.out),by simpa using HO4⟩
        case measure=>simp [intOf];omega
    · have HRe:=hid hRe
      have e1:(R.e != 0)=true:=by simpa using hRe
      have HG:=HWG;clear hRe;go_wp2_with fail
      exact bodyPost_ret (v:=.tuple #[.slice none 0 0,.int .i64 R.e]) (by simp [results,Tryz.results40,go_sem]) rfl (by
       have h:=seqR_stop hs.out HRq.out HRe.out;exact ⟨⟨none,0,by rw [HR.out,h];rfl,by rw [HR.out,h];exact .inl rfl⟩,HWG.out.trans gw0⟩)
  · obtain rfl:q=n:=by omega
    have hfin:Hid (appM q la lv=(lq,0)):=hid (by
     have h:=hs.out;rw [List.take_of_length_le (by rw [HLn.out];exact Nat.le_refl _)] at h;rw [HR.out];exact h)
    have HOC:=hid (OwnN.nms (base:=W.heap.size) (k0:=kc) (l:=lq) (a0:=ac) (w:=(W.grow g2).drewN n2') hoc.out);clear hs hoc;go_wp2_with fail
    exact bodyPost_ret (v:=.tuple #[.slice ac lq.length kc,.int .i64 0]) (by simp [results,Tryz.results40,go_sem]) rfl ⟨⟨ac,kc,by rw [hfin.out],by rw [hfin.out];exact HOC.out⟩,HWG.out.trans gw0⟩
open Go Go.RowKit Amp Msh
def LstV (v:Value) (w:World) (l:List Num):Prop:=∃ (a0:Option Addr) (k0:Nat),v=.slice a0 l.length k0∧Nms w a0 l
theorem LstV.grew {v:Value} {w w':World} {l:List Num} (h:LstV v w l) (g:Grew w w'):LstV v w' l:=by
 exact k63_
def LstE (v:Value) (w:World) (r:List Num × Int):Prop:=∃ (a0:Option Addr) (k0:Nat),v=.tuple #[.slice a0 r.1.length k0,.int .i64 r.2]∧Nms w a0 r.1
theorem LstE.grew {v:Value} {w w':World} {r:List Num × Int} (h:LstE v w r) (g:Grew w w'):LstE v w' r:=by
 exact k63_
set_option maxRecDepth 100000 in
set_option maxHeartbeats 800000 in
theorem light_chk (g:Int) (a0:Option Addr) (cap:Nat) (its:List It) (a1:Option Addr) (k1:Nat) (v:List Num) (w:World) (hl:its.length≤9223372036854775807) (hc:Its w a0 its) (_hlv:v.length≤20) (_h1:Nms w a1 v) (hk:¬ chkIts g its=0) :
  Calls Tryz.prog 39 #[.int .i64 g,.slice a0 its.length cap,.slice a1 v.length k1] w (ListE (litOf g its v) w):=by
 have HK:=hid fun w' (h:Grew w w')=>check_any g a0 cap its w' hl (hc.grew h)
 have HR:Hid (litOf g its v=([],chkIts g its)):=hid (by unfold litOf;rw [if_neg hk]);obtain ⟨E,hE⟩:∃ E,chkIts g its=E:=⟨_,rfl⟩;rw [hE] at HK HR hk;have e1:(E != 0)=true:=by simpa using hk
 clear hc _h1 hk hE;go_enter Tryz.func39,Tryz.ntmps39
 go_wp2_with fail
 refine (HK.out _ gw0).mono ?_;rintro e w' ⟨rfl,g',n,rfl⟩;go_wp2_with fail
 exact bodyPost_ret (v:=.tuple #[.slice none 0 0,.int .i64 E]) (by simp [results,Tryz.results39,go_sem]) rfl ⟨⟨none,0,by rw [HR.out];rfl,by rw [HR.out];exact .inl rfl⟩,gw0⟩
set_option maxRecDepth 100000 in
set_option maxHeartbeats 800000 in
theorem light_long (g:Int) (a0:Option Addr) (cap:Nat) (its:List It) (a1:Option Addr) (k1:Nat) (v:List Num) (w:World) (hl:its.length≤9223372036854775807) (hc:Its w a0 its) (hlv:v.length≤20) (_h1:Nms w a1 v) (hk:chkIts g its=0) (hn:¬ (1≤v.length∧v.length≤6)) :
  Calls Tryz.prog 39 #[.int .i64 g,.slice a0 its.length cap,.slice a1 v.length k1] w (ListE (litOf g its v) w):=by
 have HK:=hid fun w' (h:Grew w w')=>check_any g a0 cap its w' hl (hc.grew h)
 have HR:Hid (litOf g its v=([],20)):=hid (by unfold litOf isVec;rw [if_pos hk,decide_eq_false hn];simp);rw [hk] at HK;have HM:=hid fun w=>mbtw_any 1 (v.length:Int) 6 w
 rw [decide_eq_false (by omega)] at HM;clear hc _h1 hk hn;go_enter Tryz.func39,Tryz.ntmps39
 go_wp2_with fail
 refine (HK.out _ gw0).mono ?_;rintro e w' ⟨rfl,g',n,rfl⟩;go_wp2_with fail
 refine (HM.out _).mono ?_;rintro e w' ⟨rfl,g1,n1,rfl⟩;go_wp2_with fail
 exact bodyPost_ret (v:=.tuple #[.slice none 0 0,.int .i64 20]) (by simp [results,Tryz.results39,go_sem]) rfl ⟨⟨none,0,by rw [HR.out];rfl,by rw [HR.out];exact .inl rfl⟩,gw0⟩
set_option maxRecDepth 100000 in
set_option maxHeartbeats 800000 in
theorem light_bad (g:Int) (a0:Option Addr) (cap:Nat) (its:List It) (a1:Option Addr) (k1:Nat) (v:List Num) (w:World) (hl:its.length≤9223372036854775807) (hc:Its w a0 its) (hlv:v.length≤20) (h1:Nms w a1 v) (hk:chkIts g its=0) (hn:1≤v.length∧v.length≤6) (hv:allVld v=false) :
  Calls Tryz.prog 39 #[.int .i64 g,.slice a0 its.length cap,.slice a1 v.length k1] w (ListE (litOf g its v) w):=by
 have HK:=hid fun w' (h:Grew w w')=>check_any g a0 cap its w' hl (hc.grew h)
 have HR:Hid (litOf g its v=([],20)):=hid (by unfold litOf isVec;rw [if_pos hk,hv];simp);rw [hk] at HK;have HM:=hid fun w=>mbtw_any 1 (v.length:Int) 6 w
 rw [decide_eq_true (by omega)] at HM;have HH:=hid fun w' (h:Grew w w')=>hasL_any a1 k1 v w' (by omega) (h1.grew h)
 rw [hv] at HH;clear hc h1 hk hn hv;go_enter Tryz.func39,Tryz.ntmps39
 go_wp2_with fail
 refine (HK.out _ gw0).mono ?_;rintro e w' ⟨rfl,g',n',rfl⟩;go_wp2_with fail
 refine (HM.out _).mono ?_;rintro e w' ⟨rfl,g1,n1',rfl⟩;go_wp2_with fail
 refine (HH.out _ gw0).mono ?_;rintro e w' ⟨rfl,g2,n2',rfl⟩;go_wp2_with fail
 exact bodyPost_ret (v:=.tuple #[.slice none 0 0,.int .i64 20]) (by simp [results,Tryz.results39,go_sem]) rfl ⟨⟨none,0,by rw [HR.out];rfl,by rw [HR.out];exact .inl rfl⟩,gw0⟩
set_option maxRecDepth 100000 in
set_option maxHeartbeats 800000 in
theorem light_size (g:Int) (a0:Option Addr) (cap:Nat) (its:List It) (a1:Option Addr) (k1:Nat) (v:List Num) (w:World) (hl:its.length≤9223372036854775807) (hc:Its w a0 its) (hlv:v.length≤20) (h1:Nms w a1 v) (hk:chkIts g its=0) (hn:1≤v.length∧v.length≤6) (hv:allVld v=true) (hs:¬ (v.length:Int)=g) :
  Calls Tryz.prog 39 #[.int .i64 g,.slice a0 its.length cap,.slice a1 v.length k1] w (ListE (litOf g its v) w):=by
 have HK:=hid fun w' (h:Grew w w')=>check_any g a0 cap its w' hl (hc.grew h)
 have HR:Hid (litOf g its v=([],21)):=hid (by unfold litOf isVec;rw [if_pos hk,hv,decide_eq_true hn,if_pos (by rfl),if_neg hs]);rw [hk] at HK;have HM:=hid fun w=>mbtw_any 1 (v.length:Int) 6 w
 rw [decide_eq_true (by omega)] at HM;have HH:=hid fun w' (h:Grew w w')=>hasL_any a1 k1 v w' (by omega) (h1.grew h)
 rw [hv] at HH;have e1:((v.length:Int) != g)=true:=by simpa using hs
 clear hc h1 hk hn hv hs;go_enter Tryz.func39,Tryz.ntmps39
 go_wp2_with fail
 refine (HK.out _ gw0).mono ?_;rintro e w' ⟨rfl,g',n',rfl⟩;go_wp2_with fail
 refine (HM.out _).mono ?_;rintro e w' ⟨rfl,g1,n1',rfl⟩;go_wp2_with fail
 refine (HH.out _ gw0).mono ?_;rintro e w' ⟨rfl,g2,n2',rfl⟩;go_wp2_with fail
 exact bodyPost_ret (v:=.tuple #[.slice none 0 0,.int .i64 21]) (by simp [results,Tryz.results39,go_sem]) rfl ⟨⟨none,0,by rw [HR.out];rfl,by rw [HR.out];exact .inl rfl⟩,gw0⟩
set_option maxRecDepth 100000 in
set_option maxHeartbeats 8000000 in
theorem light_main (n:Nat) (a0:Option Addr) (cap:Nat) (its:List It) (b1 o1:Nat) (k1:Nat) (v:List Num) (w:World) (hl:its.length≤9223372036854775807) (hc:Its w a0 its) (hb1:b1<w.heap.size) (hv1:NumsAt w b1 o1 v) (hk:chkIts n its=0) (hn:v.length=n) (hv:allVld v=true) :
  Calls Tryz.prog 39 #[.int .i64 n,.slice a0 its.length cap,.slice (some ⟨b1,o1,none⟩) v.length k1] w (ListE (litN n its v) w):=by
 obtain ⟨n1',n2',hl5,hok⟩:=chkIts_zero hk;have n1:1≤n:=by omega
 have n2:n≤6:=by omega
 have h1:Nms w (some ⟨b1,o1,none⟩) v:=.inr ⟨b1,o1,rfl,hb1,hv1⟩;have HK:=hid fun w' (h:Grew w w')=>check_any n a0 cap its w' hl (hc.grew h)
 rw [hk] at HK;have HM:=hid fun w=>mbtw_any 1 (v.length:Int) 6 w
 rw [decide_eq_true (by omega)] at HM;have HH:=hid fun w' (h:Grew w w')=>hasL_any (some ⟨b1,o1,none⟩) k1 v w' (by omega) (h1.grew h)
 rw [hv] at HH;have HCL:=hid fun w' (h:Grew w w')=>clone_any b1 o1 k1 v w' (by omega) (Nat.lt_of_lt_of_le hb1 h.size) (fun i z hz=>by
  obtain ⟨c0,c1,c2,c3,c4⟩:=hv1 i z hz;exact ⟨(h.cell hb1 _).trans c0,(h.cell hb1 _).trans c1,(h.cell hb1 _).trans c2,(h.cell hb1 _).trans c3,(h.cell hb1 _).trans c4⟩)
 have HC:=hid hc;have HOK:=hid hok;obtain ⟨R,hR⟩:∃ R,litN n its v=R:=⟨_,rfl⟩;rw [hR];have H0:=hid (show litN n (its.drop 0) v=R∧v.length=n∧VldL v from ⟨hR,hn,allVld_iff hv⟩);have e1:((v.length:Int) != n)=false:=by simp [hn]
 clear hc hok hR hk n1' n2' h1 hv1 hn hv;go_enter Tryz.func39,Tryz.ntmps39
 go_wp2_with fail
 refine (HK.out _ gw0).mono ?_;rintro e w' ⟨rfl,g',n',rfl⟩;go_wp2_with fail
 refine (HM.out _).mono ?_;rintro e w' ⟨rfl,g1,n1',rfl⟩;go_wp2_with fail
 refine (HH.out _ gw0).mono ?_;rintro e w' ⟨rfl,g2,n2',rfl⟩;go_wp2_with fail
 refine (HCL.out _ gw0).mono ?_;rintro e w' ⟨⟨av,kv,rfl,hnv⟩,g3,n3,rfl⟩;have HNV:=hid hnv;clear hnv;go_wp2_with fail
 simp only [World.grow_drewN,World.grow_grow,World.drewN_drewN] at HNV;obtain ⟨W,hW⟩:∃ W,W=(w.grow (g'++(g1++(g2++g3)))).drewN (n'+n1'+n2'+n3):=⟨_,rfl⟩;have hWg:Grew w W:=by rw [hW];exact gw0
 have hNW:Nms W av v:=by rw [hW];simpa only [List.append_assoc,Nat.add_assoc] using HNV.out
 rw [← hW];have HWG:=hid hWg;clear hW hWg HNV;go_loopw [9,38] (fun c k wr=>∃ (i:Nat) (u:List Num) (av:Option Addr) (kv:Nat),i≤its.length∧k=.int .i64 i∧c=.slice av u.length kv∧Nms wr av u∧Grew w wr∧Hid (litN n (its.drop i) u=R∧u.length=n∧VldL u)) (fun _ k _=>its.length - (intOf k).toNat)
 case atStart=>exact ⟨0,v,av,kv,Nat.zero_le _,rfl,rfl,hNW,HWG.out,H0⟩
 case round =>
  clear hNW;obtain ⟨i,u,av,kv,hi,rfl,rfl,hNv,hG,hs⟩:=hrel;have HG:=hid hG;have HNv:=hid hNv;clear hG hNv;by_cases hlt:i<its.length
  · skip
    obtain ⟨x,hx⟩:∃ x,its[i]? = some x:=⟨its[i],List.getElem?_eq_getElem hlt⟩;obtain ⟨b,off,rfl,hb,c0,c1,c2,c3⟩:=(HC.out.grew HG.out).cells hx;have hb1:=fun m0:Nat=>Nat.lt_add_right m0 (hb)
    have hb2:=fun m0 m1:Nat=>Nat.lt_add_right m1 (hb1 m0)
    have hb3:=fun m0 m1 m2:Nat=>Nat.lt_add_right m2 (hb2 m0 m1)
    have Hx:=hid hx;clear hx;have hok:=okIts_at Hx.out HOK.out;obtain ⟨ok1,ok2,ok3,ok4,ok5,ok6⟩:=okIt_iff hok;have HOK1:=hid ok1;obtain ⟨m,hm⟩:∃ m,ownW x.kind=m:=⟨_,rfl⟩;obtain ⟨lm,hlm⟩:∃ lm,ownM x.kind x.n=lm:=⟨_,rfl⟩;have HLM:=hid (And.intro hm hlm);have hlmV:VldL lm:=by rw [← hlm];exact ownM_valid _ _
    have hlmL:lm.length=m*m:=by rw [← hlm,← hm];exact ownM_length _ _
    have hm1:1≤m:=by rw [← hm];unfold ownW;split <;> omega
    obtain ⟨lp,hlp⟩:∃ lp,placeN n x.pos.toNat m lm=lp:=⟨_,rfl⟩;have hlpL:lp.length=n*n:=by rw [← hlp];exact placeL_length _ _ _ _ _
    have hlpV:VldL lp:=by rw [← hlp];exact placeL_valid hlmV _
    have HP:=hid fun am km W (hN:Nms W am lm)=>(show Calls Tryz.prog 53 #[.int .i64 n,.int .i64 x.pos,.agg #[.int .i64 m,.slice am lm.length km]] W (MatP n lp W) from by
     have h:=place_any n x.pos.toNat m am km lm W n1 n2 hm1 (by omega) (by rw [hm] at ok4;omega) hlmL hN;rw [Int.toNat_of_nonneg (by omega),hlp] at h;exact h)
    obtain ⟨⟨rl,re⟩,hr⟩:∃ r,appM n lp u=r:=⟨_,rfl⟩;obtain ⟨hs1,hs2,hs3⟩:=hs.out;have HAP:=hid fun a2 k2 W (hA:Nms W a2 lp) (hB:Nms W av u)=>apply_any n a2 av k2 kv lp u W n1 n2 hlpL hs2 hA hB hlpV hs3
    rw [hr] at HAP;have HSTEP:Hid (appM n (placeN n x.pos.toNat (ownW x.kind) (ownM x.kind x.n)) u=(rl,re)):=hid (by rw [hm,hlm,hlp];exact hr);have HVL:Hid (VldL rl∧(re=0→rl.length=n)):=hid (by
     have h1:=appM_valid n lp u;have h2:=@appM_length n lp u;rw [hr] at h1 h2;exact ⟨h1,h2⟩)
    have HS1:=hid hs1;clear hs hok ok1 ok2 ok3 ok4 ok5 ok6 hm hlm hlmV hlmL hm1 hlp hlpL hlpV hr hs1 hs2 hs3;go_wp2_with fail
    refine R4.wp_region_slots 12 (fun ix vs W=>match ix with | 0=>vs 0=.int .i64 n | 1=>vs 1=.pointer (some ⟨wr.heap.size,1,none⟩) | 2=>vs 2=.int .i64 x.pos | 3=>vs 3=.agg #[.int .i64 x.kind,.int .i64 x.pos,.int .i64 x.n,.string x.name] | 4=>MatV (vs 4) W m lm | 5=>MatV (vs 5) W n lp | 6=>vs 6=.slice av u.length kv | 7=>LstE (vs 7) W (rl,re) | 8=>LstE (vs 8) W (rl,re) | 9=>LstV (vs 9) W rl | 10=>vs 10=.int .i64 re | 11=>LstV (vs 11) W rl | _=>True) (by kernel_rfl) (by kernel_rfl) ?slst ?sldep ?slop ?slq
    case slst =>
     intro ix vs W W' h hg;match ix,h with
     | 0,h=>exact h
     | 1,h=>exact h
     | 2,h=>exact h
     | 3,h=>exact h
     | 4,h=>exact MatV.grew h hg
     | 5,h=>exact MatV.grew h hg
     | 6,h=>exact h
     | 7,h=>exact LstE.grew h hg
     | 8,h=>exact LstE.grew h hg
     | 9,h=>exact LstV.grew h hg
     | 10,h=>exact h
     | 11,h=>exact LstV.grew h hg
     | _+12,_=>trivial
    case sldep =>
     intro ix o vs vs' W hix ho h hv hn;match ix,hix,ho,h,hv with
     | 0,_,_,h,hv=>exact Eq.trans hv h
     | 1,_,_,h,hv=>exact Eq.trans hv h
     | 2,_,_,h,hv=>exact Eq.trans hv h
     | 3,_,_,h,hv=>exact Eq.trans hv h
     | 4,_,_,h,hv=>show MatV (vs' 4) W m lm;rw [hv];exact h
     | 5,_,_,h,hv=>show MatV (vs' 5) W n lp;rw [hv];exact h
     | 6,_,_,h,hv=>exact Eq.trans hv h
     | 7,_,_,h,hv=>show LstE (vs' 7) W (rl,re);rw [hv];exact h
     | 8,_,_,h,hv=>show LstE (vs' 8) W (rl,re);rw [hv];exact h
     | 9,_,_,h,hv=>show LstV (vs' 9) W rl;rw [hv];exact h
     | 10,_,_,h,hv=>exact Eq.trans hv h
     | 11,_,_,h,hv=>show LstV (vs' 11) W rl;rw [hv];exact h
     | kx+12,hix,_,_,_=>exact absurd hix (by omega)
    case slop =>
     intro ix o hix ho vs W L hg hL hn hall;match ix,hix,ho,hL with
     | 0, _, ho, _ =>
       exact k28_
     | 1, _, ho, _ =>
       exact k28_
     | 2, _, ho, _ =>
       obtain rfl:=Option.some.inj ho;have hn1:=(hn 1 (by decide)).2;try dsimp only at hn1
       change R4.Oper.slotAt _ _ (Act.put _ (some 44) (vs 1)) _ _;conv=>arg 3;rw [hn1]
       clear hn1;obtain ⟨gq,nq,rfl⟩:=hg;go_simp;exact ⟨R4.upd_same _ _ _,.inl (Grew.refl _)⟩
     | 3, _, ho, _ =>
       exact k28_
     | 4, _, ho, _ =>
       obtain rfl:=Option.some.inj ho;have hn3:=(hn 3 (by decide)).2;try dsimp only at hn3
       change R4.Oper.slotAt _ _ (Act.put _ (some 46) (vs 3)) _ _;conv=>arg 3;rw [hn3]
       clear hn3;obtain ⟨gq,nq,rfl⟩:=hg;go_simp;refine (own_any x _ HOK1.out).mono ?_;rintro e w' ⟨⟨a2,k2,rfl,ho⟩,gr⟩;exact ⟨_,rfl,by rw [R4.upd_same];exact ⟨a2,k2,by rw [← HLM.out.1,← HLM.out.2],by rw [← HLM.out.2];exact ho.nms⟩,.inl gr⟩
     | 5, _, ho, _ =>
       obtain rfl:=Option.some.inj ho;have hn0:=(hn 0 (by decide)).2;have hn2:=(hn 2 (by decide)).2;have hn4:=(hn 4 (by decide)).2;try dsimp only at hn0 hn2 hn4
       change R4.Oper.slotAt _ _ (Act.put (Act.put (Act.put _ (some 43) (vs 0)) (some 45) (vs 2)) (some 47) (vs 4)) _ _;conv=>arg 3;rw [hn0,hn2]
       clear hn0 hn2;obtain ⟨gq,nq,rfl⟩:=hg;obtain ⟨a2,k2,e2,h2⟩:=hn4;conv=>arg 3;rw [e2]
       clear e2;go_simp;refine (HP.out a2 k2 _ h2).mono ?_;rintro e w' ⟨⟨a3,k3,rfl,ho⟩,gr⟩;exact ⟨_,rfl,by rw [R4.upd_same];exact ⟨a3,k3,rfl,ho.nms⟩,.inl gr⟩
     | 6, _, ho, _ =>
       exact k28_
     | 7, _, ho, _ =>
       obtain rfl:=Option.some.inj ho;have hn5:=(hn 5 (by decide)).2;have hn6:=(hn 6 (by decide)).2;try dsimp only at hn5 hn6
       change R4.Oper.slotAt _ _ (Act.put (Act.put _ (some 48) (vs 5)) (some 49) (vs 6)) _ _;conv=>arg 3;rw [hn6]
       clear hn6;obtain ⟨gq,nq,rfl⟩:=hg;obtain ⟨a2,k2,e2,h2⟩:=hn5;conv=>arg 3;rw [e2]
       clear e2;go_simp;refine (HAP.out a2 k2 _ h2 (HNv.out.grew gw0)).mono ?_;rintro e w' ⟨⟨a3,k3,rfl,ho⟩,gr⟩;exact ⟨_,rfl,by rw [R4.upd_same];exact ⟨a3,k3,rfl,ho⟩,.inl gr⟩
     | 8, _, ho, _ =>
       obtain rfl:=Option.some.inj ho;have hn7:=(hn 7 (by decide)).2;try dsimp only at hn7
       change R4.Oper.slotAt _ _ (Act.put _ (some 50) (vs 7)) _ _;obtain ⟨gq,nq,rfl⟩:=hg;obtain ⟨a2,k2,e2,h2⟩:=hn7;exact k48_
     | 9, _, ho, _ =>
       obtain rfl:=Option.some.inj ho;have hn8:=(hn 8 (by decide)).2;try dsimp only at hn8
       change R4.Oper.slotAt _ _ (Act.put _ (some 42) (vs 8)) _ _;obtain ⟨gq,nq,rfl⟩:=hg;obtain ⟨a2,k2,e2,h2⟩:=hn8;exact k48_
     | 10, _, ho, _ =>
       obtain rfl:=Option.some.inj ho;have hn8:=(hn 8 (by decide)).2;try dsimp only at hn8
       change R4.Oper.slotAt _ _ (Act.put _ (some 42) (vs 8)) _ _;obtain ⟨gq,nq,rfl⟩:=hg;obtain ⟨a2,k2,e2,h2⟩:=hn8;conv=>arg 3;rw [e2]
       clear e2;go_simp;exact ⟨R4.upd_same _ _ _,.inl (Grew.refl _)⟩
     | 11, _, ho, _ =>
       obtain rfl:=Option.some.inj ho;have hn9:=(hn 9 (by decide)).2;try dsimp only at hn9
       change R4.Oper.slotAt _ _ (Act.put _ (some 51) (vs 9)) _ _;obtain ⟨gq,nq,rfl⟩:=hg;obtain ⟨a2,k2,e2,h2⟩:=hn9;exact k48_
     | kx+12,hix,_,_=>exact absurd hix (by omega)
    case slq =>
     intro vs W2 hg hn;have hn10:vs 10=.int .i64 re:=hn 10 (by decide) (by decide);obtain ⟨a9,k9,e9,hN9⟩:LstV (vs 11) W2 rl:=hn 11 (by decide) (by decide);have hgw:Grew w W2:=HG.out.trans (Grew.trans gw0 hg);change wpList _ _ _ _ (Act.put (Act.put (Act.put (Act.put (Act.put (Act.put (Act.put (Act.put (Act.put (Act.put (Act.put (Act.put _ (some 43) (vs 0)) (some 44) (vs 1)) (some 45) (vs 2)) (some 46) (vs 3)) (some 47) (vs 4)) (some 48) (vs 5)) (some 49) (vs 6)) (some 50) (vs 7)) (some 42) (vs 8)) (some 51) (vs 9)) (some 52) (vs 10)) (some 12) (vs 11)) _;simp only [Act.put,List.setIfInBounds_toArray,List.set_cons_zero,List.set_cons_succ,List.drop_succ_cons,List.drop_zero,hn10,e9];have HG2:=hid hgw;have HN9:=hid hN9;clear hn hn10 e9 hN9 hgw hg;by_cases hre:re=0
     · have HRE:=hid hre
       rw [hre];clear hre;go_wp2_with fail
       go_roundw
       case rel =>
        refine ⟨i+1,rl,a9,k9,by omega,by go_num,rfl,HN9.out,HG2.out,hid ⟨?_,HVL.out.2 HRE.out,HVL.out.1⟩⟩;have h1:=litN_step Hx.out HSTEP.out HRE.out;rw [← HS1.out];exact h1.symm
       case measure=>simp [intOf];omega
     · have HRE:=hid hre
       have e1:(re != 0)=true:=by simpa using hre
       clear hre;go_wp2_with fail
       exact bodyPost_ret (v:=.tuple #[.slice none 0 0,.int .i64 re]) (by simp [results,Tryz.results39,go_sem]) rfl (by
        have h1:=litN_stop Hx.out HSTEP.out HRE.out;rw [HS1.out] at h1;exact ⟨⟨none,0,by rw [h1];rfl,by rw [h1];exact .inl rfl⟩,HG2.out⟩)
  · obtain rfl:i=its.length:=by omega
    have hfin:Hid (R=(u,0)):=by
     obtain ⟨h2,h3,h4⟩:=hs.out;rw [List.drop_length,litN] at h2;exact h2.symm
    clear hs;go_wp2_with fail
    exact bodyPost_ret (v:=.tuple #[.slice av u.length kv,.int .i64 0]) (by simp [results,Tryz.results39,go_sem]) rfl ⟨⟨av,kv,by rw [hfin.out],by rw [hfin.out];exact HNv.out⟩,HG.out⟩
theorem light_any (g:Int) (a0:Option Addr) (cap:Nat) (its:List It) (a1:Option Addr) (k1:Nat) (v:List Num) (w:World) (hl:its.length≤9223372036854775807) (hc:Its w a0 its) (hlv:v.length≤20) (h1:Nms w a1 v) :
  Calls Tryz.prog 39 #[.int .i64 g,.slice a0 its.length cap,.slice a1 v.length k1] w (ListE (litOf g its v) w):=by
 by_cases hk:chkIts g its=0
 case neg=>exact light_chk g a0 cap its a1 k1 v w hl hc hlv h1 hk
 by_cases hn:1≤v.length∧v.length≤6
 case neg=>exact light_long g a0 cap its a1 k1 v w hl hc hlv h1 hk hn
 by_cases hv:allVld v=true
 case neg=>exact light_bad g a0 cap its a1 k1 v w hl hc hlv h1 hk hn (by simpa using hv)
 by_cases hs:(v.length:Int)=g
 case neg=>exact light_size g a0 cap its a1 k1 v w hl hc hlv h1 hk hn hv hs
 obtain ⟨n,rfl⟩:=Int.eq_ofNat_of_zero_le (show 0≤g by omega);rw [show litOf n its v=litN n its v by unfold litOf isVec;rw [if_pos hk,hv,decide_eq_true hn,if_pos (by rfl),if_pos hs];rfl];rcases h1 with rfl | ⟨b1,o1,rfl,hb1,hv1⟩
 · simp at hn
 · exact light_main n a0 cap its b1 o1 k1 v w hl hc hb1 hv1 hk (by omega) hv
open Go Go.RowKit Amp Msh
open Go Go.RowKit Amp Msh
theorem power_mul (z:Num):powerN z.x z.k=mulN z.x z.k (conjZ z).x (conjZ z).k:=by
 unfold powerN mulN conjZ;dsimp only;rw [valid_conj];by_cases h:validB z.x z.k=true
 · rw [if_pos h,if_pos ⟨h,h⟩]
 · rw [if_neg h,if_neg fun e=>h e.1]
theorem pairs_at {v:List Num} {i:Nat} {z:Num} (h:v[i]? = some z):(pairsL v)[i]? = some (z,conjZ z):=by
 unfold pairsL;rw [List.getElem?_map,h];rfl
theorem pairs_len (v:List Num):(pairsL v).length=v.length:=by unfold pairsL;exact List.length_map ..
set_option maxRecDepth 100000 in
set_option maxHeartbeats 800000 in
theorem length_any (a0:Option Addr) (k0:Nat) (l:List Num) (w:World) (n1:1≤l.length) (n2:l.length≤6) (h0:Nms w a0 l) (hv:VldL l) :
  Calls Tryz.prog 41 #[.slice a0 l.length k0] w fun e w'=>e=.returned (.tuple #[.agg #[.int .i64 (rowN (pairsL l)).x.a,.int .i64 (rowN (pairsL l)).x.b,.int .i64 (rowN (pairsL l)).x.c,.int .i64 (rowN (pairsL l)).x.d,.int .i64 (rowN (pairsL l)).k],.int .i64 (rowN (pairsL l)).e])∧Grew w w':=by
 have HV:=hid fun w' (hg:Grew w w')=>vector_ok a0 k0 l w' (by omega) (h0.grew hg) hv n1 n2
 have H0:=hid h0;clear h0;go_enter Tryz.func41,Tryz.ntmps41
 go_wp2_with fail
 refine (HV.out _ gw0).mono ?_;rintro e w' ⟨rfl,gv,nv,rfl⟩;go_wp2_with fail
 go_loopw [15] (fun n wr=>∃ (i:Nat) (s:C4) (k:Int),i≤l.length∧n=.int .i64 i∧Hid (rowA s k ((pairsL l).drop i)=rowN (pairsL l))∧Grew (((w.alloc (.cells #[.int .i64 0,.int .i64 0,.int .i64 0,.int .i64 0,.int .i64 0] 67)).grow gv).alloc (.cells #[.int .i64 s.a,.int .i64 s.b,.int .i64 s.c,.int .i64 s.d,.int .i64 k] 67)) wr) (fun n _=>l.length - (intOf n).toNat)
 case atStart=>exact ⟨0,zero,0,Nat.zero_le _,rfl,rfl,gw0⟩
 case round =>
  obtain ⟨i,s,k,hi,rfl,hs,g,n,rfl⟩:=hrel;by_cases hlt:i<l.length
  · obtain ⟨z,hz⟩:∃ z,l[i]? = some z:=⟨l[i],List.getElem?_eq_getElem hlt⟩
    have Hp:=hid (pairs_at hz);obtain ⟨b,off,rfl,hb,c0,c1,c2,c3,c4⟩:=H0.out.cells hz;have hb1:=fun m0:Nat=>Nat.lt_add_right m0 (hb)
    have hb2:=fun m0 m1:Nat=>Nat.lt_add_right m1 (hb1 m0)
    have hb3:=fun m0 m1 m2:Nat=>Nat.lt_add_right m2 (hb2 m0 m1)
    clear hz;go_wp2_with fail
    have HM:=hid fun w=>aPower_any z.x z.k w
    rw [power_mul] at HM;obtain ⟨m,hm⟩:∃ m,mulN z.x z.k (conjZ z).x (conjZ z).k=m:=⟨_,rfl⟩;rw [hm] at HM;have Hm:=hid hm;clear hm;refine (HM.out _).mono ?_;rintro e w' ⟨rfl,g2,n2,rfl⟩;by_cases he:m.e=0
    case neg =>
     have h0:Hid (rowN (pairsL l)=⟨zero,0,m.e⟩):=hs.out.symm.trans (rowA_mul Hp.out Hm.out he);have e1:(m.e != 0)=true:=by simpa using he
     clear he hs Hp Hm;go_wp2_with fail
     exact bodyPost_ret (v:=.tuple #[.agg #[.int .i64 0,.int .i64 0,.int .i64 0,.int .i64 0,.int .i64 0],.int .i64 m.e]) (by simp [results,Tryz.results41,go_sem]) rfl ⟨by rw [h0.out];rfl,gw0⟩
    have He:=hid he;rw [he];clear he;go_wp2_with fail
    have HA:=hid fun w=>aAdd_any s m.x k m.k w
    obtain ⟨a,ha⟩:∃ a,addN s k m.x m.k=a:=⟨_,rfl⟩;rw [ha] at HA;have Ha:=hid ha;clear ha;refine (HA.out _).mono ?_;rintro e w' ⟨rfl,g3,n3,rfl⟩;by_cases hae:a.e=0
    case neg =>
     have h0:Hid (rowN (pairsL l)=⟨zero,0,a.e⟩):=hs.out.symm.trans (rowA_add Hp.out Hm.out He.out Ha.out hae);have e1:(a.e != 0)=true:=by simpa using hae
     clear hae hs Hp Hm Ha;go_wp2_with fail
     exact bodyPost_ret (v:=.tuple #[.agg #[.int .i64 0,.int .i64 0,.int .i64 0,.int .i64 0,.int .i64 0],.int .i64 a.e]) (by simp [results,Tryz.results41,go_sem]) rfl ⟨by rw [h0.out];rfl,gw0⟩
    have h0:Hid (rowA a.x a.k ((pairsL l).drop (i+1))=rowN (pairsL l)):=(rowA_step Hp.out Hm.out He.out Ha.out hae).symm.trans hs.out;rw [hae];clear hae hs Hp Hm Ha He;go_wp2_with fail
    go_roundw
    case rel=>exact ⟨i+1,a.x,a.k,by omega,by go_num,h0,gw0⟩
    case measure=>simp [intOf];omega
  · obtain rfl:i=l.length:=by omega
    have h0:Hid (rowN (pairsL l)=⟨s,k,0⟩):=hs.out.symm.trans (by have:=rowA_end s k (pairsL l);rwa [pairs_len] at this);clear hs;go_wp2_with fail
    exact bodyPost_ret (v:=.tuple #[.agg #[.int .i64 s.a,.int .i64 s.b,.int .i64 s.c,.int .i64 s.d,.int .i64 k],.int .i64 0]) (by simp [results,Tryz.results41,go_sem]) rfl ⟨by rw [h0.out],gw0⟩
end Go.Proofs.YtchdmecjhaanfaaGreatDoor
