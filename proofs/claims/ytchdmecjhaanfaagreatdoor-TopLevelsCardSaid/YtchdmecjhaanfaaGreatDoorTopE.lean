import Derived.Test.YtchdmecjhaanfaaGreatDoorLitC
import Derived.Test.YtchdmecjhaanfaaGreatDoorLitC
import Derived.Test.YtchdmecjhaanfaaGreatDoorAmpU
import Derived.Test.YtchdmecjhaanfaaGreatDoorMshLin
import Derived.Test.YtchdmecjhaanfaaGreatDoorTxtA
import Derived.Test.YtchdmecjhaanfaaGreatDoorColA
import Derived.Test.YtchdmecjhaanfaaGreatDoorWidA
namespace Go.Proofs.YtchdmecjhaanfaaGreatDoor
open Go Go.RowKit Amp Msh
theorem _root_.k50_ {p:Prop} (h:p:=by
 go_wp2_with fail
 go_ret;exact ⟨rfl,(HG2.out.trans gw0)⟩):p:=h
theorem appM_at {n:Nat} {la lv:List Num} (he:(appM n la lv).2=0) {i:Nat} (hi:i<n):(rowN (prowV la lv n i)).e=0∧(appM n la lv).1[i]? = some ⟨(rowN (prowV la lv n i)).x,(rowN (prowV la lv n i)).k⟩:=by
 have h0:=seqR_zero _ he;have h1:=seqR_ok _ h0;have h2:=appR_at la lv hi;refine ⟨h0 _ (List.mem_of_getElem? h2), ?_⟩;unfold appM;rw [h1,List.getElem?_map,h2];rfl
theorem light_same {n:Nat} {F:List It} {A V X Y:List Num} (hA:matOf n F=(A,0)) (hv:V.length=n) (hV:VldL V) (hX:litN n F V=(X,0)) (hY:appM n A V=(Y,0)):X=Y:=by
 obtain ⟨_,h2,h3⟩:=light_facts hA hv hV hX;have hxl:=h2 rfl;have hyl:Y.length=n:=by have:=appM_length (n:=n) (la:=A) (lv:=V) (by rw [hY]);rwa [hY] at this
 apply List.ext_getElem?;intro i;by_cases hi:i<n
 · obtain ⟨h4,h5⟩:=appM_at (n:=n) (la:=A) (lv:=V) (by rw [hY]) hi
   rw [hY] at h5;obtain ⟨x,hx⟩:∃ x,X[i]? = some x:=⟨X[i]'(by omega),List.getElem?_eq_getElem (by omega)⟩;rw [hx,h5,h3 rfl i hi x hx h4]
 · rw [List.getElem?_eq_none (by omega),List.getElem?_eq_none (by omega)]
theorem cmp_self {x:C4} {k:Int} (hv:validB x k=true) (hr:conjC x=x):cmpE x k x k=0∧cmpV x k x k=0:=by
 have h1:realB x=true:=by
  unfold realB;exact eq4_iff.2 hr.symm
 refine ⟨?_, ?_⟩
 · unfold cmpE
   rw [if_pos ⟨hv,hv⟩,if_pos ⟨h1,h1⟩]
 · unfold cmpV
   rw [if_pos ⟨hv,hv⟩,if_pos ⟨h1,h1⟩];obtain ⟨m,hm,_⟩:=valid_nat hv;have e:addK x k (negC x) k=zero:=by
    rw [hm,addK_nat];simp only [Nat.max_self,Nat.sub_self];show addC x (negC x)=zero
    refine C4.ext' ?_ ?_ ?_ ?_ <;> simp only [addC,negC,zero] <;> omega
   rw [e];rfl
set_option maxRecDepth 100000 in
set_option maxHeartbeats 8000000 in
theorem lightens_any (n:Nat) (aF:Option Addr) (kF:Nat) (F:List It) (aM:Option Addr) (kM:Nat) (A:List Num) (aV:Option Addr) (kV:Nat) (V:List Num) (w:World) (hF:Its w aF F) (hFl:F.length≤200) (hA:matOf n F=(A,0)) (hM:Nms w aM A) (hV:Nms w aV V) (hVl:V.length≤9223372036854775807) :
  Calls Tryz.prog 16 #[.int .i64 n,.slice aF F.length kF,.agg #[.int .i64 n,.slice aM A.length kM],.slice aV V.length kV] w fun e w'=>e=.returned (.bool true)∧Grew w w':=by
 obtain ⟨hk,hI⟩:=matOf_zero hA;rw [Int.toNat_natCast] at hI;obtain ⟨q1,q2,q3,q4⟩:=chkIts_zero hk;have n1:1≤n:=by omega
 have n2:n≤6:=by omega
 have hok:okIts n F=true:=q4;obtain ⟨hAv,hAl⟩:VldL A∧A.length=n*n:=by
  have h:=itsM_shape F (idN n) (idN_valid n) (idN_length n) (by rw [hI])
  rwa [hI] at h
 have hAu:Uni n A:=by
  have h:=itsM_uni n2 F (idN n) hok (Uni.id n) (by rw [hI])
  rwa [hI] at h
 have HIV:=hid fun w' (hg:Grew w w')=>isVec_any aV kV V w' hVl (hV.grew hg)
 obtain ⟨b,hb⟩:∃ b,isVec V=b:=⟨_,rfl⟩;rw [hb] at HIV;cases b with
 | false =>
   clear hF hM hA hk hI q1 q2 q3 q4 hV hb hAl;go_enter Tryz.func16,Tryz.ntmps16
   go_wp2_with fail
   refine (HIV.out _ gw0).mono ?_;rintro e w' ⟨rfl,g,m,rfl⟩;go_wp2_with fail
   go_ret;exact ⟨rfl,gw0⟩
 | true =>
 by_cases hn:V.length=n
 case neg =>
  have e1:((V.length:Int) != (n:Int))=true:=by simp;omega
  have e2:(V.length != n)=true:=by simpa using hn
  clear hF hM hA hk hI q1 q2 q3 q4 hV hb hAl hn;go_enter Tryz.func16,Tryz.ntmps16
  go_wp2_with fail
  refine (HIV.out _ gw0).mono ?_;rintro e w' ⟨rfl,g,m,rfl⟩;go_wp2_with fail
  go_ret;exact ⟨rfl,gw0⟩
 case pos =>
 have hVv:VldL V:=VldL.of fun z hz=>by
  unfold isVec allVld at hb;rw [Bool.and_eq_true,List.all_eq_true] at hb;exact hb.1 z hz
 have HLI:=hid fun w' (hg:Grew w w')=>light_any n aF kF F aV kV V w' (by omega) (hF.grew hg) (by omega) (hV.grew hg)
 have HAP:=hid fun w' (hg:Grew w w')=>apply_any n aM aV kM kV A V w' n1 n2 hAl hn (hM.grew hg) (hV.grew hg) hAv hVv
 rw [litOf_litN hk hb hn] at HLI;obtain ⟨⟨X,E1⟩,hX⟩:∃ R,litN n F V=R:=⟨_,rfl⟩;obtain ⟨⟨Y,E2⟩,hY⟩:∃ R,appM n A V=R:=⟨_,rfl⟩;rw [hX] at HLI;rw [hY] at HAP;have HX:=hid hX;have HY:=hid hY;have HA:=hid hA;have HN:=hid hn;have e1:((V.length:Int) != (n:Int))=false:=by simp;omega
 have e2:(V.length != n)=false:=by simpa using hn
 have HLV:=hid fun w' (hg:Grew w w')=>length_any aV kV V w' (by omega) (by omega) (hV.grew hg) hVv
 have HAL:=hid hAl;clear hF hM hA hk hI q1 q2 q3 q4 hV hb hX hY hn hAl;go_enter Tryz.func16,Tryz.ntmps16
 go_wp2_with fail
 refine (HIV.out _ gw0).mono ?_;rintro e w' ⟨rfl,g,m,rfl⟩;go_wp2_with fail
 refine (HLI.out _ gw0).mono ?_;rintro e W1 ⟨⟨a2,k2,rfl,hX⟩,hg1⟩;dsimp only at hX ⊢;obtain ⟨b6,hb6⟩:∃ b6,w.heap.size=b6:=⟨_,rfl⟩;rw [hb6];have h61:W1.heap[b6]? = some (.cells #[.int .i64 n,.slice aM A.length kM] 35):=by rw [← hb6];exact (Grew.block hg1 _ (by simp [go_sem])).trans (wblk_drewN (wblk_grow (by simp) (heap_new _ _)))
 have x0:W1.cell? ⟨b6,0,none⟩=some (.int .i64 n):=by simp [World.cell?,h61]
 have x1:W1.cell? ⟨b6,1,none⟩=some (.slice aM A.length kM):=by simp [World.cell?,h61]
 have l6:=(Array.getElem?_eq_some_iff.1 h61).1;have HG1:=hid (Grew.trans (a:=w) gw0 hg1);have HXn:=hid hX;have l61:=fun m0:Nat=>Nat.lt_add_right m0 (l6)
 have l62:=fun m0 m1:Nat=>Nat.lt_add_right m1 (l61 m0)
 have l63:=fun m0 m1 m2:Nat=>Nat.lt_add_right m2 (l62 m0 m1)
 clear hX hg1 h61 hb6 HLI HIV;go_wp2_with fail
 refine (HAP.out _ (HG1.out.trans gw0)).mono ?_;rintro e W2 ⟨⟨a4,k4,rfl,hYn⟩,hg2⟩;dsimp only at hYn ⊢;have hg2:Grew W1 W2:=Grew.trans (a:=W1) gw0 hg2;have HYn:=hid hYn;have HXn:=hid (HXn.out.grew hg2);have HG2:=hid (HG1.out.trans hg2);clear hYn hg2 x0 x1 l6 l61 l62 l63 HAP;by_cases hE1:E1=0
 case neg =>
  have e5:(E1 != 0)=true:=by simpa using hE1
  clear hE1;exact k50_
 case pos =>
 by_cases hE2:E2=0
 case neg =>
  have e5:(E2 != 0)=true:=by simpa using hE2
  subst hE1;clear hE2;exact k50_
 case pos =>
 subst hE1;subst hE2;obtain rfl:X=Y:=light_same HA.out HN.out hVv HX.out HY.out;have hXl:X.length=n:=(light_facts HA.out HN.out hVv HX.out).2.1 rfl;have hXv:VldL X:=by have:=litN_valid (n:=n) F V hVv;rwa [HX.out] at this
 have e3:((X.length:Int) != (n:Int))=false:=by simp;omega
 have e4:(X.length != n)=false:=by simpa using hXl
 have hX6:X.length≤6:=by omega
 have hX1:1≤X.length:=by omega
 have HXl:=hid hXl;have HLX:=hid fun w' (hg:Grew W2 w')=>length_any a2 k2 X w' hX1 hX6 (HXn.out.grew hg) hXv
 clear hXl;go_wp2_with fail
 go_loopw [58] (fun v wr=>∃ i:Nat,i≤X.length∧v=.int .i64 i∧Grew W2 wr) (fun v _=>X.length - (intOf v).toNat)
 case atStart=>exact ⟨0,Nat.zero_le _,rfl,gw0⟩
 case round =>
  obtain ⟨i,hi,rfl,g,m,rfl⟩:=hrel;by_cases hlt:i<X.length
  · obtain ⟨z,hz⟩:∃ z,X[i]? = some z:=⟨X[i],List.getElem?_eq_getElem hlt⟩
    obtain ⟨b,off,rfl,hb,c0,c1,c2,c3,c4⟩:=HXn.out.cells hz;obtain ⟨b',off',rfl,hq,d0,d1,d2,d3,d4⟩:=HYn.out.cells hz;have hb1:=fun m0:Nat=>Nat.lt_add_right m0 (hb)
    have hb2:=fun m0 m1:Nat=>Nat.lt_add_right m1 (hb1 m0)
    have hb3:=fun m0 m1 m2:Nat=>Nat.lt_add_right m2 (hb2 m0 m1)
    have hq1:=fun m0:Nat=>Nat.lt_add_right m0 (hq)
    have hq2:=fun m0 m1:Nat=>Nat.lt_add_right m1 (hq1 m0)
    have hq3:=fun m0 m1 m2:Nat=>Nat.lt_add_right m2 (hq2 m0 m1)
    clear hz;go_wp2_with fail
    refine wp_region_gentle_lit (by kernel_rfl) (by kernel_rfl) ?_;repeat (first | go_big_quiet_skip | (go_big_quiet_want;go_big_quiet_op;first | go_big_quiet_on | fail))
    refine wpQuiet_nil ?_;rintro _ ⟨gg,ng,rfl⟩;go_wp2_with fail
    go_roundw
    case rel=>exact ⟨i+1,by omega,by go_num,gw0⟩
    case measure=>simp [intOf];omega
  · obtain rfl:i=X.length:=by omega
    obtain ⟨R1,hR1⟩:∃ R,rowN (pairsL V)=R:=⟨_,rfl⟩;obtain ⟨R2,hR2⟩:∃ R,rowN (pairsL X)=R:=⟨_,rfl⟩;rw [hR1] at HLV;rw [hR2] at HLX;have HR1:=hid hR1;have HR2:=hid hR2;clear hR1 hR2;go_wp2_with fail
    refine (HLV.out _ (HG2.out.trans gw0)).mono ?_;rintro e w' ⟨rfl,ga,ma,rfl⟩;go_wp2_with fail
    refine (HLX.out _ gw0).mono ?_;rintro e w' ⟨rfl,gb,mb,rfl⟩;by_cases hF1:R1.e=0
    case neg =>
     have e5:(R1.e != 0)=true:=by simpa using hF1
     clear hF1;exact k50_
    case pos =>
    by_cases hF2:R2.e=0
    case neg =>
     have e5:(R2.e != 0)=true:=by simpa using hF2
     rw [hF1];clear hF1 hF2;exact k50_
    case pos =>
    have hlaw:=len_law hAu HN.out HXl.out (fun i hi=>by have:=appM_val (n:=n) (la:=A) (lv:=V) (by rw [HY.out]) hi;rwa [HY.out] at this) (by rw [HR1.out];exact hF1) (by rw [HR2.out];exact hF2);rw [HR1.out,HR2.out] at hlaw;have hreal:=len_real (v:=V) (by rw [HR1.out];exact hF1);have hval:=rowA_valid (pairsL V) zero 0 (by decide) (show (rowN (pairsL V)).e=0 by rw [HR1.out];exact hF1);change validB (rowN (pairsL V)).x (rowN (pairsL V)).k=true at hval;rw [HR1.out] at hreal hval;obtain ⟨y1,j1,f1⟩:=R1;obtain ⟨y2,j2,f2⟩:=R2;dsimp only at *
    subst hF1;subst hF2;injection hlaw with hl1 hl2;subst hl1;subst hl2;have HCM:=hid fun w'=>aCmp_any y1 y1 j1 j1 w'
    obtain ⟨hc1,hc2⟩:=cmp_self hval hreal;rw [hc1,hc2] at HCM;clear hreal hval hc1 hc2;go_wp2_with fail
    refine (HCM.out _).mono ?_;rintro e w' ⟨rfl,gc,mc,rfl⟩;exact k50_
end Go.Proofs.YtchdmecjhaanfaaGreatDoor
