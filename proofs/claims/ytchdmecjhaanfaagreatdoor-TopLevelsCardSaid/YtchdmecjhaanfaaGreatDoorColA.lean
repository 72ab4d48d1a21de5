import Derived.Test.YtchdmecjhaanfaaGreatDoorMshJ
import Derived.Test.YtchdmecjhaanfaaGreatDoorMshA
import Derived.Test.YtchdmecjhaanfaaGreatDoorMshLin
namespace Go.Proofs.YtchdmecjhaanfaaGreatDoor
open Go Go.RowKit Amp Msh
set_option maxHeartbeats 800000 in
theorem guides_one (k p n:Int) (s:ByteArray) (w:World) (hk:k=1) :
  Calls Tryz.prog 103 #[.agg #[.int .i64 k,.int .i64 p,.int .i64 n,.string s]] w fun e w'=>(∃ b,e=.returned (.slice (some ⟨b,0,none⟩) 1 1)∧w.heap.size≤b∧b<w'.heap.size∧w'.cell? ⟨b,0,none⟩=some (.int .i64 p))∧Grew w w':=by
 subst hk;go_enter Tryz.func103,Tryz.ntmps103
 go_wp2_with fail
 go_ret;exact ⟨⟨_,rfl,by simp [go_sem],by simp [go_sem],by simp [go_sem]⟩,gw0⟩
set_option maxHeartbeats 800000 in
theorem guides_two (k p n:Int) (s:ByteArray) (w:World) (hk:¬ k=1) (h1:1≤p) (h6:p≤6) :
  Calls Tryz.prog 103 #[.agg #[.int .i64 k,.int .i64 p,.int .i64 n,.string s]] w fun e w'=>(∃ b,e=.returned (.slice (some ⟨b,0,none⟩) 2 2)∧w.heap.size≤b∧b<w'.heap.size∧w'.cell? ⟨b,0,none⟩=some (.int .i64 p)∧w'.cell? ⟨b,1,none⟩=some (.int .i64 (p+1)))∧Grew w w':=by
 have e1:(k==1)=false:=by simpa using hk
 have hw:wrap64 (p+1)=p+1:=by unfold wrap64;omega
 clear hk;go_enter Tryz.func103,Tryz.ntmps103
 go_wp2_with fail
 try rw [hw]
 go_ret;exact ⟨⟨_,rfl,by simp [go_sem],by simp [go_sem],by simp [go_sem],by simp [go_sem]⟩,gw0⟩
open Go Go.RowKit Amp Msh
open Go Go.RowKit Amp Msh
set_option maxHeartbeats 800000 in
theorem cols_bad (g:Int) (a0:Option Addr) (cap:Nat) (its:List It) (w:World) (hl:its.length≤9223372036854775807) (hc:Its w a0 its) (hk:¬ chkIts g its=0) :
  Calls Tryz.prog 49 #[.int .i64 g,.slice a0 its.length cap] w (ListZ (colE g its) w):=by
 have HK:=hid fun w' (h:Grew w w')=>check_any g a0 cap its w' hl (hc.grew h)
 have HR:Hid (colE g its=([],chkIts g its)):=hid (by unfold colE;rw [if_neg hk]);obtain ⟨E,hE⟩:∃ E,chkIts g its=E:=⟨_,rfl⟩;rw [hE] at HK HR hk;have e1:(E != 0)=true:=by simpa using hk
 clear hc hk hE;go_enter Tryz.func49,Tryz.ntmps49
 go_wp2_with fail
 refine (HK.out _ gw0).mono ?_;rintro e w' ⟨rfl,g1,m1,rfl⟩;go_wp2_with fail
 exact bodyPost_ret (v:=.tuple #[.slice none 0 0,.int .i64 E]) (by simp [results,Tryz.results49,go_sem]) rfl ⟨⟨none,0,by rw [HR.out];rfl,by rw [HR.out];exact OwnZ.nil _ _⟩,gw0⟩
structure ColAt (w wr:World) (bl n:Nat) (its:List It) (i:Nat) (ac:Option Addr) (kc:Nat) (L:List Int):Prop where
 out:L=colL (its.take i)
 own:OwnZ wr (bl+1) ac kc L
 last:OwnZ wr bl (some ⟨bl,0,none⟩) (n+1) (lastL n (colP (its.take i)))
 grew:Grew w wr
set_option maxRecDepth 100000 in
set_option maxHeartbeats 4000000 in
theorem cols_main (n:Nat) (a0:Option Addr) (cap:Nat) (its:List It) (w:World) (hl:its.length≤9223372036854775807) (hc:Its w a0 its) (hk:chkIts n its=0) :
  Calls Tryz.prog 49 #[.int .i64 n,.slice a0 its.length cap] w (ListZ (colE n its) w):=by
 have HK:=hid fun w' (h:Grew w w')=>check_any n a0 cap its w' hl (hc.grew h)
 rw [hk] at HK;obtain ⟨q1,q2,q3,q4⟩:=chkIts_zero hk;have HR:Hid (colE n its=(colL its,0)):=hid (by unfold colE;rw [if_pos hk]);have HC:=hid hc;have HOK:=hid q4;have hl5:its.length≤5000:=q3;have hn6:n≤6:=by omega
 clear hc hl hk q1 q2 q3 q4;go_enter Tryz.func49,Tryz.ntmps49
 go_wp2_with fail
 refine (HK.out _ gw0).mono ?_;rintro e w' ⟨rfl,g1,m1,rfl⟩;go_wp2_with (at_make;go_loud (refine wpList_make_z rfl _ _ rfl (n+1) _ _ rfl rfl ?eL ?eC (by omega) ?_))
 case eL=>omega
 case eC=>omega
 intro w2 hlast hgrew hlt2;obtain ⟨bl,hbl⟩:∃ bl,bl=w.heap.size+g1.length:=⟨_,rfl⟩;have hgw:Grew w w2:=Grew.trans gw0 hgrew;rw [← hbl] at hlast hlt2 ⊢;have hbw:w.heap.size≤bl:=by omega
 have HS:Hid (ColAt w w2 bl n its 0 none 0 []):=⟨rfl,OwnZ.nil _ _,by rw [show colP (its.take 0)=[] from rfl,lastL_nil];exact hlast,hgw⟩;clear hlast hgrew hgw hbl HK hlt2;go_wp2_with fail
 go_loopw [8,27] (fun c v wr=>∃ (i:Nat) (ac:Option Addr) (kc:Nat) (L:List Int),i≤its.length∧v=.int .i64 i∧c=.slice ac L.length kc∧Hid (ColAt w wr bl n its i ac kc L)) (fun _ v _=>its.length - (intOf v).toNat)
 case atStart=>exact ⟨0,none,0,[],Nat.zero_le _,rfl,rfl,HS⟩
 case round =>
  obtain ⟨i,ac,kc,L,hi,rfl,rfl,HS⟩:=hrel;by_cases hlt:i<its.length
  case neg =>
   obtain rfl:i=its.length:=by omega
   have hL:=HS.out.out;rw [List.take_length] at hL;subst hL;go_wp2_with fail
   exact bodyPost_ret (v:=.tuple #[.slice ac (colL its).length kc,.int .i64 0]) (by simp [results,Tryz.results49,go_sem]) rfl ⟨⟨ac,kc,by rw [HR.out],by rw [HR.out];exact World.ownsRow.mono HS.out.own (by omega)⟩,HS.out.grew⟩
  case pos =>
   obtain ⟨⟨kd,ps,nn,nm⟩,hx⟩:∃ x,its[i]? = some x:=⟨its[i],List.getElem?_eq_getElem hlt⟩;obtain ⟨b,off,rfl,hb,c0,c1,c2,c3⟩:=HC.out.cells hx;have hok:=okIts_at hx HOK.out;obtain ⟨hp1,hp6⟩:=ok_pos hok (by omega);dsimp only at c0 c1 c2 c3 hp1 hp6;obtain ⟨p,rfl⟩:∃ p:Nat,ps=p:=⟨ps.toNat,by omega⟩;have hg:=HS.out.grew;have c0:=(hg.cell hb _).trans c0;have c1:=(hg.cell hb _).trans c1;have c2:=(hg.cell hb _).trans c2;have c3:=(hg.cell hb _).trans c3;have hb:=Nat.lt_of_lt_of_le hb hg.size;have HX:=hid hx;have HXO:=hid hok;have HLT:=hid hlt;have hb1:=fun m0:Nat=>Nat.lt_add_right m0 (hb)
   have hb2:=fun m0 m1:Nat=>Nat.lt_add_right m1 (hb1 m0)
   have hb3:=fun m0 m1 m2:Nat=>Nat.lt_add_right m2 (hb2 m0 m1)
   clear hx hok hg;have hlen:(its.take i).length≤5000:=by rw [List.length_take];omega
   have hBND:=fun q:Int=>lastOf_bound (colP (its.take i)) q (B:=5000) (by omega) (fun r hr=>by have:=(colP_bound _ r hr).2;omega)
   have HBND:=hid hBND;have zl:=HS.out.last.lt;clear hlen hBND;by_cases hk1:kd=1
   case pos =>
    have hpn:=(okIt_iff HXO.out).2.2.2.1;dsimp only at hpn;rw [show ownW kd=1 by unfold ownW;rw [if_pos hk1]] at hpn;obtain ⟨V0,hV0⟩:∃ v,lastOf (colP (its.take i)) p=v:=⟨_,rfl⟩;have hLb0:=HBND.out p;rw [hV0] at hLb0;obtain ⟨hLa0,hLc0⟩:=hLb0;have HV0:=hid hV0;clear hV0;have hm0:(if 0<V0 then V0 else 0)=V0:=by split <;> omega
    go_wp2_with fail
    refine (guides_one 1 p nn nm _ rfl).mono ?_;rintro e w' ⟨⟨bg,rfl,hg1,hg2,k0⟩,g3,m3,rfl⟩;obtain ⟨W1,hW1⟩:∃ W1,W1=((wr.alloc (.cells #[.int .i64 1,.int .i64 p,.int .i64 nn,.string nm] 51)).grow g3).drewN m3:=⟨_,rfl⟩;obtain ⟨b10,hb10⟩:∃ b10,b10=wr.heap.size:=⟨_,rfl⟩;have hgw:Grew wr W1:=by rw [hW1];exact gw0
    have hki:W1.cell? ⟨b10,0,none⟩=some (.int .i64 1)∧W1.cell? ⟨b10,1,none⟩=some (.int .i64 p)∧W1.cell? ⟨b10,2,none⟩=some (.int .i64 nn)∧W1.cell? ⟨b10,3,none⟩=some (.string nm)∧b10<W1.heap.size:=by rw [hW1,hb10];simp [go_sem] <;> omega
    rw [← hW1] at hg2 k0 ⊢;rw [← hb10];obtain ⟨i0,i1,i2,i3,z10⟩:=hki;have zl:=Nat.lt_of_lt_of_le zl hgw.size;have HO1:=hid (HS.out.own.grew hgw);have HL1:=hid (HS.out.last.grew hgw);have HG1:=hid (HS.out.grew.trans hgw);have HG10:=hid (And.intro hg1 hb10);obtain ⟨f0,ff0⟩:=HL1.out.at (lastL_at (colP (its.take i)) (q:=p) (by omega));rw [HV0.out] at f0;clear hW1 hgw hg1 hb10 c0 c1 c2 c3 hb hb1 hb2 hb3;go_wp2_with fail
    refine wp_loop_rounds 2 ?_
    iterate 2 (simp only [rounds_succ];go_wp2_with fail)
    refine (guides_one 1 p nn nm _ rfl).mono ?_;rintro e w' ⟨⟨bh,rfl,_,hh2,l0⟩,g4,m4,rfl⟩;obtain ⟨W2,hW2⟩:∃ W2,W2=(W1.grow g4).drewN m4:=⟨_,rfl⟩;have hgw:Grew W1 W2:=by rw [hW2];exact gw0
    rw [← hW2] at hh2 l0 ⊢;have zl:=Nat.lt_of_lt_of_le zl hgw.size;have HO2:=hid (HO1.out.grew hgw);have HL2:=hid (HL1.out.grew hgw);have HG2:=hid (HG1.out.trans hgw);have f0:=(hgw.cell (i:=p) (by omega)).trans f0;have ff0:=(HL2.out.at (lastL_at (colP (its.take i)) (q:=p) (by omega))).2;have HCM:=hid (show cmax (colP (its.take i)) ⟨kd,p,nn,nm⟩=V0 by unfold cmax;dsimp only;rw [if_pos hk1,HV0.out];omega);have hcl:=col_last HXO.out (by omega) (colP (its.take i)) (fun q hq=>by have:=colP_bound _ q hq;omega);rw [HCM.out] at hcl;have HOUT:=hid (show L++[V0+1]=colL (its.take (i+1)) by rw [HS.out.out,take_snoc HX.out,colL_snoc,hcl]);have HLS:=hid (show lastL n (colP (its.take (i+1)))=(lastL n (colP (its.take i))).set p (V0+1) by
     have h1:=lastL_step HXO.out (colP (its.take i));rw [HCM.out,if_pos hk1] at h1;rw [take_snoc HX.out,colP_snoc,hcl,h1];rfl)
    clear hW2 hgw hcl k0 hg2;go_wp2_with fail
    refine wp_loop_rounds 2 ?_
    iterate 1 (simp only [rounds_succ];go_wp2_with fail)
    simp only [rounds_succ];go_wp2_with (at_builtin;go_loud (refine wpList_append_z rfl _ _ rfl (bl+1) ac kc L rfl (OwnZ.grew (HO2.out.set_low (Nat.lt_succ_self bl)) gw0) _ 1 (V0+1) rfl ?cz ?mx ?bs ?_))
    case cz=>simp [go_sem]
    case mx=>rw [HS.out.out,colL_length,List.length_take];omega
    case bs=>simp [go_sem];omega
    · intro a4 k4 wB hownB hgrowB hdrB
      have HGB:=hid (show Grew w wB from Grew.by (w':=_) ((HG2.out.set hbw _ _).alloc _) hgrowB hdrB (fun jj hjj=>by have:=ownsRow_above HO2.out jj hjj;omega));have HLB:=hid (OwnZ.by ((HL2.out.put p (V0+1)).grew ((Grew.refl _).alloc _)) hgrowB (fun e=>by have:=ownsRow_above HO2.out bl e.symm;omega));have HOB:=hid hownB;clear hgrowB hdrB hownB;go_wp2_with fail
      go_roundw
      case rel=>exact ⟨i+1,a4,k4,L++[V0+1],by have:=HLT.out;omega,by go_num,by simp,HOUT.out,HOB.out,by rw [HLS.out];exact HLB.out,HGB.out⟩
      case measure=>have:=HLT.out;simp [intOf];omega
   case neg =>
    have hk1b:(kd==1)=false:=by simpa using hk1
    have hpn:=(okIt_iff HXO.out).2.2.2.1;dsimp only at hpn;rw [show ownW kd=2 by unfold ownW;rw [if_neg hk1]] at hpn;obtain ⟨V0,hV0⟩:∃ v,lastOf (colP (its.take i)) p=v:=⟨_,rfl⟩;have hLb0:=HBND.out p;rw [hV0] at hLb0;obtain ⟨hLa0,hLc0⟩:=hLb0;have HV0:=hid hV0;clear hV0;obtain ⟨V1,hV1⟩:∃ v,lastOf (colP (its.take i)) ((p:Int)+1)=v:=⟨_,rfl⟩;have hLb1:=HBND.out ((p:Int)+1);rw [hV1] at hLb1;obtain ⟨hLa1,hLc1⟩:=hLb1;have HV1:=hid hV1;clear hV1;have hm0:(if 0<V0 then V0 else 0)=V0:=by split <;> omega
    obtain ⟨M,hm1⟩:∃ M,(if V0<V1 then V1 else V0)=M:=⟨_,rfl⟩;have hMb:0≤M∧M≤5000:=by rw [← hm1];split <;> omega
    obtain ⟨hMa,hMc⟩:=hMb;go_wp2_with fail
    refine (guides_two kd p nn nm _ hk1 hp1 hp6).mono ?_;rintro e w' ⟨⟨bg,rfl,hg1,hg2,k0,k1⟩,g3,m3,rfl⟩;obtain ⟨W1,hW1⟩:∃ W1,W1=((wr.alloc (.cells #[.int .i64 kd,.int .i64 p,.int .i64 nn,.string nm] 51)).grow g3).drewN m3:=⟨_,rfl⟩;obtain ⟨b10,hb10⟩:∃ b10,b10=wr.heap.size:=⟨_,rfl⟩;have hgw:Grew wr W1:=by rw [hW1];exact gw0
    have hki:W1.cell? ⟨b10,0,none⟩=some (.int .i64 kd)∧W1.cell? ⟨b10,1,none⟩=some (.int .i64 p)∧W1.cell? ⟨b10,2,none⟩=some (.int .i64 nn)∧W1.cell? ⟨b10,3,none⟩=some (.string nm)∧b10<W1.heap.size:=by rw [hW1,hb10];simp [go_sem] <;> omega
    rw [← hW1] at hg2 k0 k1 ⊢;rw [← hb10];obtain ⟨i0,i1,i2,i3,z10⟩:=hki;have zl:=Nat.lt_of_lt_of_le zl hgw.size;have HO1:=hid (HS.out.own.grew hgw);have HL1:=hid (HS.out.last.grew hgw);have HG1:=hid (HS.out.grew.trans hgw);have HG10:=hid (And.intro hg1 hb10);obtain ⟨f0,ff0⟩:=HL1.out.at (lastL_at (colP (its.take i)) (q:=p) (by omega));rw [HV0.out] at f0;obtain ⟨f1,ff1⟩:=HL1.out.at (lastL_at (colP (its.take i)) (q:=(p+1)) (by omega));rw [show (((p+1:Nat):Int))=(p:Int)+1 by omega] at f1;rw [HV1.out] at f1;clear hW1 hgw hg1 hb10 c0 c1 c2 c3 hb hb1 hb2 hb3;go_wp2_with fail
    refine wp_loop_rounds 3 ?_
    iterate 3 (simp only [rounds_succ];go_wp2_with fail)
    refine (guides_two kd p nn nm _ hk1 hp1 hp6).mono ?_;rintro e w' ⟨⟨bh,rfl,_,hh2,l0,l1⟩,g4,m4,rfl⟩;obtain ⟨W2,hW2⟩:∃ W2,W2=(W1.grow g4).drewN m4:=⟨_,rfl⟩;have hgw:Grew W1 W2:=by rw [hW2];exact gw0
    rw [← hW2] at hh2 l0 l1 ⊢;have zl:=Nat.lt_of_lt_of_le zl hgw.size;have HO2:=hid (HO1.out.grew hgw);have HL2:=hid (HL1.out.grew hgw);have HG2:=hid (HG1.out.trans hgw);have f0:=(hgw.cell (i:=p) (by omega)).trans f0;have ff0:=(HL2.out.at (lastL_at (colP (its.take i)) (q:=p) (by omega))).2;have f1:=(hgw.cell (i:=(p+1)) (by omega)).trans f1;have ff1:=(HL2.out.at (lastL_at (colP (its.take i)) (q:=(p+1)) (by omega))).2;have HCM:=hid (show cmax (colP (its.take i)) ⟨kd,p,nn,nm⟩=M by unfold cmax;dsimp only;rw [if_neg hk1,HV0.out,HV1.out,← hm1];split <;> omega);have hcl:=col_last HXO.out (by omega) (colP (its.take i)) (fun q hq=>by have:=colP_bound _ q hq;omega);rw [HCM.out] at hcl;have HOUT:=hid (show L++[M+1]=colL (its.take (i+1)) by rw [HS.out.out,take_snoc HX.out,colL_snoc,hcl]);have HLS:=hid (show lastL n (colP (its.take (i+1)))=((lastL n (colP (its.take i))).set p (M+1)).set (p+1) (M+1) by
     have h1:=lastL_step HXO.out (colP (its.take i));rw [HCM.out,if_neg hk1] at h1;rw [take_snoc HX.out,colP_snoc,hcl,h1];dsimp only;rw [show ((p:Int)+1).toNat=p+1 by omega];rfl)
    clear hW2 hgw hcl k0 k1 hg2;go_wp2_with fail
    refine wp_loop_rounds 3 ?_
    iterate 2 (simp only [rounds_succ];go_wp2_with fail)
    simp only [rounds_succ];go_wp2_with (at_builtin;go_loud (refine wpList_append_z rfl _ _ rfl (bl+1) ac kc L rfl (OwnZ.grew ((HO2.out.set_low (Nat.lt_succ_self bl)).set_low (Nat.lt_succ_self bl)) gw0) _ 1 (M+1) rfl ?cz ?mx ?bs ?_))
    case cz=>simp [go_sem]
    case mx=>rw [HS.out.out,colL_length,List.length_take];omega
    case bs=>simp [go_sem];omega
    · intro a4 k4 wB hownB hgrowB hdrB
      have HGB:=hid (show Grew w wB from Grew.by (w':=_) (((HG2.out.set hbw _ _).set hbw _ _).alloc _) hgrowB hdrB (fun jj hjj=>by have:=ownsRow_above HO2.out jj hjj;omega));have HLB:=hid (OwnZ.by (((HL2.out.put p (M+1)).put (p+1) (M+1)).grew ((Grew.refl _).alloc _)) hgrowB (fun e=>by have:=ownsRow_above HO2.out bl e.symm;omega));have HOB:=hid hownB;clear hgrowB hdrB hownB;go_wp2_with fail
      go_roundw
      case rel=>exact ⟨i+1,a4,k4,L++[M+1],by have:=HLT.out;omega,by go_num,by simp,HOUT.out,HOB.out,by rw [HLS.out];exact HLB.out,HGB.out⟩
      case measure=>have:=HLT.out;simp [intOf];omega
theorem cols_any (g:Int) (a0:Option Addr) (cap:Nat) (its:List It) (w:World) (hl:its.length≤9223372036854775807) (hc:Its w a0 its) :
  Calls Tryz.prog 49 #[.int .i64 g,.slice a0 its.length cap] w (ListZ (colE g its) w):=by
 by_cases hk:chkIts g its=0
 · obtain ⟨q1,_,_,_⟩:=chkIts_zero hk
   obtain ⟨n,rfl⟩:∃ n:Nat,g=n:=⟨g.toNat,by omega⟩;exact cols_main n a0 cap its w hl hc hk
 · exact cols_bad g a0 cap its w hl hc hk
open Go Go.RowKit Amp Msh
def cntA (g:Int) (l:List It):Int:=if chkIts g l=0 then cntM (colL l) else 0
def cntB (g:Int) (l:List It) (k:Int):Int:=if chkIts g l=0 then cntK l k else 0
theorem heap_new (w:World) (o:Obj):(w.alloc o).heap[w.heap.size]? = some o:=by
 show (w.heap.push o)[w.heap.size]? = some o
 simp
theorem arr_set2 {W:World} {b:Nat} {cs:Array Value} {T:TypeId} (h:W.heap[b]? = some (.cells cs T)) (i j:Nat) (u v:Value):((W.setCell ⟨b,i,none⟩ u).setCell ⟨b,j,none⟩ v).heap[b]? = some (.cells ((cs.setIfInBounds i u).setIfInBounds j v) T) :=
 heap_setCell_same _ _ _ _ _ _ (heap_setCell_same _ _ _ _ _ _ h)
set_option maxHeartbeats 800000 in
theorem count_bad (g:Int) (a0:Option Addr) (cap:Nat) (its:List It) (w:World) (hl:its.length≤9223372036854775807) (hc:Its w a0 its) (hk:¬ chkIts g its=0) :
  Calls Tryz.prog 25 #[.int .i64 g,.slice a0 its.length cap] w fun e w'=>e=.returned (.tuple #[.agg #[.int .i64 (cntA g its),.int .i64 (cntB g its 1),.int .i64 (cntB g its 2),.int .i64 (cntB g its 3)],.int .i64 (chkIts g its)])∧Grew w w':=by
 have HK:=hid fun w' (h:Grew w w')=>cols_any g a0 cap its w' hl (hc.grew h)
 have hR:colE g its=([],chkIts g its):=by unfold colE;rw [if_neg hk]
 have HR:Hid (cntA g its=0∧cntB g its 1=0∧cntB g its 2=0∧cntB g its 3=0):=hid (by unfold cntA cntB;rw [if_neg hk,if_neg hk,if_neg hk,if_neg hk];exact ⟨rfl,rfl,rfl,rfl⟩);obtain ⟨E,hE⟩:∃ E,chkIts g its=E:=⟨_,rfl⟩;rw [hE] at hk hR ⊢;rw [hR] at HK;have e1:(E != 0)=true:=by simpa using hk
 obtain ⟨h1,h2,h3,h4⟩:=HR.out;rw [h1,h2,h3,h4];clear hc hk hE hR HR h1 h2 h3 h4;go_enter Tryz.func25,Tryz.ntmps25
 go_wp2_with fail
 refine (HK.out _ gw0).mono ?_;rintro e w' ⟨⟨a2,k2,rfl,_⟩,g1,m1,rfl⟩;dsimp only;go_wp2_with fail
 exact bodyPost_ret (v:=.tuple #[.agg #[.int .i64 0,.int .i64 0,.int .i64 0,.int .i64 0],.int .i64 E]) (by simp [results,Tryz.results25,go_sem]) rfl ⟨rfl,gw0⟩
set_option maxRecDepth 100000 in
set_option maxHeartbeats 4000000 in
theorem count_main (g:Int) (a0:Option Addr) (cap:Nat) (its:List It) (w:World) (hl:its.length≤9223372036854775807) (hc:Its w a0 its) (hk:chkIts g its=0) :
  Calls Tryz.prog 25 #[.int .i64 g,.slice a0 its.length cap] w fun e w'=>e=.returned (.tuple #[.agg #[.int .i64 (cntA g its),.int .i64 (cntB g its 1),.int .i64 (cntB g its 2),.int .i64 (cntB g its 3)],.int .i64 (chkIts g its)])∧Grew w w':=by
 have HK:=hid fun w' (h:Grew w w')=>cols_any g a0 cap its w' hl (hc.grew h)
 have hR:colE g its=(colL its,0):=by unfold colE;rw [if_pos hk]
 have HR:Hid (cntA g its=cntM (colL its)∧cntB g its 1=cntK its 1∧cntB g its 2=cntK its 2∧cntB g its 3=cntK its 3):=hid (by unfold cntA cntB;rw [if_pos hk,if_pos hk,if_pos hk,if_pos hk];exact ⟨rfl,rfl,rfl,rfl⟩);obtain ⟨q1,q2,q3,q4⟩:=chkIts_zero hk;rw [hR] at HK;rw [hk];obtain ⟨h1,h2,h3,h4⟩:=HR.out;rw [h1,h2,h3,h4];have HC:=hid hc;have HOK:=hid q4;have hl5:its.length≤5000:=q3;obtain ⟨CL,hCL⟩:∃ CL,colL its=CL:=⟨_,rfl⟩;have hCLl:CL.length=its.length:=by rw [← hCL,colL_length]
 rw [hCL] at HK;have HCL:=hid hCL;clear hc hk hl hR HR h1 h2 h3 h4 q1 q2 q3 q4 hCL;go_enter Tryz.func25,Tryz.ntmps25
 go_wp2_with fail
 refine (HK.out _ gw0).mono ?_;rintro e w' ⟨⟨a2,k2,rfl,hZ⟩,g1,m1,rfl⟩;dsimp only at hZ ⊢;go_wp2_with fail
 obtain ⟨b8,hb8⟩:∃ b8,b8=w.heap.size+1+g1.length:=⟨_,rfl⟩;obtain ⟨b4,hb4⟩:∃ b4,b4=w.heap.size:=⟨_,rfl⟩;obtain ⟨W0,hW0⟩:∃ W0,W0=((((w.alloc (.cells #[.int .i64 0,.int .i64 0,.int .i64 0,.int .i64 0] 60)).grow g1).alloc (.cells #[.int .i64 0,.int .i64 0,.int .i64 0,.int .i64 0] 60)).drewN m1):=⟨_,rfl⟩;have hgw:Grew w W0:=by rw [hW0];exact gw0
 have hbo:CL=[]∨∃ bo,a2=some ⟨bo,0,none⟩∧bo≠b8∧bo<W0.heap.size∧∀ i z,CL[i]? = some z→W0.cell? ⟨bo,i,none⟩=some (.int .i64 z):=by
  rcases OwnZ.here (show OwnZ ((w.alloc (.cells #[.int .i64 0,.int .i64 0,.int .i64 0,.int .i64 0] 60)).grow g1) _ a2 k2 CL from hZ) with h | ⟨bo,h1,h2,h3,h4⟩
  · exact .inl h
  · have hgz:Grew ((w.alloc (.cells #[.int .i64 0,.int .i64 0,.int .i64 0,.int .i64 0] 60)).grow g1) W0:=by rw [hW0];exact gw0
    refine .inr ⟨bo,h1, ?_,Nat.lt_of_lt_of_le h3 hgz.size,fun i z hz=>(hgz.cell h3 i).trans (h4 i z hz)⟩;simp [go_sem] at h3;omega
 have e8:b8=((w.alloc (.cells #[.int .i64 0,.int .i64 0,.int .i64 0,.int .i64 0] 60)).grow g1).heap.size:=by rw [hb8];simp [go_sem]
 have g8:W0.heap[b8]? = some (.cells #[.int .i64 0,.int .i64 0,.int .i64 0,.int .i64 0] 60):=by rw [e8,hW0];exact (Grew.block (a:=((w.alloc (.cells #[.int .i64 0,.int .i64 0,.int .i64 0,.int .i64 0] 60)).grow g1).alloc (.cells #[.int .i64 0,.int .i64 0,.int .i64 0,.int .i64 0] 60)) gw0 _ (by simp)).trans (heap_new _ _)
 have g4:W0.heap[b4]? = some (.cells #[.int .i64 0,.int .i64 0,.int .i64 0,.int .i64 0] 60):=by rw [hb4,hW0];exact (Grew.block (a:=w.alloc (.cells #[.int .i64 0,.int .i64 0,.int .i64 0,.int .i64 0] 60)) gw0 _ (by simp)).trans (heap_new _ _)
 have h4:W0.heap[b4]? = some (.cells #[.int .i64 0,.int .i64 0,.int .i64 0,.int .i64 0] 60)∧b4<b8∧b8<W0.heap.size:=⟨g4,by rw [hb8,hb4];omega,(Array.getElem?_eq_some_iff.1 g8).1⟩;have hW8:w.heap.size≤b8:=by omega
 have hb4w:w.heap.size≤b4:=by omega
 rw [← hW0,← hb8,← hb4];have HI:=hid (HC.out.grew hgw);have HGW:=hid hgw;have HB8:=hid (And.intro hW8 (And.intro h4.1 (And.intro h4.2.1 (And.intro h4.2.2 hb4w))));have HBO:=hid hbo;have HS:Hid (Turned W0 W0 b8∧∃ M A1 A2 A3:Int,W0.heap[b8]? = some (.cells #[.int .i64 M,.int .i64 A1,.int .i64 A2,.int .i64 A3] 60)∧M=cntM (CL.take 0)∧A1=cntK (its.take 0) 1∧A2=cntK (its.take 0) 2∧A3=cntK (its.take 0) 3):=⟨Turned.refl _ _,0,0,0,0,g8,rfl,rfl,rfl,rfl⟩;clear hW0 hb8 hb4 hgw hZ hbo e8 g8 g4 h4 hW8 hb4w HK;go_loopw [23] (fun v wr=>∃ i:Nat,i≤its.length∧v=.int .i64 i∧Hid (Turned W0 wr b8∧∃ M A1 A2 A3:Int,wr.heap[b8]? = some (.cells #[.int .i64 M,.int .i64 A1,.int .i64 A2,.int .i64 A3] 60)∧M=cntM (CL.take i)∧A1=cntK (its.take i) 1∧A2=cntK (its.take i) 2∧A3=cntK (its.take i) 3)) (fun v _=>its.length - (intOf v).toNat)
 case atStart=>exact ⟨0,Nat.zero_le _,rfl,HS⟩
 case round =>
  obtain ⟨i,hi,rfl,HS⟩:=hrel;obtain ⟨hT,M,A1,A2,A3,h8,hM,hA1,hA2,hA3⟩:=HS.out;obtain ⟨hW8,h4,hlt48,hltW,hb4w⟩:=HB8.out;have h4:wr.heap[b4]? = some (.cells #[.int .i64 0,.int .i64 0,.int .i64 0,.int .i64 0] 60):=(hT.block (by omega) (by omega)).trans h4;have z8:=(Array.getElem?_eq_some_iff.1 h8).1;have z4:=(Array.getElem?_eq_some_iff.1 h4).1;have p0:wr.cell? ⟨b8,0,none⟩=some (.int .i64 M):=by simp [World.cell?,h8]
  have p1:wr.cell? ⟨b8,1,none⟩=some (.int .i64 A1):=by simp [World.cell?,h8]
  have p2:wr.cell? ⟨b8,2,none⟩=some (.int .i64 A2):=by simp [World.cell?,h8]
  have p3:wr.cell? ⟨b8,3,none⟩=some (.int .i64 A3):=by simp [World.cell?,h8]
  have pf:∀ j,wr.frozen? ⟨b8,j,none⟩=false:=fun j=>by simp [World.frozen?,h8]
  have hbb:b8≠b4:=by omega
  have hbb':b4≠b8:=by omega
  have HT:=hid hT;have H8:=hid h8;have HM:=hid (And.intro hM (And.intro hA1 (And.intro hA2 hA3)));have HGR:=hid (And.intro (hT.toGrew HGW.out hW8) hb4w);by_cases hlt:i<its.length
  case neg =>
   obtain rfl:i=its.length:=by omega
   have r0:wr.cell? ⟨b4,0,none⟩=some (.int .i64 0):=by simp [World.cell?,h4]
   have r1:wr.cell? ⟨b4,1,none⟩=some (.int .i64 0):=by simp [World.cell?,h4]
   have r2:wr.cell? ⟨b4,2,none⟩=some (.int .i64 0):=by simp [World.cell?,h4]
   have r3:wr.cell? ⟨b4,3,none⟩=some (.int .i64 0):=by simp [World.cell?,h4]
   have rf:∀ j,wr.frozen? ⟨b4,j,none⟩=false:=fun j=>by simp [World.frozen?,h4]
   have z81:=fun m0:Nat=>Nat.lt_add_right m0 (z8)
   have z82:=fun m0 m1:Nat=>Nat.lt_add_right m1 (z81 m0)
   have z83:=fun m0 m1 m2:Nat=>Nat.lt_add_right m2 (z82 m0 m1)
   have z41:=fun m0:Nat=>Nat.lt_add_right m0 (z4)
   have z42:=fun m0 m1:Nat=>Nat.lt_add_right m1 (z41 m0)
   have z43:=fun m0 m1 m2:Nat=>Nat.lt_add_right m2 (z42 m0 m1)
   have HCL2:=hid hCLl;clear h8 h4 hT hM hA1 hA2 hA3 HS hlt48 hltW hW8 hb4w hCLl;go_wp2_with fail
   obtain ⟨hM,hA1,hA2,hA3⟩:=HM.out;rw [List.take_length] at hA1 hA2 hA3;rw [← HCL2.out,List.take_length] at hM;exact bodyPost_ret (v:=.tuple #[.agg #[.int .i64 M,.int .i64 A1,.int .i64 A2,.int .i64 A3],.int .i64 0]) (by simp [results,Tryz.results25,go_sem,r0,r1,r2,r3]) rfl ⟨by rw [HCL.out,← hM,← hA1,← hA2,← hA3],(((HGR.out.1.set HGR.out.2 _ _).set HGR.out.2 _ _).set HGR.out.2 _ _).set HGR.out.2 _ _⟩
  case pos =>
   obtain ⟨⟨kd,ps,nn,nm⟩,hx⟩:∃ x,its[i]? = some x:=⟨its[i],List.getElem?_eq_getElem hlt⟩;obtain ⟨b,off,rfl,hb,c0,c1,c2,c3⟩:=HC.out.cells hx;have hbW:b<W0.heap.size:=Nat.lt_of_lt_of_le hb HGW.out.size;have HE:=HGW.out;have c0:=(hT.cell hbW (by omega)).trans ((HE.cell hb _).trans c0);have c1:=(hT.cell hbW (by omega)).trans ((HE.cell hb _).trans c1);have c2:=(hT.cell hbW (by omega)).trans ((HE.cell hb _).trans c2);have c3:=(hT.cell hbW (by omega)).trans ((HE.cell hb _).trans c3);dsimp only at c0 c1 c2 c3;have hb:=Nat.lt_of_lt_of_le hbW hT.size;have hiC:i<CL.length:=by omega
   obtain ⟨c,hcc⟩:∃ c,CL[i]? = some c:=⟨CL[i],List.getElem?_eq_getElem hiC⟩;obtain ⟨bo,rfl,hob,hol,d0⟩:∃ bo,a2=some ⟨bo,0,none⟩∧bo≠b8∧bo<W0.heap.size∧W0.cell? ⟨bo,i,none⟩=some (.int .i64 c):=by
    rcases HBO.out with h | ⟨bo,h1,h2,h3,h4⟩
    · rw [h] at hcc;cases hcc
    · exact ⟨bo,h1,h2,h3,h4 i c hcc⟩
   have d0:=(hT.cell hol hob).trans d0;have hol:=Nat.lt_of_lt_of_le hol hT.size;have hbd1:=cntK_bound (its.take i) 1;have hbd2:=cntK_bound (its.take i) 2;have hbd3:=cntK_bound (its.take i) 3;have hlen:(its.take i).length≤5000:=by rw [List.length_take];omega
   rw [← hA1] at hbd1;rw [← hA2] at hbd2;rw [← hA3] at hbd3;obtain ⟨u1,v1⟩:=hbd1;obtain ⟨u2,v2⟩:=hbd2;obtain ⟨u3,v3⟩:=hbd3;have v1:A1≤5000:=by omega
   have v2:A2≤5000:=by omega
   have v3:A3≤5000:=by omega
   obtain ⟨M2,hm⟩:∃ M2,(if M<c then c else M)=M2:=⟨_,rfl⟩;have hbne:b≠b8:=by omega
   have HTK:=hid (show M2=cntM (CL.take (i+1)) by rw [take_snoc hcc,cntM_snoc,← hM,← hm];split <;> omega);have hkd:=(okIt_iff (okIts_at hx HOK.out)).2.1;dsimp only at hkd;have hnext:∀ k:Int,cntK (its.take (i+1)) k=if kd=k then cntK (its.take i) k+1 else cntK (its.take i) k:=fun k=>by rw [take_snoc hx,cntK_snoc]
   have HNX:=hid hnext;have HLT:=hid hlt;have hb1:=fun m0:Nat=>Nat.lt_add_right m0 (hb)
   have hb2:=fun m0 m1:Nat=>Nat.lt_add_right m1 (hb1 m0)
   have hb3:=fun m0 m1 m2:Nat=>Nat.lt_add_right m2 (hb2 m0 m1)
   have hol1:=fun m0:Nat=>Nat.lt_add_right m0 (hol)
   have hol2:=fun m0 m1:Nat=>Nat.lt_add_right m1 (hol1 m0)
   have hol3:=fun m0 m1 m2:Nat=>Nat.lt_add_right m2 (hol2 m0 m1)
   have z81:=fun m0:Nat=>Nat.lt_add_right m0 (z8)
   have z82:=fun m0 m1:Nat=>Nat.lt_add_right m1 (z81 m0)
   have z83:=fun m0 m1 m2:Nat=>Nat.lt_add_right m2 (z82 m0 m1)
   clear h8 h4 hT hM hA1 hA2 hA3 HS hlt48 hltW hW8 hb4w hx hcc hbW HE hlen hnext hCLl;rcases hkd with rfl | rfl | rfl
   · go_wp2_with fail
     refine wp_region_gentle_tail 7 (by kernel_rfl) (by kernel_rfl) (by kernel_rfl) ?_;simp only [List.take_succ_cons,List.take_zero,List.drop_succ_cons,List.drop_zero];repeat (first | go_big_quiet_skip | (go_big_quiet_want;go_big_quiet_op;first | go_big_quiet_on | fail))
     refine wpQuiet_nil ?_;rintro _ ⟨gg,ng,rfl⟩;go_wp2_with fail
     go_roundw
     case rel=>exact ⟨i+1,by have:=HLT.out;omega,by go_num,(by repeat (first | exact HT.out | refine Turned.set ?_ _ _ | refine Turned.grew ?_ ((Grew.refl _).alloc _) | refine Turned.grew ?_ ((Grew.refl _).grow _) | refine Turned.grew ?_ ((Grew.refl _).drewN _) | refine Turned.grew ?_ (Grew.refl _).drew)),M2,(A1+1),A2,A3,(by have hh:=arr_set2 H8.out 0 1 (.int .i64 M2) (.int .i64 (A1+1));simp only [List.setIfInBounds_toArray,List.set_cons_zero,List.set_cons_succ] at hh;exact (Grew.block gw0 b8 (Array.getElem?_eq_some_iff.1 hh).1).trans hh),HTK.out,by have h:=HNX.out 1;have hh:=HM.out;simp at h;omega,by have h:=HNX.out 2;have hh:=HM.out;simp at h;omega,by have h:=HNX.out 3;have hh:=HM.out;simp at h;omega⟩
     case measure=>have:=HLT.out;simp [intOf];omega
   · go_wp2_with fail
     refine wp_region_gentle_tail 7 (by kernel_rfl) (by kernel_rfl) (by kernel_rfl) ?_;simp only [List.take_succ_cons,List.take_zero,List.drop_succ_cons,List.drop_zero];repeat (first | go_big_quiet_skip | (go_big_quiet_want;go_big_quiet_op;first | go_big_quiet_on | fail))
     refine wpQuiet_nil ?_;rintro _ ⟨gg,ng,rfl⟩;go_wp2_with fail
     go_roundw
     case rel=>exact ⟨i+1,by have:=HLT.out;omega,by go_num,(by repeat (first | exact HT.out | refine Turned.set ?_ _ _ | refine Turned.grew ?_ ((Grew.refl _).alloc _) | refine Turned.grew ?_ ((Grew.refl _).grow _) | refine Turned.grew ?_ ((Grew.refl _).drewN _) | refine Turned.grew ?_ (Grew.refl _).drew)),M2,A1,(A2+1),A3,(by have hh:=arr_set2 H8.out 0 2 (.int .i64 M2) (.int .i64 (A2+1));simp only [List.setIfInBounds_toArray,List.set_cons_zero,List.set_cons_succ] at hh;exact (Grew.block gw0 b8 (Array.getElem?_eq_some_iff.1 hh).1).trans hh),HTK.out,by have h:=HNX.out 1;have hh:=HM.out;simp at h;omega,by have h:=HNX.out 2;have hh:=HM.out;simp at h;omega,by have h:=HNX.out 3;have hh:=HM.out;simp at h;omega⟩
     case measure=>have:=HLT.out;simp [intOf];omega
   · go_wp2_with fail
     refine wp_region_gentle_tail 7 (by kernel_rfl) (by kernel_rfl) (by kernel_rfl) ?_;simp only [List.take_succ_cons,List.take_zero,List.drop_succ_cons,List.drop_zero];repeat (first | go_big_quiet_skip | (go_big_quiet_want;go_big_quiet_op;first | go_big_quiet_on | fail))
     refine wpQuiet_nil ?_;rintro _ ⟨gg,ng,rfl⟩;go_wp2_with fail
     go_roundw
     case rel=>exact ⟨i+1,by have:=HLT.out;omega,by go_num,(by repeat (first | exact HT.out | refine Turned.set ?_ _ _ | refine Turned.grew ?_ ((Grew.refl _).alloc _) | refine Turned.grew ?_ ((Grew.refl _).grow _) | refine Turned.grew ?_ ((Grew.refl _).drewN _) | refine Turned.grew ?_ (Grew.refl _).drew)),M2,A1,A2,(A3+1),(by have hh:=arr_set2 H8.out 0 3 (.int .i64 M2) (.int .i64 (A3+1));simp only [List.setIfInBounds_toArray,List.set_cons_zero,List.set_cons_succ] at hh;exact (Grew.block gw0 b8 (Array.getElem?_eq_some_iff.1 hh).1).trans hh),HTK.out,by have h:=HNX.out 1;have hh:=HM.out;simp at h;omega,by have h:=HNX.out 2;have hh:=HM.out;simp at h;omega,by have h:=HNX.out 3;have hh:=HM.out;simp at h;omega⟩
     case measure=>have:=HLT.out;simp [intOf];omega
theorem count_any (g:Int) (a0:Option Addr) (cap:Nat) (its:List It) (w:World) (hl:its.length≤9223372036854775807) (hc:Its w a0 its) :
  Calls Tryz.prog 25 #[.int .i64 g,.slice a0 its.length cap] w fun e w'=>e=.returned (.tuple #[.agg #[.int .i64 (cntA g its),.int .i64 (cntB g its 1),.int .i64 (cntB g its 2),.int .i64 (cntB g its 3)],.int .i64 (chkIts g its)])∧Grew w w':=by
 by_cases hk:chkIts g its=0
 · exact count_main g a0 cap its w hl hc hk
 · exact count_bad g a0 cap its w hl hc hk
end Go.Proofs.YtchdmecjhaanfaaGreatDoor
