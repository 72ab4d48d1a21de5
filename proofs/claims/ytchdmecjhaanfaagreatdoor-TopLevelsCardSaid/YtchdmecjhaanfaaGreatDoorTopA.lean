import Derived.Test.YtchdmecjhaanfaaGreatDoorMshJ
import Derived.Test.YtchdmecjhaanfaaGreatDoorMshVal
import Derived.Test.YtchdmecjhaanfaaGreatDoorAmpI
namespace Go.Proofs.YtchdmecjhaanfaaGreatDoor
open Go Go.RowKit Amp Msh
theorem okc_any (x:C4) (k:Int) (w:World) (h:validB x k=true):Calls Tryz.prog 75 #[.agg #[.int .i64 x.a,.int .i64 x.b,.int .i64 x.c,.int .i64 x.d,.int .i64 k]] w fun e w'=>e=.returned (.tuple #[.agg #[.int .i64 (conjC x).a,.int .i64 (conjC x).b,.int .i64 (conjC x).c,.int .i64 (conjC x).d,.int .i64 k],.int .i64 0])∧Grew w w':=by
 have:=aConj_any x k w
 rwa [changeR_e h] at this
set_option maxHeartbeats 800000 in
theorem dagK_any (n i k:Nat) (pm:Nat) (a0:Option Addr) (k0:Nat) (la:List Num) (z:Num) (w:World) (bm:pm<w.heap.size) (hx0:w.cell? ⟨pm,0,none⟩=some (.int .i64 n)) (hx1:w.cell? ⟨pm,1,none⟩=some (.slice a0 la.length k0))
  (hla:la.length≤36) (h0:Nms w a0 la) (hkn:k*n≤36) (hx:la[k*n+i]? = some z) (hv:validB z.x z.k=true) :
  Calls Tryz.prog 74 #[.int .i64 i,.int .i64 k,.pointer (some ⟨pm,0,none⟩)] w fun e w'=>e=.returned (.tuple #[.agg #[.int .i64 (⟨conjC z.x,z.k,0⟩:Res).x.a,.int .i64 (⟨conjC z.x,z.k,0⟩:Res).x.b,.int .i64 (⟨conjC z.x,z.k,0⟩:Res).x.c,.int .i64 (⟨conjC z.x,z.k,0⟩:Res).x.d,.int .i64 (⟨conjC z.x,z.k,0⟩:Res).k],.int .i64 (⟨conjC z.x,z.k,0⟩:Res).e])∧Grew w w':=by
 have c1:(k:Int)*n=((k*n:Nat):Int):=by simp
 have HX:=hid fun w' (hg:Grew w w')=>at_any n k i (k*n+i) z a0 k0 la w' hla (h0.grew hg) (by omega) (by omega) (by omega) hx
 have HC:=hid fun w'=>okc_any z.x z.k w' hv
 clear h0 hx c1 hv;have bm1:=fun m0:Nat=>Nat.lt_add_right m0 (bm)
 have bm2:=fun m0 m1:Nat=>Nat.lt_add_right m1 (bm1 m0)
 have bm3:=fun m0 m1 m2:Nat=>Nat.lt_add_right m2 (bm2 m0 m1)
 go_enter Tryz.func74,Tryz.ntmps74
 go_wp2_with fail
 refine (HX.out _ gw0).mono ?_;rintro e w' ⟨rfl,g,n',rfl⟩;go_wp2_with fail
 refine (HC.out _).mono ?_;rintro e w' ⟨rfl,g2,n2,rfl⟩;go_wp2_with fail
 exact bodyPost_ret (v:=.tuple #[.agg #[.int .i64 (conjC z.x).a,.int .i64 (conjC z.x).b,.int .i64 (conjC z.x).c,.int .i64 (conjC z.x).d,.int .i64 z.k],.int .i64 0]) (by simp [results,Tryz.results74,go_sem]) rfl ⟨rfl,gw0⟩
set_option maxRecDepth 100000 in
set_option maxHeartbeats 800000 in
theorem made_dag (p0:Nat) (n:Nat) (F:Nat→Nat→Res) (w:World) (hn:n≤6)
  (HF:∀ (i k:Nat) (w':World),i<n→k<n→Grew w w'→Calls Tryz.prog 74 #[.int .i64 i,.int .i64 k,.pointer (some ⟨p0,0,none⟩)] w' fun e w''=>e=.returned (.tuple #[.agg #[.int .i64 (F i k).x.a,.int .i64 (F i k).x.b,.int .i64 (F i k).x.c,.int .i64 (F i k).x.d,.int .i64 (F i k).k],.int .i64 (F i k).e])∧Grew w' w'') :
  Calls Tryz.prog 73 #[.int .i64 n,.func (.func 74) #[] #[.pointer (some ⟨p0,0,none⟩)]] w (MadeP n (matR n F) w):=by
 have HF:=hid HF;obtain ⟨i0,hi,hz0,hz1,hz2⟩:=info_parts info_num;go_enter Tryz.func73,Tryz.ntmps73
 go_wp2_with fail
 obtain ⟨W,hW⟩:∃ W,W=(w.alloc (.cells #[.int .i64 0,.slice none 0 0] 35)).alloc (.cells #[.int .i64 n,.slice none 0 0] 35):=⟨_,rfl⟩;have hWg:Grew w W:=by rw [hW];exact gw0
 have hWs:W.heap.size=w.heap.size+2:=by rw [hW];simp
 have hr0:W.cell? ⟨w.heap.size,0,none⟩=some (.int .i64 0)∧W.cell? ⟨w.heap.size,1,none⟩=some (.slice none 0 0)∧W.frozen? ⟨w.heap.size,0,none⟩=false∧W.frozen? ⟨w.heap.size,1,none⟩=false:=by rw [hW];simp [go_sem]
 have hM0:MatIn W W (w.heap.size+1) n []:=by
  exact k60_
 rw [← hW];clear hW;have HWs:=hid hWs;clear hWs;go_loopw [14] (fun v wr=>∃ (i:Nat) (l:List Num),i≤n∧v=.int .i64 i∧Hid (seqR ((gridR n F).take (i*n))=(l,0))∧MatIn W wr (w.heap.size+1) n l) (fun v _=>n - (intOf v).toNat)
 case atStart=>exact ⟨0,[],Nat.zero_le _,rfl,hid (by simp [seqR]),hM0⟩
 case round =>
  obtain ⟨i,l,hin,rfl,hs,hM⟩:=hrel;by_cases hlt:i<n
  · go_wp2_with fail
    go_loopw [18] (fun v wr=>∃ (k:Nat) (l:List Num),k≤n∧v=.int .i64 k∧Hid (seqR ((gridR n F).take (i*n+k))=(l,0))∧MatIn W wr (w.heap.size+1) n l) (fun v _=>n - (intOf v).toNat)
    case atStart=>exact ⟨0,l,Nat.zero_le _,rfl,hs,hM⟩
    case round =>
     obtain ⟨k,l,hkn,rfl,hs,hM⟩:=hrel;by_cases hlk:k<n
     · obtain ⟨a0,k0,hv,ho,c0,c1,f0,f1⟩:=hM.cells
       have hWw:=hM.1.size;have hWs:=HWs.out;have hb:w.heap.size+1<wr.heap.size:=by omega
       have hr:w.heap.size<wr.heap.size:=by omega
       have hb1:=fun m0:Nat=>Nat.lt_add_right m0 (hb)
       have hb2:=fun m0 m1:Nat=>Nat.lt_add_right m1 (hb1 m0)
       have hb3:=fun m0 m1 m2:Nat=>Nat.lt_add_right m2 (hb2 m0 m1)
       have hr1:=fun m0:Nat=>Nat.lt_add_right m0 (hr)
       have hr2:=fun m0 m1:Nat=>Nat.lt_add_right m1 (hr1 m0)
       have hr3:=fun m0 m1 m2:Nat=>Nat.lt_add_right m2 (hr2 m0 m1)
       have HG:=hid (hM.1.toGrew hWg (by omega));have HR0:Hid (wr.cell? ⟨w.heap.size,0,none⟩=some (.int .i64 0)∧wr.cell? ⟨w.heap.size,1,none⟩=some (.slice none 0 0)∧wr.frozen? ⟨w.heap.size,0,none⟩=false∧wr.frozen? ⟨w.heap.size,1,none⟩=false):=hid (by
        have hbl:=hM.1.block (k:=w.heap.size) (by omega) (by omega)
        simpa [World.cell?,World.frozen?,hbl] using hr0)
       have HM:=hid hM;have HO:=hid ho;have HV:=hid hv;clear hM ho hv hr0 hWs;go_wp2_with fail
       refine (HF.out i k _ hlt hlk HG.out).mono ?_;rintro e w' ⟨rfl,g,n',rfl⟩;obtain ⟨R,hR⟩:∃ R,F i k=R:=⟨_,rfl⟩;rw [hR];have HR:=hid hR;clear hR;by_cases hRe:R.e=0
       · have HRe:=hid hRe
         rw [hRe];have HO':=hid fun w2 (h:Grew wr w2)=>(HO.out.grew h:w2.ownsRow _ _ _ _ _ _)
         clear hRe;have hlen:l.length≤36:=by rw [seqR_len hs.out (by rw [gridR_length];exact Nat.le_of_lt (grid_lt hlt hlk))];have:=grid_lt hlt hlk;have:=Nat.mul_le_mul hn hn;omega
         go_wp2_with (at_builtin;refine wpList_append_behind rfl _ _ 23 rfl W.heap.size 67 i0 (.agg #[.int .i64 0,.int .i64 0,.int .i64 0,.int .i64 0,.int .i64 0]) 5 40 Tryz.underlying23 hi hz0 hz1 hz2 rfl (by decide) _ _ (numsCells l) rfl (HO'.out _ gw0) ⟨wr.heap.size+g.length+1,0,none⟩ 1 1 (numCells ⟨R.x,R.k⟩) rfl rfl ?c1 (fun u hu=>numCells_one hu) ?c3 ?c4 ?c5 ?_)
         case c1=>exact numCells_in (z:=⟨R.x,R.k⟩) (by simp [go_sem]) (by simp [go_sem]) (by simp [go_sem]) (by simp [go_sem]) (by simp [go_sem])
         case c3=>unfold maxLen;omega
         case c4=>omega
         case c5=>exact Nat.le_trans hWw (Grew.size (w:=_) gw0)
         · intro v' w1 hown' hgrow hwh hdr
           obtain ⟨a1,k1,rfl⟩:=ownsRow_slice hown';obtain ⟨d1,d2,d3,hM'⟩:=HM.out.appended (z:=⟨R.x,R.k⟩) HV.out HO.out (show Grew wr _ from gw0) hgrow hdr hown';have HM':=hid hM';clear hgrow hown' hwh hdr HO' hM' hb hr hb1 hb2 hb3 hr1 hr2 hr3 c0 c1 f0 f1 HR0 HG;go_wp2_with fail
           go_roundw
           case rel=>exact ⟨k+1,l++[⟨R.x,R.k⟩],by omega,by go_num,hid (seqR_step hs.out (by rw [gridR_at F hlt hlk,HR.out]) HRe.out),HM'.out⟩
           case measure=>simp [intOf];omega
       · have HRe:=hid hRe
         exact k24_
     · obtain rfl:k=n:=by omega
       go_wp2_with fail
       go_roundw
       case rel=>exact ⟨i+1,l,by omega,by go_num,hid (by rw [Nat.add_mul,Nat.one_mul];exact hs.out),hM⟩
       case measure=>simp [intOf];omega
  · obtain rfl:i=n:=by omega
    exact k51_
theorem dagRes (n:Nat) (l:List Num):matR n (fun i k=>⟨conjC (l.getD (k*n+i) noneZ).x,(l.getD (k*n+i) noneZ).k,0⟩)=(dagL n l,0):=by
 unfold matR;rw [seqR_ok]
 · unfold dagL gridR
   rw [List.map_map];rfl
 · intro r hr
   unfold gridR at hr;obtain ⟨q,_,rfl⟩:=List.mem_map.1 hr;rfl
set_option maxRecDepth 100000 in
set_option maxHeartbeats 800000 in
theorem aDagger_any (n:Nat) (a0:Option Addr) (k0:Nat) (la:List Num) (w:World) (n1:1≤n) (n2:n≤6) (hla:la.length=n*n) (h0:Nms w a0 la) (va:VldL la) :
  Calls Tryz.prog 36 #[.agg #[.int .i64 n,.slice a0 la.length k0]] w (MadeP n (dagL n la,0) w):=by
 have q:n*n≤36:=by have h:=Nat.mul_le_mul n2 n2;omega
 have i1:(1:Int)≤n:=by omega
 have i2:(n:Int)≤6:=by omega
 have la9:la.length≤9223372036854775807:=by omega
 have laI:(la.length:Int)=(n:Int)*n:=by rw [hla];exact Int.natCast_mul n n
 have HVA:=hid fun w' (hg:Grew w w')=>mvalid_ok n i1 i2 a0 k0 la w' la9 (h0.grew hg) va laI
 have HM:=hid fun (pm:Nat) w' (hg:Grew w w') (bm:pm<w'.heap.size) hx0 hx1 =>
  made_dag pm n (fun i k=>⟨conjC (la.getD (k*n+i) noneZ).x,(la.getD (k*n+i) noneZ).k,0⟩) w' n2 fun i k w'' hi hk hg'=>by
   have hlt:k*n+i<la.length:=by rw [hla];exact grid_lt hk hi
   have hz:la[k*n+i]? = some (la.getD (k*n+i) noneZ):=by rw [List.getD_eq_getElem?_getD,List.getElem?_eq_getElem hlt];rfl
   exact dagK_any n i k pm a0 k0 la _ w'' (Nat.lt_of_lt_of_le bm hg'.size) ((hg'.cell bm _).trans hx0) ((hg'.cell bm _).trans hx1) (by omega) (h0.grew (hg.trans hg')) (sq_le hk n2) hz (va _ _ hz)
 clear h0 va laI la9 i1 i2 q hla;go_enter Tryz.func36,Tryz.ntmps36
 go_wp2_with fail
 refine (HVA.out _ gw0).mono ?_;rintro e w' ⟨rfl,g,n',rfl⟩;go_wp2_with fail
 refine (HM.out _ _ gw0 (by simp [go_sem] <;> omega) (by simp [go_sem]) (by simp [go_sem])).mono ?_;rintro e w' ⟨⟨a2,k2,rfl,ho⟩,g3,n3,rfl⟩;rw [dagRes] at ho ⊢;have HO:=hid ho;clear ho;obtain ⟨L,hR⟩:∃ R,dagL n la=R:=⟨_,rfl⟩;rw [hR] at HO ⊢;have HR:=hid hR;clear hR;dsimp only [rowsOf] at HO ⊢;go_wp2_with fail
 exact bodyPost_ret (v:=.tuple #[.agg #[.int .i64 n,.slice a2 L.length k2],.int .i64 0]) (by simp [results,Tryz.results36,go_sem]) rfl (MadeP.good (by rw [HR.out]) ((HO.out.al (by (try simp only [go_sem]);(try simp only [List.append_assoc]);repeat (first | exact Al.refl _ _ | refine Al.drewN ?_ _ | refine Al.grow ?_ _ | refine Al.alloc ?_ _ | refine Al.other ?_ _ _ (by simp [go_sem] <;> omega) | refine Al.set ?_ _ _ _ (by simp [go_sem] <;> omega)))).mono' (by simp [go_sem] <;> omega)) (by repeat (first | exact Grew.refl _ | refine Grew.drewN ?_ _ | refine Grew.grow ?_ _ | refine Grew.alloc ?_ _ | refine Grew.drew ?_ | refine Grew.set ?_ (Nat.le_refl _) _ _ | refine Grew.set ?_ (by omega) _ _)))
end Go.Proofs.YtchdmecjhaanfaaGreatDoor
