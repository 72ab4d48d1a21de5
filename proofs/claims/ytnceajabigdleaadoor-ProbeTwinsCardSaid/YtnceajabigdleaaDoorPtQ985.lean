/- Layer 9, in main's ghost: the finding of a state: the program's walk. Condition: the tests lie in memory. -/
import Derived.Test.YtnceajabigdleaaDoorPtQ984
namespace Go.Proofs.Qm
open Go Go.Pt Go.RowKit Prb
def FinP (R:List Nat × List Fd) (r:Int) (w:World) (e:Ending) (w':World):Prop:=∃ (a1:Option Addr) (k1:Nat) (Ft:List Tq) (a2:Option Addr) (k2:Nat),e=.returned (.tuple #[.slice a1 Ft.length k1,.slice a2 R.1.length k2,.int .i64 r])∧TqAt w' a1 Ft∧Ft.map fdOf=R.2∧NsA w' a2 (ints R.1)∧Below w.heap.size w w'
structure FinI (n:Int) (N m s:Nat) (l:List Tq) (R:List Nat × List Fd) (k:Nat) (L:List Nat) (Ft:List Tq):Prop where
 fin:finF n m s l k L (Ft.map fdOf)=R
 len:L.length≤k
 asc:Asc L
 lt:∀ y∈L,y<N
 six:∀ z∈Ft,z.b.length≤6
theorem FinI.stop {n:Int} {N m s k:Nat} {l:List Tq} {R:List Nat × List Fd} {L:List Nat} {Ft:List Tq} (h:FinI n N m s l R k L Ft) (hs:stopF n m L l=true):R.1=L∧R.2=Ft.map fdOf:=by
 have:=h.fin;rw [finF_stop hs] at this;rw [← this];exact ⟨rfl,rfl⟩
theorem FinI.step {n:Int} {N m s k:Nat} {l:List Tq} {R:List Nat × List Fd} {L:List Nat} {Ft:List Tq} (h:FinI n N m s l R k L Ft) (hs:stopF n m L l=false) {z:Tq} (hz:l[bstX n m L l]? = some z) (hA:ansF n s z<m) (hw:wrst n m L z<L.length) (hb:z.b.length≤6)
  {a:Option Addr} {len cap:Nat}:FinI n N m s l R (k - 1) (nxtF n s z L) (Ft++[⟨⟨a,len,cap,z.t.i,(ansF n s z:Nat)⟩,z.b⟩])∧setS (nxtF n s z L)<setS L∧(nxtF n s z L).length<L.length:=by
 have hlt:=nxtF_lt hA hw;have hlen:=h.len;obtain ⟨k,rfl⟩:∃ k',k=k'+1:=⟨k - 1,by omega⟩;refine ⟨⟨?_,by omega,asc_sub _ h.asc,fun y hy=>h.lt y (List.mem_filter.1 hy).1,fun y hy=>?_⟩,(setS_filter _ L).2 hlt,hlt⟩
 · have:=h.fin
   rw [finF_step hs hz] at this;rw [List.map_append];exact this
 · rcases List.mem_append.1 hy with hy | hy
   · exact h.six y hy
   · rw [List.mem_singleton.1 hy];exact hb
set_option maxRecDepth 100000 in
set_option maxHeartbeats 6400000 in
theorem Find_yes (n:Int) (N m s:Nat) (hn:(n=2∧N=2∧m=2)∨(n=4∧N=64∧m=4)) (hs:s<N) (a:Option Addr) (cap:Nat) (l:List Tq) (w:World) (hl:l.length≤40) (hc:TqAt w a l) (h:tqsB n l=true) (hD:DebAt w) :
  Calls prog 26 #[.int .i64 n,.int .i64 s,.slice a l.length cap] w (FinP (finF n m s l 64 (List.range N) []) 0 w):=by
 have hn2:n=2∨n=4:=hn.imp (fun h=>h.1) (fun h=>h.1);have hst:stB n s=true:=by rcases hn with ⟨rfl,rfl,_⟩ | ⟨rfl,rfl,_⟩ <;> simp [stB] <;> omega
 have HK:=hid fun w=>known_any n s w
 rw [hst] at HK;have HF:=hid fun w' (hg:Grew w w')=>fit_any n hn2 a cap l w' (by omega) (hc.grew hg)
 rw [h,decide_eq_true hl] at HF;simp only [Bool.and_true] at HF;have HT:=hid fun w'=>tables_any n N m hn w'
 have HW:=hid fun w=>whole_any n N (hn.imp (fun h=>⟨h.1,h.2.1⟩) (fun h=>⟨h.1,h.2.1⟩)) w
 have hN64:N≤64:=by omega
 obtain ⟨R,hR⟩:∃ R,finF n m s l 64 (List.range N) []=R:=⟨_,rfl⟩;have HI0:Hid (FinI n N m s l R 64 (List.range N) []):=hid ⟨hR,by rw [List.length_range];exact hN64,(leftL_ok n N []).1,(leftL_ok n N []).2,fun z h=>by cases h⟩;have HN:=hid hn;have HTE:=hid (tqsB_at h);have HTQ:=hid h;have HCC:=hid hc;have HD:=hid hD;rw [hR];clear hc h hn hst hn2 hD hR;go_enter func26,ntmps26
 go_wp2_with fail
 refine (HK.out _).mono ?_;rintro e w' ⟨rfl,hw'⟩;obtain rfl:w=w':=hw'.symm;clear hw';go_wp2_with fail
 refine (HF.out _ gw0).mono ?_;rintro e w' ⟨rfl,g1,n1,rfl⟩;go_wp2_with fail
 refine (HT.out _).mono ?_;rintro e w1 ⟨C,rfl,hT,hg⟩;have HT1:=hid hT;have HG1:Hid (Below w.heap.size w w1):=hid (Grew.below ((show Grew w ((w.grow g1).drewN n1) from gw0).trans hg));clear hT hg;go_wp2_with fail
 refine (HW.out _).mono ?_;rintro e w' ⟨rfl,hw1⟩;obtain rfl:w1=w':=hw1.symm;clear hw1;go_wp2_with fail
 go_loopw [10,11] (fun v t wr=>∃ (k:Nat) (L:List Nat) (Ft:List Tq) (a4:Option Addr) (k4:Nat),v=.int .u64 (setS L:Nat)∧t=.slice a4 Ft.length k4∧Ft.length+L.length≤64∧Hid (FinI n N m s l R k L Ft)∧Hid (OwnT wr w1.heap.size a4 k4 Ft)∧Hid (Below w1.heap.size w1 wr)) (fun v _ _=>(intOf v).toNat)
 case atStart=>exact ⟨64,List.range N,[],none,0,rfl,rfl,by simp;omega,HI0,OwnT.nil _ _,Below.refl _ _⟩
 case round =>
  obtain ⟨k,L,Ft,a4,k4,rfl,rfl,h64,HI,HO,HB1⟩:=hrel;have HTR:=hid (HT1.out.below HB1.out);have HB:=hid (HG1.out.trans (HB1.out.mono HG1.out.size));by_cases hl0:l.length=0
  · have HST:=hid (show stopF n m L l=true by unfold stopF;rw [decide_eq_true hl0];rfl)
    have HOT:=HO;have HBW:=HB;have HLE:=hid (show L.length≤64 by omega);have HCO:=hid fun (w':World) (bS:Nat) (hx:w'.heap[bS]? = some (.cells #[.int .u64 (setS L)] 69 (0,0))) (hd:DebAt w')=>collect_any bS L w' HI.out.asc (fun y hy=>by have:=HI.out.lt y hy;omega) HLE.out hd hx
    have hil:=ints_len L;go_wp2_with fail
    refine (all_any _ _).mono ?_;rintro e w5 ⟨rfl,hw2⟩;have hbS:w5.heap[wr.heap.size]? = some (.cells #[.int .u64 (setS L:Nat)] 69 (0,0)):=by rw [hw2];exact al_new rfl
    have hgw:Grew wr w5:=by rw [hw2];exact (Grew.refl wr).alloc _
    have HDW:=HD.out.below HBW.out;have HCC2:=hid (HCO.out w5 wr.heap.size hbS (HDW.of_block (hgw.block 0 HDW.1)));have HGW:=hid hgw;clear hw2 hbS hgw HDW;go_wp2_with fail
    refine HCC2.out.mono ?_;rintro e w3 ⟨a3,k3,rfl,hO,hG⟩;have hBR:Below wr.heap.size wr w3:=HGW.out.below.grown hG HGW.out.size (fun r e=>by cases e;exact Nat.le_refl _);have HOT3:=hid ((HOT.out.below hBR).tqAt HI.out.six);have HN3:=hid (ownZ_nsA hO);have HB3:=hid (HBW.out.trans (hBR.mono HBW.out.size));obtain ⟨r1,r2⟩:=HI.out.stop HST.out;have HR1:=hid r1;have HR2:=hid r2;clear hO hG hBR r1 r2;go_wp2_with fail
    exact bodyPost_ret (v:=.tuple #[.slice a4 Ft.length k4,.slice a3 L.length k3,.int .i64 0]) (by simp [results,go_sem]) rfl ⟨a4,k4,Ft,a3,k3,by rw [HR1.out],HOT3.out,HR2.out.symm,by rw [HR1.out];exact HN3.out,HB3.out⟩
  · have HBS:=hid fun w' (hg:Below wr.heap.size wr w')=>best_any n N m C HN.out L HI.out.asc HI.out.lt a cap l w' (by omega) (HCC.out.below (HB.out.trans (hg.mono HB.out.size))) HTQ.out (HTR.out.below hg) (HD.out.below (HB.out.trans (hg.mono HB.out.size)))
    have HSZ:=hid fun w=>size_any HI.out.asc (fun y hy=>by have:=HI.out.lt y hy;omega) w
    cases hst:stopF n m L l with
    | true =>
      have HST:=hid hst;have hge:(L.length:Int)≤(bstI (gOf n m L l) l.length).2:=by
       unfold stopF at hst;rw [decide_eq_false hl0,Bool.false_or,decide_eq_true_eq] at hst;exact hst
      obtain ⟨A,hA⟩:∃ A,bstI (gOf n m L l) l.length=A:=⟨_,rfl⟩;rw [hA] at HBS hge;have hge1:decide ((L.length:Int)≤A.2)=true:=decide_eq_true hge;clear hst hA;go_wp2_with fail
      refine (HBS.out _ (Below.refl _ _)).mono ?_;rintro e w2 ⟨rfl,hB2⟩;have HOT:=hid (HO.out.below hB2);have HBW:=hid (HB.out.trans (hB2.mono HB.out.size));clear hB2;go_wp2_with fail
      refine (HSZ.out _).mono ?_;rintro e w' ⟨rfl,hw'⟩;obtain rfl:w2=w':=hw'.symm;clear hw';have HLE:=hid (show L.length≤64 by omega);have HCO:=hid fun (w':World) (bS:Nat) (hx:w'.heap[bS]? = some (.cells #[.int .u64 (setS L)] 69 (0,0))) (hd:DebAt w')=>collect_any bS L w' HI.out.asc (fun y hy=>by have:=HI.out.lt y hy;omega) HLE.out hd hx
      have hil:=ints_len L;go_wp2_with fail
      refine (all_any _ _).mono ?_;rintro e w5 ⟨rfl,hw2⟩;have hbS:w5.heap[w2.heap.size]? = some (.cells #[.int .u64 (setS L:Nat)] 69 (0,0)):=by rw [hw2];exact al_new rfl
      have hgw:Grew w2 w5:=by rw [hw2];exact (Grew.refl w2).alloc _
      have HDW:=HD.out.below HBW.out;have HCC2:=hid (HCO.out w5 w2.heap.size hbS (HDW.of_block (hgw.block 0 HDW.1)));have HGW:=hid hgw;clear hw2 hbS hgw HDW;go_wp2_with fail
      refine HCC2.out.mono ?_;rintro e w3 ⟨a3,k3,rfl,hO,hG⟩;have hBR:Below w2.heap.size w2 w3:=HGW.out.below.grown hG HGW.out.size (fun r e=>by cases e;exact Nat.le_refl _);have HOT3:=hid ((HOT.out.below hBR).tqAt HI.out.six);have HN3:=hid (ownZ_nsA hO);have HB3:=hid (HBW.out.trans (hBR.mono HBW.out.size));obtain ⟨r1,r2⟩:=HI.out.stop HST.out;have HR1:=hid r1;have HR2:=hid r2;clear hO hG hBR r1 r2;go_wp2_with fail
      exact bodyPost_ret (v:=.tuple #[.slice a4 Ft.length k4,.slice a3 L.length k3,.int .i64 0]) (by simp [results,go_sem]) rfl ⟨a4,k4,Ft,a3,k3,by rw [HR1.out],HOT3.out,HR2.out.symm,by rw [HR1.out];exact HN3.out,HB3.out⟩
    | false =>
      obtain ⟨z,hz,hX,hW2,hwl⟩:=bstX_at hst;have HST:=hid hst;obtain ⟨A,hA⟩:∃ A,bstI (gOf n m L l) l.length=A:=⟨_,rfl⟩;rw [hA] at HBS hX hW2;obtain ⟨X,hXX⟩:∃ X,bstX n m L l=X:=⟨_,rfl⟩;rw [hXX] at hX hz;have hXl:X<l.length:=(List.getElem?_eq_some_iff.1 hz).1;obtain ⟨W,hWW⟩:∃ W,wrst n m L z=W:=⟨_,rfl⟩;rw [hWW] at hW2 hwl;rw [hX,hW2] at HBS;have hge1:decide ((L.length:Int)≤W)=false:=decide_eq_false (by omega);have HWL:=hid (show wrst n m L z<L.length by rw [hWW];exact hwl);have Hz:=hid hz;have HXX:=hid hXX;clear hst hA hX hW2 hwl hWW hz hXX;go_wp2_with fail
      refine (HBS.out _ (Below.refl _ _)).mono ?_;rintro e w2 ⟨rfl,hB2⟩;have HO2:=hid (HO.out.below hB2);have HB2:=hid (HB.out.trans (hB2.mono HB.out.size));have HT2:=hid (HTR.out.below hB2);have HB12:=hid (HB1.out.trans (hB2.mono HB1.out.size));clear hB2;obtain ⟨b,off,rfl,hb,⟨c0,c1,c2⟩,hzl,htz⟩:=(HCC.out.below HB2.out) X z Hz.out;obtain ⟨tb,toff,I,hta,htb,hbl,hlen,hI,hIm,hk⟩:=tq_open HN.out htz (HTE.out z (List.mem_of_getElem? Hz.out));rw [hta,hlen] at c0;rw [hI] at c1;have HCL:=hid fun w' (hg:Grew w2 w')=>clone_any tb toff z.t.cap z.b w' (by rintro h;rw [h] at hk;simp at hk) (by omega) (Nat.lt_of_lt_of_le htb hg.size) (hbl.grew htb hg)
      obtain ⟨o,ho⟩:∃ o,z.t.o=o:=⟨_,rfl⟩;obtain ⟨tcap,htc⟩:∃ o,z.t.cap=o:=⟨_,rfl⟩;obtain ⟨T,hTT⟩:∃ o,z.b.length=o:=⟨_,rfl⟩;rw [htc,hTT] at HCL;rw [ho] at c2;rw [hTT,htc] at c0;have hT6:T≤6:=by omega
      have hb1:=fun m0:Nat=>Nat.lt_add_right m0 hb
      have HKK:=hid hk;have HII:=hid hI;have HTT:=hid hTT;clear hzl htz hta hlen hI hk ho htc hTT hbl;go_wp2_with fail
      refine (HSZ.out _).mono ?_;rintro e w' ⟨rfl,hw'⟩;obtain rfl:w2=w':=hw'.symm;clear hw';go_wp2_with fail
      refine (HCL.out _ gw0).mono ?_;rintro e w3 ⟨g,k2,rfl,hg3,hgs,hblk⟩;have hs2:=hg3.size;simp only [World.size_alloc] at hgs hs2;have e3:=(hg3.block w2.heap.size (by simp only [World.size_alloc];omega)).trans (al_new rfl);have hB3:Below w2.heap.size w2 w3:=Grew.below ((show Grew w2 _ from gw0).trans hg3);obtain ⟨Bx,hBx⟩:∃ Bx,w2.heap.size=Bx:=⟨_,rfl⟩;have HBX:=hid hBx;simp only [hBx] at hgs hs2 e3 ⊢;have c30:w3.cell? ⟨Bx,0,none⟩=some (.slice (some ⟨tb,toff,none⟩) T tcap):=by simp [World.cell?,e3]
      have c31:w3.cell? ⟨Bx,1,none⟩=some (.int .i64 I):=by simp [World.cell?,e3]
      have c32:w3.cell? ⟨Bx,2,none⟩=some (.int .i64 o):=by simp [World.cell?,e3]
      have f30:w3.frozen? ⟨Bx,0,none⟩=false:=by simp [World.frozen?,e3]
      have hb3:Bx<w3.heap.size:=by omega
      have hns:∀ (cs:Array Value) (fz:Nat × Nat),w3.heap[Bx]? ≠ some (.cells cs 4 fz):=fun cs fz h=>by rw [e3] at h;cases h
      have HV3:Hid (∀ v0:Value,(w3.setCell ⟨Bx,0,none⟩ v0).heap[Bx]? = some (.cells #[v0,.int .i64 I,.int .i64 o] 48 (0,0))):=hid fun v0=>by
       unfold World.setCell;rw [Array.getElem?_modify,if_pos rfl,e3];rfl
      have hblk2:=fun v0=>hblk.kept (KeepB.set (i:=0) (v:=v0) hns)
      have hBel:=fun v0=>below_set (i:=0) (v:=v0) hB3 (Nat.le_of_eq hBx)
      have HBEL:=hid hBel;have HBK:=hid hblk2;have HAN:=hid fun v0=>panswer_any n N m s I g 0 k2 C z.b (w3.setCell ⟨Bx,0,none⟩ v0) HKK.out hs hIm (hblk2 v0).lt (hblk2 v0).at (HT2.out.below (hBel v0))
      have hAn:refA n (thB s z.b) I=ansF n s z:=by unfold ansF;rw [HII.out,Int.toNat_natCast]
      rw [hAn,HTT.out] at HAN;have HAM:=hid (show ansF n s z<m by rw [← hAn];exact refA_lt n N m z.b.length HKK.out _ I hIm);obtain ⟨An,hAA⟩:∃ An,ansF n s z=An:=⟨_,rfl⟩;rw [hAA] at HAN;have HAA:=hid hAA;clear hg3 hgs hblk hs2 hB3 hns hblk2 hBel hAn hAA hBx;go_wp2_with fail
      refine (HAN.out _).mono ?_;rintro e w4 ⟨rfl,hg4⟩;obtain ⟨v0,hv0⟩:∃ v0:Value,.slice (some ⟨g,0,none⟩) T k2=v0:=⟨_,rfl⟩;rw [hv0] at hg4;have e4:=(hg4.block Bx (Array.getElem?_eq_some_iff.1 (HV3.out v0)).1).trans (HV3.out v0);have hB4:=below_grew (HBEL.out v0) hg4 (HBEL.out v0).size;have hk4:=(HBK.out v0).kept (KeepB.grew hg4);have c40:w4.cell? ⟨Bx,0,none⟩=some v0:=by simp [World.cell?,e4]
      have c41:w4.cell? ⟨Bx,1,none⟩=some (.int .i64 I):=by simp [World.cell?,e4]
      have c42:w4.cell? ⟨Bx,2,none⟩=some (.int .i64 o):=by simp [World.cell?,e4]
      have f42:w4.frozen? ⟨Bx,2,none⟩=false:=by simp [World.frozen?,e4]
      have hb4:Bx<w4.heap.size:=(Array.getElem?_eq_some_iff.1 e4).1;have hns:∀ (cs:Array Value) (fz:Nat × Nat),w4.heap[Bx]? ≠ some (.cells cs 4 fz):=fun cs fz h=>by rw [e4] at h;cases h
      have HV4:Hid (∀ v2:Value,(w4.setCell ⟨Bx,2,none⟩ v2).heap[Bx]? = some (.cells #[v0,.int .i64 I,v2] 48 (0,0))):=hid fun v2=>by
       unfold World.setCell;rw [Array.getElem?_modify,if_pos rfl,e4];rfl
      have hBel:=fun v2=>below_set (i:=2) (v:=v2) hB4 (Nat.le_of_eq HBX.out)
      have hblk2:=fun v2=>hk4.kept (KeepB.set (i:=2) (v:=v2) hns)
      have HBEL4:=hid hBel;have HBK4:=hid hblk2;have HKP:=hid fun v2=>keep_any n N m I g 0 k2 C z.b (An:Nat) L (w4.setCell ⟨Bx,2,none⟩ v2) HKK.out HI.out.asc HI.out.lt (hblk2 v2).lt (hblk2 v2).at hIm (HT2.out.below (hBel v2)) (HD.out.below (HB2.out.trans ((hBel v2).mono HB2.out.size)))
      have hNX:L.filter (agP n z.b I (An:Nat))=nxtF n s z L:=by unfold nxtF;rw [HAA.out,HII.out,Int.toNat_natCast]
      rw [hNX,HTT.out,hv0] at HKP;have HNX:=HI.out.step HST.out (by rw [HXX.out];exact Hz.out) HAM.out HWL.out (by rw [HTT.out];exact hT6) (a:=some ⟨g,0,none⟩) (len:=T) (cap:=k2);obtain ⟨hNI,hNS,hNL⟩:=HNX;rw [HAA.out,HII.out] at hNI;have HNI:=hid hNI;have HNS:=hid hNS;obtain ⟨L2,hL2⟩:∃ L2,nxtF n s z L=L2:=⟨_,rfl⟩;rw [hL2] at HKP HNI HNS hNL;have HVV:=hid hv0;rw [hv0];clear hg4 e4 hB4 hk4 hns hBel hblk2 hNX hNI hNS hL2 hv0;go_wp2_with fail
      refine (HKP.out _).mono ?_;rintro e w5 ⟨rfl,hB5⟩;obtain ⟨V4,hV4⟩:∃ V,w4.setCell ⟨Bx,2,none⟩ (.int .i64 An)=V:=⟨_,rfl⟩;have q1:=HV4.out (.int .i64 An);have q2:=HBEL4.out (.int .i64 An);have q3:=HBK4.out (.int .i64 An);rw [hV4] at hB5 q1 q2 q3;obtain rfl:=HVV.out;have e5:=(hB5.block Bx (Array.getElem?_eq_some_iff.1 q1).1).trans q1;have c50:w5.cell? ⟨Bx,0,none⟩=some (.slice (some ⟨g,0,none⟩) T k2):=by simp [World.cell?,e5]
      have c51:w5.cell? ⟨Bx,1,none⟩=some (.int .i64 I):=by simp [World.cell?,e5]
      have c52:w5.cell? ⟨Bx,2,none⟩=some (.int .i64 An):=by simp [World.cell?,e5]
      have hb5:Bx<w5.heap.size:=(Array.getElem?_eq_some_iff.1 e5).1;have hB25:Below w2.heap.size w2 w5:=q2.trans (hB5.mono q2.size);have HK5:=hid (q3.kept (KeepB.below hB5));have HO5:=hid (HO2.out.below hB25);have HB5:=hid (HB12.out.trans (hB25.mono HB12.out.size));have hF9:Ft.length≤100:=by omega
      clear hV4 q1 q2 q3 hB5 e5 hB25;go_wp2_with (at_builtin;go_loud (refine wpList_append_t rfl _ _ rfl w1.heap.size a4 k4 Ft rfl (HO5.out.grew gw0) _ 1 ⟨⟨some ⟨g,0,none⟩,T,k2,(I:Nat),(An:Nat)⟩,z.b⟩ rfl (by simp [go_sem]) ⟨HTT.out.symm,g,rfl,HK5.out.kept (KeepB.grew gw0)⟩ ?hmx ?hbs ?_))
      case hmx=>omega
      case hbs=>have:=HB5.out.size;(try simp [go_sem]);omega
      · intro a6 k6 wB hownB hgrowB hdrB
        have HBB:Hid (Below w1.heap.size w1 wB):=hid ((below_grew HB5.out (show Grew w5 _ from gw0) HB5.out.size).grown hgrowB (by have:=HB5.out.size;(try simp [go_sem]);omega) (fun r e=>ownsRow_above HO5.out.1 r e));have HOB:=hid hownB;clear hgrowB hdrB hownB;have HAPL:=hid (show (Ft++[(⟨⟨some ⟨g,0,none⟩,T,k2,(I:Nat),(An:Nat)⟩,z.b⟩:Tq)]).length=Ft.length+1 by simp);obtain ⟨Ft2,hFt2⟩:∃ F,Ft++[(⟨⟨some ⟨g,0,none⟩,T,k2,(I:Nat),(An:Nat)⟩,z.b⟩:Tq)]=F:=⟨_,rfl⟩;rw [hFt2] at HOB HNI HAPL;clear hFt2;go_wp2_with fail
        go_roundw
        case rel=>exact ⟨k - 1,L2,Ft2,a6,k6,rfl,by rw [HAPL.out],by rw [HAPL.out];omega,HNI,HOB,HBB⟩
        case measure=>simp [intOf];exact HNS.out
end Go.Proofs.Qm
