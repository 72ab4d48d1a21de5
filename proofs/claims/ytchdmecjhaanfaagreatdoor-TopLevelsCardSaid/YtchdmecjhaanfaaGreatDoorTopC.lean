import Derived.Test.YtchdmecjhaanfaaGreatDoorNetL
import Derived.Test.YtchdmecjhaanfaaGreatDoorNetP
import Derived.Test.YtchdmecjhaanfaaGreatDoorColA
import Derived.Test.YtchdmecjhaanfaaGreatDoorMshLeb
import Derived.Test.YtchdmecjhaanfaaGreatDoorNetF
import Derived.Test.YtchdmecjhaanfaaGreatDoorTxtA
namespace Go.Proofs.YtchdmecjhaanfaaGreatDoor
open Go Go.RowKit Amp Msh
theorem wp_nameC {P:Program} {c:Code} {Q:Exit→Act→World→Prop} {a:Act} {w:World} (h:∀ W,W=w→c.wp P Q a W):c.wp P Q a w:=h w rfl
theorem flat_is {L:List Cl} (hv:vnet L=true) {F:List It} (hF:flatN L=(F,0)):F=FL L (L.length - 1):=by
 unfold flatN at hF;rw [if_pos hv] at hF;split at hF
 · injection hF with _ h
   cases h
 · injection hF with h _
   rw [← h];exact flat_FL hv
theorem flat_oks {L:List Cl} (hv:vnet L=true) {F:List It} (hF:flatN L=(F,0)) {c:Cl} (hc:L[L.length - 1]? = some c):okIts c.gd F=true:=by
 rw [flat_is hv hF];exact FL_ok hv _ _ hc
theorem flat_chk {L:List Cl} (hv:vnet L=true) {F:List It} (hF:flatN L=(F,0)) {c:Cl} (hc:L[L.length - 1]? = some c) (hl:F.length≤5000):chkIts c.gd F=0:=by
 unfold chkIts vldIts;rw [if_pos (gd_ok hv hc),flat_oks hv hF hc,decide_eq_true (gd_ok hv hc),decide_eq_true hl];rfl
theorem uses_len {L:List Cl} (hv:vnet L=true) {U:List Int} (hU:usesN L=(U,0)):U.length=L.length∧UsB U:=by
 unfold usesN at hU;rw [if_pos hv] at hU;split at hU
 · injection hU with _ h
   cases h
 · injection hU with h _
   rw [← h,← usA_bk];exact ⟨usA_length _ _ _,usA_b _ _ _⟩
theorem uses_err {L:List Cl} (hv:vnet L=true):(usesN L).2=0∨(usesN L).2=4:=by
 unfold usesN;rw [if_pos hv];split
 · exact .inr rfl
 · exact .inl rfl
def wq (L:List Cl) (U:List Int) (q:Int) (i j:Nat):Int:=upto (fun m=>U.getD m 0*tot (indK q) (itsAt L m)) i+U.getD i 0*tot (indK q) ((itsAt L i).take j)
theorem wq_zero (L:List Cl) (U:List Int) (q:Int) (i:Nat):wq L U q i 0=upto (fun m=>U.getD m 0*tot (indK q) (itsAt L m)) i:=by
 unfold wq;rw [List.take_zero];show _+_*0=_
 rw [Int.mul_zero,Int.add_zero]
theorem wq_next {L:List Cl} {U:List Int} {q:Int} {i j:Nat} {x:It} (h:(itsAt L i)[j]? = some x):wq L U q i (j+1)=wq L U q i j+(if x.kind=q then U.getD i 0 else 0):=by
 unfold wq;rw [take_snoc h,tot_append,show tot (indK q) [x]=indK q x+0 from rfl,Int.add_zero,Int.mul_add,← Int.add_assoc]
 congr 1
 unfold indK;split
 · rw [Int.mul_one]
 · rw [Int.mul_zero]
theorem wq_cell {L:List Cl} {U:List Int} {q:Int} {i:Nat}:wq L U q i (itsAt L i).length=wq L U q (i+1) 0:=by
 rw [wq_zero];unfold wq;rw [List.take_length];rfl
theorem tot_ind (q:Int):∀ l:List It,0≤tot (indK q) l∧tot (indK q) l≤l.length
 | []=>⟨Int.le_refl 0,Int.le_refl 0⟩
 | x :: t => by
   obtain ⟨h1,h2⟩:=tot_ind q t;have h3:indK q x=0∨indK q x=1:=by
    unfold indK;split
    · exact .inr rfl
    · exact .inl rfl
   show 0≤indK q x+tot (indK q) t∧indK q x+tot (indK q) t≤((t.length+1:Nat):Int)
   omega
theorem mul_rng {a b m n:Int} (ha:0≤a∧a≤m) (hb:0≤b∧b≤n):0≤a*b∧a*b≤m*n :=
 ⟨Int.mul_nonneg ha.1 hb.1,Int.mul_le_mul ha.2 hb.2 hb.1 (Int.le_trans ha.1 ha.2)⟩
theorem upto_rng {f:Nat→Int} {B:Int} (h:∀ m,0≤f m∧f m≤B):∀ n:Nat,0≤upto f n∧upto f n≤B*n
 | 0=>⟨Int.le_refl 0,by show 0≤B*0;omega⟩
 | n + 1 => by
   obtain ⟨h1,h2⟩:=upto_rng h n;obtain ⟨h3,h4⟩:=h n;show 0≤upto f n+f n∧upto f n+f n≤B*((n+1:Nat):Int)
   have e:B*((n+1:Nat):Int)=B*n+B:=by rw [Int.natCast_add,Int.mul_add];simp
   omega
theorem wq_rng {L:List Cl} (hv:vnet L=true) {U:List Int} (hU:UsB U) (q:Int) {i:Nat} (hi:i≤L.length) (j:Nat):0≤wq L U q i j∧wq L U q i j≤5000000000000000:=by
 have hit:∀ m,(itsAt L m).length≤200:=fun m=>by
  unfold itsAt;split
  · exact Nat.zero_le _
  · rename_i c hc
    exact (vcell_iff.1 ((vnet_all hv).2 m c hc)).2.2.2.1
 have hl:=(vnet_all hv).1;have h1:=upto_rng (f:=fun m=>U.getD m 0*tot (indK q) (itsAt L m)) (B:=1000000000001*200) (fun m=>by
  have h2:=tot_ind q (itsAt L m);have h3:=hit m;exact mul_rng (hU.get m) ⟨h2.1,by omega⟩) i
 have h4:=tot_ind q ((itsAt L i).take j);have h5:=hit i;have h6:((itsAt L i).take j).length≤200:=by rw [List.length_take];omega
 have h7:=mul_rng (hU.get i) (m:=1000000000001) (n:=200) ⟨h4.1,by omega⟩;unfold wq;omega
theorem kind_of {L:List Cl} (hv:vnet L=true) {i:Nat} {c:Cl} (hc:L[i]? = some c) {x:It} (hx:x∈c.items):x.kind=4∨x.kind=1∨x.kind=2∨x.kind=3:=by
 by_cases h4:x.kind=4
 · exact .inl h4
 · exact .inr (okIt_iff (it_ok hv hc hx h4)).2.1
def wqC (L:List Cl) (U:List Int) (i j:Nat):Array Value:=#[.int .i64 0,.int .i64 (wq L U 1 i j),.int .i64 (wq L U 2 i j),.int .i64 (wq L U 3 i j)]
set_option maxRecDepth 100000 in
set_option maxHeartbeats 8000000 in
theorem counted_any (a0:Option Addr) (cap:Nat) (L:List Cl) (c:Cl) (aF:Option Addr) (kF:Nat) (F:List It) (w:World) (hN:Net w a0 L) (hk:CsOk L) (hv:vnet L=true) (hc:L[L.length - 1]? = some c) (hF:flatN L=(F,0)) (hI:Its w aF F) (hFl:F.length≤200) :
  Calls Tryz.prog 8 #[.slice a0 L.length cap,.int .i64 c.gd,.slice aF F.length kF] w fun e w'=>e=.returned (.bool true)∧Below w.heap.size w w':=by
 have hL:=(vnet_all hv).1;have HU:=hid (uses_any a0 cap L w (by omega) hN hk);have HC:=hid fun w' (h:Below w.heap.size w w')=>count_any c.gd aF kF F w' (by omega) (hI.belowT h)
 have hchk:=flat_chk hv hF hc (by omega);rw [hchk] at HC;have HN:=hid hN;have HV:=hid hv;have HF:=hid hF;have HCH:=hid hchk;have hcl:=hc;clear hN hk hF hI hchk hcl hc;obtain ⟨⟨U,eU⟩,hU⟩:∃ R,usesN L=R:=⟨_,rfl⟩;have heU:eU=0∨eU=4:=by have:=uses_err hv;rwa [hU] at this
 rw [hU] at HU;have HUs:=hid hU;clear hU;go_enter Tryz.func8,Tryz.ntmps8
 go_wp2_with fail
 refine HU.out.mono ?_;rintro e W1 ⟨⟨aU,kU,rfl,hO⟩,hB⟩;dsimp only at hO ⊢;have HB:=hid hB;have HO:=hid hO;clear hO hB;go_wp2_with fail
 refine (HC.out _ HB.out).mono ?_;rintro e w' ⟨rfl,g,n,rfl⟩;rcases heU with rfl | rfl
 case inr =>
  go_wp2_with fail
  go_ret;exact ⟨rfl,HB.out.trans ((Grew.below (a:=W1) gw0).mono HB.out.size)⟩
 obtain ⟨hul,hub⟩:=uses_len hv HUs.out;have HUB:=hid hub;clear hub;go_wp2_with fail
 obtain ⟨b9,hb9⟩:∃ b,W1.heap.size+g.length=b:=⟨_,rfl⟩;rw [hb9];refine wp_nameC fun W2 hW2=>?_
 have hG2:Grew W1 W2:=by rw [hW2];exact gw0
 have h9:W2.heap[b9]? = some (.cells #[.int .i64 (cntA c.gd F),.int .i64 (cntB c.gd F 1),.int .i64 (cntB c.gd F 2),.int .i64 (cntB c.gd F 3)] 60):=by
  rw [hW2,← hb9];show ((((W1.grow g).alloc _).alloc _).heap)[_]? = _
  rw [Below.heap_alloc _ _ _ (by simp [go_sem])];exact blk_new (by simp [go_sem])
 have h11:W2.heap[b9+1]? = some (.cells #[.int .i64 0,.int .i64 0,.int .i64 0,.int .i64 0] 60):=by
  rw [hW2,← hb9];exact blk_new (by simp [go_sem])
 have hb9w:W1.heap.size≤b9:=by omega
 have hBW:w.heap.size≤W1.heap.size:=HB.out.size;have hz:W2.heap[b9+1]? = some (.cells (wqC L U 0 0) 60):=by
  have e:wqC L U 0 0=#[.int .i64 0,.int .i64 0,.int .i64 0,.int .i64 0]:=by
   unfold wqC;rw [wq_zero,wq_zero,wq_zero];rfl
  rw [e];exact h11
 have HG2:=hid hG2;have H9:=hid h9;have HNB:=hid (HN.out.below HB.out);clear hW2 hb9 hG2 h9 h11;go_loopw [48] (fun v wr=>∃ i:Nat,i≤L.length∧v=.int .i64 i∧Turned W2 wr (b9+1)∧wr.heap[b9+1]? = some (.cells (wqC L U i 0) 60)) (fun v _=>L.length - (intOf v).toNat)
 case atStart=>exact ⟨0,Nat.zero_le _,rfl,Turned.refl _ _,hz⟩
 case round =>
  clear hz;obtain ⟨i,hi,rfl,hT,hw⟩:=hrel;by_cases hlt:i<L.length
  · obtain ⟨d,hd⟩:∃ d,L[i]? = some d:=⟨L[i],List.getElem?_eq_getElem hlt⟩
    have hgw:Grew W1 wr:=hT.toGrew HG2.out (by omega);obtain ⟨b,off,rfl,hb,c0,c1,a2,k2,c2,hIt⟩:=HNB.out.cells hd;have x0:=(hgw.cell hb _).trans c0;have x1:=(hgw.cell hb _).trans c1;have x2:=(hgw.cell hb _).trans c2;have lb:=Nat.lt_of_lt_of_le hb hgw.size;have lb1:=fun m0:Nat=>Nat.lt_add_right m0 (lb)
    have lb2:=fun m0 m1:Nat=>Nat.lt_add_right m1 (lb1 m0)
    have lb3:=fun m0 m1 m2:Nat=>Nat.lt_add_right m2 (lb2 m0 m1)
    have hdl:d.items.length≤200:=(vcell_iff.1 ((vnet_all hv).2 i d hd)).2.2.2.1;have l11:=(Array.getElem?_eq_some_iff.1 hw).1;have HT:=hid hT;have HW:=hid hw;have HIt:=hid hIt;have Hd:=hid hd;clear hT hw hIt hd hgw c0 c1 c2;go_wp2_with fail
    refine wp_nameC fun W3 hW3=>?_
    have hG3:Grew wr W3:=by rw [hW3];exact gw0
    have hT3:=HT.out.grew hG3;have hw3:=(hG3.block _ l11).trans HW.out;clear hW3 hG3 x0 x1 x2 lb lb1 lb2 lb3 HT HW l11;go_loopw [56] (fun v wr=>∃ j:Nat,j≤d.items.length∧v=.int .i64 j∧Turned W2 wr (b9+1)∧wr.heap[b9+1]? = some (.cells (wqC L U i j) 60)) (fun v _=>d.items.length - (intOf v).toNat)
    case atStart=>exact ⟨0,Nat.zero_le _,rfl,hT3,hw3⟩
    case round =>
     clear hT3 hw3;obtain ⟨j,hj,rfl,hT,hw⟩:=hrel;by_cases hjl:j<d.items.length
     · obtain ⟨x,hx⟩:∃ x,d.items[j]? = some x:=⟨d.items[j],List.getElem?_eq_getElem hjl⟩
       have hxi:(itsAt L i)[j]? = some x:=by rw [itsAt_some Hd.out];exact hx
       have hgw:Grew W1 wr:=hT.toGrew HG2.out (by omega);have hkd:=kind_of hv Hd.out (List.mem_of_getElem? hx);obtain ⟨bx,ox,rfl,hbx,y0,y1,y2,y3⟩:=(HIt.out.grew hgw).cells hx;obtain ⟨u,hu⟩:∃ u,U[i]? = some u:=⟨U[i]'(by omega),List.getElem?_eq_getElem (by omega)⟩;have hug:U.getD i 0=u:=by rw [List.getD_eq_getElem?_getD,hu];rfl
       obtain ⟨bu,ou,rfl,hbu,z0⟩:=HO.out.zs.cells hu;have v0:=(hgw.cell hbu _).trans z0;have lu:=Nat.lt_of_lt_of_le hbu hgw.size;have hur:=HUB.out.get i;rw [hug] at hur;have p1:wr.cell? ⟨b9+1,1,none⟩=some (.int .i64 (wq L U 1 i j)):=by simp [World.cell?,hw,wqC]
       have p2:wr.cell? ⟨b9+1,2,none⟩=some (.int .i64 (wq L U 2 i j)):=by simp [World.cell?,hw,wqC]
       have p3:wr.cell? ⟨b9+1,3,none⟩=some (.int .i64 (wq L U 3 i j)):=by simp [World.cell?,hw,wqC]
       have pf:∀ q,wr.frozen? ⟨b9+1,q,none⟩=false:=fun q=>by simp [World.frozen?,hw]
       have pf1:=pf 1;have pf2:=pf 2;have pf3:=pf 3;have lw:=(Array.getElem?_eq_some_iff.1 hw).1;have r1:=wq_rng hv HUB.out 1 hi j;have r2:=wq_rng hv HUB.out 2 hi j;have r3:=wq_rng hv HUB.out 3 hi j;have n1:=hid (wq_next (U:=U) (q:=1) hxi);have n2:=hid (wq_next (U:=U) (q:=2) hxi);have n3:=hid (wq_next (U:=U) (q:=3) hxi);rw [hug] at n1 n2 n3;obtain ⟨A1,hA1⟩:∃ A,wq L U 1 i j=A:=⟨_,rfl⟩;obtain ⟨A2,hA2⟩:∃ A,wq L U 2 i j=A:=⟨_,rfl⟩;obtain ⟨A3,hA3⟩:∃ A,wq L U 3 i j=A:=⟨_,rfl⟩;unfold wqC at hw;rw [hA1] at p1 r1 n1 hw;rw [hA2] at p2 r2 n2 hw;rw [hA3] at p3 r3 n3 hw;have HT:=hid hT;have HW:=hid hw;have hbx1:=fun m0:Nat=>Nat.lt_add_right m0 (hbx)
       have hbx2:=fun m0 m1:Nat=>Nat.lt_add_right m1 (hbx1 m0)
       have hbx3:=fun m0 m1 m2:Nat=>Nat.lt_add_right m2 (hbx2 m0 m1)
       have lu1:=fun m0:Nat=>Nat.lt_add_right m0 (lu)
       have lu2:=fun m0 m1:Nat=>Nat.lt_add_right m1 (lu1 m0)
       have lu3:=fun m0 m1 m2:Nat=>Nat.lt_add_right m2 (lu2 m0 m1)
       have lw1:=fun m0:Nat=>Nat.lt_add_right m0 (lw)
       have lw2:=fun m0 m1:Nat=>Nat.lt_add_right m1 (lw1 m0)
       have lw3:=fun m0 m1 m2:Nat=>Nat.lt_add_right m2 (lw2 m0 m1)
       clear hT hw hx hxi hgw hu z0 pf hA1 hA2 hA3 hug;obtain ⟨kind,pos,nn,name⟩:=x;dsimp only at *
       rcases hkd with rfl | rfl | rfl | rfl
       · go_wp2_with fail
         go_roundw
         case rel=>exact ⟨j+1,by omega,by go_num,HT.out.grew gw0,by
          rw [Grew.block (a:=wr) gw0 _ lw,HW.out];unfold wqC;rw [n1.out,n2.out,n3.out,if_neg (by decide),if_neg (by decide),if_neg (by decide),Int.add_zero,Int.add_zero,Int.add_zero]⟩
         case measure=>simp [intOf];omega
       · go_wp2_with fail
         refine R3.wp_region_gentle_tail 9 (by kernel_rfl) (by kernel_rfl) (by kernel_rfl) ?_;simp only [List.take_succ_cons,List.take_zero,List.drop_succ_cons,List.drop_zero];repeat (first | go_big_quiet_skip | (go_big_quiet_want;go_big_quiet_op;first | go_big_quiet_on | fail))
         refine wpQuiet_nil ?_;rintro _ ⟨gg,ng,rfl⟩;go_wp2_with fail
         go_roundw
         case rel=>exact ⟨j+1,by omega,by go_num,(HT.out.set 1 (.int .i64 (A1+u))).grew gw0,by
          rw [Grew.block (a:=wr.setCell ⟨b9+1,1,none⟩ (.int .i64 (A1+u))) gw0 _ (by simp [go_sem];exact lw),heap_setCell_same _ _ _ _ _ _ HW.out];unfold wqC;rw [n1.out,n2.out,n3.out];simp⟩
         case measure=>simp [intOf];omega
       · go_wp2_with fail
         refine R3.wp_region_gentle_tail 9 (by kernel_rfl) (by kernel_rfl) (by kernel_rfl) ?_;simp only [List.take_succ_cons,List.take_zero,List.drop_succ_cons,List.drop_zero];repeat (first | go_big_quiet_skip | (go_big_quiet_want;go_big_quiet_op;first | go_big_quiet_on | fail))
         refine wpQuiet_nil ?_;rintro _ ⟨gg,ng,rfl⟩;go_wp2_with fail
         go_roundw
         case rel=>exact ⟨j+1,by omega,by go_num,(HT.out.set 2 (.int .i64 (A2+u))).grew gw0,by
          rw [Grew.block (a:=wr.setCell ⟨b9+1,2,none⟩ (.int .i64 (A2+u))) gw0 _ (by simp [go_sem];exact lw),heap_setCell_same _ _ _ _ _ _ HW.out];unfold wqC;rw [n1.out,n2.out,n3.out];simp⟩
         case measure=>simp [intOf];omega
       · go_wp2_with fail
         refine R3.wp_region_gentle_tail 9 (by kernel_rfl) (by kernel_rfl) (by kernel_rfl) ?_;simp only [List.take_succ_cons,List.take_zero,List.drop_succ_cons,List.drop_zero];repeat (first | go_big_quiet_skip | (go_big_quiet_want;go_big_quiet_op;first | go_big_quiet_on | fail))
         refine wpQuiet_nil ?_;rintro _ ⟨gg,ng,rfl⟩;go_wp2_with fail
         go_roundw
         case rel=>exact ⟨j+1,by omega,by go_num,(HT.out.set 3 (.int .i64 (A3+u))).grew gw0,by
          rw [Grew.block (a:=wr.setCell ⟨b9+1,3,none⟩ (.int .i64 (A3+u))) gw0 _ (by simp [go_sem];exact lw),heap_setCell_same _ _ _ _ _ _ HW.out];unfold wqC;rw [n1.out,n2.out,n3.out];simp⟩
         case measure=>simp [intOf];omega
     · obtain rfl:j=d.items.length:=by omega
       go_wp2_with fail
       go_roundw
       case rel=>exact ⟨i+1,by omega,by go_num,hT,by
        rw [hw];unfold wqC;have e:=itsAt_some Hd.out;rw [← e,wq_cell,wq_cell,wq_cell]⟩
       case measure=>simp [intOf];omega
  · obtain rfl:i=L.length:=by omega
    have hgw:Grew W1 wr:=hT.toGrew HG2.out (by omega);have h9:wr.heap[b9]? = _:=(hT.block (Array.getElem?_eq_some_iff.1 H9.out).1 (by omega)).trans H9.out;have l9:=(Array.getElem?_eq_some_iff.1 h9).1;have l11:=(Array.getElem?_eq_some_iff.1 hw).1;have e1:wq L U 1 L.length 0=cntB c.gd F 1:=by rw [wq_zero,uses_count hv HUs.out HF.out (by decide)];unfold cntB;rw [if_pos HCH.out]
    have e2:wq L U 2 L.length 0=cntB c.gd F 2:=by rw [wq_zero,uses_count hv HUs.out HF.out (by decide)];unfold cntB;rw [if_pos HCH.out]
    have e3:wq L U 3 L.length 0=cntB c.gd F 3:=by rw [wq_zero,uses_count hv HUs.out HF.out (by decide)];unfold cntB;rw [if_pos HCH.out]
    unfold wqC at hw;rw [e1,e2,e3] at hw;obtain ⟨A1,hA1⟩:∃ A,cntB c.gd F 1=A:=⟨_,rfl⟩;obtain ⟨A2,hA2⟩:∃ A,cntB c.gd F 2=A:=⟨_,rfl⟩;obtain ⟨A3,hA3⟩:∃ A,cntB c.gd F 3=A:=⟨_,rfl⟩;rw [hA1,hA2,hA3] at h9 hw;have p1:wr.cell? ⟨b9+1,1,none⟩=some (.int .i64 A1):=by simp [World.cell?,hw]
    have p2:wr.cell? ⟨b9+1,2,none⟩=some (.int .i64 A2):=by simp [World.cell?,hw]
    have p3:wr.cell? ⟨b9+1,3,none⟩=some (.int .i64 A3):=by simp [World.cell?,hw]
    have q1:wr.cell? ⟨b9,1,none⟩=some (.int .i64 A1):=by simp [World.cell?,h9]
    have q2:wr.cell? ⟨b9,2,none⟩=some (.int .i64 A2):=by simp [World.cell?,h9]
    have q3:wr.cell? ⟨b9,3,none⟩=some (.int .i64 A3):=by simp [World.cell?,h9]
    have HGW:=hid hgw;clear h9 hw e1 e2 e3 hA1 hA2 hA3 hT hgw;go_wp2_with fail
    go_ret;exact ⟨rfl,HB.out.trans ((Grew.below (HGW.out.trans gw0)).mono HB.out.size)⟩
end Go.Proofs.YtchdmecjhaanfaaGreatDoor
