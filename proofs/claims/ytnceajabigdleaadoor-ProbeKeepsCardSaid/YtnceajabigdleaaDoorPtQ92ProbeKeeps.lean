/- Layer 9, in main's ghost: the law ProbeKeeps. Condition: the tries lie in memory, the table is laid. -/
import Derived.Test.YtnceajabigdleaaDoorPtQ989
import Derived.Test.YtnceajabigdleaaDoorPtQ5
namespace Go.Proofs.Qm
open Go Go.Pt Go.RowKit Prb
set_option maxRecDepth 100000 in
set_option maxHeartbeats 12800000 in
theorem probeKeeps_walk (n s:Int) (a:Option Addr) (cap:Nat) (l:List Tq) (w:World) (hl:l.length≤9223372036854775807) (hc:AqAt w a l) (hD:DebAt w) :
  Calls prog 6 #[.int .i64 n,.int .i64 s,.slice a l.length cap] w fun e w'=>e=.returned (.bool true)∧Below w.heap.size w w':=by
 have HW:=hid fun w=>awake_any w
 by_cases hn:n=2∨n=4
 case neg =>
  have HF:=hid fun w=>afit_no n a cap l w hl hn
  clear hc hD hn;go_enter func6,ntmps6
  go_wp2_with fail
  refine (HF.out _).mono ?_;rintro e w' ⟨rfl,g1,n1,rfl⟩;go_wp2_with fail
  refine (HW.out _).mono ?_;rintro e w' ⟨rfl,g2,n2,rfl⟩;go_wp2_with fail
  exact bodyPost_ret (v:=.bool true) (by simp [results,go_sem]) rfl ⟨rfl,Grew.below gw0⟩
 have HF:=hid fun w' (hg:Grew w w')=>afit_any n hn a cap l w' hl (hc.grew hg)
 cases hf:(decide (l.length≤40)&&asksB n l) with
 | false =>
   rw [hf] at HF;clear hc hD hn hf;go_enter func6,ntmps6
   go_wp2_with fail
   refine (HF.out _ gw0).mono ?_;rintro e w' ⟨rfl,g1,n1,rfl⟩;go_wp2_with fail
   refine (HW.out _).mono ?_;rintro e w' ⟨rfl,g2,n2,rfl⟩;go_wp2_with fail
   exact bodyPost_ret (v:=.bool true) (by simp [results,go_sem]) rfl ⟨rfl,Grew.below gw0⟩
 | true =>
 rw [hf] at HF;rw [Bool.and_eq_true,decide_eq_true_eq] at hf;obtain ⟨N,m,hN,hst⟩:∃ N m:Nat,((n=2∧N=2∧m=2)∨(n=4∧N=64∧m=4))∧stZ n=((N:Int),0):=by
  rcases hn with rfl | rfl
  · exact ⟨2,2,.inl ⟨rfl,rfl,rfl⟩,rfl⟩
  · exact ⟨64,4,.inr ⟨rfl,rfl,rfl⟩,rfl⟩
 have HST:=hid fun w=>States_any n w
 rw [hst] at HST;have hN64:N≤64:=by omega
 clear hst hn;by_cases hs:0≤s∧s<N
 case neg =>
  clear hc hD hf hN;by_cases h0:s<0
  · have d0:decide (s<0)=true:=decide_eq_true h0
    go_enter func6,ntmps6
    go_wp2_with fail
    refine (HF.out _ gw0).mono ?_;rintro e w' ⟨rfl,g1,n1,rfl⟩;go_wp2_with fail
    refine (HST.out _).mono ?_;rintro e w' ⟨rfl,g2,n2,rfl⟩;go_wp2_with fail
    refine (HW.out _).mono ?_;rintro e w' ⟨rfl,g3,n3,rfl⟩;go_wp2_with fail
    exact bodyPost_ret (v:=.bool true) (by simp [results,go_sem]) rfl ⟨rfl,Grew.below gw0⟩
  · have d0:decide (s<0)=false:=decide_eq_false h0
    have d1:decide ((N:Int)≤s)=true:=decide_eq_true (by omega);go_enter func6,ntmps6
    go_wp2_with fail
    refine (HF.out _ gw0).mono ?_;rintro e w' ⟨rfl,g1,n1,rfl⟩;go_wp2_with fail
    refine (HST.out _).mono ?_;rintro e w' ⟨rfl,g2,n2,rfl⟩;go_wp2_with fail
    refine (HW.out _).mono ?_;rintro e w' ⟨rfl,g3,n3,rfl⟩;go_wp2_with fail
    exact bodyPost_ret (v:=.bool true) (by simp [results,go_sem]) rfl ⟨rfl,Grew.below gw0⟩
 obtain ⟨S,rfl⟩:∃ S:Nat,s=(S:Int):=⟨s.toNat,by omega⟩;have hS:S<N:=by omega
 have HAN:=hid fun w' (hg:Grew w w')=>answered_any n N m S hN hS a cap l w' hf.1 (hc.grew hg) hf.2
 have HAT:=hid fun (w':World) (a':Option Addr) (Ft:List Tq) (hF:TqAt w' a' Ft) (hm:Ft.map fdOf=l.map (anF n S))=>(ansT hN hf.1 hc hf.2 hF hm:AnsT n N m S Ft)
 have HDD:=hid fun w' (hg:Below w.heap.size w w')=>hD.of_block (hg.block 0 hD.1)
 have HN:=hid hN;have d0:decide ((S:Int)<0)=false:=decide_eq_false (by omega);have d1:decide (N≤S)=false:=decide_eq_false (by omega);have d2:decide ((N:Int)≤(S:Int))=false:=decide_eq_false (by omega);have hS1:¬ N≤S:=by omega
 clear hc hf hs hD hN;go_enter func6,ntmps6
 go_wp2_with fail
 refine (HF.out _ gw0).mono ?_;rintro e w' ⟨rfl,g1,n1,rfl⟩;go_wp2_with fail
 refine (HST.out _).mono ?_;rintro e w' ⟨rfl,g2,n2,rfl⟩;go_wp2_with fail
 refine (HAN.out _ gw0).mono ?_;rintro e w1 ⟨a1,k1,Ft,rfl,hm1,ht1,hk1,hB1⟩;have HB1:Hid (Below w.heap.size w w1):=hid ((show Grew w ((w.grow (g1++g2)).drewN (n1+n2)) from gw0).below.trans (hB1.mono (show Grew w ((w.grow (g1++g2)).drewN (n1+n2)) from gw0).size));have HA:=hid (HAT.out w1 a1 Ft ht1 hm1);have HK:=hid (kpC HN.out hS HA.out ht1 (HDD.out w1 HB1.out));have HT1:=hid ht1;have hf40:=HA.out.len;have HL0:=hid fun w' (hg:Below w1.heap.size w1 w')=>(HK.out.left 0 (Nat.zero_le _) w' none 0 hg (tqAt_nil w')).mono fun e w'' (h:∃ (a2:Option Addr) (k2:Nat),e=.returned (.tuple #[.slice a2 (leftL n N (Ft.take 0)).length k2,.int .i64 0])∧NsA w'' a2 (ints (leftL n N (Ft.take 0)))∧Below w'.heap.size w' w''∧Below w1.heap.size w1 w'')=>(show ∃ (a2:Option Addr) (k2:Nat),e=.returned (.tuple #[.slice a2 N k2,.int .i64 0])∧NsA w'' a2 (ints (leftL n N (Ft.take 0)))∧Below w1.heap.size w1 w'' from by
  obtain ⟨a2,k2,h1,h2,_,h4⟩:=h;exact ⟨a2,k2,by rw [h1,show (leftL n N (Ft.take 0)).length=N by show (List.range N).length=N;rw [List.length_range]],h2,h4⟩)
 have e0:((N:Int) != (N:Int))=false:=by simp
 clear hm1 ht1 hB1;go_wp2_with fail
 refine (HL0.out _ (Below.refl _ _)).mono ?_;rintro e w2 ⟨a2,k2,rfl,hn2,hL2⟩;have HN2:=hid hn2;have HL2:=hid hL2;clear hn2 hL2;go_wp2_with fail
 go_loopw [11,20,75] (fun t _ v wr=>∃ (i:Nat) (a3:Option Addr) (k3:Nat),i≤Ft.length∧v=.int .i64 i∧t=.slice a3 (leftL n N (Ft.take i)).length k3∧Hid (NsA wr a3 (ints (leftL n N (Ft.take i))))∧Hid (Below w1.heap.size w1 wr)) (fun _ _ v _=>Ft.length - (intOf v).toNat)
 case atStart=>exact ⟨0,a2,k2,Nat.zero_le _,rfl,by rw [show (leftL n N (Ft.take 0)).length=N by show (List.range N).length=N;rw [List.length_range]],HN2,HL2⟩
 case round =>
  obtain ⟨i,a3,k3,hi,rfl,rfl,hN3,hB3⟩:=hrel;by_cases hlt:i<Ft.length
  · obtain ⟨z,hz⟩:∃ z,Ft[i]? = some z:=⟨Ft[i],List.getElem?_eq_getElem hlt⟩
    obtain ⟨b,off,rfl,hb,⟨c0,c1,c2⟩,hzl,htz⟩:=(HT1.out.below hB3.out) i z hz;have hb1:=fun m0:Nat=>Nat.lt_add_right m0 hb
    have Hz:=hid hz;have hO:=HA.out.ans z (List.mem_of_getElem? hz);rw [hO] at c2;obtain ⟨cs,hcs,hcl,hcA,hcS,hc0,hsub⟩:=HA.out.parts hz;have HAG:=hid (HK.out.agr i z hz);have HPA:=hid (HK.out.parts i z hz);have HLE:=hid (HK.out.left (i+1) hlt);have HAM:ansF n S z<m:=HA.out.lt z (List.mem_of_getElem? hz) S;rw [hcs] at HPA;obtain ⟨A,hA⟩:∃ A,ansF n S z=A:=⟨_,rfl⟩;rw [hA] at HAG c2 hcA HAM;have hLS:(leftL n N (Ft.take i)).length≤64:=left_len n hN64 _;have hLS1:(leftL n N (Ft.take (i+1))).length≤64:=left_len n hN64 _;have HMS:=hid (HA.out.mem hS (i+1) hlt);have HHS:=hid fun x (hx:x∈leftL n N (Ft.take (i+1)))=>HK.out.has i x (hsub x hx)
    have HH1:=hid (HK.out.has (i+1));have HCS:=hid hcS;have HC0:=hid hc0;have HCL:=hid hcl;have HCA:=hid hcA;obtain ⟨L,hL⟩:∃ L,leftL n N (Ft.take i)=L:=⟨_,rfl⟩;rw [hL] at HPA HCS HHS hLS hN3;rw [hL];obtain ⟨L1,hL1⟩:∃ L,leftL n N (Ft.take (i+1))=L:=⟨_,rfl⟩;rw [hL1] at HLE HMS HHS hLS1 HH1 HCA;have HL1:=hid hL1;obtain ⟨ta,hta⟩:∃ I,z.t.a=I:=⟨_,rfl⟩;obtain ⟨tl,htl⟩:∃ I,z.t.len=I:=⟨_,rfl⟩;obtain ⟨tc,htc⟩:∃ I,z.t.cap=I:=⟨_,rfl⟩;obtain ⟨ti,hti⟩:∃ I,z.t.i=I:=⟨_,rfl⟩;rw [hta,htl,htc,hti] at HAG HPA;rw [hta,htl,htc] at c0;rw [hti] at c1;rw [htl] at hzl;clear hz htz hO hcs hcl hcA hcS hc0 hsub hA hL hL1 hta htl htc hti;go_wp2_with fail
    refine (HAG.out _ (below_grew hB3.out gw0 hB3.out.size)).mono ?_;rintro e w3 ⟨rfl,hg3⟩;have hw3:Grew wr w3:=(show Grew wr (wr.alloc (.cells #[.slice ta tl tc,.int .i64 ti,.int .i64 (A:Nat)] 48)) from gw0).trans hg3;have e3:w3.heap[wr.heap.size]? = some (.cells #[.slice ta tl tc,.int .i64 ti,.int .i64 (A:Nat)] 48 (0,0)):=by
     have e1:(wr.alloc (.cells #[.slice ta tl tc,.int .i64 ti,.int .i64 (A:Nat)] 48)).heap[wr.heap.size]? = some (.cells #[.slice ta tl tc,.int .i64 ti,.int .i64 (A:Nat)] 48 (0,0)):=al_new rfl;exact (hg3.block _ (Array.getElem?_eq_some_iff.1 e1).1).trans e1
    have HT3:=hid (HT1.out.below (below_grew hB3.out hw3 hB3.out.size));have HB4:=hid (below_grew hB3.out hw3 hB3.out.size);have HN4:=hid (hN3.out.grew hw3);obtain ⟨B,hBB⟩:∃ B,wr.heap.size=B:=⟨_,rfl⟩;rw [hBB] at e3 ⊢;have HE3:=hid e3;have hik:i+1≤k1:=by omega
    have hid1:decide (i+1≤k1)=true:=decide_eq_true hik;clear hg3 hw3 hBB hb hb1 c0 c1 c2 hN3 hB3;obtain ⟨i0,hi0,hz0,hz1,hz2⟩:=info_parts info_t;have HCELLS:=hid (And.intro hz0 (And.intro hz1 hz2));clear hz0 hz1 hz2 e3;go_wp2_with (at_builtin;go_loud (refine wpList_append_behind rfl _ _ 30 rfl w3.heap.size 48 i0 (.agg #[.slice none 0 0,.int .i64 0,.int .i64 0]) 3 40 und_t hi0 HCELLS.out.1 HCELLS.out.2.1 HCELLS.out.2.2 rfl (by decide) _ 0 [] rfl ((empty_t rfl).grew gw0) ⟨b,off,none⟩ (i+1) _ (tqCells (Ft.take (i+1))) rfl ?hnl ?hnw (fun u hu=>tqCells_one hu) (by unfold maxLen;omega) (by omega) ?hbs ?_))
    case hnl=>rw [tqCells_len,List.length_take];omega
    case hnw=>exact TqAt.cells ((HT3.out.take (i+1)).grew gw0)
    case hbs=>exact (show Grew w3 (w3.alloc (.cells #[] 48)) from gw0).size
    · intro v' wA hownA hgrowA _ hdrA
      have hgA:Grew w3 wA:=Grew.by (w':=_) (show Grew w3 (w3.alloc (.cells #[] 48)) from gw0) hgrowA hdrA (fun jj hjj=>by simp [Value.ownBlock] at hjj;omega)
      obtain ⟨a6,k6,rfl⟩:=ownsRow_slice hownA;have hTA:=HT3.out.take (i+1);have HTA:Hid (TqAt wA a6 (Ft.take (i+1))):=hid (row_tqAt (by rw [show (Ft.take (i+1)).length=i+1 by rw [List.length_take];omega];exact hownA) fun y hy=>by
       obtain ⟨j,hj⟩:=List.mem_iff_getElem?.1 hy;obtain ⟨_,_,_,_,_,h1,h2⟩:=(hTA.grew hgA) j y hj;exact ⟨h1,h2⟩)
      have HBA:=hid (below_grew HB4.out hgA HB4.out.size);have HNA:=hid (HN4.out.grew hgA);have eA:=(hgA.block B (Array.getElem?_eq_some_iff.1 HE3.out).1).trans HE3.out;have HEA:=hid eA;clear hTA hgrowA hdrA hgA hownA eA;go_wp2_with fail
      refine (HLE.out _ _ _ HBA.out HTA.out).mono ?_;rintro e w4 ⟨a7,k7,rfl,hn7,hB7,hL7⟩;have e7:=(hB7.block B (Array.getElem?_eq_some_iff.1 HEA.out).1).trans HEA.out;have f0:w4.cell? ⟨B,0,none⟩=some (.slice ta tl tc):=by simp [World.cell?,e7]
      have f1:w4.cell? ⟨B,1,none⟩=some (.int .i64 ti):=by simp [World.cell?,e7]
      have hbB:B<w4.heap.size:=(Array.getElem?_eq_some_iff.1 e7).1;have HE7:=hid e7;have HN7:=hid hn7;have HB8:=hid hL7;have HN8:=hid (HNA.out.below hB7);clear e7 hn7 hB7 hL7;go_wp2_with fail
      refine (HPA.out _ _ _ HB8.out HN8.out).mono ?_;rintro e w5 ⟨a8,k8,rfl,hn8,hB9,hL9⟩;have e9:=(hB9.block B (Array.getElem?_eq_some_iff.1 HE7.out).1).trans HE7.out;have HE9:=hid e9;have HN9:=hid (HN8.out.below hB9);have HM9:=hid (HN7.out.below hB9);have HB9:=hid hL9;have HP9:=hid hn8;clear f0 f1 hbB e9 hn8 hB9 hL9;have hno:((m:Int) != n)=false:=by rcases HN.out with ⟨rfl,_,rfl⟩ | ⟨rfl,_,rfl⟩ <;> rfl
      go_wp2_with fail
      refine (HH1.out S HMS.out _ _ _ HM9.out).mono ?_;rintro e w6 ⟨rfl,hg6⟩;have e10:=(hg6.block B (Array.getElem?_eq_some_iff.1 HE9.out).1).trans HE9.out;have f2:w6.cell? ⟨B,2,none⟩=some (.int .i64 (A:Nat)):=by simp [World.cell?,e10]
      have hbB:B<w6.heap.size:=(Array.getElem?_eq_some_iff.1 e10).1;have HB6:=hid (below_grew HB9.out hg6 HB9.out.size);have HN6:=hid (HN9.out.grew hg6);have HM6:=hid (HM9.out.grew hg6);have HP6:=hid (HP9.out.grew hg6);obtain ⟨bp,op,rfl,hbp,cA⟩:=HP6.out A _ HCA.out;have hbp1:=fun m0:Nat=>Nat.lt_add_right m0 hbp
      have e5:((L1.length:Int) != (L1.length:Int))=false:=by simp
      clear e10 hg6;go_wp2_with fail
      go_loopw [20,146] (fun q v wq=>∃ j:Nat,j≤m∧v=.int .i64 j∧q=.int .i64 (sumL (cs.take j))∧Grew w6 wq) (fun _ v _=>m - (intOf v).toNat)
      case atStart=>exact ⟨0,Nat.zero_le _,rfl,rfl,gw0⟩
      case round =>
       obtain ⟨j,hj,rfl,rfl,hgq⟩:=hrel;clear cA f2 hbB;have hm4:m≤4:=by have:=HN.out;omega
       by_cases hjm:j<m
       · obtain ⟨c,hcj⟩:∃ c,cs[j]? = some c:=⟨cs[j]'(by rw [HCL.out];exact hjm),List.getElem?_eq_getElem _⟩
         obtain ⟨b',off',e',hb',y1⟩:=(HP6.out.grew hgq) j c hcj;cases e';have HTK:=hid (sumL_take hcj);obtain ⟨q1,q2⟩:=sumL_pre HC0.out j;obtain ⟨q3,q4⟩:=sumL_pre HC0.out (j+1);rw [HTK.out] at q3 q4;rw [HCS.out] at q2 q4;obtain ⟨Q,hQ⟩:∃ Q,sumL (cs.take j)=Q:=⟨_,rfl⟩;rw [hQ] at HTK q1 q2 q3 q4 ⊢;have hbp2:=fun m0:Nat=>Nat.lt_add_right m0 hb'
         have HGQ:=hid hgq;clear hcj hQ hgq hbp1;go_wp2_with fail
         go_roundw
         case rel=>exact ⟨j+1,by omega,by go_num,by rw [HTK.out],(by repeat (first | exact HGQ.out | exact Grew.refl _ | refine Grew.drewN ?_ _ | refine Grew.grow ?_ _ | refine Grew.alloc ?_ _ | refine Grew.drew ?_))⟩
         case measure=>simp [intOf];omega
       · obtain rfl:j=m:=by omega
         rw [show sumL (cs.take j)=(L.length:Int) by rw [List.take_of_length_le (by rw [HCL.out];exact Nat.le_refl _)];exact HCS.out];have e6:((L.length:Int) != (L.length:Int))=false:=by simp
         have HMQ:=hid (HM6.out.grew hgq);have HNQ:=hid (HN6.out.grew hgq);have HB7:=hid (below_grew HB6.out hgq HB6.out.size);clear hgq;go_wp2_with fail
         go_loopw [160] (fun v wp=>∃ k:Nat,k≤L1.length∧v=.int .i64 k∧Grew wr wp) (fun v _=>L1.length - (intOf v).toNat)
         case atStart=>exact ⟨0,Nat.zero_le _,rfl,gw0⟩
         case round =>
          obtain ⟨k,hk,rfl,hgp⟩:=hrel;have HGP:=hid hgp;by_cases hkl:k<L1.length
          · obtain ⟨y,hy⟩:∃ y,L1[k]? = some y:=⟨L1[k],List.getElem?_eq_getElem hkl⟩
            obtain ⟨b2,off2,rfl,hb2,y1⟩:=(HMQ.out.grew hgp) k (y:Int) (by unfold ints;rw [List.getElem?_map,hy];rfl);have hbp2:=fun m0:Nat=>Nat.lt_add_right m0 hb2
            have HHY:=hid (HHS.out y (List.mem_of_getElem? hy));have HN8:=hid (HNQ.out.grew hgp);clear hy hgp hbp1;go_wp2_with fail
            refine (HHY.out _ _ _ HN8.out).mono ?_;rintro e wz ⟨rfl,hgz⟩;have HGZ:=hid (HGP.out.trans hgz);clear hgz y1 hb2 hbp2;go_wp2_with fail
            go_roundw
            case rel=>exact ⟨k+1,by omega,by go_num,(by repeat (first | exact HGZ.out | exact Grew.refl _ | refine Grew.drewN ?_ _ | refine Grew.grow ?_ _ | refine Grew.alloc ?_ _ | refine Grew.drew ?_))⟩
            case measure=>simp [intOf];omega
          · obtain rfl:k=L1.length:=by omega
            have HM8:=hid (HMQ.out.grew hgp);have HB8:=hid (below_grew HB7.out hgp HB7.out.size);clear hgp;go_wp2_with fail
            go_roundw
            case rel=>exact ⟨i+1,a7,k7,by omega,by go_num,by rw [HL1.out],by rw [HL1.out];exact HM8,HB8⟩
            case measure=>simp [intOf];omega
  · obtain rfl:i=Ft.length:=by omega
    go_wp2_with fail
    refine (HW.out _).mono ?_;rintro e w' ⟨rfl,g4,n4,rfl⟩;go_wp2_with fail
    exact bodyPost_ret (v:=.bool true) (by simp [results,go_sem]) rfl ⟨rfl,below_grew (HB1.out.trans (hB3.out.mono HB1.out.size)) gw0 (HB1.out.trans (hB3.out.mono HB1.out.size)).size⟩
end Go.Proofs.Qm
