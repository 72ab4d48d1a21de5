import Derived.Test.YtchdmecjhaanfaaGreatDoorNetD
import Derived.Test.YtchdmecjhaanfaaGreatDoorMshX
import Derived.Test.YtchdmecjhaanfaaGreatDoorMshJ
import Derived.Carry
namespace Go.Proofs.YtchdmecjhaanfaaGreatDoor
open Go Go.RowKit Amp Msh
def ixV (C:List Cl):ByteArray→Option Value:=fun s=>if nmO s 0 C=-1 then none else some (.int .i64 (nmO s 0 C))
theorem ixV_snoc {L:List Cl} {i:Nat} {c:Cl} (h:L[i]? = some c) (hn:(L.take i).find? (hasN c.name)=none) (q:ByteArray):(if q=c.name then some (Value.int .i64 i) else ixV (L.take i) q)=ixV (L.take (i+1)) q:=by
 have hi:=(List.getElem?_eq_some_iff.1 h).1;unfold ixV;rw [List.take_add_one,h,Option.toList,nmO_snoc _ 0 hn];by_cases hq:q=c.name
 · rw [if_pos hq,if_pos hq,if_neg (by omega),List.length_take,Nat.min_eq_left (by omega),Nat.zero_add]
 · rw [if_neg hq,if_neg hq]
theorem look_ix {w:World} {b n:Nat} {L:List Cl} (h:MapV w b n (ixV L)) {s:ByteArray} (hs:s.size≤maxLen) {j:Nat} (hj:nmO s 0 L=j) :
  (Instr.lookup 53 (.map (some b)) (.string s) false).run Tryz.prog w=.ok (.int .i64 j) w:=by
 rw [h.look Tryz.underlying53 (zero_int w) s hs false];unfold ixV;rw [hj,if_neg (by omega)];rfl
set_option maxRecDepth 100000 in
set_option maxHeartbeats 800000 in
theorem places_any (a0:Option Addr) (cap:Nat) (L:List Cl) (w:World) (hN:Net w a0 L) (hk:CsOk L) (hv:vnet L=true) :
  Calls Tryz.prog 21 #[.slice a0 L.length cap] w fun e w'=>(∃ b,e=.returned (.map (some b))∧w.heap.size≤b∧MapV w' b L.length (ixV L))∧Grew w w':=by
 have HN:=hid hN;have HK:=hid hk;have HALL:=hid (vnet_all hv);have hl20:L.length≤20:=HALL.out.1.2;have hmm:=@run_makeMap Tryz.prog;clear hN hk hv;go_enter Tryz.func21,Tryz.ntmps21
 go_wp2_with fail
 obtain ⟨W2,hW2⟩:∃ W2,W2=w.alloc (.map #[] 0):=⟨_,rfl⟩;obtain ⟨bm,hbm⟩:∃ b,b=w.heap.size:=⟨_,rfl⟩;have hg2:Grew w W2:=by rw [hW2];exact gw0
 have hM0:MapV W2 bm 0 (ixV (L.take 0)):=by
  rw [hW2,hbm,List.take_zero];exact MapV.made rfl
 have hbB:w.heap.size≤bm:=by omega
 rw [← hW2,← hbm];have HM0:=hid hM0;have HG2:=hid hg2;have HBB:=hid hbB;clear hW2 hbm hg2 hM0 hbB;go_loopw [9] (fun v wr=>∃ i:Nat,i≤L.length∧v=.int .i64 i∧Hid (MapV wr bm i (ixV (L.take i)))∧Grew w wr) (fun v _=>L.length - (intOf v).toNat)
 case atStart=>exact ⟨0,Nat.zero_le _,rfl,HM0.out,HG2.out⟩
 case round =>
  obtain ⟨i,hi,rfl,HMV,hg⟩:=hrel;by_cases hlt:i<L.length
  case neg =>
   obtain rfl:i=L.length:=by omega
   have hm:=HMV.out;rw [List.take_length] at hm;have HM:=hid hm;have HG:=hid hg;clear hm hg;go_wp2_with fail
   go_ret;exact ⟨⟨bm,rfl,HBB.out,HM.out.grew gw0⟩,HG.out.trans gw0⟩
  case pos =>
   obtain ⟨c,hc⟩:∃ c,L[i]? = some c:=⟨L[i],List.getElem?_eq_getElem hlt⟩;obtain ⟨b,off,rfl,hb,c0,c1,a2,k2,c2,_⟩:=(HN.out.grew hg).cells hc;have k3:=(HK.out.at hc).1;have hfn:=(vcell_iff.1 (HALL.out.2 i c hc)).2.1;have HC:=hid (And.intro hc hfn);have HG:=hid hg;have hb1:=fun m0:Nat=>Nat.lt_add_right m0 (hb)
   have hb2:=fun m0 m1:Nat=>Nat.lt_add_right m1 (hb1 m0)
   have hb3:=fun m0 m1 m2:Nat=>Nat.lt_add_right m2 (hb2 m0 m1)
   clear hc hg hfn;go_wp2_with (at_mapUpdate;go_loud (refine wpList_mapUpdate_v rfl _ _ _ 53 rfl Tryz.underlying53 bm i (ixV (L.take i)) rfl (HMV.out.grew gw0) ?hmx c.name k3 (.int .i64 i) rfl rfl ?_))
   case hmx=>unfold maxLen;omega
   · intro wB hMB hgB hdB
     have HGB:=hid (show Grew w wB from Grew.by (HG.out.trans gw0) hgB hdB (fun jj hjj=>by cases hjj;exact HBB.out));have HMB:=hid (show MapV wB bm (i+1) (ixV (L.take (i+1))) from MapV.congr hMB fun p _=>ixV_snoc HC.out.1 HC.out.2 p);clear hMB hgB hdB;go_wp2_with fail
     go_roundw
     case rel=>exact ⟨i+1,by omega,by go_num,HMB.out,HGB.out⟩
     case measure=>simp [intOf];omega
def SzB (S:List Int):Prop:=∀ t∈S,0≤t∧t≤5001
theorem SzB.get {S:List Int} (h:SzB S) (j:Nat):0≤S.getD j 0∧S.getD j 0≤5001:=by
 rw [List.getD_eq_getElem?_getD];cases hj:S[j]? with
 | none=>simp
 | some t=>simpa using h t (List.mem_of_getElem? hj)
theorem nOf_range {L:List Cl} {S:List Int} (h:SzB S) (x:It):0≤nOf L S x∧nOf L S x≤5001:=by
 unfold nOf;by_cases h4:x.kind=4
 · rw [if_pos h4];exact h.get _
 · rw [if_neg h4];omega
theorem OwnZ.lay {w:World} {base g k0:Nat} {l:List Int} (h:OwnZ w base (some ⟨g,0,none⟩) k0 l):(∃ cs,w.heap[g]? = some (.cells cs 3))∧base≤g∧l.length≤k0∧(∀ j,w.frozen? ⟨g,j,none⟩=false)∧∀ i z,l[i]? = some z→w.cell? ⟨g,i,none⟩=some (.int .i64 z):=by
 refine ⟨?_, ?_, ?_,fun j=>World.ownsRow.frozenAt h j,fun i z hz=>?_⟩
 · rcases h.2 with ⟨h1,_⟩ | ⟨g',cap,cur,h1,_,h3,_⟩
   · cases h1
   · injection h1 with e1
     injection e1 with e1;injection e1 with e1;subst e1;exact ⟨cur,h3⟩
 · rcases h.2 with ⟨h1,_⟩ | ⟨g',cap,cur,h1,h2,_⟩
   · cases h1
   · injection h1 with e1
     injection e1 with e1;injection e1 with e1;subst e1;exact h2
 · rcases h.2 with ⟨h1,_⟩ | ⟨g',cap,cur,h1,_,_,h4,_⟩
   · cases h1
   · injection h1 with _ _ e3
     subst e3;exact h4
 · rw [World.ownsRow.cellAt h i (by have:=(List.getElem?_eq_some_iff.1 hz).1;omega)]
   exact zCells_at hz
set_option maxRecDepth 100000 in
set_option maxHeartbeats 4000000 in
theorem sizes_any (a0:Option Addr) (cap:Nat) (L:List Cl) (w:World) (hN:Net w a0 L) (hk:CsOk L) (hv:vnet L=true) :
  Calls Tryz.prog 22 #[.slice a0 L.length cap] w fun e w'=>(∃ a2 k2,e=.returned (.slice a2 (szP L [] L).length k2)∧OwnZ w' w.heap.size a2 k2 (szP L [] L))∧Grew w w':=by
 have HPL:=hid fun w' (hg:Grew w w')=>places_any a0 cap L w' (hN.grew hg) hk hv
 have HN:=hid hN;have HK:=hid hk;have HV:=hid hv;have hl20:L.length≤20:=(vnet_all hv).1.2;obtain ⟨R,hR⟩:∃ R,szP L [] L=R:=⟨_,rfl⟩;have HR:=hid hR;rw [hR];clear hN hk hv hR;go_enter Tryz.func22,Tryz.ntmps22
 go_wp2_with fail
 refine (HPL.out _ gw0).mono ?_;rintro e W1 ⟨⟨bm,rfl,hbm,hM⟩,hg1⟩;have HM:=hid hM;have HG1:=hid (Grew.trans (a:=w) gw0 hg1);clear hM hg1 hbm HPL;go_wp2_with (at_make;refine wpList_make_z rfl _ _ rfl L.length _ _ rfl rfl rfl rfl (by omega) ?_)
 intro W2 hZ hg2 hs2;obtain ⟨g,hgq⟩:∃ g,g=W1.heap.size:=⟨_,rfl⟩;rw [← hgq] at hZ hs2 ⊢;have HZ:=hid hZ;have HG2:=hid hg2;have HGB:=hid (show W1.heap.size≤g by omega);clear hZ hgq hg2 hs2;go_wp2_with fail
 refine any_worldN (W:=W2) gw0 ?_;intro W3 hg3;have HZ:=hid (show OwnZ W3 W1.heap.size (some ⟨g,0,none⟩) L.length ([]++List.replicate (L.length - 0) 0) from World.ownsRow.mono (HZ.out.grew hg3) HGB.out);have HG2:=hid (HG2.out.trans hg3);clear hg3;go_loopw [17] (fun v wr=>∃ (i:Nat) (S:List Int),i≤L.length∧v=.int .i64 i∧S.length=i∧Hid (R=szP L S (L.drop i))∧Hid (SzB S)∧Hid (OwnZ wr W1.heap.size (some ⟨g,0,none⟩) L.length (S++List.replicate (L.length - i) 0))∧Grew W1 wr) (fun v _=>L.length - (intOf v).toNat)
 case atStart=>exact ⟨0,[],Nat.zero_le _,rfl,rfl,HR.out.symm,fun t ht=>absurd ht List.not_mem_nil,HZ.out,HG2.out⟩
 case round =>
  obtain ⟨i,S,hi,rfl,hSl,HS,HSB,HO,hg⟩:=hrel;by_cases hlt:i<L.length
  case neg =>
   obtain rfl:i=L.length:=by omega
   have hs:=HS.out;rw [List.drop_length] at hs;have ho:=HO.out;rw [Nat.sub_self,List.replicate_zero,List.append_nil] at ho;have hRl:R.length=L.length:=by rw [hs];exact hSl
   have HO:=hid (show OwnZ wr W1.heap.size (some ⟨g,0,none⟩) L.length R by rw [hs];exact ho);have HG:=hid hg;have HRl:=hid hRl;clear hs ho hg hRl hSl HS;go_wp2_with fail
   go_ret;exact ⟨⟨some ⟨g,0,none⟩,L.length,by rw [HRl.out];rfl,World.ownsRow.mono (HO.out.grew gw0) HG1.out.size⟩,HG1.out.trans (HG.out.trans gw0)⟩
  case pos =>
   obtain ⟨c,hc⟩:∃ c,L[i]? = some c:=⟨L[i],List.getElem?_eq_getElem hlt⟩;obtain ⟨b,off,rfl,hb,c0,c1,a2,k2,c2,hits⟩:=(HN.out.grew HG1.out).cells hc;have c0:=(hg.cell hb _).trans c0;have c1:=(hg.cell hb _).trans c1;have c2:=(hg.cell hb _).trans c2;have hb:=Nat.lt_of_lt_of_le hb hg.size;obtain ⟨k3,k4,k5⟩:=HK.out.at hc;have hl200:=(vcell_iff.1 ((vnet_all HV.out).2 i c hc)).2.2.2.1;have hs:=HS.out;rw [szP_step hc] at hs;have hix:∀ x:It,x∈c.items→x.kind=4→jx L x<i∧nmO x.name 0 L=jx L x∧jx L x<L.length:=fun x=>cell_ix HV.out hc
   obtain ⟨its,hits0⟩:∃ l,c.items=l:=⟨_,rfl⟩;rw [hits0] at c2 hits k5 hl200 hs hix;have HIX:=hid hix;have HIT:=hid hits;have HSZ:=hid k5;have HSS:=hid hs;have HGW:=hid hg;have HO2:=hid (show OwnZ wr W1.heap.size (some ⟨g,0,none⟩) L.length (S++(0:Int)::List.replicate (L.length - i - 1) 0) by
    have h:=HO.out;rw [show L.length - i=(L.length - i - 1)+1 by omega,List.replicate_succ] at h;exact h)
   obtain ⟨wR,hwR⟩:∃ wR,wR=wr:=⟨_,rfl⟩;subst wr;have hb1:=fun m0:Nat=>Nat.lt_add_right m0 (hb)
   have hb2:=fun m0 m1:Nat=>Nat.lt_add_right m1 (hb1 m0)
   have hb3:=fun m0 m1 m2:Nat=>Nat.lt_add_right m2 (hb2 m0 m1)
   clear hc hits k3 k4 k5 hs hits0 hix hg HO;go_wp2_with fail
   refine any_worldN (W:=wR) gw0 ?_;intro W4 hg4;have HO3:=hid (HO2.out.grew hg4);have HG4:=hid (HGW.out.trans hg4);clear hg4 c0 c1 c2 hb hb1 hb2 hb3 HO2;go_loopw [25] (fun v wr=>∃ (q:Nat) (s:Int),q≤its.length∧v=.int .i64 q∧Hid (s=(its.take q).foldl (addP L S) 0)∧Hid (0≤s∧s≤5001)∧Hid (OwnZ wr W1.heap.size (some ⟨g,0,none⟩) L.length (S++s::List.replicate (L.length - i - 1) 0))∧Hid (Grew W1 wr)) (fun v _=>its.length - (intOf v).toNat)
   case atStart=>exact ⟨0,0,Nat.zero_le _,rfl,rfl,⟨by omega,by omega⟩,HO3.out,HG4.out⟩
   case round =>
    obtain ⟨q,s,hq,rfl,HF,HSR,HOZ,HGX⟩:=hrel;by_cases hltq:q<its.length
    case neg =>
     obtain rfl:q=its.length:=by omega
     have hf:=HF.out;rw [List.take_length] at hf;have HR2:=hid (show R=szP L (S++[s]) (L.drop (i+1)) by rw [HSS.out,hf]);have HO4:=hid (show OwnZ wr W1.heap.size (some ⟨g,0,none⟩) L.length ((S++[s])++List.replicate (L.length - (i+1)) 0) by
      have h:=HOZ.out;rw [List.append_assoc];exact h)
     have HSB2:=hid (show SzB (S++[s]) from fun t ht=>by
      rcases List.mem_append.1 ht with ht | ht
      · exact HSB.out t ht
      · rw [List.mem_singleton] at ht
        subst ht;exact HSR.out)
     have hSl2:(S++[s]).length=i+1:=by rw [List.length_append,hSl];rfl
     have HSl2:=hid hSl2;clear hf hSl2;go_wp2_with fail
     go_roundw
     case rel=>exact ⟨i+1,S++[s],by omega,by go_num,HSl2.out,HR2.out,HSB2.out,HO4.out.grew gw0,HGX.out.trans gw0⟩
     case measure=>simp [intOf];omega
    case pos =>
     obtain ⟨x,hx⟩:∃ x,its[q]? = some x:=⟨its[q],List.getElem?_eq_getElem hltq⟩;obtain ⟨bi,oi,rfl,hbi,d0,d1,d2,d3⟩:=(HIT.out.grew HGX.out).cells hx;have hxm:=List.mem_of_getElem? hx;have HTS:=hid (show (its.take (q+1)).foldl (addP L S) 0=addP L S s x by rw [List.take_add_one,hx,Option.toList,List.foldl_append,HF.out];rfl);obtain ⟨⟨csg,hcg⟩,_,_,hfz,hcell⟩:=HOZ.out.lay;have zg:=(Array.getElem?_eq_some_iff.1 hcg).1;have ci:=hcell i s (by rw [List.getElem?_append_right (by omega),hSl,Nat.sub_self];rfl);have hno:=nOf_range (L:=L) HSB.out x;obtain ⟨s1,s2⟩:=HSR.out;have hiL:(i:Int)<L.length:=by omega
     have HPUT:=hid fun (z:Int) (w':World) (hg:Grew wr w')=>(show OwnZ (w'.setCell ⟨g,i,none⟩ (.int .i64 z)) W1.heap.size (some ⟨g,0,none⟩) L.length (S++z::List.replicate (L.length - i - 1) 0) from by
      have h:=(HOZ.out.grew hg).put i z;rw [List.set_append_right _ _ (by omega),hSl,Nat.sub_self,List.set_cons_zero] at h;exact h)
     have HRNG:=hid (show 0≤addP L S s x∧addP L S s x≤5001 by unfold addP;omega);obtain ⟨wI,hwI⟩:∃ wI,wI=wr:=⟨_,rfl⟩;subst wr;by_cases hx4:x.kind=4
     · obtain ⟨j1,j2,j3⟩:=HIX.out x hxm hx4
       have hnoe:nOf L S x=S.getD (jx L x) 0:=by unfold nOf;rw [if_pos hx4]
       obtain ⟨j,hj⟩:∃ j,jx L x=j:=⟨_,rfl⟩;rw [hj] at j1 j2 j3 hnoe;obtain ⟨t,ht⟩:∃ t,S[j]? = some t:=⟨S[j]'(by omega),List.getElem?_eq_getElem (by omega)⟩;have hnt:nOf L S x=t:=by rw [hnoe,List.getD_eq_getElem?_getD,ht];rfl
       have cj:=hcell j t (by rw [List.getElem?_append_left (by omega)];exact ht);have HLK:=look_ix ((HM.out.grew HGX.out).grew (w':=wI.alloc (.cells #[.int .i64 4,.int .i64 x.pos,.int .i64 x.n,.string x.name] 51)) gw0) (HSZ.out x hxm) j2;rw [hnt] at hno;have HAD:=hid (show addP L S s x=if 5001<s+t then 5001 else s+t by unfold addP;rw [hnt];split <;> omega);rw [hx4] at d0;have hjL:(j:Int)<L.length:=by omega
       have hjn:j<L.length:=j3;obtain ⟨t1,t2⟩:=hno;have hbi1:=fun m0:Nat=>Nat.lt_add_right m0 (hbi)
       have hbi2:=fun m0 m1:Nat=>Nat.lt_add_right m1 (hbi1 m0)
       have hbi3:=fun m0 m1 m2:Nat=>Nat.lt_add_right m2 (hbi2 m0 m1)
       have zg1:=fun m0:Nat=>Nat.lt_add_right m0 (zg)
       have zg2:=fun m0 m1:Nat=>Nat.lt_add_right m1 (zg1 m0)
       have zg3:=fun m0 m1 m2:Nat=>Nat.lt_add_right m2 (zg2 m0 m1)
       clear hx hxm hcg hcell hnoe hnt ht j1 j2 j3 hj hSl;go_wp2_with fail
       go_roundw
       case rel =>
        try rw [show (min (s+t) 5001:Int)=if 5001<s+t then 5001 else s+t by omega]
        exact ⟨q+1,(if 5001<s+t then 5001 else s+t),by omega,by go_num,by rw [HTS.out,HAD.out];rfl,by rw [← HAD.out];exact HRNG.out,(HPUT.out _ _ gw0).grew gw0,(Grew.set (HGX.out.trans gw0) HGB.out _ _).trans gw0⟩
       case measure=>simp [intOf];omega
     · have hno2:nOf L S x=1:=by unfold nOf;rw [if_neg hx4]
       have HAD:=hid (show addP L S s x=if 5001<s+1 then 5001 else s+1 by unfold addP;rw [hno2];split <;> omega);have e4:(x.kind==4)=false:=by simpa using hx4
       have hbi1:=fun m0:Nat=>Nat.lt_add_right m0 (hbi)
       have hbi2:=fun m0 m1:Nat=>Nat.lt_add_right m1 (hbi1 m0)
       have hbi3:=fun m0 m1 m2:Nat=>Nat.lt_add_right m2 (hbi2 m0 m1)
       have zg1:=fun m0:Nat=>Nat.lt_add_right m0 (zg)
       have zg2:=fun m0 m1:Nat=>Nat.lt_add_right m1 (zg1 m0)
       have zg3:=fun m0 m1 m2:Nat=>Nat.lt_add_right m2 (zg2 m0 m1)
       clear hx hxm hcg hcell hno hno2 hSl hx4;go_wp2_with fail
       go_roundw
       case rel =>
        try rw [show (min (s+1) 5001:Int)=if 5001<s+1 then 5001 else s+1 by omega]
        exact ⟨q+1,(if 5001<s+1 then 5001 else s+1),by omega,by go_num,by rw [HTS.out,HAD.out];rfl,by rw [← HAD.out];exact HRNG.out,(HPUT.out _ _ gw0).grew gw0,(Grew.set (HGX.out.trans gw0) HGB.out _ _).trans gw0⟩
       case measure=>simp [intOf];omega
open Go Go.RowKit Amp Msh
end Go.Proofs.YtchdmecjhaanfaaGreatDoor
