/- Layer 9, in main's ghost: the law ProbeTwins. Condition: the tries lie in memory, the table is laid. -/
import Derived.Test.YtnceajabigdleaaDoorPtQ987
namespace Go.Proofs.Qm
open Go Go.Pt Go.RowKit Prb
theorem mem_ints {L:List Nat} {x:Nat}:((x:Int)∈ints L)↔x∈L:=by
 unfold ints;rw [List.mem_map];constructor
 · rintro ⟨y,hy,e⟩
   have:y=x:=Int.ofNat.inj e;exact this ▸ hy
 · intro h
   exact ⟨x,h,by simp⟩
theorem tch_take (S:Nat) {ps:List (Nat × Nat)} {i:Nat} {p:Nat × Nat} (h:ps[i]? = some p):((ps.take (i+1)).filter (tchB S)).length=((ps.take i).filter (tchB S)).length+if tchB S p then 1 else 0:=by
 rw [List.take_add_one,h,Option.toList_some,List.filter_append,List.length_append]
 congr 1
 cases hp:tchB S p <;> simp [hp]
theorem ptB_ans {n:Int} {z:Tq} {x y:Nat}:ptB n z x y=(((ansF n x z:Nat):Int) != ((ansF n y z:Nat):Int)):=by
 rw [ne_cast];rfl
theorem prs_len (tw:Nat→Nat→Bool) (N:Nat) (hN:N≤64):(prsP tw (List.range N) (List.range N)).length≤4096:=by
 have h:∀ pre:List Nat,(prsP tw (List.range N) pre).length≤pre.length*64:=by
  intro pre
  induction pre with
  | nil=>simp [prsP]
  | cons x r ih =>
    unfold prsP at *
    rw [List.flatMap_cons,List.length_append,List.length_cons];have:(rowP tw x (List.range N)).length≤64:=by
     unfold rowP;rw [List.length_map];exact Nat.le_trans (List.length_filter_le _ _) (by rw [List.length_range];exact hN)
    omega
 have:=h (List.range N);rw [List.length_range] at this;omega
set_option maxRecDepth 100000 in
set_option maxHeartbeats 12800000 in
theorem probeTwins_walk (n s:Int) (a:Option Addr) (cap:Nat) (l:List Tq) (o:Int) (w:World) (hl:l.length≤9223372036854775807) (hc:TqAt w a l) (hD:DebAt w) :
  Calls prog 8 #[.int .i64 n,.int .i64 s,.slice a l.length cap,.int .i64 o] w fun e w'=>e=.returned (.bool true)∧Below w.heap.size w w':=by
 have HM:=hid fun w' (hg:Grew w w')=>many_any a cap l w' hl (hc.grew hg)
 have HW:=hid fun w=>awake_any w
 cases hm:manyB l with
 | true =>
   rw [hm] at HM;clear hc hD hm;go_enter func8,ntmps8
   go_wp2_with fail
   refine (HM.out _ gw0).mono ?_;rintro e w' ⟨rfl,g1,n1,rfl⟩;go_wp2_with fail
   refine (HW.out _).mono ?_;rintro e w' ⟨rfl,g2,n2,rfl⟩;go_wp2_with fail
   exact bodyPost_ret (v:=.bool true) (by simp [results,go_sem]) rfl ⟨rfl,Grew.below gw0⟩
 | false =>
 rw [hm] at HM;clear hm;by_cases hz:finZ n s l=0
 case neg =>
  have HF:=hid fun w' (hg:Grew w w')=>(Find_err n s a cap l w' hl (hc.grew hg) hz).mono fun e w'' (h:FinP ([],[]) (finZ n s l) w' e w'')=>(show ∃ (a1:Option Addr) (k1:Nat) (a2:Option Addr) (k2:Nat),e=.returned (.tuple #[.slice a1 0 k1,.slice a2 0 k2,.int .i64 (finZ n s l)])∧Below w.heap.size w w'' from by obtain ⟨a1,k1,Ft,a2,k2,h1,h2,h3,h4,h5⟩:=h;exact ⟨a1,k1,a2,k2,by rw [h1,show Ft=[] from List.map_eq_nil_iff.1 h3];rfl,hg.below.trans (h5.mono hg.size)⟩)
  have e1:(finZ n s l != 0)=true:=by simpa using hz
  obtain ⟨r,hr⟩:∃ r,finZ n s l=r:=⟨_,rfl⟩;rw [hr] at HF e1;clear hz hr hc hD;go_enter func8,ntmps8
  go_wp2_with fail
  refine (HM.out _ gw0).mono ?_;rintro e w' ⟨rfl,g1,n1,rfl⟩;go_wp2_with fail
  refine (HF.out _ gw0).mono ?_;rintro e w1 ⟨a1,k1,a2,k2,rfl,hL1⟩;have HL1:=hid hL1;clear hL1;go_wp2_with fail
  refine (HW.out _).mono ?_;rintro e w' ⟨rfl,g2,n2,rfl⟩;go_wp2_with fail
  exact bodyPost_ret (v:=.bool true) (by simp [results,go_sem]) rfl ⟨rfl,below_grew HL1.out gw0 HL1.out.size⟩
 obtain ⟨N,m,S,hn,hS,rfl,hl40,hfit⟩:=finZ_yes hz;obtain ⟨R,hT,hC⟩:=twC n N m S hn hS a cap l w hl40 hc hfit hD;have hN64:N≤64:=by omega
 have hN1:1≤N:=by omega
 obtain ⟨ps,hps⟩:∃ ps,prsP (twB n l) (List.range N) (List.range N)=ps:=⟨_,rfl⟩;have HF:=hid hC.find;have HLE:=hid hC.left;have HAL:=hid hC.all;have HTW:=hid hC.twins;have HSA:=hid hC.same;have HH:=hid hC.has;have HHA:=hid hC.hasAll;have HAN:=hid hC.ans;have HT:=hid hT;have HC:=hid hc;have HPM:=hid fun p (hp:p∈ps)=>prs_mem (hps ▸ hp:p∈prsP (twB n l) (List.range N) (List.range N))
 have HTL:=hid (touch_len (twB n l) (tw_sym n l) N S (tw_self n l S) hS);have HHS:=hid fun a k w' (h1:NsA w' a (ints R.1))=>(show Calls prog 25 #[.slice a R.1.length k,.int .i64 (S:Nat)] w' fun e w''=>e=.returned (.bool true)∧Grew w' w'' from by
  have h:=hC.has a k (S:Nat) w' h1;rw [decide_eq_true (mem_ints.2 (by rw [hT.tw];exact List.mem_filter.2 ⟨List.mem_range.2 hS,tw_self n l S⟩))] at h;exact h)
 have hfew:R.2.length<N:=hT.few;have hN0:¬ N=0:=by omega
 have hfw:¬ N≤R.2.length:=by omega
 have hfd:decide ((N:Int)≤(R.2.length:Int))=false:=decide_eq_false (by omega);have hR1:R.1.length≤64:=by rw [hT.tw];exact Nat.le_trans (List.length_filter_le _ _) (by rw [List.length_range];exact hN64)
 have hpl:ps.length≤4096:=by rw [← hps];exact prs_len _ N hN64
 rw [hps] at HTW HTL;rw [← hT.tw] at HTL;clear hC hT hc hD hz hfit hn hps;go_enter func8,ntmps8
 go_wp2_with fail
 refine (HM.out _ gw0).mono ?_;rintro e w' ⟨rfl,g1,n1,rfl⟩;go_wp2_with fail
 refine (HF.out _ gw0).mono ?_;rintro e w1 ⟨a1,k1,F1,a2,k2,rfl,ht1,he1,hn1,hL1⟩;have HL1:=hid hL1;have HT1:=hid ht1;have HN1:=hid hn1;have HE1:=hid he1;clear hL1 ht1 hn1 he1;go_wp2_with fail
 refine (HLE.out _ _ _ _ HL1.out HT1.out HE1.out).mono ?_;rintro e w2 ⟨a3,k3,rfl,hn2,hB2,hL2⟩;have HL2:=hid hL2;have HN2:=hid hn2;have HN1:=hid (HN1.out.below hB2);clear hL2 hn2 hB2 HL1 HT1 HE1;go_wp2_with fail
 refine (HAL.out _ HL2.out).mono ?_;rintro e w3 ⟨a4,k4,rfl,hn3,hB3,hL3⟩;have HL3:=hid hL3;have HN3:=hid hn3;have HN2:=hid (HN2.out.below hB3);have HN1:=hid (HN1.out.below hB3);clear hL3 hn3 hB3 HL2;go_wp2_with fail
 refine (HSA.out _ _ _ _ _ HN2.out HN1.out).mono ?_;rintro e w' ⟨rfl,g2,n2,rfl⟩;go_wp2_with fail
 refine (HHS.out _ _ _ (HN1.out.below (Grew.below gw0))).mono ?_;rintro e w' ⟨rfl,g3,n3,rfl⟩;go_wp2_with fail
 refine (HTW.out _ _ _ (below_grew HL3.out gw0 HL3.out.size) (HN3.out.below (Grew.below gw0))).mono ?_;rintro e w4 ⟨a5,k5,rfl,hp4,hB4,hL4⟩;have HL4:=hid hL4;have HP4:=hid hp4;have HN4:=hid (HN3.out.below ((Grew.below gw0).trans (hB4.mono (Grew.size gw0))));have HN1:=hid (HN1.out.below ((Grew.below gw0).trans (hB4.mono (Grew.size gw0))));clear hL4 hB4 hp4 HL3 HN3 HN2;go_wp2_with fail
 go_loopw [18,99] (fun c v wr=>∃ i:Nat,i≤ps.length∧v=.int .i64 i∧c=.int .i64 (1+((ps.take i).filter (tchB S)).length:Nat)∧Grew w4 wr) (fun _ v _=>ps.length - (intOf v).toNat)
 case atStart=>exact ⟨0,Nat.zero_le _,rfl,rfl,gw0⟩
 case round =>
  obtain ⟨i,hi,rfl,rfl,hgr⟩:=hrel;have HG:=hid hgr;by_cases hlt:i<ps.length
  · obtain ⟨p,hp⟩:∃ p,ps[i]? = some p:=⟨ps[i],List.getElem?_eq_getElem hlt⟩
    obtain ⟨q1,q2,q3,q4⟩:=HPM.out p (List.mem_of_getElem? hp);have q1:=List.mem_range.1 q1;have q2:=List.mem_range.1 q2;obtain ⟨b1,rfl,hb1,c0,c1⟩:=(HP4.out.below hgr.below) i p hp;have HTK:=hid (tch_take S hp);have HNR:=hid (HN1.out.below hgr.below);have p1:=fun m0:Nat=>Nat.lt_add_right m0 hb1
    obtain ⟨x,y⟩:=p;obtain ⟨C,hC⟩:∃ C,((ps.take i).filter (tchB S)).length=C:=⟨_,rfl⟩;have hC1:C≤4096:=by rw [← hC];exact Nat.le_trans (List.length_filter_le _ _) (Nat.le_trans (List.length_take_le _ _) (by omega))
    rw [hC] at HTK ⊢;have HQ4:=hid q4;have q1:x<N:=q1;have q2:y<N:=q2;have q3:x<y:=q3;clear hp hC hgr q4;have hS64:S<64:=by omega
    have hx64:x<64:=by omega
    have hy64:y<64:=by omega
    have HHY:Hid (∀ (z:Nat),(z<N∧twB n l S z=true)→∀ (X:Int) (a:Option Addr) (k:Nat) (w':World),X=(z:Int)→NsA w' a (ints R.1)→Calls prog 25 #[.slice a R.1.length k,.int .i64 X] w' fun e w''=>e=.returned (.bool true)∧Grew w' w''):=hid (by
     rintro z ⟨hz1,hz2⟩ X a k w' rfl h1;have h:=HH.out a k (z:Nat) w' h1;rw [decide_eq_true (mem_ints.2 (by rw [HT.out.tw];exact List.mem_filter.2 ⟨List.mem_range.2 hz1,hz2⟩))] at h;exact h)
    by_cases hx:x=S
    · subst hx
      have e1:((x:Int) != (x:Int))=false:=by simp
      have HTK:=hid (HTK.out.trans (by rw [show tchB x (x,y)=true by simp [tchB]];rfl:_=C+1));have HHZ:=hid (HHY.out y ⟨q2,HQ4.out⟩);clear HHY;go_wp2_with fail
      refine (HHZ.out _ _ _ _ (by omega) (HNR.out.below (Grew.below gw0))).mono ?_;rintro e w' ⟨rfl,g4,n4,rfl⟩;go_wp2_with fail
      go_roundw
      case rel=>exact ⟨i+1,by omega,by go_num,by rw [HTK.out];go_num,(by repeat (first | exact HG.out | refine Grew.drewN ?_ _ | refine Grew.grow ?_ _ | refine Grew.alloc ?_ _ | refine Grew.drew ?_))⟩
      case measure=>simp [intOf];omega
    · have e1:((x:Int) != (S:Int))=true:=by rw [ne_cast];exact decide_eq_true hx
      by_cases hy:y=S
      · subst hy
        have e2:((y:Int) != (y:Int))=false:=by simp
        have HTK:=hid (HTK.out.trans (by rw [show tchB y (x,y)=true by simp [tchB]];rfl:_=C+1));have HHZ:=hid (HHY.out x ⟨q1,by rw [tw_sym];exact HQ4.out⟩);clear HHY;go_wp2_with fail
        refine (HHZ.out _ _ _ _ (by omega) (HNR.out.below (Grew.below gw0))).mono ?_;rintro e w' ⟨rfl,g4,n4,rfl⟩;go_wp2_with fail
        go_roundw
        case rel=>exact ⟨i+1,by omega,by go_num,by rw [HTK.out];go_num,(by repeat (first | exact HG.out | refine Grew.drewN ?_ _ | refine Grew.grow ?_ _ | refine Grew.alloc ?_ _ | refine Grew.drew ?_))⟩
        case measure=>simp [intOf];omega
      · have e2:((y:Int) != (S:Int))=true:=by rw [ne_cast];exact decide_eq_true hy
        have HTK:=hid (HTK.out.trans (by rw [show tchB S (x,y)=false by simp [tchB,hx,hy]];rfl:_=C));clear HHY;go_wp2_with fail
        go_roundw
        case rel=>exact ⟨i+1,by omega,by go_num,by rw [HTK.out],(by repeat (first | exact HG.out | refine Grew.drewN ?_ _ | refine Grew.grow ?_ _ | refine Grew.alloc ?_ _ | refine Grew.drew ?_))⟩
        case measure=>simp [intOf];omega
  · obtain rfl:i=ps.length:=by omega
    have e1:1+((ps.take ps.length).filter (tchB S)).length=R.1.length:=by rw [List.take_length];exact HTL.out
    rw [e1];have e2:((R.1.length:Int) != (R.1.length:Int))=false:=by simp
    clear e1;have HN1:=hid (HN1.out.below hgr.below);have HN4:=hid (HN4.out.below hgr.below);clear hgr;have HG4:=hid (HL4.out.trans (HG.out.below.mono HL4.out.size));by_cases ho:o∈ints (List.range N)
    case neg =>
     have HHO:=hid fun a k w' h1=>by
      have h:=HHA.out a k o w' h1;rw [decide_eq_false ho] at h;exact h
     go_wp2_with fail
     refine (HHO.out _ _ _ HN4.out).mono ?_;rintro e w' ⟨rfl,g4,n4,rfl⟩;go_wp2_with fail
     refine (HW.out _).mono ?_;rintro e w' ⟨rfl,g5,n5,rfl⟩;go_wp2_with fail
     exact bodyPost_ret (v:=.bool true) (by simp [results,go_sem]) rfl ⟨rfl,below_grew HG4.out gw0 HG4.out.size⟩
    case pos =>
    have HHO:=hid fun a k w' h1=>by
     have h:=HHA.out a k o w' h1;rw [decide_eq_true ho] at h;exact h
    obtain ⟨O,rfl⟩:∃ O:Nat,o=(O:Int):=by
     unfold ints at ho;obtain ⟨y,_,e⟩:=List.mem_map.1 ho;exact ⟨y,e.symm⟩
    have hO:O<N:=List.mem_range.1 (mem_ints.1 ho);have HHL:=hid fun a k w' (h1:NsA w' a (ints R.1))=>(show Calls prog 25 #[.slice a R.1.length k,.int .i64 (O:Nat)] w' fun e w''=>e=.returned (.bool (twB n l S O))∧Grew w' w'' from by
     have h:=HH.out a k (O:Nat) w' h1;rw [show decide ((O:Int)∈ints R.1)=twB n l S O from by
      rw [HT.out.tw];cases ht:twB n l S O with
      | true=>exact decide_eq_true (mem_ints.2 (List.mem_filter.2 ⟨List.mem_range.2 hO,ht⟩))
      | false=>exact decide_eq_false fun h=>by have:=(List.mem_filter.1 (mem_ints.1 h)).2;rw [ht] at this;cases this] at h
     exact h)
    clear ho;go_wp2_with fail
    refine (HHO.out _ _ _ HN4.out).mono ?_;rintro e w' ⟨rfl,g4,n4,rfl⟩;go_wp2_with fail
    go_loopw [22,138] (fun c v wq=>∃ i:Nat,i≤l.length∧v=.int .i64 i∧c=.bool (!twB n (l.take i) S O)∧Grew wr wq) (fun _ v _=>l.length - (intOf v).toNat)
    case atStart=>exact ⟨0,Nat.zero_le _,rfl,rfl,gw0⟩
    case round =>
     obtain ⟨i,hi,rfl,rfl,hgr⟩:=hrel;have HGQ:=hid hgr;have HBQ:=hid (HG4.out.trans (hgr.below.mono HG4.out.size));by_cases hlt:i<l.length
     · obtain ⟨z,hz⟩:∃ z,l[i]? = some z:=⟨l[i],List.getElem?_eq_getElem hlt⟩
       obtain ⟨b1,o1,rfl,hb1,⟨c0,c1,c2⟩,hzl,_⟩:=(HC.out.below HBQ.out) i z hz;have hb1:=fun m0:Nat=>Nat.lt_add_right m0 hb1
       have HA1:=hid fun w' hg=>HAN.out z (List.mem_of_getElem? hz) S hS w' hg
       have HA2:=hid fun w' hg=>HAN.out z (List.mem_of_getElem? hz) O hO w' hg
       have HTK:Hid (twB n (l.take (i+1)) S O=(twB n (l.take i) S O&&!((ansF n S z:Nat):Int) != ((ansF n O z:Nat):Int))):=hid (by
        unfold twB;rw [List.take_add_one,hz,Option.toList_some,List.all_append];simp [ptB_ans])
       obtain ⟨A,hA⟩:∃ A,ansF n S z=A:=⟨_,rfl⟩;obtain ⟨B,hB⟩:∃ A,ansF n O z=A:=⟨_,rfl⟩;rw [hA,hB] at HTK;rw [hA] at HA1;rw [hB] at HA2;obtain ⟨c,hc⟩:∃ c,twB n (l.take i) S O=c:=⟨_,rfl⟩;rw [hc] at HTK ⊢;clear hz hA hB hc hgr;cases c with
       | true =>
         go_wp2_with fail
         refine (HA1.out _ (below_grew HBQ.out gw0 HBQ.out.size)).mono ?_;rintro e w' ⟨rfl,g5,n5,rfl⟩;go_wp2_with fail
         refine (HA2.out _ (below_grew HBQ.out gw0 HBQ.out.size)).mono ?_;rintro e w' ⟨rfl,g6,n6,rfl⟩;go_wp2_with fail
         go_roundw
         case rel=>exact ⟨i+1,by omega,by go_num,by rw [HTK.out];simp,(by repeat (first | exact HGQ.out | exact Grew.refl _ | refine Grew.drewN ?_ _ | refine Grew.grow ?_ _ | refine Grew.alloc ?_ _ | refine Grew.drew ?_))⟩
         case measure=>simp [intOf];omega
       | false =>
         go_wp2_with fail
         refine (HA1.out _ (below_grew HBQ.out gw0 HBQ.out.size)).mono ?_;rintro e w' ⟨rfl,g5,n5,rfl⟩;go_wp2_with fail
         refine (HA2.out _ (below_grew HBQ.out gw0 HBQ.out.size)).mono ?_;rintro e w' ⟨rfl,g6,n6,rfl⟩;go_wp2_with fail
         go_roundw
         case rel=>exact ⟨i+1,by omega,by go_num,by rw [HTK.out];simp,(by repeat (first | exact HGQ.out | exact Grew.refl _ | refine Grew.drewN ?_ _ | refine Grew.grow ?_ _ | refine Grew.alloc ?_ _ | refine Grew.drew ?_))⟩
         case measure=>simp [intOf];omega
     · obtain rfl:i=l.length:=by omega
       rw [List.take_length];obtain ⟨c,hc⟩:∃ c,twB n l S O=c:=⟨_,rfl⟩;rw [hc] at HHL ⊢;have e3:((!c) != c)=true:=by cases c <;> rfl
       have HN5:=hid (HN1.out.below hgr.below);clear hc hgr;go_wp2_with fail
       refine (HHL.out _ _ _ HN5.out).mono ?_;rintro e w' ⟨rfl,g5,n5,rfl⟩;go_wp2_with fail
       refine (HW.out _).mono ?_;rintro e w' ⟨rfl,g6,n6,rfl⟩;go_wp2_with fail
       exact bodyPost_ret (v:=.bool true) (by simp [results,go_sem]) rfl ⟨rfl,below_grew HBQ.out gw0 HBQ.out.size⟩
end Go.Proofs.Qm
