/- Layer 9, in main's ghost: the pairs that no try parts: the reference. Condition: the states and the tests lie in memory. -/
import Derived.Test.YtnceajabigdleaaDoorPtQ982
namespace Go.Proofs.Qm
open Go Go.Pt Go.RowKit Prb
theorem wpList_append_p {w:World} {ops:Array Oper} {rest:List Oper} {o:Oper} {a:Act} {Q:Exit→Act→World→Prop} (hgd:o.guard=none) (s x:Operand)
  (ho:o.op=.call { callee:=.builtin .append,args:=#[s,x],argTypes:=#[36,36] })
  (base:Nat) (a0:Option Addr) (k0:Nat) (xs:List (Nat × Nat)) (hs:a.eval s=.slice a0 xs.length k0) (hown:OwnP w base a0 k0 xs)
  (b c:Nat) (z:Nat × Nat) (hx:a.eval x=.slice (some ⟨b,0,none⟩) 1 c) (hz:w.cell? ⟨b,0,none⟩=some (.int .i64 (z.1:Nat))∧w.cell? ⟨b,1,none⟩=some (.int .i64 (z.2:Nat)))
  (hmax:xs.length≤100000) (hbase:base≤w.heap.size)
  (h:∀ a2 k2 w',OwnP w' base a2 k2 (xs++[z])→w.grownBy w' (Value.slice a0 xs.length k0).ownBlock→w.drawn≤w'.drawn→wpList prog ops Q rest (a.put o.dst (.slice a2 (xs++[z]).length k2)) w') :
  wpList prog ops Q (o::rest) a w:=by
 obtain ⟨i0,hi,hz0,hz1,hz2⟩:=info_parts info_p;refine wpList_append_behind hgd s x 36 ho base 57 i0 (.agg #[.int .i64 0,.int .i64 0]) 2 16 und_p hi hz0 hz1 hz2 rfl (by decide) _ _ (pCells xs) hs hown ⟨b,0,none⟩ 1 c [.int .i64 (z.1:Nat),.int .i64 (z.2:Nat)] hx rfl ?_ (fun u hu=>pCells_one (l:=[z]) hu) (by unfold maxLen;omega) (by omega) hbase fun v' w' hown' hgrow _ hdr=>?_
 · intro j u hj
   match j,hj with
   | 0,hj=>simp at hj;subst hj;simpa [Addr.add] using hz.1
   | 1,hj=>simp at hj;subst hj;simpa [Addr.add] using hz.2
 · obtain ⟨a2,k2,rfl⟩:=ownsRow_slice hown'
   rw [show xs.length+1=(xs++[z]).length by simp,show pCells xs++[.int .i64 (z.1:Nat),.int .i64 (z.2:Nat)]=pCells (xs++[z]) by simp [pCells]] at hown';rw [show xs.length+1=(xs++[z]).length by simp];exact h a2 k2 w' hown' hgrow hdr
def rowR (tw:Nat→Nat→Bool) (x:Nat) (pre:List Nat):List (Nat × Nat):=(pre.filter fun y=>tw x y).map fun y=>(x,y)
theorem rowR_snoc (tw:Nat→Nat→Bool) (x:Nat) (pre:List Nat) (y:Nat):rowR tw x (pre++[y])=rowR tw x pre++(if tw x y then [(x,y)] else []):=by
 unfold rowR;rw [List.filter_append,List.map_append]
 congr 1
 cases h:tw x y <;> simp [List.filter,h]
theorem rowR_len (tw:Nat→Nat→Bool) (x:Nat) (pre:List Nat):(rowR tw x pre).length≤pre.length:=by
 unfold rowR;rw [List.length_map];exact List.length_filter_le _ _
theorem asc_post:∀ {pre r:List Nat} {x:Nat},Asc (pre++x::r)→∀ y∈r,x<y
 | [],_,_,h=>fun y hy=>h.1 y hy
 | _::pre,_,_,h=>asc_post (pre:=pre) h.2
theorem rowP_asc (tw:Nat→Nat→Bool) {L:List Nat} (ha:Asc L) {i x:Nat} (hx:L[i]? = some x):rowP tw x L=rowR tw x (L.drop (i+1)):=by
 obtain ⟨hi,rfl⟩:=List.getElem?_eq_some_iff.1 hx;have e:L=L.take i++L[i]::L.drop (i+1):=by rw [List.getElem_cons_drop,List.take_append_drop]
 obtain ⟨x,hxx⟩:∃ x,L[i]=x:=⟨_,rfl⟩;rw [hxx] at e ⊢;obtain ⟨A,hA⟩:∃ A,L.take i=A:=⟨_,rfl⟩;obtain ⟨B,hB⟩:∃ B,L.drop (i+1)=B:=⟨_,rfl⟩;rw [hA,hB] at e;rw [hB,e];rw [e] at ha;have h1:=(asc_pre ha).2;have h2:=asc_post ha;unfold rowP rowR
 congr 1
 rw [List.filter_append,List.filter_cons];have a1:A.filter (fun y=>decide (x<y)&&tw x y)=[]:=by
  rw [List.filter_eq_nil_iff];intro y hy;have:=h1 y hy;simp;omega
 rw [a1,List.nil_append];simp only [Nat.lt_irrefl,decide_false,Bool.false_and,Bool.false_eq_true,if_false];refine List.filter_congr fun y hy=>?_
 rw [decide_eq_true (h2 y hy),Bool.true_and]
set_option maxRecDepth 100000 in
set_option maxHeartbeats 6400000 in
theorem rTwins_yes (n:Int) (N m:Nat) (hn:(n=2∧N=2∧m=2)∨(n=4∧N=64∧m=4)) (sa:Option Addr) (scap:Nat) (L:List Nat) (a:Option Addr) (cap:Nat) (l:List Tq) (w:World) (hsc:L.length≤scap) (hl:l.length≤40) (hs:NsA w sa (ints L)) (hok:okFrom N 0 (ints L)=true) (hasc:Asc L) (hlt:∀ y∈L,y<N) (hc:TqAt w a l) (h:tqsB n l=true) :
  Calls prog 19 #[.int .i64 n,.slice sa L.length scap,.slice a l.length cap] w (TwnP (prsP (twB n l) L L) 0 w):=by
 have hn2:n=2∨n=4:=hn.imp (fun h=>h.1) (fun h=>h.1);have hNt:(N:Int)=topN n:=by rcases hn with ⟨rfl,rfl,_⟩ | ⟨rfl,rfl,_⟩ <;> rfl
 have hlen64:=asc_len (lo:=0) hasc (fun y hy=>⟨Nat.zero_le _,by have:=hlt y hy;omega⟩) (by decide);have hiln:=ints_len L;have HT:=hid fun w' (hg:Grew w w')=>tried_any n sa scap (ints L) a cap l w' (by omega) (by omega) (hs.grew hg) (hc.grew hg)
 have ht0:triZ n (ints L) l=0:=by
  unfold triZ;have:cntZ n≠0:=by rcases hn2 with rfl | rfl <;> simp [cntZ]
  rw [if_neg (by rw [← hNt,hok];simp [this]),if_neg (by rw [h,decide_eq_true hl];simp)]
 rw [ht0,hiln] at HT;have HTW:=hid fun x y (hx:x∈L) (hy:y∈L) w' (hg:Grew w w')=>rtw_any n N m x y hn (hlt x hx) (hlt y hy) a cap l w' hl (hc.grew hg) h
 obtain ⟨tw,htw⟩:∃ tw,twB n l=tw:=⟨_,rfl⟩;rw [htw] at HTW ⊢;obtain ⟨LE,hLE⟩:∃ LE,l.length=LE:=⟨_,rfl⟩;rw [hLE] at HT HTW hl ⊢;have HS:=hid hs;have HPA:=hid fun (i x:Nat) (hx:L[i]? = some x)=>rowP_asc tw hasc hx
 clear hs hc h hok hn hn2 hNt hlt ht0 htw hLE hasc hiln;go_enter func19,ntmps19
 go_wp2_with fail
 refine (HT.out _ gw0).mono ?_;rintro e w' ⟨rfl,g1,n1,rfl⟩;go_wp2_with fail
 go_loopw [9,23] (fun s v wr=>∃ (i:Nat) (a4:Option Addr) (k4:Nat),i≤L.length∧v=.int .i64 i∧s=.slice a4 (prsP tw L (L.take i)).length k4∧Hid (OwnP wr w.heap.size a4 k4 (prsP tw L (L.take i)))∧Hid (Grew w wr)) (fun _ v _=>L.length - (intOf v).toNat)
 case atStart=>exact ⟨0,none,0,Nat.zero_le _,rfl,rfl,OwnP.nil _ _,gw0⟩
 case round =>
  obtain ⟨i,a4,k4,hi,rfl,rfl,HO,HG⟩:=hrel;by_cases hlti:i<L.length
  · obtain ⟨x,hx⟩:∃ x,L[i]? = some x:=⟨L[i],List.getElem?_eq_getElem hlti⟩
    obtain ⟨b,off,rfl,hb,c0⟩:=(HS.out.grew HG.out) i x (ints_at hx);have hb1:=fun m0:Nat=>Nat.lt_add_right m0 hb
    have Hx:=hid hx;clear hx;have hPL:=Nat.le_trans (prsP_len tw (show L.length≤64 by omega) (L.take i)) (show _≤4096 by rw [List.length_take];omega);have HPS:=hid (show prsP tw L (L.take (i+1))=prsP tw L (L.take i)++rowR tw x (L.drop (i+1)) by rw [List.take_add_one,Hx.out,Option.toList_some,prsP_snoc,HPA.out i x Hx.out]);obtain ⟨P,hP⟩:∃ P,prsP tw L (L.take i)=P:=⟨_,rfl⟩;rw [hP] at HO HPS hPL ⊢;clear hP;have hDl:(L.drop (i+1)).length=L.length - (i+1):=List.length_drop;have HDA:=hid fun (j y:Nat) (hy:(L.drop (i+1))[j]? = some y)=>(show L[i+1+j]? = some y from by rw [List.getElem?_drop] at hy;exact hy)
    obtain ⟨D,hD⟩:∃ D,L.drop (i+1)=D:=⟨_,rfl⟩;rw [hD] at HPS hDl HDA;have hxL:x∈L:=List.mem_of_getElem? Hx.out;clear hD;by_cases hcap:scap=i+1
    · have hL1:L.length=i+1:=by omega
      have HD0:=hid (List.eq_nil_of_length_eq_zero (show D.length=0 by omega));have HPZ:=hid (show P++rowR tw x D=P by rw [HD0.out,show rowR tw x []=[] from rfl,List.append_nil]);have HDX:=hid hDl;clear hDl;go_wp2_with fail
      refine wp_loop_rounds 1 ?_;simp only [rounds_succ];go_wp2_with fail
      go_roundw
      case rel=>exact ⟨i+1,a4,k4,by omega,by go_num,by rw [HPS.out,HPZ.out],hid (by rw [HPS.out,HPZ.out];exact HO.out),HG⟩
      case measure=>simp [intOf];omega
    · go_wp2_with fail
      obtain ⟨Rn,hRn⟩:∃ Rn,L.length - (i+1)=Rn:=⟨_,rfl⟩;rw [hRn] at hDl ⊢;have hRn2:i+1+Rn=L.length:=by omega
      have HDX:=hid hDl;clear hDl hRn;go_loopw [9,33] (fun s v wq=>∃ (j:Nat) (a5:Option Addr) (k5:Nat),j≤Rn∧v=.int .i64 j∧s=.slice a5 (P++rowR tw x (D.take j)).length k5∧Hid (OwnP wq w.heap.size a5 k5 (P++rowR tw x (D.take j)))∧Hid (Grew w wq)) (fun _ v _=>Rn - (intOf v).toNat)
      case atStart=>exact ⟨0,a4,k4,Nat.zero_le _,rfl,by rw [List.take_zero,show rowR tw x []=[] from rfl,List.append_nil],hid (by rw [List.take_zero,show rowR tw x []=[] from rfl,List.append_nil];exact HO.out),HG⟩
      case round =>
       obtain ⟨j,a5,k5,hj,rfl,rfl,HO5,HG5⟩:=hrel;by_cases hltj:j<Rn
       · obtain ⟨y,hy⟩:∃ y,D[j]? = some y:=⟨D[j]'(by have:=HDX.out;omega),List.getElem?_eq_getElem _⟩
         have hyL:=HDA.out j y hy;obtain ⟨b',off',e,hb5,c5⟩:=(HS.out.grew HG5.out) (i+1+j) y (ints_at hyL);obtain ⟨rfl,rfl⟩:b=b'∧off=off':=by injection e with e;injection e with e1 e2;exact ⟨e1,e2⟩
         have c6:=c5;rw [show off+(i+1+j)=off+(i+1)+j by omega] at c6;have hb6:=fun m0:Nat=>Nat.lt_add_right m0 hb5
         have HTY:=hid fun w' hg=>HTW.out x y hxL (List.mem_of_getElem? hyL) w' (HG5.out.trans hg)
         have hsn:=rowR_snoc tw x (D.take j) y;rw [show D.take j++[y]=D.take (j+1) by rw [List.take_add_one,hy];rfl] at hsn;have hrl:=rowR_len tw x (D.take j);rw [List.length_take] at hrl;have hx9:(P++rowR tw x (D.take j)).length≤8192:=by rw [List.length_append];omega
         have HSN:=hid (show P++rowR tw x (D.take (j+1))=(P++rowR tw x (D.take j))++(if tw x y then [(x,y)] else []) by rw [hsn,List.append_assoc]);obtain ⟨xs,hX⟩:∃ xs,P++rowR tw x (D.take j)=xs:=⟨_,rfl⟩;rw [hX] at HSN HO5 hx9 ⊢;clear hX hrl hsn hy hyL e;cases htt:tw x y with
         | true =>
           rw [htt,if_pos rfl] at HSN;rw [htt] at HTY;clear htt;go_wp2_with fail
           refine (HTY.out _ gw0).mono ?_;rintro e w' ⟨rfl,g2,n2,rfl⟩;go_wp2_with (at_builtin;go_loud (refine wpList_append_p rfl _ _ rfl w.heap.size a5 k5 xs rfl (HO5.out.grew gw0) _ 1 (x,y) rfl (by simp [go_sem]) ?hmx ?hbs ?_))
           case hmx=>omega
           case hbs=>have:=HG5.out.size;(try simp [go_sem]);omega
           · intro a6 k6 wB hownB hgrowB hdrB
             have HGB:=hid (show Grew w wB from Grew.by (w':=_) (HG5.out.trans gw0) hgrowB hdrB (fun jj hjj=>ownsRow_above HO5.out jj hjj));have HOB:=hid hownB;clear hgrowB hdrB hownB;go_wp2_with fail
             go_roundw
             case rel=>exact ⟨j+1,a6,k6,by omega,by go_num,by rw [HSN.out];simp,hid (by rw [HSN.out];exact HOB.out),HGB⟩
             case measure=>simp [intOf];omega
         | false =>
           rw [htt,if_neg Bool.false_ne_true,List.append_nil] at HSN;rw [htt] at HTY;clear htt;go_wp2_with fail
           refine (HTY.out _ gw0).mono ?_;rintro e w' ⟨rfl,g2,n2,rfl⟩;go_wp2_with fail
           go_roundw
           case rel=>exact ⟨j+1,a5,k5,by omega,by go_num,by rw [HSN.out],hid (by rw [HSN.out];exact HO5.out.grew gw0),hid (HG5.out.trans gw0)⟩
           case measure=>simp [intOf];omega
       · obtain rfl:j=Rn:=by omega
         rw [List.take_of_length_le (show D.length≤j by have:=HDX.out;omega),← HPS.out] at HO5 ⊢;go_wp2_with fail
         go_roundw
         case rel=>exact ⟨i+1,a5,k5,by omega,by go_num,rfl,HO5,HG5⟩
         case measure=>simp [intOf];omega
  · obtain rfl:i=L.length:=by omega
    rw [List.take_length] at HO ⊢;obtain ⟨ps,hps⟩:∃ ps,prsP tw L L=ps:=⟨_,rfl⟩;rw [hps] at HO ⊢;have HPP:=hid hps;clear hps;go_wp2_with fail
    exact bodyPost_ret (v:=.tuple #[.slice a4 ps.length k4,.int .i64 0]) (by simp [results,go_sem]) rfl ⟨a4,k4,by rw [HPP.out],by rw [HPP.out];exact OwnP.psA HO.out,HG.out.below⟩
open Go Go.Pt Go.RowKit Prb
theorem psA_nil (w:World) (a:Option Addr):PsA w a []:=fun i p h=>by cases h
set_option maxHeartbeats 3200000 in
theorem Twins_err (n:Int) (sa:Option Addr) (scap:Nat) (sl:List Int) (a:Option Addr) (cap:Nat) (l:List Tq) (w:World) (hsl:sl.length≤9223372036854775807) (hl:l.length≤9223372036854775807) (hs:NsA w sa sl) (hc:TqAt w a l) (h:triZ n sl l≠0) :
  Calls prog 18 #[.int .i64 n,.slice sa sl.length scap,.slice a l.length cap] w (TwnP [] (triZ n sl l) w):=by
 have HC:=hid fun w=>pcount_any n w
 by_cases h0:cntZ n=0
 · rw [h0] at HC
   rw [show triZ n sl l=2 from if_pos (.inl h0)];clear hs hc h h0;go_enter func18,ntmps18
   go_wp2_with fail
   refine (HC.out _).mono ?_;rintro e w' ⟨rfl,rfl⟩;go_wp2_with fail
   exact bodyPost_ret (v:=.tuple #[.slice none 0 0,.int .i64 2]) (by simp [results,go_sem]) rfl ⟨none,0,rfl,psA_nil _ _,Grew.below gw0⟩
 have hn:=cntZ_ne h0;have HS:=hid fun w' (hg:Grew w w')=>states_any n hn sa scap sl w' hsl (hs.grew hg)
 have HF:=hid fun w' (hg:Grew w w')=>fit_any n hn a cap l w' hl (hc.grew hg)
 obtain ⟨c,hcc⟩:∃ c,cntZ n=c:=⟨_,rfl⟩;have h0c:c≠0:=by rw [← hcc];exact h0
 have e0:((c:Int)==0)=false:=by simpa using h0c
 rw [hcc] at HC;cases hok:okFrom (topN n) 0 sl with
 | false =>
   rw [hok] at HS;simp only [Bool.false_eq_true,if_false] at HS;rw [show triZ n sl l=2 from if_pos (.inr hok)];clear hs hc h h0 hok hn hcc h0c;go_enter func18,ntmps18
   go_wp2_with fail
   refine (HC.out _).mono ?_;rintro e w' ⟨rfl,rfl⟩;go_wp2_with fail
   refine (HS.out _ gw0).mono ?_;rintro e w' ⟨rfl,rfl⟩;go_wp2_with fail
   exact bodyPost_ret (v:=.tuple #[.slice none 0 0,.int .i64 2]) (by simp [results,go_sem]) rfl ⟨none,0,rfl,psA_nil _ _,Grew.below gw0⟩
 | true =>
   rw [hok] at HS;simp only [if_true] at HS;have hno:¬ (cntZ n=0∨okFrom (topN n) 0 sl=false):=by rw [hok];simp [h0]
   have hf:(decide (l.length≤40)&&tqsB n l)=false:=by
    cases hf:(decide (l.length≤40)&&tqsB n l) with
    | false=>rfl
    | true=>exact absurd ((if_neg hno).trans (if_neg (by rw [hf];simp))) h
   rw [hf] at HF;rw [show triZ n sl l=90 from (if_neg hno).trans (if_pos hf)];obtain ⟨S,hS⟩:∃ S,setS (sl.map Int.toNat)=S:=⟨_,rfl⟩;rw [hS] at HS;clear hs hc h h0 hok hn hcc h0c hno hf hS;go_enter func18,ntmps18
   go_wp2_with fail
   refine (HC.out _).mono ?_;rintro e w' ⟨rfl,rfl⟩;go_wp2_with fail
   refine (HS.out _ gw0).mono ?_;rintro e w' ⟨rfl,rfl⟩;go_wp2_with fail
   refine (HF.out _ gw0).mono ?_;rintro e w' ⟨rfl,g1,n1,rfl⟩;go_wp2_with fail
   exact bodyPost_ret (v:=.tuple #[.slice none 0 0,.int .i64 90]) (by simp [results,go_sem]) rfl ⟨none,0,rfl,psA_nil _ _,Grew.below gw0⟩
set_option maxHeartbeats 3200000 in
theorem rTwins_err (n:Int) (sa:Option Addr) (scap:Nat) (sl:List Int) (a:Option Addr) (cap:Nat) (l:List Tq) (w:World) (hsl:sl.length≤9223372036854775807) (hl:l.length≤9223372036854775807) (hs:NsA w sa sl) (hc:TqAt w a l) (h:triZ n sl l≠0) :
  Calls prog 19 #[.int .i64 n,.slice sa sl.length scap,.slice a l.length cap] w (TwnP [] (triZ n sl l) w):=by
 have HT:=hid fun w' (hg:Grew w w')=>tried_any n sa scap sl a cap l w' hsl hl (hs.grew hg) (hc.grew hg)
 obtain ⟨r,hr⟩:∃ r,triZ n sl l=r:=⟨_,rfl⟩;rw [hr] at HT h ⊢;have e1:(r != 0)=true:=by simpa using h
 clear hs hc hr;go_enter func19,ntmps19
 go_wp2_with fail
 refine (HT.out _ gw0).mono ?_;rintro e w' ⟨rfl,g1,n1,rfl⟩;go_wp2_with fail
 exact bodyPost_ret (v:=.tuple #[.slice none 0 0,.int .i64 r]) (by simp [results,go_sem]) rfl ⟨none,0,rfl,psA_nil _ _,Grew.below gw0⟩
theorem ints_of_ok {N:Int} {l:List Int} (h:okFrom N 0 l=true):ints (l.map Int.toNat)=l:=by
 unfold ints;rw [List.map_map];conv=>rhs;rw [← List.map_id l]
 refine List.map_congr_left fun z hz=>?_
 have:=ok_at h z hz;show ((z.toNat:Int))=z
 omega
theorem Twins_both (n:Int) (sa:Option Addr) (scap:Nat) (sl:List Int) (a:Option Addr) (cap:Nat) (l:List Tq) (w:World) (hsc:sl.length≤scap) (hsl:sl.length≤9223372036854775807) (hl:l.length≤9223372036854775807) (hs:NsA w sa sl) (hc:TqAt w a l) (hD:DebAt w) :
  ∃ (ps:List (Nat × Nat)) (r:Int),ps.length≤4096∧(∀ w',Below w.heap.size w w'→Calls prog 18 #[.int .i64 n,.slice sa sl.length scap,.slice a l.length cap] w' (TwnP ps r w'))∧∀ w',Below w.heap.size w w'→Calls prog 19 #[.int .i64 n,.slice sa sl.length scap,.slice a l.length cap] w' (TwnP ps r w'):=by
 by_cases h:triZ n sl l=0
 case neg=>exact ⟨[],_,by simp,fun w' hg=>Twins_err n sa scap sl a cap l w' hsl hl (hs.below hg) (hc.below hg) h,fun w' hg=>rTwins_err n sa scap sl a cap l w' hsl hl (hs.below hg) (hc.below hg) h⟩
 obtain ⟨h0,hok,h40,ht⟩:=tri_ok h;obtain ⟨N,m,hN,hok⟩:∃ N m:Nat,((n=2∧N=2∧m=2)∨(n=4∧N=64∧m=4))∧okFrom N 0 sl=true:=by
  rcases cntZ_ne h0 with rfl | rfl
  · exact ⟨2,2,.inl ⟨rfl,rfl,rfl⟩,hok⟩
  · exact ⟨64,4,.inr ⟨rfl,rfl,rfl⟩,hok⟩
 have hasc:=(asc_of_ok (Int.le_refl _) hok).1;have hlt:=lt_of_ok hok;have hN64:N≤64:=by omega
 have hi:=ints_of_ok hok;have hlen:=asc_len (lo:=0) hasc (fun y hy=>⟨Nat.zero_le _,by have:=hlt y hy;omega⟩) (by decide);refine ⟨prsP (twB n l) (sl.map Int.toNat) (sl.map Int.toNat),0,Nat.le_trans (prsP_len _ (by omega) _) (by omega),fun w' hg=>Twins_yes n N m hN sa scap sl a cap l w' hsl h40 (hs.below hg) hok (hc.below hg) ht (hD.of_block (hg.block 0 hD.1)),fun w' hg=>?_⟩;have:=rTwins_yes n N m hN sa scap (sl.map Int.toNat) a cap l w' (by rw [List.length_map];exact hsc) h40 (by rw [hi];exact hs.below hg) (by rw [hi];exact hok) hasc hlt (hc.below hg) ht;rw [List.length_map] at this;exact this
set_option maxRecDepth 10000 in
theorem eq_pair (a b c d:Int) (w:World):(Op.equalIn 10000 57 (.agg #[.int .i64 a,.int .i64 b]) (.agg #[.int .i64 c,.int .i64 d])).run prog w=.ok (a==c&&b==d) w:=by
 have ht:prog.underlying 57=some (.array 2 3):=(p_underlying 57).trans Tryd.underlying57;have h3:prog.underlying 3=some (.int .i64):=(p_underlying 3).trans Tryd.underlying3;have hp0:∀ (x0 x1:Value) w,(part 3 #[x0,x1] 0).run prog w=.ok x0 w:=fun _ _ w=>by kernel_rfl
 have hp1:∀ (x0 x1:Value) w,(part 3 #[x0,x1] 1).run prog w=.ok x1 w:=fun _ _ w=>by kernel_rfl
 have he:∀ (a b:Int) w,(Op.equalIn 9999 3 (.int .i64 a) (.int .i64 b)).run prog w=.ok (a==b) w:=fun a b w=>run_equalIn_int w 9998 3 .i64 .i64 a b h3
 obtain ⟨i,hi,_⟩:=info_parts zok.info;rw [run_equalIn_array w 9999 _ _ ht hi,show prog.cellsOf 3=1 by kernel_rfl,show List.range 2=[0,1] from rfl];simp only [Op.eqItems,Sem.run_bind,Nat.zero_mul,Nat.one_mul,hp0,he,Result.andThen_ok];by_cases e0:a=c
 case neg=>simp [e0]
 by_cases e1:b=d <;> simp [e0,e1,hp1,he]
@[go_sem high] theorem neq_pair (a b c d : Int) (w : World) : (binOp .neq 57 (.agg #[.int .i64 a, .int .i64 b]) (.agg #[.int .i64 c, .int .i64 d])).run prog w = .ok (.bool (!(a == c && b == d))) w := by
  rw [run_neq_struct,eq_pair];rfl
@[go_sem] theorem guard_pair:prog.eqGuardType prog.depth 57=false:=by kernel_rfl
set_option maxHeartbeats 3200000 in
theorem smp_any (a b:Option Addr) (ka kb:Nat) (l:List (Nat × Nat)) (w:World) (hl:l.length≤9223372036854775807) (ha:PsA w a l) (hb:PsA w b l) :
  Calls prog 20 #[.slice a l.length ka,.slice b l.length kb] w fun e w'=>e=.returned (.bool true)∧Grew w w':=by
 have HA:=hid ha;have HB:=hid hb;clear ha hb;go_enter func20,ntmps20
 go_wp2_with fail
 go_loopw [13] (fun v wr=>∃ i:Nat,i≤l.length∧v=.int .i64 i∧Grew w wr) (fun v _=>l.length - (intOf v).toNat)
 case atStart=>exact ⟨0,Nat.zero_le _,rfl,Grew.refl _⟩
 case round =>
  obtain ⟨i,hi,rfl,g,k,rfl⟩:=hrel;by_cases hlt:i<l.length
  · obtain ⟨p,hp⟩:∃ p,l[i]? = some p:=⟨l[i],List.getElem?_eq_getElem hlt⟩
    obtain ⟨b1,rfl,hb1,c0,c1⟩:=HA.out i p hp;obtain ⟨b2,rfl,hb2,c2,c3⟩:=HB.out i p hp;have p1:=fun m0:Nat=>Nat.lt_add_right m0 hb1
    have q1:=fun m0:Nat=>Nat.lt_add_right m0 hb2
    obtain ⟨x,hx⟩:∃ x,p.1=x:=⟨_,rfl⟩;obtain ⟨y,hy⟩:∃ y,p.2=y:=⟨_,rfl⟩;rw [hx] at c0 c2;rw [hy] at c1 c3;clear hp hx hy;go_wp2_with fail
    go_region
    go_wp2_with fail
    go_roundw
    case rel=>exact ⟨i+1,by omega,by go_num,gw0⟩
    case measure=>simp [intOf];omega
  · obtain rfl:i=l.length:=by omega
    go_wp2_with fail
    exact bodyPost_ret (v:=.bool true) (by simp [results,go_sem]) rfl ⟨rfl,gw0⟩
end Go.Proofs.Qm
