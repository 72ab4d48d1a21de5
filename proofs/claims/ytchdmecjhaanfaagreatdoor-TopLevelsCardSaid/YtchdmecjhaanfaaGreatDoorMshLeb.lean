import Derived.Test.YtchdmecjhaanfaaGreatDoorMshLin
import Derived.Test.YtchdmecjhaanfaaGreatDoorNetD
import Derived.Test.YtchdmecjhaanfaaGreatDoorMshPlain
namespace Go.Proofs.YtchdmecjhaanfaaGreatDoor
open Go Go.RowKit Amp Msh
theorem wrap_sm {x:Int} (h1:-1152921504606846976≤x) (h2:x≤1152921504606846976):wrap64 x=x:=by
 unfold wrap64;omega
def pS (L:List Cl) (j:Nat):Bool:=decide (0<(szP L [] L).getD j 0)
def FL (L:List Cl) (j:Nat):List It:=fl (pS L) L (j+1) j 0
def itF (L:List Cl) (x:It):List It:=if x.kind=4 then (FL L (jx L x)).map (sh (x.pos - 1)) else [x]
theorem sh_zero (l:List It):l.map (sh 0)=l:=by
 have:sh 0=id:=funext fun x=>by
  show (⟨x.kind,x.pos+0,x.n,x.name⟩:It)=x
  rw [Int.add_zero]
 rw [this,List.map_id]
theorem sh_sh (a b:Int) (l:List It):(l.map (sh a)).map (sh b)=l.map (sh (a+b)):=by
 rw [List.map_map]
 congr 1
 funext x
 show (⟨x.kind,x.pos+a+b,x.n,x.name⟩:It)=⟨x.kind,x.pos+(a+b),x.n,x.name⟩
 rw [Int.add_assoc]
theorem gd_jx {L:List Cl} (hv:vnet L=true) {i:Nat} {c:Cl} (hc:L[i]? = some c) {x:It} (hx:x∈c.items) (h4:x.kind=4):∃ d,L[jx L x]? = some d∧jx L x<i∧(L.take i).find? (hasN x.name)=some d∧(1≤d.gd∧d.gd≤6)∧1≤x.pos∧x.pos+d.gd≤c.gd+1:=by
 obtain ⟨_,_,_,_,h5⟩:=vcell_iff.1 ((vnet_all hv).2 i c hc);have hji:=(cell_ix hv hc hx h4).1;unfold okEs at h5;rw [List.all_eq_true] at h5;have h6:=h5 x hx;unfold okE wdE at h6;rw [if_pos h4] at h6;cases hf:(L.take i).find? (hasN x.name) with
 | none =>
   have hg:gdF (L.take i) x.name=0:=by unfold gdF;rw [hf]
   rw [hg] at h6;simp at h6
 | some d =>
   have hg:gdF (L.take i) x.name=d.gd:=by unfold gdF;rw [hf]
   rw [hg] at h6;have hn:x.n=0:=by
    by_cases hn:x.n=0
    · exact hn
    · rw [if_neg hn] at h6
      simp at h6
   rw [if_pos hn,Bool.and_eq_true,decide_eq_true_eq,decide_eq_true_eq] at h6;have h7:=nmO_find_app (L.take i) (L.drop i) 0 d hf;rw [List.take_append_drop] at h7;rcases nmO_find (q:=x.name) (L.take i) 0 with ⟨h8,_⟩ | ⟨e,j,h8,h9,h10⟩
   · rw [hf] at h8
     cases h8
   · obtain rfl:d=e:=by
      rw [hf] at h8;exact Option.some.inj h8
     have hJ:jx L x=j:=by unfold jx;rw [h7,h9];omega
     have hLj:L[j]? = some d:=by
      have hj:=(List.getElem?_eq_some_iff.1 h10).1;rw [List.length_take] at hj;rw [List.getElem?_take_of_lt (by omega)] at h10;exact h10
     obtain ⟨_,_,a3,_,_⟩:=vcell_iff.1 ((vnet_all hv).2 j d hLj);exact ⟨d,by rw [hJ];exact hLj,hji,rfl,a3,by omega,by omega⟩
theorem it_ok {L:List Cl} (hv:vnet L=true) {i:Nat} {c:Cl} (hc:L[i]? = some c) {x:It} (hx:x∈c.items) (h4:¬ x.kind=4):okIt c.gd x=true:=by
 obtain ⟨_,_,_,_,h5⟩:=vcell_iff.1 ((vnet_all hv).2 i c hc);unfold okEs at h5;rw [List.all_eq_true] at h5;have h6:=h5 x hx;unfold okE wdE at h6;rw [if_neg h4] at h6;exact h6
theorem gd_ok {L:List Cl} (hv:vnet L=true) {i:Nat} {c:Cl} (hc:L[i]? = some c):1≤c.gd∧c.gd≤6:=(vcell_iff.1 ((vnet_all hv).2 i c hc)).2.2.1
theorem fm_congr {α β:Type} {f g:α→List β}:∀ (l:List α),(∀ x∈l,f x=g x)→l.flatMap f=l.flatMap g
 | [],_=>rfl
 | x :: t, h => by
   rw [List.flatMap_cons,List.flatMap_cons,h x List.mem_cons_self,fm_congr t fun y hy=>h y (List.mem_cons_of_mem _ hy)]
theorem fl_eq {p:Nat→Bool} {L:List Cl} {f i:Nat} {b:Int} {c:Cl} (hc:L[i]? = some c):fl p L (f+1) i b=c.items.flatMap (flI p L (fl p L f) b):=by
 show (match L[i]? with | none=>[] | some c=>c.items.flatMap (flI p L (fl p L f) b))=_
 rw [hc]
theorem FL_nil {L:List Cl} (hv:vnet L=true) {j:Nat} {d:Cl} (hd:L[j]? = some d) (hp:¬ pS L j=true):FL L j=[]:=by
 obtain ⟨u,hu⟩:∃ u,(szP L [] L)[j]? = some u:=by
  have hl:=szP_length L L [];have:=(List.getElem?_eq_some_iff.1 hd).1;exact ⟨(szP L [] L)[j]'(by rw [hl];simpa using this),List.getElem?_eq_getElem _⟩
 unfold pS at hp;rw [List.getD_eq_getElem?_getD,hu,decide_eq_true_eq] at hp;have hu0:u≤0:=Int.not_lt.1 hp;have:=fl_len hv (pS L) (j+1) j 0 u hu (by omega);have h0:(FL L j).length=0:=by
  unfold FL;omega
 exact List.eq_nil_of_length_eq_zero h0
theorem fl_all {L:List Cl} (hv:vnet L=true):∀ (i f:Nat) (b:Int) (c:Cl),L[i]? = some c→i<f→0≤b→b+c.gd≤6→fl (pS L) L f i b=(c.items.flatMap (itF L)).map (sh b):=by
 intro i
 induction i using Nat.strongRecOn with
 | ind i ih =>
   intro f b c hc hf hb hg;obtain ⟨f',rfl⟩:∃ f',f=f'+1:=⟨f - 1,by omega⟩;rw [fl_eq hc,List.map_flatMap];refine fm_congr _ fun x hx=>?_
   by_cases h4:x.kind=4
   · obtain ⟨d,hd,hj,_,hgd,hp1,hp2⟩:=gd_jx hv hc hx h4
     unfold flI itF;rw [if_pos h4,if_pos h4,wrap_sm (x:=x.pos+b) (by omega) (by omega),wrap_sm (by omega) (by omega)];by_cases hp:pS L (jx L x)=true
     · have e0:FL L (jx L x)=d.items.flatMap (itF L):=by
        unfold FL;rw [ih _ hj (jx L x+1) 0 d hd (by omega) (Int.le_refl 0) (by omega),sh_zero]
       rw [if_pos hp,ih _ hj f' (x.pos+b - 1) d hd (by omega) (by omega) (by omega),e0,sh_sh,show x.pos+b - 1=x.pos - 1+b by omega]
     · rw [if_neg hp,FL_nil hv hd hp]
       rfl
   · obtain ⟨_,_,h1,h2,_,_⟩:=okIt_iff (it_ok hv hc hx h4)
     have hgc:=gd_ok hv hc;unfold flI itF;rw [if_neg h4,if_neg h4,wrap_sm (x:=x.pos+b) (by omega) (by omega)];rfl
theorem FL_eq {L:List Cl} (hv:vnet L=true) {i:Nat} {c:Cl} (hc:L[i]? = some c):FL L i=c.items.flatMap (itF L):=by
 have:=gd_ok hv hc;unfold FL;rw [fl_all hv i (i+1) 0 c hc (Nat.lt_succ_self i) (Int.le_refl 0) (by omega),sh_zero]
theorem flat_FL {L:List Cl} (hv:vnet L=true):fl (pS L) L L.length (L.length - 1) 0=FL L (L.length - 1):=by
 have hl:=(vnet_all hv).1.1;obtain ⟨c,hc⟩:∃ c,L[L.length - 1]? = some c:=⟨L[L.length - 1]'(by omega),List.getElem?_eq_getElem _⟩;have:=gd_ok hv hc;rw [fl_all hv _ _ 0 c hc (by omega) (Int.le_refl 0) (by omega),sh_zero,FL_eq hv hc]
theorem okIt_sh {m n b:Int} (hb:0≤b) (hn:b+m≤n) {x:It} (h:okIt m x=true):okIt n (sh b x)=true:=by
 unfold okIt at *
 rw [Bool.and_eq_true,decide_eq_true_eq,decide_eq_true_eq] at *
 refine ⟨h.1, ?_⟩;show 1≤x.pos+b∧x.pos+b≤n - wid x.kind x.n x.name+1
 omega
theorem okIts_sh {m n b:Int} (hb:0≤b) (hn:b+m≤n) {l:List It} (h:okIts m l=true):okIts n (l.map (sh b))=true:=by
 unfold okIts at *
 rw [List.all_eq_true] at *
 intro y hy;obtain ⟨x,hx,rfl⟩:=List.mem_map.1 hy;exact okIt_sh hb hn (h x hx)
theorem FL_ok {L:List Cl} (hv:vnet L=true):∀ (i:Nat) (c:Cl),L[i]? = some c→okIts c.gd (FL L i)=true:=by
 intro i
 induction i using Nat.strongRecOn with
 | ind i ih =>
   intro c hc;rw [FL_eq hv hc];unfold okIts;rw [List.all_eq_true];intro y hy;obtain ⟨x,hx,hy⟩:=List.mem_flatMap.1 hy;unfold itF at hy;by_cases h4:x.kind=4
   · rw [if_pos h4] at hy
     obtain ⟨d,hd,hj,_,hgd,hp1,hp2⟩:=gd_jx hv hc hx h4;have h:=okIts_sh (n:=c.gd) (b:=x.pos - 1) (by omega) (by omega) (ih _ hj d hd);unfold okIts at h;rw [List.all_eq_true] at h;exact h y hy
   · rw [if_neg h4,List.mem_singleton] at hy
     subst hy;exact it_ok hv hc hx h4
open Go Go.RowKit Amp Msh
theorem emb_rpow (q b m:Nat) (A:Nat→Nat→C4) (d:C4) (i k:Nat):rpow q (emb b m A d i k)=emb b m (fun i k=>rpow q (A i k)) (rpow q d) i k:=by
 unfold emb;split
 · rfl
 · split
   · rfl
   · exact rpow_zero q
def IsLM (n:Nat) (M:List Num) (F:List It):Prop:=∀ a k,a<n→k<n→rpow (40*F.length) (MV M n a k)=rpow 40 (LM n F a k)
theorem name_ix {L:List Cl} (hv:vnet L=true) {j j':Nat} {d d':Cl} (h:L[j]? = some d) (h':L[j']? = some d') (hn:d.name=d'.name):¬ j<j':=by
 intro hlt;have h5:=(vcell_iff.1 ((vnet_all hv).2 j' d' h')).2.1;rw [List.find?_eq_none] at h5;have hm:d∈L.take j':=List.mem_of_getElem? (i:=j) (by rw [List.getElem?_take_of_lt hlt];exact h);refine h5 d hm ?_;unfold hasN;exact decide_eq_true hn
theorem item_rel {L:List Cl} (hv:vnet L=true) {i:Nat} {c:Cl} (hc:L[i]? = some c) {Ms:List (List Num)} (hM:MsOk (L.take i) Ms) (hR:∀ (j:Nat) (d:Cl) (M:List Num),L[j]? = some d→Ms[j]? = some M→IsLM d.gd.toNat M (FL L j))
  {x:It} (hx:x∈c.items) {m:Nat} {lm:List Num} (hm:itemM (envF (L.take i) Ms) x=(m,lm)) {a k:Nat} (ha:a<c.gd.toNat) (hk:k<c.gd.toNat) :
  rpow (40*(itF L x).length) (MV (placeN c.gd.toNat x.pos.toNat m lm) c.gd.toNat a k)=rpow 40 (LM c.gd.toNat (itF L x) a k):=by
 obtain ⟨_,_,a3,_,a5⟩:=vcell_iff.1 ((vnet_all hv).2 i c hc);obtain ⟨n,hn⟩:∃ n:Nat,c.gd=n:=⟨c.gd.toNat,by omega⟩;unfold okEs at a5;rw [List.all_eq_true] at a5;have hok:=a5 x hx;rw [hn] at hok;obtain ⟨⟨p1,p2,p3⟩,⟨_,_⟩,hcase⟩:=item_ok (envOk hM) hok hm;have hnn:c.gd.toNat=n:=by omega
 rw [hnn] at ha hk ⊢;rcases hcase with ⟨h4,hE⟩ | ⟨h4,_,_,hw,hl⟩
 · obtain ⟨d,hd,hj,hf,hgd,_,_⟩:=gd_jx hv hc hx h4
   rcases envF_find hM.1 x.name with ⟨h1,_⟩ | ⟨j,c',M,h1,h2,h3,h4',h5⟩
   · rw [hf] at h1
     cases h1
   · obtain rfl:d=c':=by
      rw [hf] at h1;exact Option.some.inj h1
     have hjl:=(List.getElem?_eq_some_iff.1 h2).1;rw [List.length_take] at hjl;have hLj:L[j]? = some d:=by
      rw [List.getElem?_take_of_lt (by omega)] at h2;exact h2
     have hjj:j=jx L x:=by
      have n1:=name_ix hv hLj hd rfl;have n2:=name_ix hv hd hLj rfl;omega
     subst hjj;rw [h5] at hE;injection hE with hE;injection hE with e1 e2;subst e1;subst e2;have hIs:=hR _ d M hd h3;obtain ⟨g,hg⟩:∃ g:Nat,d.gd=g:=⟨d.gd.toNat,by omega⟩;have hFo:=FL_ok hv _ d hd;rw [hg] at hFo;rw [hg] at p2 hIs ⊢;rw [Int.toNat_natCast] at p2 hIs ⊢;obtain ⟨p,hp⟩:∃ p:Nat,x.pos=p:=⟨x.pos.toNat,by omega⟩;unfold itF;rw [if_pos h4,List.length_map,hp,Int.toNat_natCast,MV_place (by omega) (by omega) ha hk,emb_rpow,show (p:Int) - 1=((p - 1:Nat):Int) by omega,LM_sh (by omega) _ hFo a k ha hk,emb_rpow,rpow_rpow,rpow_rpow,Nat.add_comm 40];exact emb_congr (n:=n) (fun i k hi hk=>hIs i k hi hk) a k (by omega)
 · unfold itF
   rw [if_neg h4,← hw,← hl,LM_one x ha];rfl
theorem itsE_shp {E:Env} {n:Nat}:∀ (its:List It) (l:List Num),VldL l→l.length=n*n→(itsE E n its l).2=0→VldL (itsE E n its l).1∧(itsE E n its l).1.length=n*n
 | [],_,hv,hl,_=>⟨hv,hl⟩
 | x :: t, l, _, _, he => by
   simp only [itsE] at *
   by_cases h:(stepE E n x l).2=0
   · rw [if_pos h] at *
     exact itsE_shp t _ (mulM_valid _ _ _) (matR_length h) he
   · rw [if_neg h] at he
     exact absurd he h
theorem itsE_lin {E:Env} {n:Nat} {g:It→List It}:∀ (its:List It) (l:List Num),(∀ x∈its,∀ m lm,itemM E x=(m,lm)→∀ a k,a<n→k<n→rpow (40*(g x).length) (MV (placeN n x.pos.toNat m lm) n a k)=rpow 40 (LM n (g x) a k)) →
  (itsE E n its l).2=0→∀ i k,i<n→k<n→rpow (40*(its.flatMap g).length) (MV (itsE E n its l).1 n i k)=sumC n (fun j=>mulC (LM n (its.flatMap g) i j) (MV l n j k))
 | [], l, _, _, i, k, hi, hk => by
   have e:∀ j,j<n→mulC (LM n [] i j) (MV l n j k)=if i=j then MV l n j k else zero:=fun j _=>by
    simp only [LM];split
    · exact one_mulC _
    · exact zero_mulC _
   show MV l n i k=sumC n (fun j=>mulC (LM n [] i j) (MV l n j k))
   rw [sum_congr e,sum_delta hi]
 | x :: t, l, hg, he, i, k, hi, hk => by
   simp only [itsE] at *
   by_cases h:(stepE E n x l).2=0
   · rw [if_pos h] at *
     have ih:=itsE_lin (g:=g) t _ (fun y hy=>hg y (List.mem_cons_of_mem _ hy)) he i k hi hk;have hx:=hg x List.mem_cons_self (itemM E x).1 (itemM E x).2 rfl;rw [List.flatMap_cons];apply rpow_inj 40;rw [List.length_append,show 40*((g x).length+(t.flatMap g).length)=40*(g x).length+40*(t.flatMap g).length by omega,← rpow_rpow,ih,rpow_rpow,sum_rpow,sum_rpow];have e:∀ j,j<n→rpow (40+40*(g x).length) (mulC (LM n (t.flatMap g) i j) (MV (stepE E n x l).1 n j k))=mulC (LM n (t.flatMap g) i j) (sumC n fun a=>mulC (rpow 40 (LM n (g x) j a)) (MV l n a k)):=fun j hj=>by
      rw [← mul_rpow',Nat.add_comm,← rpow_rpow,show rpow 40 (MV (stepE E n x l).1 n j k)=_ from mulM_val h hj hk,sum_rpow]
      congr 1
      refine sum_congr fun a ha=>?_
      rw [← mul_rpow,hx j a hj ha]
     rw [sum_congr e,sum_assoc];refine sum_congr fun a ha=>?_
     rw [LM_append _ _ i a hi ha,← mul_rpow]
     congr 1
     rw [sum_rpow];exact sum_congr fun j _=>mul_rpow' _ _ _
   · rw [if_neg h] at he;exact absurd he h
theorem itsE_id {E:Env} {n:Nat} {g:It→List It} {its:List It} (hg:∀ x∈its,∀ m lm,itemM E x=(m,lm)→∀ a k,a<n→k<n→rpow (40*(g x).length) (MV (placeN n x.pos.toNat m lm) n a k)=rpow 40 (LM n (g x) a k))
  (he:(itsE E n its (idN n)).2=0):IsLM n (itsE E n its (idN n)).1 (its.flatMap g):=by
 intro i k hi hk;rw [itsE_lin its _ hg he i k hi hk];have e:∀ j,j<n→mulC (LM n (its.flatMap g) i j) (MV (idN n) n j k)=if k=j then rpow 40 (LM n (its.flatMap g) i j) else zero:=fun j hj=>by
  rw [MV_id hj hk];by_cases h:j=k
  · rw [if_pos h,if_pos h.symm,mul_rpow',mulC_one]
  · rw [if_neg h,if_neg (fun e=>h e.symm),mulC_zero]
 rw [sum_congr e,sum_delta hk]
def LevI (L:List Cl) (i:Nat) (Ms:List (List Num)):Prop:=MsOk (L.take i) Ms∧∀ (j:Nat) (d:Cl) (M:List Num),L[j]? = some d→Ms[j]? = some M→IsLM d.gd.toNat M (FL L j)
theorem lev_all {L:List Cl} (hv:vnet L=true):∀ (t:List Cl) (i:Nat) (Ms:List (List Num)),L.drop i=t→LevI L i Ms→(netM (L.take i) Ms t).2=0→i≤L.length→LevI L L.length (netM (L.take i) Ms t).1
 | [], i, Ms, ht, hI, _, hi => by
   have:i=L.length:=by
    have:=congrArg List.length ht;simp at this;omega
   subst this;exact hI
 | c :: t, i, Ms, ht, hI, he, hi => by
   have hc:L[i]? = some c:=by
    have:=congrArg (·[0]?) ht
    simpa using this
   have hlt:=(List.getElem?_eq_some_iff.1 hc).1;have ht':L.drop (i+1)=t:=by
    have:=congrArg List.tail ht;rw [List.tail_drop] at this;exact this
   rw [netM] at he ⊢;by_cases h0:(itsE (envF (L.take i) Ms) c.gd.toNat c.items (idN c.gd.toNat)).2=0
   · rw [if_pos h0] at he ⊢
     have htk:L.take i++[c]=L.take (i+1):=by rw [List.take_add_one,hc];rfl
     rw [htk] at he ⊢;obtain ⟨a1,_,a3,_,_⟩:=vcell_iff.1 ((vnet_all hv).2 i c hc);obtain ⟨s1,s2⟩:=itsE_shp c.items _ (idN_valid _) (idN_length _) h0;have hIs:=itsE_id (g:=itF L) (fun x hx m lm hm a k ha hk=>item_rel hv hc hI.1 hI.2 hx hm ha hk) h0;rw [← FL_eq hv hc] at hIs;refine lev_all hv t (i+1) _ ht' ⟨by rw [← htk];exact hI.1.snoc a3 s1 s2 a1,fun j d M hd hM=>?_⟩ he hlt;have hlen:=hI.1.1;rw [List.length_take] at hlen;by_cases hj:j<Ms.length
     · rw [List.getElem?_append_left hj] at hM
       exact hI.2 j d M hd hM
     · rw [List.getElem?_append_right (by omega)] at hM
       have hj0:j - Ms.length=0:=by
        have:=(List.getElem?_eq_some_iff.1 hM).1;simp at this;omega
       rw [hj0] at hM;have hji:j=i:=by omega
       subst hji;rw [hc] at hd;obtain rfl:=Option.some.inj hd;obtain rfl:_=M:=Option.some.inj hM;exact hIs
   · rw [if_neg h0] at he
     exact absurd he h0
theorem levels_same {L:List Cl} (hv:vnet L=true) {g:Int} {A B:List Num} {FI:List It} (hA:matNet L=(g,A,0)) (hF:flatN L=(FI,0)) (hB:matOf g FI=(B,0)):A=B∧VldL A∧A.length=g.toNat*g.toNat:=by
 obtain ⟨⟨l1,l2⟩,_⟩:=vnet_all hv;unfold matNet at hA;rw [if_pos hv] at hA;by_cases h0:(netM [] [] L).2=0
 · rw [if_pos h0] at hA
   obtain ⟨hM,hR⟩:=lev_all hv L 0 [] rfl ⟨⟨rfl,fun j c M h=>by simp at h⟩,fun j d M _ h=>by simp at h⟩ h0 (Nat.zero_le _);obtain ⟨c,hc⟩:∃ c,L[L.length - 1]? = some c:=⟨L[L.length - 1]'(by omega),List.getElem?_eq_getElem _⟩;have hlen:=hM.1;rw [List.take_length] at hlen;rw [List.take_zero] at hlen hM hR;obtain ⟨M,hMl⟩:∃ M,(netM [] [] L).1[L.length - 1]? = some M:=⟨(netM [] [] L).1[L.length - 1]'(by rw [← hlen];omega),List.getElem?_eq_getElem _⟩;have e1:L.getLast? = some c:=by rw [List.getLast?_eq_getElem?];exact hc
   have e2:(netM [] [] L).1.getLast? = some M:=by rw [List.getLast?_eq_getElem?,← hlen];exact hMl
   rw [e1,e2] at hA;injection hA with h1 h2;injection h2 with h2 _;have hg:c.gd=g:=h1;have hM2:M=A:=h2;subst hM2;have hIs:=hR _ c M hc hMl;have hOk:=hM.2 (L.length - 1) c M (by rw [List.take_length];exact hc) hMl;have hFI:FI=FL L (L.length - 1):=by
    unfold flatN at hF;rw [if_pos hv] at hF;split at hF
    · injection hF with _ h
      cases h
    · injection hF with h _
      rw [← h];exact flat_FL hv
   obtain ⟨hk,hI⟩:=matOf_zero hB;have hI1:(itsM g.toNat FI (idN g.toNat)).1=B:=by rw [hI]
   have hI2:(itsM g.toNat FI (idN g.toNat)).2=0:=by rw [hI]
   obtain ⟨s1,s2⟩:=itsM_shape FI (idN g.toNat) (idN_valid _) (idN_length _) hI2;rw [hI1] at s1 s2;rw [hg] at hIs hOk;refine ⟨mat_ext hOk.2.1 s1 hOk.2.2.1 s2 fun i k hi hk=>?_,hOk.2.1,hOk.2.2.1⟩;apply rpow_inj (40*FI.length);rw [← hI1,itsM_id hI2 hi hk,hFI];exact hIs i k hi hk
 · rw [if_neg h0] at hA
   injection hA with _ h2;injection h2 with _ h3;exact absurd h3 h0
open Go Go.RowKit Amp Msh
def tot (f:It→Int):List It→Int
 | []=>0
 | x::t=>f x+tot f t
theorem tot_append (f:It→Int):∀ (l m:List It),tot f (l++m)=tot f l+tot f m
 | [], m => by
   show _=0+_
   rw [Int.zero_add];rfl
 | x :: t, m => by
   show f x+tot f (t++m)=f x+tot f t+tot f m
   rw [tot_append f t m,Int.add_assoc]
theorem tot_flatMap (f:It→Int) (g:It→List It):∀ l:List It,tot f (l.flatMap g)=tot (fun x=>tot f (g x)) l
 | []=>rfl
 | x :: t => by
   rw [List.flatMap_cons,tot_append,tot_flatMap f g t];rfl
theorem tot_congr {f g:It→Int}:∀ {l:List It},(∀ x∈l,f x=g x)→tot f l=tot g l
 | [],_=>rfl
 | x :: t, h => by
   show f x+tot f t=g x+tot g t
   rw [h x List.mem_cons_self,tot_congr fun y hy=>h y (List.mem_cons_of_mem _ hy)]
theorem tot_add (f g:It→Int):∀ l:List It,tot (fun x=>f x+g x) l=tot f l+tot g l
 | []=>rfl
 | x :: t => by
   show f x+g x+tot (fun x=>f x+g x) t=f x+tot f t+(g x+tot g t)
   rw [tot_add f g t];omega
def indK (q:Int) (x:It):Int:=if x.kind=q then 1 else 0
theorem cntK_tot (q:Int) (l:List It):cntK l q=tot (indK q) l:=by
 induction l using snoc_ind with
 | h0=>rfl
 | h1 l x ih =>
   rw [cntK_snoc,tot_append,ih];show _=tot (indK q) l+(indK q x+0)
   unfold indK;split <;> omega
theorem tot_sh (q b:Int):∀ l:List It,tot (indK q) (l.map (sh b))=tot (indK q) l
 | []=>rfl
 | x :: t => by
   show indK q (sh b x)+tot (indK q) (t.map (sh b))=indK q x+tot (indK q) t
   rw [tot_sh q b t];rfl
def upto (f:Nat→Int):Nat→Int
 | 0=>0
 | n+1=>upto f n+f n
theorem upto_congr {f g:Nat→Int}:∀ {n:Nat},(∀ j,j<n→f j=g j)→upto f n=upto g n
 | 0,_=>rfl
 | n + 1, h => by
   show upto f n+f n=upto g n+g n
   rw [upto_congr fun j hj=>h j (by omega),h n (by omega)]
theorem upto_one {f g:Nat→Int} {i:Nat} {v:Int}:∀ {n:Nat},i<n→(∀ j,j≠i→f j=g j)→f i=g i+v→upto f n=upto g n+v
 | 0,h,_,_=>absurd h (Nat.not_lt_zero _)
 | n + 1, h, h1, h2 => by
   show upto f n+f n=upto g n+g n+v
   by_cases hi:i=n
   · subst hi
     rw [upto_congr (f:=f) (g:=g) fun j hj=>h1 j (by omega),h2];omega
   · rw [upto_one (by omega) h1 h2,h1 n (fun e=>hi e.symm)]
     omega
theorem upto_zero:∀ n:Nat,upto (fun _=>0) n=0
 | 0=>rfl
 | n + 1 => by
   show upto (fun _=>0) n+0=0
   rw [upto_zero n];rfl
theorem upto_set {S:List Int} {j:Nat} (hj:j<S.length) (v:Int) (g:Nat→Int) {n:Nat} (hn:j<n):upto (fun m=>(S.set j v).getD m 0*g m) n=upto (fun m=>S.getD m 0*g m) n+(v - S.getD j 0)*g j:=by
 refine upto_one hn (fun m hm=>?_) ?_
 · rw [getD_set,if_neg fun h=>hm h.1.symm]
 · rw [getD_set,if_pos ⟨rfl,hj⟩,Int.sub_mul]
   omega
theorem fold_add {L:List Cl} {i n:Nat} (g:Nat→Int):∀ (l:List It) (S:List Int),(∀ x∈l,x.kind=4→jx L x<i)→i<n→S.length=n →
  upto (fun m=>(l.foldl (usrR L i) S).getD m 0*g m) n=upto (fun m=>S.getD m 0*g m) n+S.getD i 0*tot (fun x=>if x.kind=4 then g (jx L x) else 0) l
 | [], S, _, _, _ => by
   show _=_+S.getD i 0*0
   rw [Int.mul_zero,Int.add_zero];rfl
 | x :: t, S, hx, hi, hn => by
   have ih:=fold_add g t (usrR L i S x) (fun y hy=>hx y (List.mem_cons_of_mem _ hy)) hi (by rw [usrR_length];exact hn);rw [List.foldl_cons,ih];show _=_+S.getD i 0*((if x.kind=4 then g (jx L x) else 0)+tot (fun x=>if x.kind=4 then g (jx L x) else 0) t)
   unfold usrR;by_cases h4:x.kind=4
   · have hj:=hx x List.mem_cons_self h4
     rw [if_pos h4,if_pos h4,upto_set (by omega) _ g (by omega),getD_set,if_neg (by omega),Int.mul_add,show S.getD (jx L x) 0+S.getD i 0 - S.getD (jx L x) 0=S.getD i 0 by omega];omega
   · rw [if_neg h4,if_neg h4,Int.zero_add]
def heldK (L:List Cl) (q:Int) (k j:Nat):Int:=if j<k then tot (indK q) (FL L j) else tot (indK q) (itsAt L j)
theorem held_step {L:List Cl} (hv:vnet L=true) {q:Int} (hq:q≠4) {i:Nat} (hi:i<L.length):tot (indK q) (FL L i)=tot (indK q) (itsAt L i)+tot (fun x=>if x.kind=4 then heldK L q i (jx L x) else 0) (itsAt L i):=by
 obtain ⟨c,hc⟩:∃ c,L[i]? = some c:=⟨L[i],List.getElem?_eq_getElem hi⟩;rw [FL_eq hv hc,itsAt_some hc,tot_flatMap,← tot_add];refine tot_congr fun x hx=>?_
 unfold itF;by_cases h4:x.kind=4
 · have hj:=(cell_ix hv hc hx h4).1
   rw [if_pos h4,if_pos h4,tot_sh];unfold heldK indK;rw [if_pos hj,if_neg (by omega),Int.zero_add]
 · rw [if_neg h4,if_neg h4]
   rfl
theorem us_held {L:List Cl} (hv:vnet L=true) {q:Int} (hq:q≠4):∀ (k:Nat) (S U:List Int),k≤L.length→S.length=L.length→usR L k S=some U →
  upto (fun j=>U.getD j 0*tot (indK q) (itsAt L j)) L.length=upto (fun j=>S.getD j 0*heldK L q k j) L.length
 | 0, S, U, _, _, h => by
   obtain rfl:S=U:=Option.some.inj h;exact upto_congr fun j _=>by
    unfold heldK;rw [if_neg (Nat.not_lt_zero _)]
 | i + 1, S, U, hk, hS, h => by
   unfold usR at h;by_cases hb:1000000000000<S.getD i 0
   · rw [if_pos hb] at h
     cases h
   · rw [if_neg hb] at h
     rw [us_held hv hq i _ U (by omega) (by rw [foldR_length];exact hS) h,fold_add _ _ S (itsAt_ix hv) (by omega) hS];refine (upto_one (i:=i) (by omega) (fun j hj=>?_) ?_).symm
     · unfold heldK
       by_cases hji:j<i
       · rw [if_pos hji,if_pos (by omega)]
       · rw [if_neg hji,if_neg (by omega)]
     · have e1:heldK L q (i+1) i=tot (indK q) (FL L i):=by unfold heldK;rw [if_pos (Nat.lt_succ_self i)]
       have e2:heldK L q i i=tot (indK q) (itsAt L i):=by unfold heldK;rw [if_neg (Nat.lt_irrefl i)]
       rw [e1,e2,held_step hv hq (by omega),Int.mul_add]
theorem uses_count {L:List Cl} (hv:vnet L=true) {U:List Int} (hU:usesN L=(U,0)) {F:List It} (hF:flatN L=(F,0)) {q:Int} (hq:q≠4) :
  upto (fun j=>U.getD j 0*tot (indK q) (itsAt L j)) L.length=cntK F q:=by
 have hl:=(vnet_all hv).1.1;rw [usesN_ref hv] at hU;cases hu:usR L L.length (us0 L.length) with
 | none =>
   rw [hu] at hU;injection hU with _ h;cases h
 | some V =>
   rw [hu] at hU;obtain rfl:V=U:=by injection hU
   have hFI:F=FL L (L.length - 1):=by
    unfold flatN at hF;rw [if_pos hv] at hF;split at hF
    · injection hF with _ h
      cases h
    · injection hF with h _
      rw [← h];exact flat_FL hv
   rw [us_held hv hq L.length _ V (Nat.le_refl _) (by unfold us0;simp) hu,cntK_tot,hFI];have e:=upto_one (f:=fun j=>(us0 L.length).getD j 0*heldK L q L.length j) (g:=fun _=>0) (i:=L.length - 1) (v:=tot (indK q) (FL L (L.length - 1))) (n:=L.length) (by omega) (fun j hj=>by
    unfold us0;rw [getD_set,if_neg fun h=>hj h.1.symm,List.getD_eq_getElem?_getD];have:(List.replicate L.length (0:Int))[j]?.getD 0=0:=by
     rw [List.getElem?_replicate];split <;> rfl
    rw [this,Int.zero_mul]) (by
    unfold us0;rw [getD_set,if_pos ⟨rfl,by rw [List.length_replicate];omega⟩,Int.one_mul,Int.zero_add];unfold heldK;rw [if_pos (by omega)])
   rw [e,upto_zero,Int.zero_add]
end Go.Proofs.YtchdmecjhaanfaaGreatDoor
