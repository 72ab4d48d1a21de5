import Derived.Test.YtchdmecjhaanfaaGreatDoorMshR
import Derived.Test.YtchdmecjhaanfaaGreatDoorMshVal
import Derived.Test.YtchdmecjhaanfaaGreatDoorMshPlain
import Derived.RowKit
import Derived.Laws.Strings
namespace Go.Proofs.YtchdmecjhaanfaaGreatDoor
open Go Amp Msh
theorem _root_.k79_ {p:Prop} (h:p:=by
 simp only [List.mem_cons,List.not_mem_nil,or_false];omega):p:=h
def PV (n:Nat) (x:It) (i j:Nat):C4:=MV (placeN n x.pos.toNat (ownW x.kind) (ownM x.kind x.n)) n i j
def LM (n:Nat):List It→Nat→Nat→C4
 | [],i,j=>if i=j then oneC else zero
 | x::t,i,j=>sumC n fun a=>mulC (LM n t i a) (PV n x a j)
theorem sum_assoc (n:Nat) (f:Nat→C4) (P:Nat→Nat→C4) (v:Nat→C4):sumC n (fun j=>mulC (f j) (sumC n fun a=>mulC (P j a) (v a)))=sumC n (fun a=>mulC (sumC n fun j=>mulC (f j) (P j a)) (v a)):=by
 have e:∀ j,j<n→mulC (f j) (sumC n fun a=>mulC (P j a) (v a))=sumC n fun a=>mulC (mulC (f j) (P j a)) (v a):=fun j _=>by
  rw [sum_mul_left];exact sum_congr fun a _=>(mulC_assoc _ _ _).symm
 rw [sum_congr e,sum_comm];exact sum_congr fun a _=>(sum_mul_right _ _ _).symm
theorem itsM_lin {n:Nat}:∀ (its:List It) (l:List Num),(itsM n its l).2=0→∀ i k,i<n→k<n→rpow (40*its.length) (MV (itsM n its l).1 n i k)=sumC n (fun j=>mulC (LM n its i j) (MV l n j k))
 | [], l, _, i, k, hi, hk => by
   have e:∀ j,j<n→mulC (LM n [] i j) (MV l n j k)=if i=j then MV l n j k else zero:=fun j _=>by
    simp only [LM];split
    · exact one_mulC _
    · exact zero_mulC _
   rw [sum_congr e,sum_delta hi];rfl
 | x :: t, l, he, i, k, hi, hk => by
   simp only [itsM] at *
   by_cases h:(stepM n x l).2=0
   · rw [if_pos h] at *
     have ih:=itsM_lin t _ he i k hi hk;rw [show 40*(x::t).length=40+40*t.length by simp;omega,← rpow_rpow,ih,sum_rpow];have e:∀ j,j<n→rpow 40 (mulC (LM n t i j) (MV (stepM n x l).1 n j k))=mulC (LM n t i j) (sumC n fun a=>mulC (PV n x j a) (MV l n a k)):=fun j hj=>by
      rw [← mul_rpow']
      congr 1
      exact mulM_val h hj hk
     rw [sum_congr e,sum_assoc];rfl
   · rw [if_neg h] at he;exact absurd he h
def VV (v:List Num) (j:Nat):C4:=val (v.getD j noneZ)
theorem appM_val {n:Nat} {la lv:List Num} (he:(appM n la lv).2=0) {i:Nat} (hi:i<n):rpow 40 (VV (appM n la lv).1 i)=sumC n (fun j=>mulC (MV la n i j) (VV lv j)):=by
 have h0:=seqR_zero _ he;have h1:=seqR_ok _ h0;have h2:=appR_at la lv hi;have h3:=h0 _ (List.mem_of_getElem? h2);unfold VV;have h4:(appM n la lv).1[i]? = some ⟨(rowN (prowV la lv n i)).x,(rowN (prowV la lv n i)).k⟩:=by
  unfold appM;rw [h1,List.getElem?_map,h2];rfl
 rw [List.getD_eq_getElem?_getD,h4];show rpow 40 (val ⟨_,_⟩)=_
 rw [rowN_val h3];exact lsum_range n _
theorem row_val {n i:Nat} {la lv:List Num} (he:(rowN (prowV la lv n i)).e=0):rpow 40 (val ⟨(rowN (prowV la lv n i)).x,(rowN (prowV la lv n i)).k⟩)=sumC n (fun j=>mulC (MV la n i j) (VV lv j)):=by
 rw [rowN_val he];exact lsum_range n _
theorem litN_lin {n:Nat}:∀ (its:List It) (v:List Num),(litN n its v).2=0→∀ i,i<n→rpow (40*its.length) (VV (litN n its v).1 i)=sumC n (fun j=>mulC (LM n its i j) (VV v j))
 | [], v, _, i, hi => by
   have e:∀ j,j<n→mulC (LM n [] i j) (VV v j)=if i=j then VV v j else zero:=fun j _=>by
    simp only [LM];split
    · exact one_mulC _
    · exact zero_mulC _
   rw [sum_congr e,sum_delta hi];rfl
 | x :: t, v, he, i, hi => by
   simp only [litN] at *
   by_cases h:(appM n (placeN n x.pos.toNat (ownW x.kind) (ownM x.kind x.n)) v).2=0
   · rw [if_pos h] at *
     have ih:=litN_lin t _ he i hi;rw [show 40*(x::t).length=40+40*t.length by simp;omega,← rpow_rpow,ih,sum_rpow];have e:∀ j,j<n→rpow 40 (mulC (LM n t i j) (VV (appM n (placeN n x.pos.toNat (ownW x.kind) (ownM x.kind x.n)) v).1 j))=mulC (LM n t i j) (sumC n fun a=>mulC (PV n x j a) (VV v a)):=fun j hj=>by
      rw [← mul_rpow']
      congr 1
      exact appM_val h hj
     rw [sum_congr e,sum_assoc];rfl
   · rw [if_neg h] at he;exact absurd he h
theorem LM_append {n:Nat}:∀ (l m:List It) (i j:Nat),i<n→j<n→LM n (l++m) i j=sumC n (fun a=>mulC (LM n m i a) (LM n l a j))
 | [], m, i, j, _, hj => by
   have e:∀ a,a<n→mulC (LM n m i a) (LM n [] a j)=if j=a then LM n m i a else zero:=fun a _=>by
    simp only [LM];by_cases h:a=j
    · rw [if_pos h,if_pos h.symm,mulC_one]
    · rw [if_neg h,if_neg (fun e=>h e.symm),mulC_zero]
   rw [sum_congr e,sum_delta hj];rfl
 | x :: t, m, i, j, hi, hj => by
   simp only [List.cons_append,LM];rw [sum_assoc n (fun a=>LM n m i a) (fun a b=>LM n t a b) (fun b=>PV n x b j)];exact sum_congr fun a ha=>by rw [LM_append t m i a hi ha]
theorem itsM_id {n:Nat} {its:List It} (he:(itsM n its (idN n)).2=0) {i k:Nat} (hi:i<n) (hk:k<n):rpow (40*its.length) (MV (itsM n its (idN n)).1 n i k)=rpow 40 (LM n its i k):=by
 rw [itsM_lin its _ he i k hi hk];have e:∀ j,j<n→mulC (LM n its i j) (MV (idN n) n j k)=if k=j then rpow 40 (LM n its i j) else zero:=fun j hj=>by
  rw [MV_id hj hk];by_cases h:j=k
  · rw [if_pos h,if_pos h.symm,mul_rpow',mulC_one]
  · rw [if_neg h,if_neg (fun e=>h e.symm),mulC_zero]
 rw [sum_congr e,sum_delta hk]
theorem light_law {n:Nat} {its:List It} {v:List Num} (hm:(itsM n its (idN n)).2=0) (hv:(litN n its v).2=0) {i:Nat} (hi:i<n) {x:Num} (hx:(litN n its v).1[i]? = some x) (vx:validB x.x x.k=true)
  (he:(rowN (prowV (itsM n its (idN n)).1 v n i)).e=0):(⟨(rowN (prowV (itsM n its (idN n)).1 v n i)).x,(rowN (prowV (itsM n its (idN n)).1 v n i)).k⟩:Num)=x:=by
 refine val_inj (rowA_valid _ _ _ (by decide) he) vx ?_;apply rpow_inj (40*its.length+40);have e1:rpow (40*its.length+40) (val x)=rpow 40 (sumC n (fun j=>mulC (LM n its i j) (VV v j))):=by
  have h:=litN_lin its v hv i hi;unfold VV at h;rw [List.getD_eq_getElem?_getD,hx] at h;rw [Nat.add_comm,← rpow_rpow];exact congrArg (rpow 40) h
 rw [e1,← rpow_rpow,row_val he,sum_rpow,sum_rpow];refine sum_congr fun j hj=>?_
 rw [← mul_rpow,itsM_id hm hi hj,mul_rpow]
theorem litN_valid {n:Nat}:∀ (its:List It) (v:List Num),VldL v→VldL (litN n its v).1
 | [],v,h=>h
 | x :: t, v, _ => by
   simp only [litN];by_cases h:(appM n (placeN n x.pos.toNat (ownW x.kind) (ownM x.kind x.n)) v).2=0
   · rw [if_pos h];exact litN_valid t _ (appM_valid _ _ _)
   · rw [if_neg h];exact fun i z hz=>by simp at hz
theorem litN_length {n:Nat}:∀ (its:List It) (v:List Num),v.length=n→(litN n its v).2=0→(litN n its v).1.length=n
 | [],v,h,_=>h
 | x :: t, v, _, he => by
   simp only [litN] at *
   by_cases h:(appM n (placeN n x.pos.toNat (ownW x.kind) (ownM x.kind x.n)) v).2=0
   · rw [if_pos h] at *;exact litN_length t _ (appM_length h) he
   · rw [if_neg h] at he;exact absurd he h
theorem litN_nil {n:Nat}:∀ (its:List It) (v:List Num),(litN n its v).2≠0→(litN n its v).1=[]
 | [],v,he=>absurd rfl he
 | x :: t, v, he => by
   simp only [litN] at *
   by_cases h:(appM n (placeN n x.pos.toNat (ownW x.kind) (ownM x.kind x.n)) v).2=0
   · rw [if_pos h] at *;exact litN_nil t _ he
   · rw [if_neg h]
theorem matOf_zero {g:Int} {its:List It} {A:List Num} (h:matOf g its=(A,0)):chkIts g its=0∧itsM g.toNat its (idN g.toNat)=(A,0):=by
 unfold matOf at h;by_cases hc:chkIts g its=0
 · rw [if_pos hc] at h;exact ⟨hc,h⟩
 · rw [if_neg hc] at h;exact absurd (congrArg Prod.snd h) hc
theorem litOf_litN {n:Nat} {its:List It} {v:List Num} (hk:chkIts n its=0) (hv:isVec v=true) (hn:v.length=n):litOf n its v=litN n its v:=by
 unfold litOf;rw [if_pos hk,if_pos hv,if_pos (by rw [hn]),Int.toNat_natCast]
theorem light_facts {n:Nat} {its:List It} {A v X:List Num} {E:Int} (hA:matOf n its=(A,0)) (hv:v.length=n) (hV:VldL v) (hX:litN n its v=(X,E)) :
  (E≠0→X=[])∧(E=0→X.length=n)∧(E=0→∀ i,i<n→∀ x,X[i]? = some x→(rowN (prowV A v n i)).e=0→(⟨(rowN (prowV A v n i)).x,(rowN (prowV A v n i)).k⟩:Num)=x):=by
 have h1:=(matOf_zero hA).2;rw [Int.toNat_natCast] at h1;refine ⟨fun h=>?_,fun h=>?_,fun h i hi x hx he=>?_⟩
 · have:=litN_nil its v (n:=n) (by rw [hX];exact h)
   rwa [hX] at this
 · have:=litN_length its v hv (by rw [hX];exact h)
   rwa [hX] at this
 · have hq:=litN_valid (n:=n) its v hV
   rw [hX] at hq;have:=light_law (n:=n) (its:=its) (v:=v) (by rw [h1]) (by rw [hX];exact h) hi (x:=x) (by rw [hX];exact hx) (hq i x hx) (by rw [h1];exact he)
   rwa [h1] at this
open Go Go.RowKit Amp Msh
def bk (l:List It) (k:Nat):List (Int × It):=(List.range k).map fun j=>(((l.length - 1 - j:Nat):Int),(l[l.length - 1 - j]?).getD ⟨0,0,0,⟨#[]⟩⟩)
theorem bk_length (l:List It) (k:Nat):(bk l k).length=k:=by simp [bk]
theorem bk_succ {l:List It} {k:Nat} {z:It} (h:l[l.length - 1 - k]? = some z):bk l (k+1)=bk l k++[(((l.length - 1 - k:Nat):Int),z)]:=by
 simp [bk,List.range_succ,h]
theorem bk_snd (l:List It):(bk l l.length).map Prod.snd=l.reverse:=by
 apply List.ext_getElem
 · simp [bk]
 · intro i h1 h2
   have h3:i<l.length:=by simpa [bk] using h1
   have h4:l.length - 1 - i<l.length:=by omega
   simp [bk,List.getElem_reverse,h4]
def halfOf (x:It):It:=⟨1,x.pos,4,⟨#[]⟩⟩
def invItem (x:It):List It:=if x.kind=1 then [⟨x.kind,x.pos,wrap64 (8 - x.n),x.name⟩] else if x.kind=2 then [halfOf x,x,halfOf x] else [x]
def outB (l:List (Int × It)):List It:=l.flatMap fun x=>invItem x.2
theorem outB_snoc (l:List (Int × It)) (x:Int × It):outB (l++[x])=outB l++invItem x.2:=by simp [outB]
theorem invItem_length (x:It):(invItem x).length≤3:=by
 unfold invItem;split
 · simp
 · split <;> simp
theorem outB_length:∀ l:List (Int × It),(outB l).length≤3*l.length
 | []=>by simp [outB]
 | x :: t => by
   have h1:=outB_length t;have h2:=invItem_length x.2;simp only [outB,List.flatMap_cons,List.length_append,List.length_cons] at *
   omega
def invL (l:List It):List It:=l.reverse.flatMap invItem
theorem outB_bk (l:List It):outB (bk l l.length)=invL l:=by
 unfold outB invL;rw [← bk_snd,List.flatMap_map]
theorem invL_length (l:List It):(invL l).length≤3*l.length:=by
 rw [← outB_bk];have:=outB_length (bk l l.length)
 rwa [bk_length] at this
open Go Go.RowKit Amp Msh
def E4 (e:Int):Prop:=e=0∨e=4
theorem made_e4 (x:C4) (k:Int):E4 (made x k).e:=by
 unfold made;split
 · exact .inl rfl
 · exact .inr rfl
theorem mulN_e4 {x y:C4} {k j:Int} (hx:validB x k=true) (hy:validB y j=true):E4 (mulN x k y j).e:=by
 unfold mulN;rw [if_pos ⟨hx,hy⟩];exact made_e4 _ _
theorem addN_e4 {x y:C4} {k j:Int} (hx:validB x k=true) (hy:validB y j=true):E4 (addN x k y j).e:=by
 unfold addN;rw [if_pos ⟨hx,hy⟩];exact made_e4 _ _
theorem mulN_ok {x y:C4} {k j:Int} (h:(mulN x k y j).e=0):validB (mulN x k y j).x (mulN x k y j).k=true:=by
 rcases mulN_cases x y k j with ⟨e,h3,h4⟩ | ⟨_,_,i,s',_,_,_,_,h4,h5,_⟩
 · rw [h4] at h;exact absurd h h3
 · rw [h4];exact h5
theorem addN_ok {x y:C4} {k j:Int} (h:(addN x k y j).e=0):validB (addN x k y j).x (addN x k y j).k=true:=by
 rcases addN_cases x y k j with ⟨e,h3,h4⟩ | ⟨_,_,i,s',_,_,_,_,h4,h5,_⟩
 · rw [h4] at h;exact absurd h h3
 · rw [h4];exact h5
theorem rowA_e4:∀ (l:List (Num × Num)) (s:C4) (k:Int),validB s k=true→(∀ p∈l,validB p.1.x p.1.k=true∧validB p.2.x p.2.k=true)→E4 (rowA s k l).e
 | [],_,_,_,_=>.inl rfl
 | p :: t, s, k, hs, h => by
   obtain ⟨h1,h2⟩:=h p List.mem_cons_self;simp only [rowA];by_cases hm:(mulN p.1.x p.1.k p.2.x p.2.k).e=0
   · rw [if_pos hm]
     have hmv:validB (mulN p.1.x p.1.k p.2.x p.2.k).x (mulN p.1.x p.1.k p.2.x p.2.k).k=true:=mulN_ok hm;by_cases ha:(addN s k (mulN p.1.x p.1.k p.2.x p.2.k).x (mulN p.1.x p.1.k p.2.x p.2.k).k).e=0
     · rw [if_pos ha]
       exact rowA_e4 t _ _ (addN_ok ha) fun q hq=>h q (List.mem_cons_of_mem _ hq)
     · rw [if_neg ha]
       exact addN_e4 hs hmv
   · rw [if_neg hm]
     exact mulN_e4 h1 h2
theorem seqR_e4:∀ L:List Res,(∀ r∈L,E4 r.e)→E4 (seqR L).2
 | [],_=>.inl rfl
 | r :: t, h => by
   have h1:=seqR_e4 t fun q hq=>h q (List.mem_cons_of_mem _ hq)
   have h2:=h r List.mem_cons_self;simp only [seqR];by_cases hr:r.e=0
   · rw [if_pos hr]
     by_cases ht:(seqR t).2=0
     · rw [if_pos ht];exact .inl rfl
     · rw [if_neg ht];exact h1
   · rw [if_neg hr];exact h2
theorem VldL.getD {l:List Num} (h:VldL l) (q:Nat):validB (l.getD q ⟨zero,0⟩).x (l.getD q ⟨zero,0⟩).k=true:=by
 rw [List.getD_eq_getElem?_getD];cases hq:l[q]? with
 | none=>decide
 | some z=>exact h q z hq
theorem mulM_e4 {n:Nat} {la lb:List Num} (ha:VldL la) (hb:VldL lb):E4 (mulM n la lb).2:=by
 refine seqR_e4 _ fun r hr=>?_
 unfold gridR at hr;obtain ⟨q,_,rfl⟩:=List.mem_map.1 hr;refine rowA_e4 _ _ _ (by decide) fun p hp=>?_
 unfold prow at hp;obtain ⟨j,_,rfl⟩:=List.mem_map.1 hp;exact ⟨VldL.getD ha _,VldL.getD hb _⟩
theorem turnC_valid:((List.range 8).all fun q=>validB (turnC q ⟨1,0,0,0⟩) 0)=true:=by decide +kernel
theorem ownM_valid (kind m:Int):VldL (ownM kind m):=VldL.of fun z hz=>by
 unfold ownM at hz;split at hz
 · simp only [List.mem_singleton] at hz
   subst hz;have h:=turnC_valid;rw [List.all_eq_true] at h;exact h _ (List.mem_range.2 (by omega))
 · split at hz
   · simp only [List.mem_cons,List.not_mem_nil,or_false] at hz
     rcases hz with rfl | rfl | rfl | rfl <;> decide
   · simp only [List.mem_cons,List.not_mem_nil,or_false] at hz
     rcases hz with rfl | rfl | rfl | rfl <;> decide
theorem itsM_e4 {n:Nat}:∀ (its:List It) (l:List Num),VldL l→E4 (itsM n its l).2
 | [],_,_=>.inl rfl
 | x :: t, l, h => by
   simp only [itsM];by_cases hs:(stepM n x l).2=0
   · rw [if_pos hs];exact itsM_e4 t _ (mulM_valid _ _ _)
   · rw [if_neg hs];exact mulM_e4 (placeL_valid (ownM_valid _ _) _) h
def hN (n p:Nat):List Num:=placeN n p 1 (ownM 1 4)
def chkHalf:Bool:=(List.range 7).all fun n=>(List.range 7).all fun p=>!decide (1≤p∧p+2≤n+1) ||
 (chkK (hN n p)&&chkK (placeN n p 2 (ownM 2 0))&&(List.range n).all fun i=>(List.range n).all fun k =>
   (decide (i=k)||decide ((hN n p).getD (i*n+k) noneZ=noneZ)) &&
   decide (mulC (mulC (v1 ((hN n p).getD (i*n+i) noneZ)) (v1 ((placeN n p 2 (ownM 2 0)).getD (i*n+k) noneZ))) (v1 ((hN n p).getD (k*n+k) noneZ))=rpow 2 (conjC (v1 ((placeN n p 2 (ownM 2 0)).getD (k*n+i) noneZ)))))
theorem chk_half:chkHalf=true:=by decide +kernel
def chkDag (m:Nat) (lm lm':List Num):Bool:=(List.range 7).all fun n=>(List.range 7).all fun p=>!decide (1≤p∧p+m≤n+1)||decide (placeN n p m lm'=dagL n (placeN n p m lm))
theorem chk_cross':chkDag 2 (ownM 3 0) (ownM 3 0)=true:=by decide +kernel
theorem chk_phase':((List.range 8).all fun q=>chkDag 1 [⟨turnC q ⟨1,0,0,0⟩,0⟩] [⟨turnC ((8 - q) % 8) ⟨1,0,0,0⟩,0⟩])=true:=by decide +kernel
theorem chkDag_at {m:Nat} {lm lm':List Num} (h:chkDag m lm lm'=true) {n p:Nat} (hn:n<7) (hp:p<7) (h1:1≤p∧p+m≤n+1):placeN n p m lm'=dagL n (placeN n p m lm):=by
 unfold chkDag at h;rw [List.all_eq_true] at h;have h2:=h n (List.mem_range.2 hn);rw [List.all_eq_true] at h2;have h3:=h2 p (List.mem_range.2 hp);rw [decide_eq_true h1] at h3
 simpa using h3
theorem half_at {n p:Nat} (hn:n<7) (hp:p<7) (h1:1≤p∧p+2≤n+1) :
  (∀ i k,i<n→k<n→i≠k→MV (hN n p) n i k=zero)∧(∀ i k,i<n→k<n→mulC (mulC (MV (hN n p) n i i) (MV (placeN n p 2 (ownM 2 0)) n i k)) (MV (hN n p) n k k)=rpow 80 (conjC (MV (placeN n p 2 (ownM 2 0)) n k i))):=by
 have h:=chk_half;unfold chkHalf at h;rw [List.all_eq_true] at h;have h2:=h n (List.mem_range.2 hn);rw [List.all_eq_true] at h2;have h3:=h2 p (List.mem_range.2 hp);rw [decide_eq_true h1,Bool.not_true,Bool.false_or,Bool.and_eq_true,Bool.and_eq_true] at h3;obtain ⟨⟨hk,hk2⟩,h4⟩:=h3;rw [List.all_eq_true] at h4;have hr:∀ i k,i<n→k<n→(i=k∨(hN n p).getD (i*n+k) noneZ=noneZ)∧mulC (mulC (v1 ((hN n p).getD (i*n+i) noneZ)) (v1 ((placeN n p 2 (ownM 2 0)).getD (i*n+k) noneZ))) (v1 ((hN n p).getD (k*n+k) noneZ))=rpow 2 (conjC (v1 ((placeN n p 2 (ownM 2 0)).getD (k*n+i) noneZ))):=fun i k hi hk=>by
  have h5:=h4 i (List.mem_range.2 hi);rw [List.all_eq_true] at h5;have h6:=h5 k (List.mem_range.2 hk);rw [Bool.and_eq_true,Bool.or_eq_true,decide_eq_true_eq,decide_eq_true_eq,decide_eq_true_eq] at h6;exact h6
 refine ⟨fun i k hi hk hne=>?_,fun i k hi hk'=>?_⟩
 · rcases (hr i k hi hk).1 with e | e
   · exact absurd e hne
   · unfold MV
     rw [e];exact rpow_zero _
 · have e:=(hr i k hi hk').2
   unfold MV;rw [val_v1 (chkK_at hk _),val_v1 (chkK_at hk _),val_v1 (chkK_at hk2 _),val_v1 (chkK_at hk2 _),conj_rpow];simp only [mul_rpow,mul_rpow',rpow_rpow];rw [e,rpow_rpow]
theorem LM_one {n:Nat} (y:It) {i k:Nat} (hi:i<n):LM n [y] i k=PV n y i k:=by
 simp only [LM];have e:∀ j,j<n→mulC (if i=j then oneC else zero) (PV n y j k)=if i=j then PV n y j k else zero:=fun j _=>by
  split
  · exact one_mulC _
  · exact zero_mulC _
 rw [sum_congr e,sum_delta hi]
theorem inv_item {n:Nat} {x:It} (hn:n≤6) (h:okIt n x=true):∃ c,(invItem x).length=1+2*c∧∀ i k,i<n→k<n→LM n (invItem x) i k=rpow (80*c) (conjC (PV n x k i)):=by
 obtain ⟨h1,hk,h2,h3,h4,h5⟩:=okIt_iff h;have hp7:x.pos.toNat<7:=by
  have:1≤ownW x.kind:=by unfold ownW;split <;> omega
  omega
 rcases hk with hk | hk | hk
 · refine ⟨0,by unfold invItem;rw [if_pos hk];rfl,fun i k hi hk'=>?_⟩
   have hq:1≤x.n∧x.n≤7:=by
    have hw:=h1;unfold wid at hw;by_cases hc:1≤x.n∧x.n≤7
    · exact hc
    · rw [if_pos h5,if_neg (fun h=>hc h.2),if_neg (by omega)] at hw
      exact absurd rfl hw
   have e:invItem x=[⟨x.kind,x.pos,8 - x.n,x.name⟩]:=by
    unfold invItem;rw [if_pos hk,show wrap64 (8 - x.n)=8 - x.n by unfold wrap64;omega]
   rw [e,LM_one _ hi];unfold PV;dsimp only;have ho:ownW x.kind=1:=by unfold ownW;rw [if_pos hk]
   rw [ho] at h3 ⊢;have e1:ownM x.kind x.n=[⟨turnC x.n.toNat ⟨1,0,0,0⟩,0⟩]:=by unfold ownM;rw [if_pos hk,show x.n % 8=x.n by omega]
   have e2:ownM x.kind (8 - x.n)=[⟨turnC ((8 - x.n.toNat) % 8) ⟨1,0,0,0⟩,0⟩]:=by unfold ownM;rw [if_pos hk,show ((8 - x.n) % 8).toNat=(8 - x.n.toNat) % 8 by omega]
   have hc:=chk_phase';rw [List.all_eq_true] at hc;rw [e1,e2,chkDag_at (hc x.n.toNat (List.mem_range.2 (by omega))) (by omega) hp7 (by omega),MV_dag _ hi hk'];rfl
 · refine ⟨1,by unfold invItem;rw [if_neg (by omega),if_pos hk];rfl,fun i k hi hk'=>?_⟩
   have e:invItem x=[halfOf x,x,halfOf x]:=by
    unfold invItem;rw [if_neg (by omega),if_pos hk]
   rw [e];have ho:ownW x.kind=2:=by unfold ownW;rw [if_neg (by omega)]
   rw [ho] at h3;have hx:∀ i k,PV n x i k=MV (placeN n x.pos.toNat 2 (ownM 2 0)) n i k:=fun i k=>by
    unfold PV;rw [ho,show ownM x.kind x.n=ownM 2 0 by unfold ownM;rw [if_neg (by omega),if_neg (by omega)];rfl]
   have hh:∀ i k,PV n (halfOf x) i k=MV (hN n x.pos.toNat) n i k:=fun i k=>rfl
   obtain ⟨hd,hc⟩:=half_at (n:=n) (p:=x.pos.toNat) (by omega) hp7 (by omega);have e1:∀ a,a<n→LM n [x,halfOf x] i a=mulC (MV (hN n x.pos.toNat) n i i) (PV n x i a):=fun a _=>by
    have e2:LM n [x,halfOf x] i a=sumC n fun b=>mulC (LM n [halfOf x] i b) (PV n x b a):=rfl
    rw [e2];have e3:∀ b,b<n→mulC (LM n [halfOf x] i b) (PV n x b a)=if i=b then mulC (MV (hN n x.pos.toNat) n i b) (PV n x b a) else zero:=fun b hb=>by
     rw [LM_one _ hi,hh];split
     · rfl
     · rename_i hne
       rw [hd i b hi hb hne,zero_mulC]
    rw [sum_congr e3,sum_delta hi]
   have e4:LM n [halfOf x,x,halfOf x] i k=sumC n fun a=>mulC (LM n [x,halfOf x] i a) (PV n (halfOf x) a k):=rfl
   rw [e4];have e5:∀ a,a<n→mulC (LM n [x,halfOf x] i a) (PV n (halfOf x) a k)=if k=a then mulC (mulC (MV (hN n x.pos.toNat) n i i) (PV n x i a)) (MV (hN n x.pos.toNat) n a k) else zero:=fun a ha=>by
    rw [e1 a ha,hh];split
    · rfl
    · rename_i hne
      rw [hd a k ha hk' (fun e=>hne e.symm),mulC_zero]
   rw [sum_congr e5,sum_delta hk',hx,hx,hc i k hi hk']
 · refine ⟨0,by unfold invItem;rw [if_neg (by omega),if_neg (by omega)];rfl,fun i k hi hk'=>?_⟩
   have e:invItem x=[x]:=by
    unfold invItem;rw [if_neg (by omega),if_neg (by omega)]
   rw [e,LM_one _ hi];have ho:ownW x.kind=2:=by unfold ownW;rw [if_neg (by omega)]
   rw [ho] at h3;unfold PV;rw [ho,show ownM x.kind x.n=ownM 3 0 by unfold ownM;rw [if_neg (by omega),if_pos hk];rfl];have hz:=chkDag_at chk_cross' (n:=n) (p:=x.pos.toNat) (by omega) hp7 (by omega);have:=MV_dag (placeN n x.pos.toNat 2 (ownM 3 0)) hi hk';rw [← hz] at this;exact this
theorem invL_cons (x:It) (t:List It):invL (x::t)=invL t++invItem x:=by simp [invL]
theorem inv_lin {n:Nat} (hn:n≤6):∀ its:List It,okIts n its=true→∃ c,(invL its).length=its.length+2*c∧∀ i k,i<n→k<n→LM n (invL its) i k=rpow (80*c) (conjC (LM n its k i))
 | [], _ => ⟨0, rfl, fun i k hi hk => by
   show (if i=k then oneC else zero)=conjC (if k=i then oneC else zero)
   by_cases h:i=k
   · rw [if_pos h,if_pos h.symm];rfl
   · rw [if_neg h,if_neg (fun e=>h e.symm)];rfl⟩
 | x :: t, h => by
   unfold okIts at h;rw [List.all_cons,Bool.and_eq_true] at h;obtain ⟨c1,l1,h1⟩:=inv_item hn h.1;obtain ⟨c2,l2,h2⟩:=inv_lin hn t h.2;refine ⟨c2+c1,by rw [invL_cons,List.length_append,l1,l2,List.length_cons];omega,fun i k hi hk=>?_⟩;rw [invL_cons,LM_append _ _ _ _ hi hk];have e:∀ a,a<n→mulC (LM n (invItem x) i a) (LM n (invL t) a k)=rpow (80*(c2+c1)) (conjC (mulC (LM n t k a) (PV n x a i))):=fun a ha=>by
    rw [h1 i a hi ha,h2 a k ha hk,mul_rpow,mul_rpow',rpow_rpow,conj_mul,mul_comm',show 80*c1+80*c2=80*(c2+c1) by omega]
   rw [sum_congr e,← sum_rpow,← sum_conj];rfl
theorem dagL_valid {n:Nat} {l:List Num} (h:VldL l):VldL (dagL n l):=VldL.of fun z hz=>by
 unfold dagL gridR at hz;obtain ⟨q,_,rfl⟩:=List.mem_map.1 hz;dsimp only;show validB (conjC _) _=true
 rw [valid_conj];exact VldL.getD h _
theorem invItem_ok {g:Int} {x:It} (h:okIt g x=true):okIts g (invItem x)=true:=by
 obtain ⟨h1,hk,h2,h3,h4,h5⟩:=okIt_iff h;rcases hk with hk | hk | hk
 · have hq:1≤x.n∧x.n≤7:=by
    have hw:=h1;unfold wid at hw;by_cases hc:1≤x.n∧x.n≤7
    · exact hc
    · rw [if_pos h5,if_neg (fun h=>hc h.2),if_neg (by omega)] at hw
      exact absurd rfl hw
   have ho:ownW x.kind=1:=by unfold ownW;rw [if_pos hk]
   rw [ho] at h3;unfold invItem;rw [if_pos hk,show wrap64 (8 - x.n)=8 - x.n by unfold wrap64;omega];unfold okIts okIt;have hw:wid x.kind (8 - x.n) x.name=1:=by unfold wid;rw [if_pos h5,if_pos (by omega)]
   simp only [List.all_cons,List.all_nil,hw,Bool.and_true,Bool.and_eq_true,decide_eq_true_eq];omega
 · have ho:ownW x.kind=2:=by unfold ownW;rw [if_neg (by omega)]
   rw [ho] at h3;unfold invItem;rw [if_neg (by omega),if_pos hk];have hw:wid 1 4 ⟨#[]⟩=1:=by
    have h0:(⟨#[]⟩:ByteArray).toList=[]:=by unfold ByteArray.toList ByteArray.toList.loop;rfl
    unfold wid;rw [if_pos h0];rfl
   have hh:okIt g (halfOf x)=true:=by
    unfold okIt halfOf;simp only [hw,Bool.and_eq_true,decide_eq_true_eq];omega
   unfold okIts;simp only [List.all_cons,List.all_nil,h,hh,Bool.and_true]
 · unfold invItem
   rw [if_neg (by omega),if_neg (by omega)];unfold okIts;simp only [List.all_cons,List.all_nil,h,Bool.and_true]
theorem chk_of {g:Int} {l:List It} (h1:1≤g∧g≤6) (h2:l.length≤5000) (h3:okIts g l=true):chkIts g l=0:=by
 unfold chkIts vldIts;rw [if_pos h1,decide_eq_true h1,decide_eq_true h2,h3];rfl
end Go.Proofs.YtchdmecjhaanfaaGreatDoor
namespace Msh
open Amp
def onB (x:It) (g:Int):Bool:=decide (x.pos≤g)&&decide (g<x.pos+wid x.kind x.n x.name)
def touchB (x y:It):Bool:=[1,2,3,4,5,6].any fun g:Int=>onB x g&&onB y g
def colOf (pre:List (It × Int)) (x:It):Int:=pre.foldl (fun m p=>if touchB x p.1=true then max m (p.2+1) else m) 1
def colP (l:List It):List (It × Int):=l.foldl (fun acc x=>acc++[(x,colOf acc x)]) []
def colL (l:List It):List Int:=(colP l).map Prod.snd
theorem colOf_snoc (pre:List (It × Int)) (p:It × Int) (x:It):colOf (pre++[p]) x=if touchB x p.1=true then max (colOf pre x) (p.2+1) else colOf pre x:=by
 simp [colOf,List.foldl_append]
theorem colP_snoc (l:List It) (x:It):colP (l++[x])=colP l++[(x,colOf (colP l) x)]:=by
 simp [colP,List.foldl_append]
theorem colL_snoc (l:List It) (x:It):colL (l++[x])=colL l++[colOf (colP l) x]:=by
 simp [colL,colP_snoc]
theorem snoc_ind {α:Type} {P:List α→Prop} (h0:P []) (h1:∀ l x,P l→P (l++[x])) (l:List α):P l:=by
 rw [← List.reverse_reverse l]
 induction l.reverse with
 | nil=>exact h0
 | cons x t ih=>rw [List.reverse_cons];exact h1 _ x ih
theorem colP_fst (l:List It):(colP l).map Prod.fst=l:=by
 induction l using snoc_ind with
 | h0=>rfl
 | h1 l x ih=>rw [colP_snoc,List.map_append,ih];rfl
theorem colP_length (l:List It):(colP l).length=l.length:=by
 have:=congrArg List.length (colP_fst l)
 rwa [List.length_map] at this
theorem colL_length (l:List It):(colL l).length=l.length:=by
 rw [colL,List.length_map,colP_length]
theorem colOf_bound (pre:List (It × Int)) (x:It) {B:Int} (hB:0≤B) (h:∀ p∈pre,p.2≤B):1≤colOf pre x∧colOf pre x≤B+1:=by
 induction pre using snoc_ind with
 | h0=>simp [colOf];omega
 | h1 l p ih =>
   have h1:=ih fun q hq=>h q (List.mem_append_left _ hq)
   have h2:=h p (List.mem_append_right _ List.mem_cons_self);rw [colOf_snoc];split <;> omega
theorem colP_bound (l:List It):∀ p∈colP l,1≤p.2∧p.2≤l.length:=by
 induction l using snoc_ind with
 | h0=>intro p hp;cases hp
 | h1 l x ih =>
   intro p hp;rw [colP_snoc] at hp;rw [List.length_append];rcases List.mem_append.1 hp with hp | hp
   · have:=ih p hp
     simp;omega
   · rw [List.mem_singleton] at hp
     subst hp;have:=colOf_bound (colP l) x (B:=l.length) (by omega) fun q hq=>(ih q hq).2
     simp;omega
def lastOf (pre:List (It × Int)) (g:Int):Int:=pre.foldl (fun m p=>if onB p.1 g=true then max m p.2 else m) 0
theorem lastOf_snoc (pre:List (It × Int)) (p:It × Int) (g:Int):lastOf (pre++[p]) g=if onB p.1 g=true then max (lastOf pre g) p.2 else lastOf pre g:=by
 simp [lastOf,List.foldl_append]
theorem lastOf_bound (pre:List (It × Int)) (g:Int) {B:Int} (hB:0≤B) (h:∀ p∈pre,p.2≤B):0≤lastOf pre g∧lastOf pre g≤B:=by
 induction pre using snoc_ind with
 | h0=>simp [lastOf];exact hB
 | h1 l p ih =>
   have h1:=ih fun q hq=>h q (List.mem_append_left _ hq)
   have h2:=h p (List.mem_append_right _ List.mem_cons_self);rw [lastOf_snoc];split <;> omega
def cmax (pre:List (It × Int)) (x:It):Int:=if x.kind=1 then max 0 (lastOf pre x.pos) else max (max 0 (lastOf pre x.pos)) (lastOf pre (x.pos+1))
theorem on_iff {g:Int} {x:It} (h:okIt g x=true) (q:Int):onB x q=true↔(q=x.pos∨(x.kind≠1∧q=x.pos+1)):=by
 obtain ⟨_,hk,_,_,hw,_⟩:=okIt_iff h;unfold onB;rw [hw,Bool.and_eq_true,decide_eq_true_eq,decide_eq_true_eq];unfold ownW;split <;> omega
theorem touch_iff {g:Int} {x y:It} (h:okIt g x=true) (hg:g≤6):touchB x y=true↔(onB y x.pos=true∨(x.kind≠1∧onB y (x.pos+1)=true)):=by
 obtain ⟨_,hk,hp,hq,_,_⟩:=okIt_iff h;unfold touchB;rw [List.any_eq_true];constructor
 · rintro ⟨q,_,hq⟩
   rw [Bool.and_eq_true,on_iff h] at hq;rcases hq.1 with rfl | ⟨h1,rfl⟩
   · exact .inl hq.2
   · exact .inr ⟨h1,hq.2⟩
 · intro hh
   have hw:(1:Int)≤ownW x.kind:=by unfold ownW;split <;> omega
   rcases hh with hh | ⟨h1,hh⟩
   · refine ⟨x.pos, ?_,by rw [Bool.and_eq_true,on_iff h];exact ⟨.inl rfl,hh⟩⟩
     exact k79_
   · refine ⟨x.pos+1, ?_,by rw [Bool.and_eq_true,on_iff h];exact ⟨.inr ⟨h1,rfl⟩,hh⟩⟩
     have hw2:ownW x.kind=2:=by unfold ownW;rw [if_neg h1]
     rw [hw2] at hq;exact k79_
theorem col_last {g:Int} {x:It} (h:okIt g x=true) (hg:g≤6) (pre:List (It × Int)) (hp:∀ p∈pre,0≤p.2):colOf pre x=cmax pre x+1:=by
 induction pre using snoc_ind with
 | h0=>simp [colOf,cmax,lastOf]
 | h1 l p ih =>
   have h1:=ih fun q hq=>hp q (List.mem_append_left _ hq)
   have h2:=hp p (List.mem_append_right _ List.mem_cons_self);rw [colOf_snoc,h1];unfold cmax;rw [lastOf_snoc,lastOf_snoc];have ht:=touch_iff (y:=p.1) h hg;by_cases hk:x.kind=1
   · rw [if_pos hk,if_pos hk]
     by_cases ho:onB p.1 x.pos=true
     · rw [if_pos (ht.2 (.inl ho)),if_pos ho];omega
     · rw [if_neg ho,if_neg (fun e=>by rcases ht.1 e with e | e;exact ho e;exact e.1 hk)]
   · rw [if_neg hk,if_neg hk]
     by_cases ho:onB p.1 x.pos=true
     · rw [if_pos (ht.2 (.inl ho)),if_pos ho]
       split <;> omega
     · rw [if_neg ho]
       by_cases ho2:onB p.1 (x.pos+1)=true
       · rw [if_pos (ht.2 (.inr ⟨hk,ho2⟩)),if_pos ho2];omega
       · rw [if_neg ho2,if_neg (fun e=>by rcases ht.1 e with e | e;exact ho e;exact ho2 e.2)]
def lastL (n:Nat) (pre:List (It × Int)):List Int:=(List.range (n+1)).map fun q:Nat=>lastOf pre q
theorem lastL_length (n:Nat) (pre:List (It × Int)):(lastL n pre).length=n+1:=by simp [lastL]
theorem lastL_at {n q:Nat} (pre:List (It × Int)) (hq:q≤n):(lastL n pre)[q]? = some (lastOf pre q):=by
 simp [lastL,List.getElem?_range (show q<n+1 by omega)]
theorem lastL_nil (n:Nat):lastL n []=List.replicate (n+1) 0:=by
 apply List.ext_getElem
 · simp [lastL]
 · intro i h1 h2
   simp [lastL,lastOf]
theorem lastL_step {n:Nat} {x:It} (h:okIt n x=true) (pre:List (It × Int)) :
  lastL n (pre++[(x,cmax pre x+1)])=if x.kind=1 then (lastL n pre).set x.pos.toNat (cmax pre x+1) else ((lastL n pre).set x.pos.toNat (cmax pre x+1)).set (x.pos+1).toNat (cmax pre x+1):=by
 obtain ⟨_,hk,hp,hq,hw,_⟩:=okIt_iff h;have hon:=on_iff h;apply List.ext_getElem
 · split <;> simp [lastL_length]
 · intro i h1 h2
   rw [lastL_length] at h1;have e1:(lastL n (pre++[(x,cmax pre x+1)]))[i]'(by rw [lastL_length];exact h1)=lastOf (pre++[(x,cmax pre x+1)]) i:=by simp [lastL]
   have e2:∀ hh,(lastL n pre)[i]'hh=lastOf pre i:=fun hh=>by simp [lastL]
   rw [e1,lastOf_snoc];dsimp only;by_cases hk1:x.kind=1
   · simp only [if_pos hk1,List.getElem_set,e2]
     by_cases hi:x.pos.toNat=i
     · have hii:(i:Int)=x.pos:=by omega
       rw [if_pos hi,if_pos ((hon i).2 (.inl hii))];unfold cmax;rw [if_pos hk1,hii];omega
     · rw [if_neg hi,if_neg (fun e=>by rcases (hon i).1 e with e | e;omega;exact e.1 hk1)]
   · simp only [if_neg hk1,List.getElem_set,e2]
     by_cases hi2:(x.pos+1).toNat=i
     · have hii:(i:Int)=x.pos+1:=by omega
       rw [if_pos hi2,if_pos ((hon i).2 (.inr ⟨hk1,hii⟩))];unfold cmax;rw [if_neg hk1,hii];omega
     · rw [if_neg hi2]
       by_cases hi:x.pos.toNat=i
       · have hii:(i:Int)=x.pos:=by omega
         rw [if_pos hi,if_pos ((hon i).2 (.inl hii))];unfold cmax;rw [if_neg hk1,hii];omega
       · rw [if_neg hi,if_neg (fun e=>by rcases (hon i).1 e with e | e <;> omega)]
def cntK (l:List It) (k:Int):Int:=l.foldl (fun m x=>if x.kind=k then m+1 else m) 0
def cntM (l:List Int):Int:=l.foldl (fun m c=>max m c) 0
theorem cntK_snoc (l:List It) (x:It) (k:Int):cntK (l++[x]) k=if x.kind=k then cntK l k+1 else cntK l k:=by simp [cntK,List.foldl_append]
theorem cntM_snoc (l:List Int) (c:Int):cntM (l++[c])=max (cntM l) c:=by simp [cntM,List.foldl_append]
theorem cntK_bound (l:List It) (k:Int):0≤cntK l k∧cntK l k≤l.length:=by
 induction l using snoc_ind with
 | h0=>simp [cntK]
 | h1 l x ih =>
   rw [cntK_snoc,List.length_append];split <;> simp <;> omega
def colE (g:Int) (l:List It):List Int × Int:=if chkIts g l=0 then (colL l,0) else ([],chkIts g l)
theorem ok_pos {g:Int} {x:It} (h:okIt g x=true) (hg:g≤6):1≤x.pos∧x.pos≤6:=by
 obtain ⟨_,_,hp,hq,_,_⟩:=okIt_iff h;have:(1:Int)≤ownW x.kind:=by unfold ownW;split <;> omega
 omega
theorem take_snoc {α:Type} {l:List α} {i:Nat} {x:α} (h:l[i]? = some x):l.take (i+1)=l.take i++[x]:=by
 rw [List.take_add_one,h];rfl
end Msh
namespace Go.Proofs.YtchdmecjhaanfaaGreatDoor
open Go Amp Msh
def chkOut (m:Nat) (lm:List Num):Bool:=(List.range 7).all fun n=>(List.range 7).all fun p=>!decide (1≤p∧p+m≤n+1) ||
 ((List.range n).all fun i=>(List.range n).all fun k=>(decide (p≤i+1∧i+1<p+m∧p≤k+1∧k+1<p+m))||decide ((placeN n p m lm).getD (i*n+k) noneZ=if i=k then oneZ else noneZ))
theorem chkOut_couple:chkOut 2 (ownM 2 0)=true:=by decide +kernel
theorem chkOut_cross:chkOut 2 (ownM 3 0)=true:=by decide +kernel
theorem chkOut_phase:((List.range 8).all fun q=>chkOut 1 [⟨turnC q ⟨1,0,0,0⟩,0⟩])=true:=by decide +kernel
theorem chkOut_at {m:Nat} {lm:List Num} (h:chkOut m lm=true) {n p:Nat} (hn:n<7) (hp:p<7) (h1:1≤p∧p+m≤n+1) {i k:Nat} (hi:i<n) (hk:k<n) (hb:¬ (p≤i+1∧i+1<p+m∧p≤k+1∧k+1<p+m)) :
  (placeN n p m lm).getD (i*n+k) noneZ=if i=k then oneZ else noneZ:=by
 unfold chkOut at h;rw [List.all_eq_true] at h;have h2:=h n (List.mem_range.2 hn);rw [List.all_eq_true] at h2;have h3:=h2 p (List.mem_range.2 hp);rw [decide_eq_true h1,Bool.not_true,Bool.false_or,List.all_eq_true] at h3;have h4:=h3 i (List.mem_range.2 hi);rw [List.all_eq_true] at h4;have h5:=h4 k (List.mem_range.2 hk);rw [decide_eq_false hb,Bool.false_or] at h5;exact of_decide_eq_true h5
def OutQ (m:Nat) (lm:List Num):Prop:=chkOut m lm=true
theorem outQ_couple:OutQ 2 (ownM 2 0):=chkOut_couple
theorem outQ_cross:OutQ 2 (ownM 3 0):=chkOut_cross
theorem outQ_phase (q:Nat) (hq:q<8):OutQ 1 [⟨turnC q ⟨1,0,0,0⟩,0⟩]:=by
 have h:=chkOut_phase;rw [List.all_eq_true] at h;exact h q (List.mem_range.2 hq)
theorem PV_kinds {n:Nat} {x:It} (hn:n≤6) (h:okIt n x=true) {Q:Nat→List Num→Prop} (h1:∀ q,q<8→Q 1 [⟨turnC q ⟨1,0,0,0⟩,0⟩]) (h2:Q 2 (ownM 2 0)) (h3:Q 2 (ownM 3 0)) :
  Q (ownW x.kind) (ownM x.kind x.n)∧x.pos.toNat<7∧(1≤x.pos.toNat∧x.pos.toNat+ownW x.kind≤n+1):=by
 obtain ⟨_,hk,hp,hq,_,_⟩:=okIt_iff h;have hw:1≤ownW x.kind:=by unfold ownW;split <;> omega
 refine ⟨?_,by omega,by omega⟩;rcases hk with hk | hk | hk
 · rw [show ownW x.kind=1 by unfold ownW;rw [if_pos hk],show ownM x.kind x.n=[⟨turnC (x.n % 8).toNat ⟨1,0,0,0⟩,0⟩] by unfold ownM;rw [if_pos hk]]
   exact h1 _ (by omega)
 · rw [show ownW x.kind=2 by unfold ownW;rw [if_neg (by omega)],show ownM x.kind x.n=ownM 2 0 by unfold ownM;rw [if_neg (by omega),if_neg (by omega)];rfl]
   exact h2
 · rw [show ownW x.kind=2 by unfold ownW;rw [if_neg (by omega)],show ownM x.kind x.n=ownM 3 0 by unfold ownM;rw [if_neg (by omega),if_pos hk];rfl]
   exact h3
theorem PV_out {n:Nat} {x:It} (hn:n≤6) (h:okIt n x=true) {i k:Nat} (hi:i<n) (hk:k<n) (hb:¬ (onB x ((i:Int)+1)=true∧onB x ((k:Int)+1)=true)):PV n x i k=if i=k then rpow 40 oneC else zero:=by
 obtain ⟨hq,hp7,hp1,hpw⟩:=PV_kinds hn h (Q:=OutQ) outQ_phase outQ_couple outQ_cross;have hon:=on_iff h;obtain ⟨_,hkd,hp,_,_,_⟩:=okIt_iff h;have hw:(x.kind=1∧ownW x.kind=1)∨(x.kind≠1∧ownW x.kind=2):=by unfold ownW;by_cases hk:x.kind=1;exact .inl ⟨hk,if_pos hk⟩;exact .inr ⟨hk,if_neg hk⟩
 have hbb:¬ (x.pos.toNat≤i+1∧i+1<x.pos.toNat+ownW x.kind∧x.pos.toNat≤k+1∧k+1<x.pos.toNat+ownW x.kind):=by
  intro hc;refine hb ⟨(hon _).2 ?_,(hon _).2 ?_⟩ <;> omega
 unfold PV MV;rw [chkOut_at hq (by omega) hp7 ⟨hp1,hpw⟩ hi hk hbb];by_cases hik:i=k
 · rw [if_pos hik,if_pos hik]
   unfold val;rfl
 · rw [if_neg hik,if_neg hik]
   unfold val;exact rpow_zero _
theorem commute_core {n:Nat} {X Y:Nat→Nat→C4} {u:C4} {Bx By:Nat→Prop} (hX:∀ i k,i<n→k<n→¬ (Bx i∧Bx k)→X i k=if i=k then u else zero) (hY:∀ i k,i<n→k<n→¬ (By i∧By k)→Y i k=if i=k then u else zero)
  (hd:∀ i,Bx i→By i→False) {i j:Nat} (hi:i<n) (hj:j<n):sumC n (fun a=>mulC (X i a) (Y a j))=sumC n (fun a=>mulC (Y i a) (X a j)):=by
 by_cases hb:Bx i
 · have e1:∀ a,a<n→mulC (X i a) (Y a j)=if j=a then mulC (X i a) u else zero:=fun a ha=>by
    by_cases hba:Bx a
    · rw [hY a j ha hj (fun h=>hd a hba h.1)]
      by_cases h:a=j
      · rw [if_pos h,if_pos h.symm]
      · rw [if_neg h,if_neg (fun e=>h e.symm),mulC_zero]
    · rw [hX i a hi ha (fun h=>hba h.2),if_neg (fun e:i=a=>hba (by rw [← e];exact hb)),zero_mulC]
      split
      · exact (zero_mulC _).symm
      · rfl
   have e2:∀ a,a<n→mulC (Y i a) (X a j)=if i=a then mulC u (X a j) else zero:=fun a ha=>by
    rw [hY i a hi ha (fun h=>hd i hb h.1)];split
    · rfl
    · exact zero_mulC _
   rw [sum_congr e1,sum_congr e2,sum_delta hj,sum_delta hi,mul_comm']
 · have e1:∀ a,a<n→mulC (X i a) (Y a j)=if i=a then mulC u (Y a j) else zero:=fun a ha=>by
    rw [hX i a hi ha (fun h=>hb h.1)];split
    · rfl
    · exact zero_mulC _
   have e2:∀ a,a<n→mulC (Y i a) (X a j)=if j=a then mulC (Y i a) u else zero:=fun a ha=>by
    by_cases hba:Bx a
    · rw [hY i a hi ha (fun h=>hd a hba h.2),if_neg (fun e:i=a=>hb (by rw [e];exact hba)),zero_mulC]
      split
      · exact (zero_mulC _).symm
      · rfl
    · rw [hX a j ha hj (fun h=>hba h.1)]
      by_cases h:a=j
      · rw [if_pos h,if_pos h.symm]
      · rw [if_neg h,if_neg (fun e=>h e.symm),mulC_zero]
   rw [sum_congr e1,sum_congr e2,sum_delta hi,sum_delta hj,mul_comm']
theorem PV_comm {n:Nat} {x y:It} (hn:n≤6) (hx:okIt n x=true) (hy:okIt n y=true) (ht:touchB x y=false) {i j:Nat} (hi:i<n) (hj:j<n) :
  sumC n (fun a=>mulC (PV n x i a) (PV n y a j))=sumC n (fun a=>mulC (PV n y i a) (PV n x a j)):=by
 refine commute_core (Bx:=fun i=>onB x ((i:Int)+1)=true) (By:=fun i=>onB y ((i:Int)+1)=true) (fun i k hi hk hb=>PV_out hn hx hi hk hb) (fun i k hi hk hb=>PV_out hn hy hi hk hb) (fun q h1 h2=>?_) hi hj;obtain ⟨_,hkd,hp,hq,_,_⟩:=okIt_iff hx;have hq1:=(on_iff hx _).1 h1;have hw:(x.kind=1∧ownW x.kind=1)∨(x.kind≠1∧ownW x.kind=2):=by unfold ownW;by_cases hk:x.kind=1;exact .inl ⟨hk,if_pos hk⟩;exact .inr ⟨hk,if_neg hk⟩
 have:touchB x y=true:=by
  unfold touchB;rw [List.any_eq_true];refine ⟨(q:Int)+1, ?_,by rw [h1,h2];rfl⟩;exact k79_
 rw [ht] at this;cases this
theorem LM_past {n:Nat} (hn:n≤6) {x:It} (hx:okIt n x=true):∀ B:List It,(∀ y∈B,okIt n y=true∧touchB x y=false)→∀ i j,i<n→j<n→LM n (B++[x]) i j=LM n ([x]++B) i j
 | [],_,_,_,_,_=>rfl
 | y :: t, h, i, j, hi, hj => by
   obtain ⟨hy,ht⟩:=h y List.mem_cons_self;have ih:=LM_past hn hx t fun z hz=>h z (List.mem_cons_of_mem _ hz)
   show sumC n (fun a=>mulC (LM n (t++[x]) i a) (PV n y a j))=sumC n (fun a=>mulC (LM n (y::t) i a) (PV n x a j))
   have e1:∀ a,a<n→mulC (LM n (t++[x]) i a) (PV n y a j)=mulC (sumC n fun b=>mulC (LM n t i b) (PV n x b a)) (PV n y a j):=fun a ha=>by rw [ih i a hi ha];rfl
   have e2:∀ a,a<n→mulC (LM n (y::t) i a) (PV n x a j)=mulC (sumC n fun b=>mulC (LM n t i b) (PV n y b a)) (PV n x a j):=fun a _=>rfl
   rw [sum_congr e1,sum_congr e2,← sum_assoc,← sum_assoc];exact sum_congr fun b hb=>by rw [PV_comm hn hx hy ht hb hj]
def chkK0 (l:List Num):Bool:=l.all fun z=>decide (z.k=0)
def chkE (m:Nat) (lm:List Num):Bool:=(List.range 7).all fun n=>(List.range 7).all fun p=>!decide (1≤p∧p+m≤n+1)||chkK0 (placeN n p m lm)
theorem chkE_phase:((List.range 8).all fun q=>chkE 1 [⟨turnC q ⟨1,0,0,0⟩,0⟩])=true:=by decide +kernel
theorem chkAll_at {f:Nat→Nat→Bool} {m:Nat} (h:((List.range 7).all fun n=>(List.range 7).all fun p=>!decide (1≤p∧p+m≤n+1)||f n p)=true) {n p:Nat} (hn:n<7) (hp:p<7) (h1:1≤p∧p+m≤n+1):f n p=true:=by
 rw [List.all_eq_true] at h;have h2:=h n (List.mem_range.2 hn);rw [List.all_eq_true] at h2;have h3:=h2 p (List.mem_range.2 hp)
 rwa [decide_eq_true h1,Bool.not_true,Bool.false_or] at h3
theorem val_k0 {l:List Num} (h:chkK0 l=true) (q:Nat):val (l.getD q noneZ)=rpow 40 (l.getD q noneZ).x:=by
 have e:(l.getD q noneZ).k=0:=by
  rw [List.getD_eq_getElem?_getD];cases hq:l[q]? with
  | none=>rfl
  | some z =>
    unfold chkK0 at h;rw [List.all_eq_true] at h;exact of_decide_eq_true (h z (List.mem_of_getElem? hq))
 unfold val;rw [e];rfl
open Go Amp Msh
theorem grid_inj {n i k i' k':Nat} (hk:k<n) (hk':k'<n) (h:i*n+k=i'*n+k'):i=i'∧k=k':=by
 have h1:=grid_div (i:=i) hk;have h2:=grid_div (i:=i') hk';rw [h] at h1;exact ⟨h1.1.symm.trans h2.1,h1.2.symm.trans h2.2⟩
theorem placeL_get {n p m:Nat} {lm:List Num} (hp1:1≤p) (hp:p+m≤n+1):∀ q,q≤m*m→∀ i k,k<n →
  (placeL n p m lm q)[i*n+k]? = if (p - 1≤i∧i<p - 1+m)∧(p - 1≤k∧k<p - 1+m)∧(i - (p - 1))*m+(k - (p - 1))<q then some (lm.getD ((i - (p - 1))*m+(k - (p - 1))) noneZ) else (idN n)[i*n+k]?
 | 0, _, i, k, _ => by
   rw [if_neg fun h=>absurd h.2.2 (Nat.not_lt_zero _)];rfl
 | q + 1, hq, i, k, hk => by
   have ih:=placeL_get (lm:=lm) hp1 hp q (by omega) i k hk;have hm:0<m:=by
    rcases Nat.eq_zero_or_pos m with h | h
    · subst h;omega
    · exact h
   obtain ⟨r,hr⟩:∃ r,q / m=r:=⟨_,rfl⟩;obtain ⟨s,hs⟩:∃ s,q % m=s:=⟨_,rfl⟩;have hsm:s<m:=by rw [← hs];exact Nat.mod_lt _ hm
   have hrm:r<m:=by rw [← hr];exact Nat.div_lt_of_lt_mul (by omega)
   have hqe:r*m+s=q:=by
    rw [← hr,← hs,Nat.mul_comm];exact Nat.div_add_mod q m
   have hpi:=placeI_eq (n:=n) (p:=p) (i:=r) hsm;have hlt:=placeI_lt (n:=n) hp1 hp hrm hsm;rw [hqe] at hpi;rw [placeL,List.getElem?_set,placeL_length,hpi];by_cases h:p - 1+r=i∧p - 1+s=k
   · obtain ⟨h1,h2⟩:=h
     have e1:i - (p - 1)=r:=by omega
     have e2:k - (p - 1)=s:=by omega
     rw [if_pos (by rw [← h1,← h2];omega),if_pos hlt,if_pos ⟨by omega,by omega,by rw [e1,e2];omega⟩,e1,e2,hqe]
   · rw [if_neg fun e=>h (by
      have:=grid_inj (n:=n) (i:=p - 1+r) (k:=p - 1+s) (i':=i) (k':=k) (by omega) hk (by rw [← Nat.add_assoc];exact e);exact this),ih]
     by_cases hc:(p - 1≤i∧i<p - 1+m)∧(p - 1≤k∧k<p - 1+m)∧(i - (p - 1))*m+(k - (p - 1))<q
     · rw [if_pos hc,if_pos ⟨hc.1,hc.2.1,by omega⟩]
     · rw [if_neg hc,if_neg fun hd=>hc ⟨hd.1,hd.2.1,by
        rcases Nat.lt_or_ge ((i - (p - 1))*m+(k - (p - 1))) q with h' | h'
        · exact h'
        · have:=grid_inj (n:=m) (i:=i - (p - 1)) (k:=k - (p - 1)) (i':=r) (k':=s) (by omega) hsm (by omega)
          exact absurd ⟨by omega,by omega⟩ h⟩]
def emb (b m:Nat) (A:Nat→Nat→C4) (d:C4) (i k:Nat):C4 :=
 if (b≤i∧i<b+m)∧(b≤k∧k<b+m) then A (i - b) (k - b) else if i=k then d else zero
theorem MV_place {n p m:Nat} {lm:List Num} (hp1:1≤p) (hp:p+m≤n+1) {i k:Nat} (hi:i<n) (hk:k<n) :
  MV (placeN n p m lm) n i k=emb (p - 1) m (MV lm m) (rpow 40 oneC) i k:=by
 have hid:=MV_id hi hk;unfold MV at hid;unfold MV placeN emb;rw [List.getD_eq_getElem?_getD,placeL_get hp1 hp (m*m) (Nat.le_refl _) i k hk];by_cases hc:(p - 1≤i∧i<p - 1+m)∧(p - 1≤k∧k<p - 1+m)
 · have hg:(i - (p - 1))*m+(k - (p - 1))<m*m:=grid_lt (by omega) (by omega)
   rw [if_pos ⟨hc.1,hc.2,hg⟩,if_pos hc];rfl
 · rw [if_neg fun h=>hc ⟨h.1,h.2.1⟩,if_neg hc,← hid,List.getD_eq_getElem?_getD]
theorem sum_block {b m:Nat}:∀ (n:Nat) (f:Nat→C4),b+m≤n→(∀ a,a<n→¬ (b≤a∧a<b+m)→f a=zero)→sumC n f=sumC m fun a=>f (b+a)
 | 0, f, h, _ => by
   obtain rfl:m=0:=by omega
   rfl
 | n + 1, f, h, hz => by
   by_cases hb:b+m≤n
   · have h0:=hz n (by omega) (by omega)
     have ih:=sum_block n f hb fun a ha=>hz a (by omega)
     show addC (sumC n f) (f n)=_
     rw [h0,addC_zero,ih]
   · cases m with
     | zero =>
       have:∀ a,a<n+1→f a=zero:=fun a ha=>hz a ha (by omega)
       rw [sum_congr this,sum_zero];rfl
     | succ m =>
       obtain rfl:n=b+m:=by omega
       have ih:=sum_block (b:=b) (m:=m) (b+m) f (Nat.le_refl _) fun a ha hn=>hz a (by omega) (by omega)
       show addC (sumC (b+m) f) (f (b+m))=addC (sumC m fun a=>f (b+a)) (f (b+m))
       rw [ih]
theorem emb_mul {n b m:Nat} (hb:b+m≤n) (A B:Nat→Nat→C4) (d e:C4) {i k:Nat} (hi:i<n) :
  sumC n (fun a=>mulC (emb b m A d i a) (emb b m B e a k))=emb b m (fun i k=>sumC m fun a=>mulC (A i a) (B a k)) (mulC d e) i k:=by
 by_cases hib:b≤i∧i<b+m
 · rw [sum_block n _ hb fun a ha hn=>by
    have h1:emb b m A d i a=zero:=by
     unfold emb;rw [if_neg fun h=>hn h.2,if_neg (by omega)]
    rw [h1,zero_mulC]]
   by_cases hkb:b≤k∧k<b+m
   · unfold emb
     rw [if_pos ⟨hib,hkb⟩];refine sum_congr fun a ha=>?_
     rw [if_pos ⟨hib,by omega,by omega⟩,if_pos ⟨⟨by omega,by omega⟩,hkb⟩,Nat.add_sub_cancel_left]
   · have hz:∀ a,a<m→mulC (emb b m A d i (b+a)) (emb b m B e (b+a) k)=zero:=fun a ha=>by
      have h1:emb b m B e (b+a) k=zero:=by
       unfold emb;rw [if_neg fun h=>hkb h.2,if_neg (by omega)]
      rw [h1,mulC_zero]
     rw [sum_congr hz,sum_zero];unfold emb;rw [if_neg fun h=>hkb h.2,if_neg (by omega)]
 · have hz:∀ a,a<n→mulC (emb b m A d i a) (emb b m B e a k)=if i=a then mulC d (emb b m B e a k) else zero:=fun a ha=>by
    have h1:emb b m A d i a=if i=a then d else zero:=by
     unfold emb;rw [if_neg fun h=>hib h.1]
    rw [h1];split
    · rfl
    · exact zero_mulC _
   have hn:¬ ((b≤i∧i<b+m)∧(b≤k∧k<b+m)):=fun h=>hib h.1
   rw [sum_congr hz,sum_delta hi];unfold emb;rw [if_neg hn,if_neg hn];split
   · rfl
   · exact mulC_zero _
theorem emb_congr {b m n:Nat} {A B:Nat→Nat→C4} {d:C4} (h:∀ i k,i<m→k<m→A i k=B i k) (i k:Nat) (_:b+m≤n):emb b m A d i k=emb b m B d i k:=by
 unfold emb;split
 · exact h _ _ (by omega) (by omega)
 · rfl
def sh (b:Int) (x:It):It:=⟨x.kind,x.pos+b,x.n,x.name⟩
theorem PV_sh {n m b:Nat} {x:It} (hb:b+m≤n) (h:okIt m x=true) {i k:Nat} (hi:i<n) (hk:k<n):PV n (sh b x) i k=emb b m (PV m x) (rpow 40 oneC) i k:=by
 obtain ⟨_,_,h3,h4,_,_⟩:=okIt_iff h;obtain ⟨p,hp⟩:∃ p:Nat,x.pos=p:=⟨x.pos.toNat,by omega⟩;unfold PV;show MV (placeN n (x.pos+b).toNat (ownW x.kind) (ownM x.kind x.n)) n i k=_
 rw [hp,show ((p:Int)+(b:Int)).toNat=p+b by omega,MV_place (by omega) (by omega) hi hk];unfold emb;dsimp only;rw [show ((p:Int)).toNat=p by omega];by_cases h1:(b≤i∧i<b+m)∧(b≤k∧k<b+m)
 · rw [if_pos h1,MV_place (by omega) (by omega) (by omega) (by omega)]
   unfold emb;by_cases h2:(p - 1≤i - b∧i - b<p - 1+ownW x.kind)∧(p - 1≤k - b∧k - b<p - 1+ownW x.kind)
   · rw [if_pos h2,if_pos ⟨by omega,by omega⟩,show i - (p+b - 1)=i - b - (p - 1) by omega,show k - (p+b - 1)=k - b - (p - 1) by omega]
   · rw [if_neg h2,if_neg fun h=>h2 ⟨by omega,by omega⟩]
     by_cases h3:i=k
     · rw [if_pos h3,if_pos (by omega)]
     · rw [if_neg h3,if_neg (by omega)]
 · rw [if_neg h1,if_neg fun h=>h1 ⟨by omega,by omega⟩]
theorem one_rpow (a b:Nat):mulC (rpow a oneC) (rpow b oneC)=rpow (a+b) oneC:=by
 rw [mul_rpow,one_mulC,rpow_rpow]
theorem LM_sh {n m b:Nat} (hb:b+m≤n):∀ l:List It,okIts m l=true→∀ i k,i<n→k<n→LM n (l.map (sh b)) i k=emb b m (LM m l) (rpow (40*l.length) oneC) i k
 | [], _, i, k, _, _ => by
   show (if i=k then oneC else zero)=_
   unfold emb;by_cases h1:(b≤i∧i<b+m)∧(b≤k∧k<b+m)
   · rw [if_pos h1]
     show _=if i - b=k - b then oneC else zero
     by_cases h2:i=k
     · rw [if_pos h2,if_pos (by omega)]
     · rw [if_neg h2,if_neg (by omega)]
   · rw [if_neg h1]
     rfl
 | x :: t, h, i, k, hi, hk => by
   have hx:okIt m x=true∧okIts m t=true:=by
    unfold okIts at *
    rw [List.all_cons,Bool.and_eq_true] at h;exact h
   have e:∀ a,a<n→mulC (LM n (t.map (sh b)) i a) (PV n (sh b x) a k)=mulC (emb b m (LM m t) (rpow (40*t.length) oneC) i a) (emb b m (PV m x) (rpow 40 oneC) a k):=fun a ha=>by
    rw [LM_sh hb t hx.2 i a hi ha,PV_sh hb hx.1 ha hk]
   show sumC n (fun a=>mulC (LM n (t.map (sh b)) i a) (PV n (sh b x) a k))=_
   rw [sum_congr e,emb_mul hb _ _ _ _ hi,one_rpow,show 40*t.length+40=40*(x::t).length by simp;omega];rfl
open Go Amp Msh
def lastIx {α:Type} (p:α→Bool):List α→Option Nat
 | []=>none
 | a :: t => match lastIx p t with
   | some k=>some (k+1)
   | none=>if p a=true then some 0 else none
theorem lastIx_none {α:Type} {p:α→Bool}:∀ {l:List α},lastIx p l=none→∀ z∈l,p z=false
 | [],_,z,hz=>by cases hz
 | a :: t, h, z, hz => by
   simp only [lastIx] at h;cases ht:lastIx p t with
   | some k=>rw [ht] at h;cases h
   | none =>
     rw [ht] at h;by_cases ha:p a=true
     · simp [ha] at h
     · rcases List.mem_cons.1 hz with rfl | hz
       · simpa using ha
       · exact lastIx_none ht z hz
theorem lastIx_some {α:Type} {p:α→Bool}:∀ {l:List α} {k:Nat},lastIx p l=some k→∃ A y B,l=A++y::B∧A.length=k∧p y=true∧∀ z∈B,p z=false
 | [],k,h=>by cases h
 | a :: t, k, h => by
   simp only [lastIx] at h;cases ht:lastIx p t with
   | some j =>
     rw [ht] at h;obtain rfl:j+1=k:=by injection h
     obtain ⟨A,y,B,h1,h2,h3,h4⟩:=lastIx_some ht;exact ⟨a::A,y,B,by rw [h1];rfl,by rw [List.length_cons,h2],h3,h4⟩
   | none =>
     rw [ht] at h;by_cases ha:p a=true
     · simp [ha] at h
       subst h;exact ⟨[],a,t,rfl,rfl,ha,lastIx_none ht⟩
     · simp [ha] at h
theorem lastIx_nil {α:Type} {p:α→Bool}:∀ {l:List α},(∀ z∈l,p z=false)→lastIx p l=none
 | [],_=>rfl
 | a :: t, h => by
   simp only [lastIx];rw [lastIx_nil fun z hz=>h z (List.mem_cons_of_mem _ hz),h a List.mem_cons_self];rfl
theorem lastIx_of {α:Type} {p:α→Bool} {y:α} {B:List α} (hy:p y=true) (hB:∀ z∈B,p z=false):∀ A:List α,lastIx p (A++y::B)=some A.length
 | [] => by
   show lastIx p (y::B)=_
   simp only [lastIx];rw [lastIx_nil hB];simp [hy]
 | a :: t => by
   show lastIx p (a::(t++y::B))=_
   simp only [lastIx];rw [lastIx_of hy hB t];rfl
theorem It.eq_iff {a b:It}:(a.kind=b.kind∧a.pos=b.pos∧a.n=b.n∧a.name.data=b.name.data)↔a=b:=by
 constructor
 · rintro ⟨h1,h2,h3,h4⟩
   obtain ⟨_,_,_,⟨_⟩⟩:=a;obtain ⟨_,_,_,⟨_⟩⟩:=b;dsimp only at *
   subst h1;subst h2;subst h3;subst h4;rfl
 · rintro rfl
   exact ⟨rfl,rfl,rfl,rfl⟩
instance:DecidableEq It:=fun _ _=>decidable_of_iff _ It.eq_iff
def stepR (out:List It) (x:It):List It :=
 match lastIx (fun y=>onB y x.pos) out with
 | none=>out++[x]
 | some k =>
   match out[k]? with
   | none=>out++[x]
   | some y =>
     if x.kind=1∧y.kind=1 then (if (y.n+x.n) % 8=0 then out.eraseIdx k else out.set k ⟨y.kind,y.pos,(y.n+x.n) % 8,y.name⟩)
     else if x.kind=3∧y=x∧lastIx (fun y=>onB y (x.pos+1)) out=some k then out.eraseIdx k
     else out++[x]
def tidR (l:List It):List It:=l.foldl stepR []
theorem tidR_snoc (l:List It) (x:It):tidR (l++[x])=stepR (tidR l) x:=by simp [tidR,List.foldl_append]
theorem stepR_cases {g:Int} {out:List It} {x:It} (hg:g≤6) (ho:okIts g out=true) (hx:okIt g x=true) :
  (stepR out x=out++[x]) ∨
  (∃ A y B,out=A++y::B∧x.kind=1∧y.kind=1∧y.pos=x.pos∧(∀ z∈B,touchB x z=false)∧((y.n+x.n) % 8=0∧stepR out x=A++B∨(y.n+x.n) % 8≠0∧stepR out x=A++⟨y.kind,y.pos,(y.n+x.n) % 8,y.name⟩::B)) ∨
  (∃ A B,out=A++x::B∧x.kind=3∧(∀ z∈B,touchB x z=false)∧stepR out x=A++B):=by
 unfold stepR;cases hl:lastIx (fun y=>onB y x.pos) out with
 | none=>exact .inl rfl
 | some k =>
   obtain ⟨A,y,B,h1,h2,h3,h4⟩:=lastIx_some hl;have hk:out[k]? = some y:=by rw [h1,← h2];simp
   have hoy:okIt g y=true:=okIts_at hk ho;dsimp only;rw [hk];dsimp only;by_cases c1:x.kind=1∧y.kind=1
   · rw [if_pos c1]
     have hpos:y.pos=x.pos:=by
      rcases (on_iff hoy _).1 h3 with e | e
      · exact e.symm
      · exact absurd c1.2 e.1
     have hB:∀ z∈B,touchB x z=false:=fun z hz=>by
      cases ht:touchB x z with
      | false=>rfl
      | true =>
        rcases (touch_iff hx hg).1 ht with e | e
        · rw [h4 z hz] at e;cases e
        · exact absurd c1.1 e.1
     refine .inr (.inl ⟨A,y,B,h1,c1.1,c1.2,hpos,hB, ?_⟩);by_cases hs:(y.n+x.n) % 8=0
     · rw [if_pos hs]
       exact .inl ⟨hs,by rw [h1,← h2];simp [List.eraseIdx_append_of_length_le]⟩
     · rw [if_neg hs]
       exact .inr ⟨hs,by rw [h1,← h2];simp⟩
   · rw [if_neg c1]
     by_cases c2:x.kind=3∧y=x∧lastIx (fun y=>onB y (x.pos+1)) out=some k
     · rw [if_pos c2]
       obtain ⟨k3,rfl,h5⟩:=c2;obtain ⟨A',y',B',g1,g2,g3,g4⟩:=lastIx_some h5;have hBB:B'=B:=by
        have e1:out.drop (k+1)=B:=by rw [h1,← h2];simp
        have e2:out.drop (k+1)=B':=by rw [g1,← g2];simp
        rw [← e1,← e2]
       refine .inr (.inr ⟨A,B,h1,k3,fun z hz=>?_,by rw [h1,← h2];simp [List.eraseIdx_append_of_length_le]⟩);cases ht:touchB y z with
       | false=>rfl
       | true =>
         rcases (touch_iff hx hg).1 ht with e | e
         · rw [h4 z hz] at e;cases e
         · rw [← hBB] at hz;rw [g4 z hz] at e;exact absurd e.2 Bool.false_ne_true
     · rw [if_neg c2];exact .inl rfl
theorem okIts_app {g:Int} {A B:List It}:okIts g (A++B)=true↔okIts g A=true∧okIts g B=true:=by
 unfold okIts;rw [List.all_append,Bool.and_eq_true]
theorem okIts_cons {g:Int} {y:It} {B:List It}:okIts g (y::B)=true↔okIt g y=true∧okIts g B=true:=by
 unfold okIts;rw [List.all_cons,Bool.and_eq_true]
theorem ok_phase {g:Int} {y:It} (h:okIt g y=true) (hk:y.kind=1):1≤y.n∧y.n≤7:=by
 obtain ⟨h1,_,_,_,_,h5⟩:=okIt_iff h;unfold wid at h1;by_cases hc:1≤y.n∧y.n≤7
 · exact hc
 · rw [if_pos h5,if_neg (fun h=>hc h.2),if_neg (by omega)] at h1
   exact absurd rfl h1
theorem ok_turned {g:Int} {y:It} (h:okIt g y=true) (hk:y.kind=1) {s:Int} (h1:1≤s) (h7:s≤7):okIt g ⟨y.kind,y.pos,s,y.name⟩=true:=by
 obtain ⟨_,_,hp,hq,_,h5⟩:=okIt_iff h;have ho:ownW y.kind=1:=by unfold ownW;rw [if_pos hk]
 rw [ho] at hq;have hw:wid y.kind s y.name=1:=by unfold wid;rw [if_pos h5,if_pos ⟨hk,h1,h7⟩]
 unfold okIt;simp only [hw,Bool.and_eq_true,decide_eq_true_eq];omega
theorem stepR_ok {g:Int} {out:List It} {x:It} (hg:g≤6) (ho:okIts g out=true) (hx:okIt g x=true):okIts g (stepR out x)=true∧(stepR out x).length≤out.length+1:=by
 rcases stepR_cases hg ho hx with h | ⟨A,y,B,h1,hx1,hy1,hp,hB,⟨hs,h⟩ | ⟨hs,h⟩⟩ | ⟨A,B,h1,hx3,hB,h⟩
 · rw [h,okIts_app]
   exact ⟨⟨ho,by unfold okIts;simp [hx]⟩,by simp⟩
 · rw [h1,okIts_app,okIts_cons] at ho
   rw [h,okIts_app];exact ⟨⟨ho.1,ho.2.2⟩,by rw [h1];simp;omega⟩
 · rw [h1,okIts_app,okIts_cons] at ho
   rw [h,okIts_app,okIts_cons];have hy:=ok_phase ho.2.1 hy1;have hxx:=ok_phase hx hx1;exact ⟨⟨ho.1,ok_turned ho.2.1 hy1 (by omega) (by omega),ho.2.2⟩,by rw [h1];simp⟩
 · rw [h1,okIts_app,okIts_cons] at ho
   rw [h,okIts_app];exact ⟨⟨ho.1,ho.2.2⟩,by rw [h1];simp;omega⟩
theorem tidR_ok {g:Int} (hg:g≤6) (l:List It) (h:okIts g l=true):okIts g (tidR l)=true∧(tidR l).length≤l.length:=by
 induction l using snoc_ind with
 | h0=>exact ⟨rfl,Nat.le_refl _⟩
 | h1 l x ih =>
   rw [okIts_app] at h;obtain ⟨h1,h2⟩:=ih h.1;have hx:okIt g x=true:=by have:=h.2;unfold okIts at this;simpa using this
   have:=stepR_ok hg h1 hx;rw [tidR_snoc,List.length_append];exact ⟨this.1,by simp;omega⟩
def chkJoin:Bool:=(List.range 7).all fun n=>(List.range 7).all fun p=>!decide (1≤p∧p+1≤n+1) ||
 ((List.range 8).all fun a=>(List.range 8).all fun b=>(List.range n).all fun i =>
   decide (mulC ((placeN n p 1 [⟨turnC a ⟨1,0,0,0⟩,0⟩]).getD (i*n+i) noneZ).x ((placeN n p 1 [⟨turnC b ⟨1,0,0,0⟩,0⟩]).getD (i*n+i) noneZ).x=((placeN n p 1 [⟨turnC ((a+b) % 8) ⟨1,0,0,0⟩,0⟩]).getD (i*n+i) noneZ).x))
theorem chk_join:chkJoin=true:=by decide +kernel
def chkZero:Bool:=(List.range 7).all fun n=>(List.range 7).all fun p=>!decide (1≤p∧p+1≤n+1)||decide (placeN n p 1 [⟨turnC 0 ⟨1,0,0,0⟩,0⟩]=idN n)
theorem chk_zero:chkZero=true:=by decide +kernel
def phM (n p s:Nat) (i k:Nat):C4:=MV (placeN n p 1 [⟨turnC s ⟨1,0,0,0⟩,0⟩]) n i k
theorem PV_phase {n:Nat} {x:It} (hk:x.kind=1) (i k:Nat):PV n x i k=phM n x.pos.toNat (x.n % 8).toNat i k:=by
 unfold PV phM;rw [show ownW x.kind=1 by unfold ownW;rw [if_pos hk],show ownM x.kind x.n=[⟨turnC (x.n % 8).toNat ⟨1,0,0,0⟩,0⟩] by unfold ownM;rw [if_pos hk]]
theorem phM_join {n p a b:Nat} (hn:n≤6) (hp1:1≤p) (hpn:p≤n) (ha:a<8) (hb:b<8) (i:Nat) (hi:i<n):mulC (phM n p a i i) (phM n p b i i)=rpow 40 (phM n p ((a+b) % 8) i i):=by
 have h1:=chkAll_at (f:=fun n p=>(List.range 8).all fun a=>(List.range 8).all fun b=>(List.range n).all fun i=>decide (mulC ((placeN n p 1 [⟨turnC a ⟨1,0,0,0⟩,0⟩]).getD (i*n+i) noneZ).x ((placeN n p 1 [⟨turnC b ⟨1,0,0,0⟩,0⟩]).getD (i*n+i) noneZ).x=((placeN n p 1 [⟨turnC ((a+b) % 8) ⟨1,0,0,0⟩,0⟩]).getD (i*n+i) noneZ).x)) chk_join (n:=n) (p:=p) (by omega) (by omega) (by omega);rw [List.all_eq_true] at h1;have h2:=h1 a (List.mem_range.2 ha);rw [List.all_eq_true] at h2;have h3:=h2 b (List.mem_range.2 hb);rw [List.all_eq_true] at h3;have h4:=of_decide_eq_true (h3 i (List.mem_range.2 hi));have hk:∀ q,q<8→chkK0 (placeN n p 1 [⟨turnC q ⟨1,0,0,0⟩,0⟩])=true:=fun q hq=>by
  have hc:=chkE_phase;rw [List.all_eq_true] at hc;exact chkAll_at (f:=fun n p=>chkK0 (placeN n p 1 [⟨turnC q ⟨1,0,0,0⟩,0⟩])) (hc q (List.mem_range.2 hq)) (by omega) (by omega) (by omega)
 unfold phM MV;rw [val_k0 (hk a ha),val_k0 (hk b hb),val_k0 (hk _ (by omega)),mul_rpow,mul_rpow',rpow_rpow,rpow_rpow,h4]
theorem phase_off {n:Nat} (hn:n≤6) {x:It} (hx:okIt n x=true) (hk:x.kind=1) {i k:Nat} (hi:i<n) (hk':k<n) (hne:i≠k):PV n x i k=zero:=by
 rw [PV_out hn hx hi hk' ?_,if_neg hne];rintro ⟨h1,h2⟩;rcases (on_iff hx _).1 h1 with e | e
 · rcases (on_iff hx _).1 h2 with e2 | e2
   · omega
   · exact e2.1 hk
 · exact e.1 hk
theorem phase_join {n:Nat} (hn:n≤6) {x y:It} (hx:okIt n x=true) (hy:okIt n y=true) (hx1:x.kind=1) (hy1:y.kind=1) (hp:y.pos=x.pos) {i k:Nat} (hi:i<n) (hk:k<n) :
  sumC n (fun a=>mulC (PV n x i a) (PV n y a k))=rpow 40 (if i=k then phM n x.pos.toNat ((y.n+x.n) % 8).toNat i i else zero):=by
 have hxn:=ok_phase hx hx1;have hyn:=ok_phase hy hy1;obtain ⟨_,_,hp1,hpq,_,_⟩:=okIt_iff hx;rw [show ownW x.kind=1 by unfold ownW;rw [if_pos hx1]] at hpq;have e:∀ a,a<n→mulC (PV n x i a) (PV n y a k)=if i=a then mulC (PV n x i i) (PV n y i k) else zero:=fun a ha=>by
  by_cases h:i=a
  · subst h;rw [if_pos rfl]
  · rw [if_neg h,phase_off hn hx hx1 hi ha h,zero_mulC]
 rw [sum_congr e,sum_delta hi];by_cases h:i=k
 · subst h
   rw [if_pos rfl,PV_phase hx1,PV_phase hy1,hp,phM_join hn (by omega) (by omega) (by omega) (by omega) i hi]
   congr 2
   omega
 · rw [if_neg h,phase_off hn hy hy1 hi hk h,mulC_zero,rpow_zero]
theorem cross_twice {n:Nat} (hn:n≤6) {x:It} (hx:okIt n x=true) (hx3:x.kind=3) {i k:Nat} (hi:i<n) (hk:k<n):sumC n (fun a=>mulC (PV n x i a) (PV n x a k))=if i=k then rpow 80 oneC else zero:=by
 obtain ⟨_,_,hp1,hpq,_,_⟩:=okIt_iff hx;have ho:ownW x.kind=2:=by unfold ownW;rw [if_neg (by omega)]
 have hm:ownM x.kind x.n=ownM 3 0:=by unfold ownM;rw [if_neg (by omega),if_pos hx3];rfl
 have hu:=placed_uni hn hx;rw [ho] at hpq;have hz:=chkDag_at chk_cross' (n:=n) (p:=x.pos.toNat) (by omega) (by omega) (by omega);have hadj:∀ a,a<n→PV n x a k=conjC (PV n x k a):=fun a ha=>by
  have:=MV_dag (placeN n x.pos.toNat 2 (ownM 3 0)) ha hk;rw [← hz] at this;unfold PV;rw [ho,hm];exact this
 have e:∀ a,a<n→mulC (PV n x i a) (PV n x a k)=mulC (PV n x i a) (conjC (PV n x k a)):=fun a ha=>by rw [hadj a ha]
 rw [sum_congr e];exact hu.1 i k hi hk
theorem stepR_lin {n:Nat} (hn:n≤6) {out:List It} {x:It} (ho:okIts n out=true) (hx:okIt n x=true) :
  ∃ d,(stepR out x).length+d=out.length+1∧∀ i k,i<n→k<n→LM n (out++[x]) i k=rpow (40*d) (LM n (stepR out x) i k):=by
 have mid:∀ (A B C D:List It) (d:Nat),(∀ i k,i<n→k<n→LM n C i k=rpow (40*d) (LM n D i k))→∀ i k,i<n→k<n→LM n (A++C++B) i k=rpow (40*d) (LM n (A++D++B) i k):=fun A B C D d h i k hi hk=>by
  rw [LM_append _ B i k hi hk,LM_append _ B i k hi hk,sum_rpow];refine sum_congr fun a ha=>?_
  rw [LM_append A C a k ha hk,LM_append A D a k ha hk,← mul_rpow',sum_rpow]
  congr 1
  exact sum_congr fun b hb=>by rw [h a b ha hb,mul_rpow]
 have past:∀ (A B:List It) (y:It),okIts n B=true→(∀ z∈B,touchB x z=false)→∀ i k,i<n→k<n→LM n (A++y::B++[x]) i k=LM n (A++[y,x]++B) i k:=fun A B y hB ht i k hi hk=>by
  have e1:A++y::B++[x]=(A++[y])++(B++[x]):=by simp
  have e2:A++[y,x]++B=(A++[y])++([x]++B):=by simp
  rw [e1,e2,LM_append _ _ i k hi hk,LM_append _ _ i k hi hk];refine sum_congr fun a ha=>?_
  rw [LM_past hn hx B (fun z hz=>⟨by unfold okIts at hB;rw [List.all_eq_true] at hB;exact hB z hz,ht z hz⟩) i a hi ha]
 have pair:∀ (y:It) i k,i<n→k<n→LM n [y,x] i k=sumC n (fun a=>mulC (PV n x i a) (PV n y a k)):=fun y i k hi _=>by
  show sumC n (fun a=>mulC (LM n [x] i a) (PV n y a k))=_
  exact sum_congr fun a _=>by rw [LM_one x hi]
 rcases stepR_cases (show (n:Int)≤6 by omega) ho hx with h | ⟨A,y,B,h1,hx1,hy1,hp,hB,⟨hs,h⟩ | ⟨hs,h⟩⟩ | ⟨A,B,h1,hx3,hB,h⟩
 · exact ⟨0,by rw [h];simp,fun i k _ _=>by rw [h];rfl⟩
 · rw [h1,okIts_app,okIts_cons] at ho
   refine ⟨2,by rw [h,h1];simp;omega,fun i k hi hk=>?_⟩;rw [h,h1,past A B y ho.2.2 hB i k hi hk];have:=mid A B [y,x] [] 2 (fun i k hi hk=>?_) i k hi hk
   · rwa [List.append_nil] at this
   · rw [pair y i k hi hk,phase_join hn hx ho.2.1 hx1 hy1 hp hi hk]
     show rpow 40 _=rpow 80 (if i=k then oneC else zero)
     obtain ⟨_,_,hp1,hpq,_,_⟩:=okIt_iff hx;rw [show ownW x.kind=1 by unfold ownW;rw [if_pos hx1]] at hpq;have hz:=chkAll_at (f:=fun n p=>decide (placeN n p 1 [⟨turnC 0 ⟨1,0,0,0⟩,0⟩]=idN n)) chk_zero (n:=n) (p:=x.pos.toNat) (by omega) (by omega) (by omega);by_cases hik:i=k
     · subst hik
       rw [if_pos rfl,if_pos rfl,hs];unfold phM;rw [show ((0:Int)).toNat=0 from rfl,of_decide_eq_true hz,MV_id hi hi,if_pos rfl,rpow_rpow]
     · rw [if_neg hik,if_neg hik,rpow_zero,rpow_zero]
 · rw [h1,okIts_app,okIts_cons] at ho
   refine ⟨1,by rw [h,h1];simp,fun i k hi hk=>?_⟩;rw [h,h1,past A B y ho.2.2 hB i k hi hk];have hy:=ok_phase ho.2.1 hy1;have hxx:=ok_phase hx hx1;have hot:=ok_turned ho.2.1 hy1 (s:=(y.n+x.n) % 8) (by omega) (by omega);have:=mid A B [y,x] [⟨y.kind,y.pos,(y.n+x.n) % 8,y.name⟩] 1 (fun i k hi hk=>?_) i k hi hk
   · have e:A++[(⟨y.kind,y.pos,(y.n+x.n) % 8,y.name⟩:It)]++B=A++⟨y.kind,y.pos,(y.n+x.n) % 8,y.name⟩::B:=by simp
     rwa [e] at this
   · rw [pair y i k hi hk,phase_join hn hx ho.2.1 hx1 hy1 hp hi hk,LM_one _ hi]
     congr 1
     by_cases hik:i=k
     · subst hik
       rw [if_pos rfl,PV_phase (x:=⟨y.kind,y.pos,(y.n+x.n) % 8,y.name⟩) hy1];dsimp only;rw [hp]
       congr 1
       omega
     · rw [if_neg hik,phase_off hn hot hy1 hi hk hik]
 · rw [h1,okIts_app,okIts_cons] at ho
   refine ⟨2,by rw [h,h1];simp;omega,fun i k hi hk=>?_⟩;rw [h,h1,past A B x ho.2.2 hB i k hi hk];have:=mid A B [x,x] [] 2 (fun i k hi hk=>?_) i k hi hk
   · rwa [List.append_nil] at this
   · rw [pair x i k hi hk,cross_twice hn hx hx3 hi hk]
     show _=rpow 80 (if i=k then oneC else zero)
     by_cases hik:i=k
     · rw [if_pos hik,if_pos hik]
     · rw [if_neg hik,if_neg hik,rpow_zero]
theorem tidR_lin {n:Nat} (hn:n≤6) (l:List It) (h:okIts n l=true):∃ d,(tidR l).length+d=l.length∧∀ i k,i<n→k<n→LM n l i k=rpow (40*d) (LM n (tidR l) i k):=by
 induction l using snoc_ind with
 | h0=>exact ⟨0,rfl,fun _ _ _ _=>rfl⟩
 | h1 l x ih =>
   rw [okIts_app] at h;obtain ⟨d1,h1,h2⟩:=ih h.1;have hx:okIt n x=true:=by have:=h.2;unfold okIts at this;simpa using this
   obtain ⟨d2,h3,h4⟩:=stepR_lin hn (tidR_ok (show (n:Int)≤6 by omega) l h.1).1 hx;refine ⟨d1+d2,by rw [tidR_snoc,List.length_append];simp;omega,fun i k hi hk=>?_⟩;rw [LM_append l [x] i k hi hk,tidR_snoc,show 40*(d1+d2)=40*d1+40*d2 by omega,← rpow_rpow,← h4 i k hi hk,LM_append (tidR l) [x] i k hi hk,sum_rpow];exact sum_congr fun a ha=>by rw [h2 a k ha hk,mul_rpow']
theorem tidR_law {n:Nat} (hn:n≤6) {l:List It} {A B:List Num} (hok:okIts n l=true) (hA:itsM n l (idN n)=(A,0)) (hB:itsM n (tidR l) (idN n)=(B,0)):B=A:=by
 have sA:=itsM_shape l (idN n) (idN_valid n) (idN_length n) (by rw [hA]);have sB:=itsM_shape (tidR l) (idN n) (idN_valid n) (idN_length n) (by rw [hB]);rw [hA] at sA;rw [hB] at sB;obtain ⟨d,h1,h2⟩:=tidR_lin hn l hok;refine mat_ext sB.1 sA.1 sB.2 sA.2 fun i k hi hk=>?_
 apply rpow_inj (40*l.length);have h3:=itsM_id (n:=n) (its:=l) (by rw [hA]) hi hk;have h4:=itsM_id (n:=n) (its:=tidR l) (by rw [hB]) hi hk;rw [hA] at h3;rw [hB] at h4;rw [h3,h2 i k hi hk,← h1,show 40*((tidR l).length+d)=40*d+40*(tidR l).length by omega,← rpow_rpow,h4,rpow_rpow,rpow_rpow,Nat.add_comm]
open Go Amp Msh
def alv (S:List (It × Bool)):List It:=(S.filter Prod.snd).map Prod.fst
theorem alv_app (S T:List (It × Bool)):alv (S++T)=alv S++alv T:=by simp [alv]
theorem alv_on (y:It) (T:List (It × Bool)):alv ((y,true)::T)=y::alv T:=by simp [alv]
theorem alv_off (y:It) (T:List (It × Bool)):alv ((y,false)::T)=alv T:=by simp [alv]
def onS (g:Int) (s:It × Bool):Bool:=s.2&&onB s.1 g
theorem onS_alv {g:Int} {T:List (It × Bool)} (h:∀ s∈T,onS g s=false):∀ z∈alv T,onB z g=false:=fun z hz=>by
 unfold alv at hz;obtain ⟨s,hs,rfl⟩:=List.mem_map.1 hz;obtain ⟨h1,h2⟩:=List.mem_filter.1 hs;have:=h s h1;unfold onS at this;rw [h2,Bool.true_and] at this;exact this
theorem last_alv (g:Int) (S:List (It × Bool)):(lastIx (onS g) S=none∧lastIx (fun y=>onB y g) (alv S)=none)∨∃ A y B,S=A++(y,true)::B∧onB y g=true∧(∀ s∈B,onS g s=false)∧lastIx (onS g) S=some A.length∧lastIx (fun y=>onB y g) (alv S)=some (alv A).length:=by
 cases h:lastIx (onS g) S with
 | none=>exact .inl ⟨rfl,lastIx_nil (onS_alv (lastIx_none h))⟩
 | some k =>
   obtain ⟨A,⟨y,b⟩,B,h1,h2,h3,h4⟩:=lastIx_some h;unfold onS at h3;rw [Bool.and_eq_true] at h3;obtain ⟨rfl,h5⟩:=h3;refine .inr ⟨A,y,B,h1,h5,h4,by rw [h2], ?_⟩;rw [h1,alv_app,alv_on];exact lastIx_of (p:=fun y=>onB y g) h5 (onS_alv h4) (alv A)
def putS (S:List (It × Bool)) (x:It):List (It × Bool) :=
 match lastIx (onS x.pos) S with
 | none=>S++[(x,true)]
 | some k =>
   match S[k]? with
   | none=>S++[(x,true)]
   | some s =>
     if s.1.kind=x.kind∧s.1.pos=x.pos then
      (if x.kind=1 then S.set k (⟨s.1.kind,s.1.pos,(s.1.n+x.n) % 8,s.1.name⟩,decide ((s.1.n+x.n) % 8≠0))
      else if x.kind=3∧lastIx (onS (x.pos+1)) S=some k then S.set k (s.1,false)
      else S++[(x,true)])
     else S++[(x,true)]
def tidS (l:List It):List (It × Bool):=l.foldl putS []
theorem tidS_snoc (l:List It) (x:It):tidS (l++[x])=putS (tidS l) x:=by simp [tidS,List.foldl_append]
theorem ok_cross {g:Int} {y:It} (h:okIt g y=true) (hk:y.kind=3):y.n=0∧y.name.toList=[]:=by
 obtain ⟨h1,_,_,_,_,h5⟩:=okIt_iff h;refine ⟨?_,h5⟩;unfold wid at h1;rw [if_pos h5,if_neg (by omega)] at h1;by_cases hc:y.n=0
 · exact hc
 · rw [if_neg (fun h=>hc h.2)] at h1
   exact absurd rfl h1
theorem data_nil {s:ByteArray} (h:s.toList=[]):s.data=#[]:=by
 rw [ByteArray.toList_eq] at h;exact Array.toList_eq_nil_iff.1 h
theorem cross_eq {g:Int} {x y:It} (hx:okIt g x=true) (hy:okIt g y=true) (h3:x.kind=3) (hk:y.kind=x.kind) (hp:y.pos=x.pos):y=x:=by
 obtain ⟨n1,e1⟩:=ok_cross hx h3;obtain ⟨n2,e2⟩:=ok_cross hy (by rw [hk];exact h3);exact It.eq_iff.1 ⟨hk,hp,by omega,by rw [data_nil e1,data_nil e2]⟩
theorem putS_alv {g:Int} {S:List (It × Bool)} {x:It} (ho:okIts g (alv S)=true) (hx:okIt g x=true):alv (putS S x)=stepR (alv S) x:=by
 have app:alv (S++[(x,true)])=alv S++[x]:=by rw [alv_app,alv_on];rfl
 unfold putS stepR;rcases last_alv x.pos S with ⟨h1,h2⟩ | ⟨A,y,B,h1,h2,h3,h4,h5⟩
 · rw [h1,h2]
   exact app
 · rw [h4,h5]
   have e1:S[A.length]? = some (y,true):=by rw [h1];simp
   have e2:alv S=alv A++y::alv B:=by rw [h1,alv_app,alv_on]
   have e3:(alv S)[(alv A).length]? = some y:=by rw [e2];simp
   have hy:okIt g y=true:=okIts_at e3 ho;dsimp only;rw [e1,e3];dsimp only;have er:(alv S).eraseIdx (alv A).length=alv A++alv B:=by rw [e2];simp [List.eraseIdx_append_of_length_le]
   have es:∀ z b,S.set A.length (z,b)=A++(z,b)::B:=fun z b=>by rw [h1];simp
   by_cases c1:x.kind=1∧y.kind=1
   · have hpos:y.pos=x.pos:=by
      rcases (on_iff hy _).1 h2 with e | e
      · exact e.symm
      · exact absurd c1.2 e.1
     rw [if_pos ⟨by omega,hpos⟩,if_pos c1.1,if_pos c1,es];by_cases hs:(y.n+x.n) % 8=0
     · rw [if_pos hs,er,decide_eq_false (fun h=>h hs),alv_app,alv_off]
     · rw [if_neg hs,decide_eq_true hs,alv_app,alv_on,e2]
       simp
   · rw [if_neg c1]
     by_cases c2:y.kind=x.kind∧y.pos=x.pos
     · rw [if_pos c2,if_neg (fun h=>c1 ⟨h,by omega⟩)]
       by_cases h3k:x.kind=3
       · have hyx:=cross_eq hx hy h3k c2.1 c2.2
         have hon1:onB y (x.pos+1)=true:=(on_iff hy _).2 (.inr ⟨by omega,by rw [c2.2]⟩);have key:lastIx (onS (x.pos+1)) S=some A.length↔lastIx (fun y=>onB y (x.pos+1)) (alv S)=some (alv A).length:=by
          constructor
          · intro h
            obtain ⟨A',s',B',g1,g2,g3,g4⟩:=lastIx_some h;have e:B'=B:=by
             have x1:S.drop (A.length+1)=B:=by rw [h1];simp
             have x2:S.drop (A.length+1)=B':=by rw [g1,← g2];simp
             rw [← x1,← x2]
            rw [e] at g4;rw [e2];exact lastIx_of (p:=fun y=>onB y (x.pos+1)) hon1 (onS_alv g4) (alv A)
          · intro h
            have hB:∀ s∈B,onS (x.pos+1) s=false:=fun s hs=>by
             cases hss:onS (x.pos+1) s with
             | false=>rfl
             | true =>
               unfold onS at hss;rw [Bool.and_eq_true] at hss;obtain ⟨A',s',B',g1,g2,g3,g4⟩:=lastIx_some h;have e:B'=alv B:=by
                have x1:(alv S).drop ((alv A).length+1)=alv B:=by rw [e2];simp
                have x2:(alv S).drop ((alv A).length+1)=B':=by rw [g1,← g2];simp
                rw [← x1,← x2]
               have hm:s.1∈alv B:=by
                unfold alv;exact List.mem_map.2 ⟨s,List.mem_filter.2 ⟨hs,hss.1⟩,rfl⟩
               rw [← e] at hm;have:=g4 _ hm;rw [hss.2] at this;cases this
            rw [h1];exact lastIx_of (p:=onS (x.pos+1)) (by unfold onS;rw [hon1];rfl) hB A
         by_cases h6:lastIx (onS (x.pos+1)) S=some A.length
         · rw [if_pos ⟨h3k,h6⟩,if_pos ⟨h3k,hyx,key.1 h6⟩,es,er,alv_app,alv_off]
         · rw [if_neg (fun h=>h6 h.2),if_neg (fun h=>h6 (key.2 h.2.2)),app]
       · rw [if_neg (fun h=>h3k h.1),if_neg (fun h=>h3k h.1),app]
     · rw [if_neg c2,if_neg (fun h=>c2 ⟨by rw [h.2.1],by rw [h.2.1]⟩),app]
theorem tidS_alv {g:Int} (hg:g≤6) (l:List It) (h:okIts g l=true):alv (tidS l)=tidR l:=by
 induction l using snoc_ind with
 | h0=>rfl
 | h1 l x ih =>
   rw [okIts_app] at h;have hx:okIt g x=true:=by have:=h.2;unfold okIts at this;simpa using this
   have e:=ih h.1;rw [tidS_snoc,tidR_snoc,putS_alv (by rw [e];exact (tidR_ok hg l h.1).1) hx,e]
open Go Amp Msh
def stkO (g:Int):Nat→List (It × Bool)→List Int
 | _,[]=>[]
 | o,s::t=>(if onS g s=true then [(o:Int)] else [])++stkO g (o+1) t
def stk (S:List (It × Bool)) (g:Int):List Int:=stkO g 0 S
theorem stkO_app (g:Int):∀ (A B:List (It × Bool)) (o:Nat),stkO g o (A++B)=stkO g o A++stkO g (o+A.length) B
 | [],B,o=>rfl
 | s :: t, B, o => by
   show (if onS g s=true then [(o:Int)] else [])++stkO g (o+1) (t++B)=_
   rw [stkO_app g t B (o+1),List.length_cons,show o+(t.length+1)=o+1+t.length by omega,← List.append_assoc];rfl
theorem stkO_none {g:Int}:∀ {B:List (It × Bool)} (o:Nat),(∀ s∈B,onS g s=false)→stkO g o B=[]
 | [],_,_=>rfl
 | s :: t, o, h => by
   show (if onS g s=true then [(o:Int)] else [])++stkO g (o+1) t=[]
   rw [h s List.mem_cons_self,stkO_none (o+1) fun z hz=>h z (List.mem_cons_of_mem _ hz)];rfl
theorem stk_snoc (S:List (It × Bool)) (x:It) (g:Int):stk (S++[(x,true)]) g=stk S g++if onB x g=true then [(S.length:Int)] else []:=by
 unfold stk;rw [stkO_app,Nat.zero_add]
 congr 1
 show (if onS g (x,true)=true then [(S.length:Int)] else [])++[]=_
 unfold onS;rw [Bool.true_and,List.append_nil]
def topI (S:List (It × Bool)) (g:Int):Int:=match lastIx (onS g) S with | some k=>k | none=>-1
theorem stk_top (S:List (It × Bool)) (g:Int):(stk S g=[]∧topI S g=-1∧lastIx (onS g) S=none)∨∃ (L:List Int) (k:Nat),stk S g=L++[(k:Int)]∧topI S g=k∧lastIx (onS g) S=some k∧k<S.length:=by
 unfold topI;cases h:lastIx (onS g) S with
 | none=>exact .inl ⟨stkO_none 0 (lastIx_none h),rfl,rfl⟩
 | some k =>
   obtain ⟨A,s,B,h1,h2,h3,h4⟩:=lastIx_some h;refine .inr ⟨stkO g 0 A,k, ?_,rfl,rfl,by rw [h1,← h2];simp⟩;unfold stk;rw [h1,stkO_app]
   congr 1
   show (if onS g s=true then [((0+A.length:Nat):Int)] else [])++stkO g (0+A.length+1) B=_
   rw [if_pos h3,stkO_none _ h4,Nat.zero_add,h2];rfl
theorem stk_drop {S:List (It × Bool)} {g:Int} {k:Nat} (h:lastIx (onS g) S=some k) (y:It):stk (S.set k (y,false)) g=(stk S g).take ((stk S g).length - 1)∧1≤(stk S g).length:=by
 obtain ⟨A,s,B,h1,h2,h3,h4⟩:=lastIx_some h;have e1:stk S g=stkO g 0 A++[(k:Int)]:=by
  unfold stk;rw [h1,stkO_app]
  congr 1
  show (if onS g s=true then [((0+A.length:Nat):Int)] else [])++stkO g (0+A.length+1) B=_
  rw [if_pos h3,stkO_none _ h4,Nat.zero_add,h2];rfl
 have e2:S.set k (y,false)=A++(y,false)::B:=by rw [h1,← h2];simp
 have e3:stk (S.set k (y,false)) g=stkO g 0 A:=by
  unfold stk;rw [e2,stkO_app];show stkO g 0 A++((if onS g (y,false)=true then [((0+A.length:Nat):Int)] else [])++stkO g (0+A.length+1) B)=_
  rw [stkO_none _ h4];unfold onS;simp
 rw [e3,e1];exact ⟨by simp,by simp⟩
theorem stk_same {S:List (It × Bool)} {g:Int} {k:Nat} {s s':It × Bool} (hk:S[k]? = some s) (h:onS g s'=onS g s):stk (S.set k s') g=stk S g:=by
 obtain ⟨hlt,rfl⟩:=List.getElem?_eq_some_iff.1 hk;have e:S=S.take k++S[k]::S.drop (k+1):=by simp
 have e2:S.set k s'=S.take k++s'::S.drop (k+1):=by
  rw [List.set_eq_take_append_cons_drop,if_pos hlt]
 unfold stk;rw [e2,stkO_app];conv=>rhs;rw [e,stkO_app]
 congr 1
 show (if onS g s'=true then _ else [])++_=(if onS g S[k]=true then _ else [])++_
 rw [h]
theorem stkO_length (g:Int):∀ (S:List (It × Bool)) (o:Nat),(stkO g o S).length≤S.length
 | [],_=>Nat.le_refl _
 | s :: t, o => by
   have:=stkO_length g t (o+1);show ((if onS g s=true then [(o:Int)] else [])++stkO g (o+1) t).length≤_
   rw [List.length_append,List.length_cons];split <;> simp <;> omega
theorem putS_length (S:List (It × Bool)) (x:It):(putS S x).length≤S.length+1:=by
 unfold putS;split
 · simp
 · split
   · simp
   · split
     · split
       · simp
       · split <;> simp
     · simp
open Go Amp Msh
open Go Amp Msh
def pairsL (v:List Num):List (Num × Num):=v.map fun z=>(z,conjZ z)
theorem pairsL_range (v:List Num):pairsL v=(List.range v.length).map fun j=>(v.getD j noneZ,conjZ (v.getD j noneZ)):=by
 unfold pairsL;refine List.ext_getElem? fun j=>?_
 rw [List.getElem?_map,List.getElem?_map];by_cases hj:j<v.length
 · rw [List.getElem?_range hj,List.getElem?_eq_getElem hj]
   dsimp only [Option.map_some];rw [List.getD_eq_getElem?_getD,List.getElem?_eq_getElem hj];rfl
 · rw [List.getElem?_eq_none (by omega),List.getElem?_eq_none (by rw [List.length_range];omega)]
   rfl
theorem pairs_sum {n:Nat} {v:List Num} (hn:v.length=n):lsum (pairsL v)=sumC n fun j=>mulC (VV v j) (conjC (VV v j)):=by
 rw [pairsL_range,lsum_range,hn];exact sum_congr fun j _=>by
  dsimp only;rw [val_conj];rfl
theorem conj_two (x:C4):conjC (conjC x)=x:=by
 cases x;unfold conjC;simp
theorem cols_at {n:Nat} {A:List Num} (hu:Uni n A) {a b:Nat} (ha:a<n) (hb:b<n):sumC n (fun i=>mulC (MV A n i a) (conjC (MV A n i b)))=if a=b then rpow 80 oneC else zero:=by
 have h:=hu.2 b a hb ha;unfold dag dl at h;have e:∀ i,i<n→mulC (MV A n i a) (conjC (MV A n i b))=mulC (conjC (MV A n i b)) (conjC (conjC (MV A n i a))):=fun i _=>by rw [conj_two,mul_comm']
 rw [sum_congr e,h];by_cases hab:a=b
 · rw [if_pos hab,if_pos hab.symm]
 · rw [if_neg hab,if_neg fun e=>hab e.symm]
theorem keeps_len {n:Nat} {A:List Num} (hu:Uni n A) {V X:Nat→C4} (hX:∀ i,i<n→rpow 40 (X i)=sumC n (fun j=>mulC (MV A n i j) (V j))):sumC n (fun j=>mulC (X j) (conjC (X j)))=sumC n (fun j=>mulC (V j) (conjC (V j))):=by
 apply rpow_inj 80;have e1:rpow 80 (sumC n (fun i=>mulC (X i) (conjC (X i))))=sumC n (fun i=>sumC n (fun a=>sumC n (fun b=>mulC (mulC (MV A n i a) (conjC (MV A n i b))) (mulC (V a) (conjC (V b)))))):=by
  rw [sum_rpow];refine sum_congr fun i hi=>?_
  rw [show (80:Nat)=40+40 from rfl,← rpow_rpow,← mul_rpow,← mul_rpow',← conj_rpow,hX i hi,sum_conj,sum_mul_right];refine sum_congr fun a _=>?_
  rw [sum_mul_left];refine sum_congr fun b _=>?_
  rw [conj_mul,mul_four]
 rw [e1,sum_comm,sum_rpow];refine sum_congr fun a ha=>?_
 rw [sum_comm];have e2:∀ b,b<n→sumC n (fun i=>mulC (mulC (MV A n i a) (conjC (MV A n i b))) (mulC (V a) (conjC (V b))))=if a=b then rpow 80 (mulC (V a) (conjC (V b))) else zero:=fun b hb=>by
  rw [← sum_mul_right,cols_at hu ha hb];split
  · rw [mul_rpow,one_mulC]
  · exact zero_mulC _
 rw [sum_congr e2,sum_delta ha]
theorem len_law {n:Nat} {A v X:List Num} (hu:Uni n A) (hv:v.length=n) (hx:X.length=n) (hX:∀ i,i<n→rpow 40 (VV X i)=sumC n (fun j=>mulC (MV A n i j) (VV v j))) (h1:(rowN (pairsL v)).e=0) (h2:(rowN (pairsL X)).e=0) :
  (⟨(rowN (pairsL v)).x,(rowN (pairsL v)).k⟩:Num)=⟨(rowN (pairsL X)).x,(rowN (pairsL X)).k⟩:=by
 refine val_inj (rowA_valid _ _ _ (by decide) h1) (rowA_valid _ _ _ (by decide) h2) ?_;apply rpow_inj 40;rw [rowN_val h1,rowN_val h2,pairs_sum hv,pairs_sum hx,keeps_len hu hX]
theorem len_real {v:List Num} (h1:(rowN (pairsL v)).e=0):conjC (rowN (pairsL v)).x=(rowN (pairsL v)).x:=by
 have hv:=rowA_valid (pairsL v) zero 0 (by decide) h1;have hc:validB (conjC (rowN (pairsL v)).x) (rowN (pairsL v)).k=true:=by
  rw [valid_conj];exact hv
 have h:=val_inj (z:=conjZ ⟨(rowN (pairsL v)).x,(rowN (pairsL v)).k⟩) (y:=⟨(rowN (pairsL v)).x,(rowN (pairsL v)).k⟩) hc hv (by
  apply rpow_inj 40;rw [val_conj,← conj_rpow,rowN_val h1,pairs_sum rfl,sum_conj];exact sum_congr fun j _=>by rw [conj_mul,conj_two,mul_comm'])
 exact congrArg Num.x h
end Go.Proofs.YtchdmecjhaanfaaGreatDoor
