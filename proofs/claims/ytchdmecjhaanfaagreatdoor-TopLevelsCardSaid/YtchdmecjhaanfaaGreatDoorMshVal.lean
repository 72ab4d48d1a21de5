import Derived.Test.YtchdmecjhaanfaaGreatDoorMshPlain
namespace Msh
open Amp
def oneC:C4:=⟨1,0,0,0⟩
theorem addC_assoc (x y z:C4):addC (addC x y) z=addC x (addC y z):=by
 refine C4.ext' ?_ ?_ ?_ ?_ <;> simp only [addC] <;> omega
theorem addC_zero (x:C4):addC x zero=x:=by
 refine C4.ext' ?_ ?_ ?_ ?_ <;> simp only [addC,zero] <;> omega
theorem zero_addC (x:C4):addC zero x=x:=by rw [addC_comm,addC_zero]
theorem mulC_zero (x:C4):mulC x zero=zero:=by
 refine C4.ext' ?_ ?_ ?_ ?_ <;> simp only [mulC,zero] <;> omega
theorem zero_mulC (x:C4):mulC zero x=zero:=by rw [mul_comm',mulC_zero]
theorem mulC_one (x:C4):mulC x oneC=x:=by
 refine C4.ext' ?_ ?_ ?_ ?_ <;> simp only [mulC,oneC] <;> omega
theorem one_mulC (x:C4):mulC oneC x=x:=by rw [mul_comm',mulC_one]
theorem mulC_assoc (x y z:C4):mulC (mulC x y) z=mulC x (mulC y z):=by
 refine C4.ext' ?_ ?_ ?_ ?_ <;> simp only [mulC] <;> grind
theorem mul_add (x y z:C4):mulC x (addC y z)=addC (mulC x y) (mulC x z):=by
 rw [mul_comm',mul_add',mul_comm' y,mul_comm' z]
theorem mul_four (a b c d:C4):mulC (mulC a b) (mulC c d)=mulC (mulC a c) (mulC b d):=by
 rw [mulC_assoc,← mulC_assoc b,mul_comm' b c,mulC_assoc c,← mulC_assoc]
theorem conj_add (x y:C4):conjC (addC x y)=addC (conjC x) (conjC y):=by
 refine C4.ext' ?_ ?_ ?_ ?_ <;> simp only [conjC,addC] <;> omega
theorem conj_zero:conjC zero=zero:=rfl
theorem rpow_zero:∀ n,rpow n zero=zero
 | 0=>rfl
 | n+1=>rpow_zero n
def sumC:Nat→(Nat→C4)→C4
 | 0,_=>zero
 | n+1,f=>addC (sumC n f) (f n)
theorem sum_congr {n:Nat} {f g:Nat→C4} (h:∀ j,j<n→f j=g j):sumC n f=sumC n g:=by
 induction n with
 | zero=>rfl
 | succ n ih=>rw [sumC,sumC,ih fun j hj=>h j (by omega),h n (by omega)]
theorem sum_add (n:Nat) (f g:Nat→C4):sumC n (fun j=>addC (f j) (g j))=addC (sumC n f) (sumC n g):=by
 induction n with
 | zero=>rfl
 | succ n ih =>
   rw [sumC,sumC,sumC,ih,addC_assoc,addC_assoc]
   congr 1
   rw [← addC_assoc,addC_comm (sumC n g),addC_assoc]
theorem sum_mul_left (n:Nat) (c:C4) (f:Nat→C4):mulC c (sumC n f)=sumC n (fun j=>mulC c (f j)):=by
 induction n with
 | zero=>exact mulC_zero c
 | succ n ih=>rw [sumC,sumC,mul_add,ih]
theorem sum_mul_right (n:Nat) (c:C4) (f:Nat→C4):mulC (sumC n f) c=sumC n (fun j=>mulC (f j) c):=by
 rw [mul_comm',sum_mul_left];exact sum_congr fun j _=>mul_comm' _ _
theorem sum_zero (n:Nat):sumC n (fun _=>zero)=zero:=by
 induction n with
 | zero=>rfl
 | succ n ih=>rw [sumC,ih];rfl
theorem sum_comm (n m:Nat) (f:Nat→Nat→C4):sumC n (fun i=>sumC m (fun j=>f i j))=sumC m (fun j=>sumC n (fun i=>f i j)):=by
 induction n with
 | zero=>exact (sum_zero m).symm
 | succ n ih =>
   rw [sumC,ih,← sum_add];rfl
theorem sum_conj (n:Nat) (f:Nat→C4):conjC (sumC n f)=sumC n (fun j=>conjC (f j)):=by
 induction n with
 | zero=>rfl
 | succ n ih=>rw [sumC,sumC,conj_add,ih]
theorem sum_rpow (k n:Nat) (f:Nat→C4):rpow k (sumC n f)=sumC n (fun j=>rpow k (f j)):=by
 induction n with
 | zero=>exact rpow_zero k
 | succ n ih=>rw [sumC,sumC,rpow_add,ih]
theorem sum_delta {n i:Nat} (hi:i<n) (f:Nat→C4):sumC n (fun j=>if i=j then f j else zero)=f i:=by
 induction n with
 | zero=>omega
 | succ n ih =>
   rw [sumC];by_cases h:i=n
   · subst h
     rw [if_pos rfl,show sumC i (fun j=>if i=j then f j else zero)=zero from ?_,zero_addC];exact (sum_congr fun j hj=>if_neg (by omega)).trans (sum_zero i)
   · rw [if_neg h,addC_zero,ih (by omega)]
def val (z:Num):C4:=rpow (40 - z.k.toNat) z.x
theorem same_at {x y:C4} {k j:Nat} (h:Same x k y j) {K:Nat} (hk:k≤K) (hj:j≤K):rpow (K - k) x=rpow (K - j) y:=by
 obtain ⟨m,n,h1,h2⟩:=h;apply rpow_inj m;rw [rpow_rpow,Nat.add_comm,← rpow_rpow,h2,rpow_rpow,rpow_rpow]
 congr 1
 omega
theorem val_inj {z y:Num} (hz:validB z.x z.k=true) (hy:validB y.x y.k=true) (h:val z=val y):z=y:=by
 obtain ⟨k,hk,hk4⟩:=valid_nat hz;obtain ⟨j,hj,hj4⟩:=valid_nat hy;obtain ⟨x,k'⟩:=z;obtain ⟨x',j'⟩:=y;dsimp only at *
 subst hk;subst hj;have e:=made_same (x:=x) (y:=x') (k:=k) (j:=j) ⟨40 - k,40 - j,by omega,h⟩;rw [made_valid hz,made_valid hy] at e;injection e with e1 e2;rw [e1,e2]
theorem val_mul {x y s:C4} {n m i:Nat} (hn:n≤40) (hm:m≤40) (hi:i≤40) (h:Same (mulC x y) (n+m) s i):rpow 40 (val ⟨s,i⟩)=mulC (val ⟨x,n⟩) (val ⟨y,m⟩):=by
 have e:=same_at h (K:=80) (by omega) (by omega);simp only [val,Int.toNat_natCast];rw [rpow_rpow,show 40+(40 - i)=80 - i by omega,← e,mul_rpow,mul_rpow',rpow_rpow]
 congr 1
 omega
theorem val_add {x y s:C4} {n m i:Nat} (hn:n≤40) (hm:m≤40) (hi:i≤40) (h:Same (addK x n y m) (max n m) s i):val ⟨s,i⟩=addC (val ⟨x,n⟩) (val ⟨y,m⟩):=by
 have e:=same_at h (K:=40) (by omega) (by omega);simp only [val,Int.toNat_natCast];rw [← e,addK_nat,rpow_add,rpow_rpow,rpow_rpow]
 congr 2 <;> omega
def lsum:List (Num × Num)→C4
 | []=>zero
 | p::t=>addC (mulC (val p.1) (val p.2)) (lsum t)
theorem valid_le {x:C4} {n:Nat} (h:validB x n=true):n≤40:=by
 obtain ⟨m,h1,h2⟩:=valid_nat h;omega
theorem rowA_val:∀ (l:List (Num × Num)) (s:C4) (k:Int),validB s k=true→(rowA s k l).e=0→rpow 40 (val ⟨(rowA s k l).x,(rowA s k l).k⟩)=addC (rpow 40 (val ⟨s,k⟩)) (lsum l)
 | [],s,k,_,_=>(addC_zero _).symm
 | p :: t, s, k, h, he => by
   simp only [rowA] at *
   by_cases h1:(mulN p.1.x p.1.k p.2.x p.2.k).e=0
   · rw [if_pos h1] at *
     by_cases h2:(addN s k (mulN p.1.x p.1.k p.2.x p.2.k).x (mulN p.1.x p.1.k p.2.x p.2.k).k).e=0
     · rw [if_pos h2] at *
       rcases mulN_cases p.1.x p.2.x p.1.k p.2.k with ⟨e,h3,h4⟩ | ⟨n,m,i,q,hn,hm,vx,vy,h4,hv,hs⟩
       · rw [h4] at h1;exact absurd h1 h3
       rw [h4] at h2 he ⊢;dsimp only at h2 he ⊢;rcases addN_cases s q k i with ⟨e,h5,h6⟩ | ⟨a,b,c,u,ha,hb,va,vb,h6,hu,hsu⟩
       · rw [h6] at h2;exact absurd h2 h5
       rw [h6] at he ⊢;dsimp only at he ⊢;obtain rfl:i=b:=by omega
       rw [rowA_val t u c hu he,lsum];obtain ⟨⟨px,pk⟩,⟨qx,qk⟩⟩:=p;dsimp only at *
       subst hn;subst hm;subst ha;rw [val_add (valid_le va) (valid_le vb) (valid_le hu) hsu,rpow_add,val_mul (valid_le vx) (valid_le vy) (valid_le hv) hs,addC_assoc]
     · rw [if_neg h2] at he;exact absurd he h2
   · rw [if_neg h1] at he;exact absurd he h1
theorem rowN_val {l:List (Num × Num)} (he:(rowN l).e=0):rpow 40 (val ⟨(rowN l).x,(rowN l).k⟩)=lsum l:=by
 have h:=rowA_val l zero 0 (by decide) he;have e:val ⟨zero,0⟩=zero:=rpow_zero 40;rw [e,rpow_zero,zero_addC] at h;exact h
theorem lsum_append (l m:List (Num × Num)):lsum (l++m)=addC (lsum l) (lsum m):=by
 induction l with
 | nil=>exact (zero_addC _).symm
 | cons p t ih=>rw [List.cons_append,lsum,lsum,ih,addC_assoc]
theorem lsum_range (n:Nat) (f:Nat→Num × Num):lsum ((List.range n).map f)=sumC n (fun j=>mulC (val (f j).1) (val (f j).2)):=by
 induction n with
 | zero=>rfl
 | succ n ih =>
   rw [List.range_succ,List.map_append,lsum_append,ih,sumC]
   congr 1
   exact addC_zero _
def MV (l:List Num) (n i k:Nat):C4:=val (l.getD (i*n+k) noneZ)
theorem mulM_at {n:Nat} {la lb:List Num} (he:(mulM n la lb).2=0) {i k:Nat} (hi:i<n) (hk:k<n) :
  (rowN (prow la lb n i k)).e=0∧(mulM n la lb).1[i*n+k]? = some ⟨(rowN (prow la lb n i k)).x,(rowN (prow la lb n i k)).k⟩:=by
 have h0:=seqR_zero _ he;have h1:=seqR_ok _ h0;have h2:=gridR_at (fun i k=>rowN (prow la lb n i k)) hi hk;refine ⟨h0 _ (List.mem_of_getElem? h2), ?_⟩;unfold mulM matR;rw [h1,List.getElem?_map,h2];rfl
theorem mulM_val {n:Nat} {la lb:List Num} (he:(mulM n la lb).2=0) {i k:Nat} (hi:i<n) (hk:k<n) :
  rpow 40 (MV (mulM n la lb).1 n i k)=sumC n (fun j=>mulC (MV la n i j) (MV lb n j k)):=by
 obtain ⟨h1,h2⟩:=mulM_at he hi hk;unfold MV;rw [List.getD_eq_getElem?_getD,h2];show rpow 40 (val ⟨_,_⟩)=_
 rw [rowN_val h1];exact lsum_range n _
def dl (i k:Nat):C4:=if i=k then rpow 80 oneC else zero
def Rows1 (n:Nat) (A:Nat→Nat→C4):Prop:=∀ i k,i<n→k<n→sumC n (fun j=>mulC (A i j) (conjC (A k j)))=dl i k
theorem rows_core {n:Nat} {A B R:Nat→Nat→C4} (hA:Rows1 n A) (hB:Rows1 n B) (hR:∀ i k,i<n→k<n→rpow 40 (R i k)=sumC n (fun j=>mulC (A i j) (B j k))):Rows1 n R:=by
 intro i k hi hk;apply rpow_inj 80;have e1:rpow 80 (sumC n (fun j=>mulC (R i j) (conjC (R k j))))=sumC n (fun j=>sumC n (fun a=>sumC n (fun b=>mulC (mulC (A i a) (conjC (A k b))) (mulC (B a j) (conjC (B b j)))))):=by
  rw [sum_rpow];refine sum_congr fun j hj=>?_
  rw [show (80:Nat)=40+40 from rfl,← rpow_rpow,← mul_rpow,← mul_rpow',← conj_rpow,hR i j hi hj,hR k j hk hj,sum_conj,sum_mul_right];refine sum_congr fun a _=>?_
  rw [sum_mul_left];refine sum_congr fun b _=>?_
  rw [conj_mul,mul_four]
 rw [e1,sum_comm];have e2:sumC n (fun a=>sumC n (fun j=>sumC n (fun b=>mulC (mulC (A i a) (conjC (A k b))) (mulC (B a j) (conjC (B b j))))))=sumC n (fun a=>mulC (mulC (A i a) (conjC (A k a))) (rpow 80 oneC)):=by
  refine sum_congr fun a ha=>?_
  rw [sum_comm];have e3:∀ b,b<n→sumC n (fun j=>mulC (mulC (A i a) (conjC (A k b))) (mulC (B a j) (conjC (B b j))))=if a=b then mulC (mulC (A i a) (conjC (A k b))) (rpow 80 oneC) else zero:=fun b hb=>by
   rw [← sum_mul_left,hB a b ha hb,dl];split
   · rfl
   · exact mulC_zero _
  rw [sum_congr e3,sum_delta ha]
 rw [e2,← sum_mul_right,hA i k hi hk,dl];split
 · rw [mul_rpow',mulC_one]
 · rw [zero_mulC,rpow_zero]
def dag (A:Nat→Nat→C4) (i k:Nat):C4:=conjC (A k i)
def Uni (n:Nat) (l:List Num):Prop:=Rows1 n (MV l n)∧Rows1 n (dag (MV l n))
theorem Uni.mul {n:Nat} {p l:List Num} (hp:Uni n p) (hl:Uni n l) (he:(mulM n p l).2=0):Uni n (mulM n p l).1:=by
 refine ⟨rows_core hp.1 hl.1 fun i k hi hk=>mulM_val he hi hk,rows_core hl.2 hp.2 fun i k hi hk=>?_⟩;unfold dag;rw [← conj_rpow,mulM_val he hk hi,sum_conj];exact sum_congr fun j _=>by rw [conj_mul,mul_comm']
theorem MV_id {n i k:Nat} (hi:i<n) (hk:k<n):MV (idN n) n i k=if i=k then rpow 40 oneC else zero:=by
 unfold MV;rw [List.getD_eq_getElem?_getD,show (idN n)[i*n+k]? = _ from gridR_at _ hi hk];dsimp only [Option.getD_some];split
 · rfl
 · exact rpow_zero 40
theorem id_sum {n i:Nat} (hi:i<n) (f:Nat→C4):sumC n (fun j=>mulC (MV (idN n) n i j) (f j))=rpow 40 (f i):=by
 have e:∀ j,j<n→mulC (MV (idN n) n i j) (f j)=if i=j then rpow 40 (f j) else zero:=fun j hj=>by
  rw [MV_id hi hj];split
  · rw [mul_rpow,one_mulC]
  · exact zero_mulC _
 rw [sum_congr e,sum_delta hi]
theorem Uni.id (n:Nat):Uni n (idN n):=by
 have h:Rows1 n (MV (idN n) n):=fun i k hi hk=>by
  rw [id_sum hi,MV_id hk hi,dl];by_cases h:i=k
  · subst h;rw [if_pos rfl,if_pos rfl,conj_rpow,rpow_rpow];rfl
  · rw [if_neg (fun e=>h e.symm),if_neg h,conj_zero,rpow_zero]
 refine ⟨h,fun i k hi hk=>?_⟩;have e:∀ j,j<n→mulC (dag (MV (idN n) n) i j) (conjC (dag (MV (idN n) n) k j))=mulC (MV (idN n) n i j) (conjC (MV (idN n) n k j)):=fun j hj=>by
  unfold dag;rw [MV_id hj hi,MV_id hj hk,MV_id hi hj,MV_id hk hj];by_cases h1:i=j
  · by_cases h2:k=j
    · rw [if_pos h1.symm,if_pos h2.symm,if_pos h1,if_pos h2,conj_rpow,conj_rpow];rfl
    · rw [if_pos h1.symm,if_neg (fun e=>h2 e.symm),if_pos h1,if_neg h2,conj_rpow];rfl
  · rw [if_neg (fun e=>h1 e.symm),if_neg h1,conj_zero,zero_mulC,zero_mulC]
 rw [sum_congr e];exact h i k hi hk
end Msh
namespace Msh
open Amp
def v1 (z:Num):C4:=rpow (1 - z.k.toNat) z.x
def chkRow (n:Nat) (l:List Num) (i k:Nat):Bool :=
 decide (sumC n (fun j=>mulC (v1 (l.getD (i*n+j) noneZ)) (conjC (v1 (l.getD (k*n+j) noneZ))))=if i=k then ⟨2,0,0,0⟩ else zero) &&
 decide (sumC n (fun j=>mulC (conjC (v1 (l.getD (j*n+i) noneZ))) (v1 (l.getD (j*n+k) noneZ)))=if i=k then ⟨2,0,0,0⟩ else zero)
def chkK (l:List Num):Bool:=l.all fun z=>decide (z.k≤1)
def chkU (n:Nat) (l:List Num):Bool:=chkK l&&(List.range n).all fun i=>(List.range n).all fun k=>chkRow n l i k
def chkP (m:Nat) (lm:List Num):Bool:=(List.range 7).all fun n=>(List.range 7).all fun p=>!decide (1≤p∧p+m≤n+1)||chkU n (placeN n p m lm)
theorem chk_couple:chkP 2 (ownM 2 0)=true:=by decide +kernel
theorem chk_cross:chkP 2 (ownM 3 0)=true:=by decide +kernel
theorem chk_phase:((List.range 8).all fun q=>chkP 1 [⟨turnC q ⟨1,0,0,0⟩,0⟩])=true:=by decide +kernel
end Msh
namespace Msh
open Amp
theorem val_v1 {z:Num} (h:z.k≤1):val z=rpow 39 (v1 z):=by
 unfold val v1;rw [rpow_rpow]
 congr 1
 omega
theorem chkK_at {l:List Num} (h:chkK l=true) (q:Nat):(l.getD q noneZ).k≤1:=by
 rw [List.getD_eq_getElem?_getD];cases hq:l[q]? with
 | none=>decide
 | some z =>
   unfold chkK at h;rw [List.all_eq_true] at h;exact of_decide_eq_true (h z (List.mem_of_getElem? hq))
theorem two_dl (i k:Nat):rpow 78 (if i=k then (⟨2,0,0,0⟩:C4) else zero)=dl i k:=by
 unfold dl;split
 · exact rpow_dbl 78 oneC
 · exact rpow_zero 78
theorem Uni.chk {n:Nat} {l:List Num} (h:chkU n l=true):Uni n l:=by
 unfold chkU at h;rw [Bool.and_eq_true,List.all_eq_true] at h;obtain ⟨hk,h⟩:=h;have hv:=fun q=>val_v1 (chkK_at hk q)
 have hr:∀ i k,i<n→k<n→chkRow n l i k=true:=fun i k hi hk=>by
  have:=h i (List.mem_range.2 hi);rw [List.all_eq_true] at this;exact this k (List.mem_range.2 hk)
 refine ⟨fun i k hi hk=>?_,fun i k hi hk=>?_⟩
 · have h1:=hr i k hi hk
   unfold chkRow at h1;rw [Bool.and_eq_true,decide_eq_true_eq,decide_eq_true_eq] at h1;rw [← two_dl,← h1.1,sum_rpow];refine sum_congr fun j _=>?_
   unfold MV;rw [hv,hv,conj_rpow,mul_rpow,mul_rpow',rpow_rpow]
 · have h1:=hr i k hi hk
   unfold chkRow at h1;rw [Bool.and_eq_true,decide_eq_true_eq,decide_eq_true_eq] at h1;rw [← two_dl,← h1.2,sum_rpow];refine sum_congr fun j _=>?_
   unfold dag MV;rw [conj_conj,hv,hv,conj_rpow,mul_rpow,mul_rpow',rpow_rpow]
theorem chkP_at {m:Nat} {lm:List Num} (h:chkP m lm=true) {n p:Nat} (hn:n<7) (hp:p<7) (h1:1≤p∧p+m≤n+1):Uni n (placeN n p m lm):=by
 unfold chkP at h;rw [List.all_eq_true] at h;have h2:=h n (List.mem_range.2 hn);rw [List.all_eq_true] at h2;have h3:=h2 p (List.mem_range.2 hp);rw [decide_eq_true h1] at h3;exact Uni.chk h3
theorem placed_uni {n:Nat} {x:It} (hn:n≤6) (h:okIt n x=true):Uni n (placeN n x.pos.toNat (ownW x.kind) (ownM x.kind x.n)):=by
 obtain ⟨h1,hk,h2,h3,_,_⟩:=okIt_iff h;have hw:1≤ownW x.kind:=by unfold ownW;split <;> omega
 have hp:1≤x.pos.toNat∧x.pos.toNat+ownW x.kind≤n+1:=by omega
 rcases hk with hk | hk | hk
 · rw [hk] at hp ⊢
   have h4:=chk_phase;rw [List.all_eq_true] at h4;have h5:=h4 (x.n % 8).toNat (List.mem_range.2 (by omega));exact chkP_at h5 (by omega) (by omega) hp
 · rw [hk] at hp ⊢
   exact chkP_at chk_couple (by omega) (by omega) hp
 · rw [hk] at hp ⊢
   exact chkP_at chk_cross (by omega) (by omega) hp
theorem itsM_uni {n:Nat} (hn:n≤6):∀ (its:List It) (l:List Num),okIts n its=true→Uni n l→(itsM n its l).2=0→Uni n (itsM n its l).1
 | [],l,_,hl,_=>hl
 | x :: t, l, hok, hl, he => by
   unfold okIts at hok;rw [List.all_cons,Bool.and_eq_true] at hok;simp only [itsM] at *
   by_cases h:(stepM n x l).2=0
   · rw [if_pos h] at *
     exact itsM_uni hn t _ hok.2 (Uni.mul (placed_uni hn hok.1) hl h) he
   · rw [if_neg h] at he;exact absurd he h
theorem itsM_shape {n:Nat}:∀ (its:List It) (l:List Num),VldL l→l.length=n*n→(itsM n its l).2=0→VldL (itsM n its l).1∧(itsM n its l).1.length=n*n
 | [],l,h1,h2,_=>⟨h1,h2⟩
 | x :: t, l, h1, h2, he => by
   simp only [itsM] at *
   by_cases h:(stepM n x l).2=0
   · rw [if_pos h] at *
     exact itsM_shape t _ (mulM_valid _ _ _) (matR_length h) he
   · rw [if_neg h] at he;exact absurd he h
def conjZ (z:Num):Num:=⟨conjC z.x,z.k⟩
def dagL (n:Nat) (l:List Num):List Num:=gridR n fun i k=>conjZ (l.getD (k*n+i) noneZ)
theorem dagL_length (n:Nat) (l:List Num):(dagL n l).length=n*n:=gridR_length n _
theorem val_conj (z:Num):val (conjZ z)=conjC (val z):=by
 unfold val conjZ;rw [conj_rpow]
theorem MV_dag (l:List Num) {n i k:Nat} (hi:i<n) (hk:k<n):MV (dagL n l) n i k=dag (MV l n) i k:=by
 unfold dag MV;rw [List.getD_eq_getElem?_getD,show (dagL n l)[i*n+k]? = _ from gridR_at _ hi hk];exact val_conj _
theorem mat_ext {n:Nat} {a b:List Num} (ha:VldL a) (hb:VldL b) (la:a.length=n*n) (lb:b.length=n*n) (h:∀ i k,i<n→k<n→MV a n i k=MV b n i k):a=b:=by
 apply List.ext_getElem?;intro q;rcases Nat.lt_or_ge q (n*n) with hq | hq
 · obtain ⟨h1,h2,h3⟩:=grid_spread hq
   have h4:=h _ _ h1 h2;unfold MV at h4;rw [← h3] at h4;have ea:a[q]? = some a[q]:=List.getElem?_eq_getElem (by omega);have eb:b[q]? = some b[q]:=List.getElem?_eq_getElem (by omega);rw [List.getD_eq_getElem?_getD,List.getD_eq_getElem?_getD,ea,eb] at h4;rw [ea,eb];exact congrArg some (val_inj (ha _ _ ea) (hb _ _ eb) h4)
 · rw [List.getElem?_eq_none (by omega),List.getElem?_eq_none (by omega)]
end Msh
