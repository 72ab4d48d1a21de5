/- How many bits a number has: the steps of the adding one by one. No condition; no program in sight. -/
import Derived.Test.YtnceajabigdleaaDoorPtQ6
import Derived.Test.YtnceajabigdleaaDoorPtQ95
import Derived.Test.YtnceajabigdleaaDoorPtQ98
import Derived.Test.YtnceajabigdleaaDoorPtQ983
namespace Prb
open Go
def ofD (B:Nat):List Nat→Nat
 | []=>0
 | d::r=>d+B*ofD B r
def sumP:List Nat→List Nat
 | a::b::r=>(a+b)::sumP r
 | l=>l
theorem and_split (k a b c d:Nat) (ha:a<2 ^ k) (hc:c<2 ^ k):(a+2 ^ k*b) &&& (c+2 ^ k*d)=(a &&& c)+2 ^ k*(b &&& d):=by
 have h1:=@Nat.and_mod_two_pow (a+2 ^ k*b) (c+2 ^ k*d) k;have h2:=@Nat.and_div_two_pow (a+2 ^ k*b) (c+2 ^ k*d) k;rw [Nat.add_mul_mod_self_left,Nat.add_mul_mod_self_left,Nat.mod_eq_of_lt ha,Nat.mod_eq_of_lt hc] at h1;rw [Nat.add_mul_div_left _ _ (Nat.two_pow_pos k),Nat.add_mul_div_left _ _ (Nat.two_pow_pos k),Nat.div_eq_of_lt ha,Nat.div_eq_of_lt hc,Nat.zero_add,Nat.zero_add] at h2;have h3:=Nat.mod_add_div ((a+2 ^ k*b) &&& (c+2 ^ k*d)) (2 ^ k);rw [h1,h2] at h3;exact h3.symm
theorem step1:∀ (ds:List Nat) (n:Nat),ds.length=2*n→(∀ d∈ds,d≤1)→((ofD 2 ds / 2) &&& ofD 4 (List.replicate n 1))+(ofD 2 ds &&& ofD 4 (List.replicate n 1))=ofD 4 (sumP ds)
 | [], n, hn, _ => by
   obtain rfl:n=0:=by simp at hn;omega
   rfl
 | [_],n,hn,_=>by simp at hn;omega
 | a :: b :: r, n, hn, h => by
   obtain ⟨n,rfl⟩:∃ n',n=n'+1:=⟨n - 1,by simp at hn;omega⟩;have ih:=step1 r n (by simp at hn;omega) (fun d hd=>h d (List.mem_cons_of_mem _ (List.mem_cons_of_mem _ hd)));have ha:=h a List.mem_cons_self;have hb:=h b (List.mem_cons_of_mem _ List.mem_cons_self);rw [List.replicate_succ];simp only [ofD,sumP];obtain ⟨R,hR⟩:∃ R,ofD 2 r=R:=⟨_,rfl⟩;obtain ⟨M,hM⟩:∃ M,ofD 4 (List.replicate n 1)=M:=⟨_,rfl⟩;rw [hR,hM] at ih;rw [hR,hM,← ih];rw [show (a+2*(b+2*R)) / 2=(b+2*(R % 2))+2 ^ 2*(R / 2) by omega,show a+2*(b+2*R)=(a+2*b)+2 ^ 2*R by omega,show 1+4*M=1+2 ^ 2*M by omega,
    and_split 2 _ _ _ _ (by omega) (by omega),and_split 2 _ _ _ _ (by omega) (by omega),show (1:Nat)=2 ^ 1 - 1 from rfl,Nat.and_two_pow_sub_one_eq_mod,Nat.and_two_pow_sub_one_eq_mod]
   omega
theorem step2:∀ (ds:List Nat) (n:Nat),ds.length=2*n→(∀ d∈ds,d≤2)→((ofD 4 ds / 4) &&& ofD 16 (List.replicate n 3))+(ofD 4 ds &&& ofD 16 (List.replicate n 3))=ofD 16 (sumP ds)
 | [], n, hn, _ => by
   obtain rfl:n=0:=by simp at hn;omega
   rfl
 | [_],n,hn,_=>by simp at hn;omega
 | a :: b :: r, n, hn, h => by
   obtain ⟨n,rfl⟩:∃ n',n=n'+1:=⟨n - 1,by simp at hn;omega⟩;have ih:=step2 r n (by simp at hn;omega) (fun d hd=>h d (List.mem_cons_of_mem _ (List.mem_cons_of_mem _ hd)));have ha:=h a List.mem_cons_self;have hb:=h b (List.mem_cons_of_mem _ List.mem_cons_self);rw [List.replicate_succ];simp only [ofD,sumP];obtain ⟨R,hR⟩:∃ R,ofD 4 r=R:=⟨_,rfl⟩;obtain ⟨M,hM⟩:∃ M,ofD 16 (List.replicate n 3)=M:=⟨_,rfl⟩;rw [hR,hM] at ih;rw [hR,hM,← ih];rw [show (a+4*(b+4*R)) / 4=(b+4*(R % 4))+2 ^ 4*(R / 4) by omega,show a+4*(b+4*R)=(a+4*b)+2 ^ 4*R by omega,show 3+16*M=3+2 ^ 4*M by omega,
    and_split 4 _ _ _ _ (by omega) (by omega),and_split 4 _ _ _ _ (by omega) (by omega),show (3:Nat)=2 ^ 2 - 1 from rfl,Nat.and_two_pow_sub_one_eq_mod,Nat.and_two_pow_sub_one_eq_mod]
   omega
theorem step3:∀ (ds:List Nat) (n:Nat),ds.length=2*n→(∀ d∈ds,d≤4)→(ofD 16 ds / 16+ofD 16 ds) &&& ofD 256 (List.replicate n 15)=ofD 256 (sumP ds)
 | [], n, hn, _ => by
   obtain rfl:n=0:=by simp at hn;omega
   rfl
 | [_],n,hn,_=>by simp at hn;omega
 | a :: b :: r, n, hn, h => by
   obtain ⟨n,rfl⟩:∃ n',n=n'+1:=⟨n - 1,by simp at hn;omega⟩;have ih:=step3 r n (by simp at hn;omega) (fun d hd=>h d (List.mem_cons_of_mem _ (List.mem_cons_of_mem _ hd)));have ha:=h a List.mem_cons_self;have hb:=h b (List.mem_cons_of_mem _ List.mem_cons_self);have hR4:ofD 16 r % 16≤4:=by
    cases r with
    | nil=>simp [ofD]
    | cons c r =>
      have:=h c (by simp);simp only [ofD];omega
   rw [List.replicate_succ];simp only [ofD,sumP];obtain ⟨R,hR⟩:∃ R,ofD 16 r=R:=⟨_,rfl⟩;obtain ⟨M,hM⟩:∃ M,ofD 256 (List.replicate n 15)=M:=⟨_,rfl⟩;rw [hR,hM] at ih;rw [hR] at hR4;rw [hR,hM,← ih];rw [show (a+16*(b+16*R)) / 16+(a+16*(b+16*R))=((a+b)+16*(b+R % 16))+2 ^ 8*(R / 16+R) by omega,show 15+256*M=15+2 ^ 8*M by omega,
    and_split 8 _ _ _ _ (by omega) (by omega),show (15:Nat)=2 ^ 4 - 1 from rfl,Nat.and_two_pow_sub_one_eq_mod]
   omega
theorem sumP_len:∀ (ds:List Nat) (n:Nat),ds.length=2*n→(sumP ds).length=n
 | [],n,hn=>by simp at hn;simp [sumP];omega
 | [_],n,hn=>by simp at hn;omega
 | a :: b :: r, n, hn => by
   obtain ⟨n,rfl⟩:∃ n',n=n'+1:=⟨n - 1,by simp at hn;omega⟩;simp only [sumP,List.length_cons,sumP_len r n (by simp at hn;omega)]
theorem sumP_le {k:Nat}:∀ (ds:List Nat) (n:Nat),ds.length=2*n→(∀ d∈ds,d≤k)→∀ d∈sumP ds,d≤2*k
 | [],_,_,_,d,hd=>by simp [sumP] at hd
 | [_],n,hn,_,_,_=>by simp at hn;omega
 | a :: b :: r, n, hn, h, d, hd => by
   have ha:=h a List.mem_cons_self;have hb:=h b (List.mem_cons_of_mem _ List.mem_cons_self);simp only [sumP] at hd;rcases List.mem_cons.1 hd with rfl | hd
   · omega
   · exact sumP_le r (n - 1) (by simp at hn;omega) (fun d hd=>h d (List.mem_cons_of_mem _ (List.mem_cons_of_mem _ hd))) d hd
theorem sumP_sum:∀ (ds:List Nat) (n:Nat),ds.length=2*n→(sumP ds).sum=ds.sum
 | [],_,_=>rfl
 | [_],n,hn=>by simp at hn;omega
 | a :: b :: r, n, hn => by
   have ih:=sumP_sum r (n - 1) (by simp at hn;omega);simp only [sumP,List.sum_cons,ih];omega
def bitsD:Nat→Nat→List Nat
 | 0,_=>[]
 | n+1,x=>x % 2::bitsD n (x / 2)
theorem bitsD_len:∀ n x,(bitsD n x).length=n
 | 0,_=>rfl
 | n+1,x=>by simp [bitsD,bitsD_len n]
theorem bitsD_le:∀ n x,∀ d∈bitsD n x,d≤1
 | 0,_,d,h=>by cases h
 | n + 1, x, d, h => by
   rcases List.mem_cons.1 h with rfl | h
   · omega
   · exact bitsD_le n _ d h
theorem bitsD_of:∀ n x,x<2 ^ n→ofD 2 (bitsD n x)=x
 | 0,x,h=>by simp at h;subst h;rfl
 | n + 1, x, h => by
   have:=bitsD_of n (x / 2) (by rw [Nat.pow_succ] at h;omega);simp only [bitsD,ofD,this];omega
theorem setS_pred:∀ {L:List Nat},(∀ y∈L,1≤y)→setS L=2*setS (L.map (· - 1))
 | [],_=>rfl
 | x :: r, h => by
   have ih:=setS_pred (L:=r) fun y hy=>h y (List.mem_cons_of_mem _ hy)
   obtain ⟨x,rfl⟩:∃ x',x=x'+1:=⟨x - 1,by have:=h x List.mem_cons_self;omega⟩;simp only [setS,List.map_cons,ih,Nat.pow_succ,Nat.add_sub_cancel];omega
theorem asc_pred:∀ {L:List Nat},Asc L→(∀ y∈L,1≤y)→Asc (L.map (· - 1))
 | [],_,_=>trivial
 | x :: r, ha, h => by
   refine ⟨fun y hy=>?_,asc_pred ha.2 fun y hy=>h y (List.mem_cons_of_mem _ hy)⟩;obtain ⟨z,hz,rfl⟩:=List.mem_map.1 hy;have:=ha.1 z hz;have:=h x List.mem_cons_self;show x - 1<z - 1
   omega
theorem bitsD_set:∀ (n:Nat) {L:List Nat},Asc L→(∀ y∈L,y<n)→(bitsD n (setS L)).sum=L.length
 | 0,[],_,_=>rfl
 | 0,x::_,_,h=>absurd (h x List.mem_cons_self) (Nat.not_lt_zero x)
 | n + 1, L, ha, h => by
   have pos:∀ {K:List Nat},Asc K→(∀ y∈K,y<n+1)→(∀ y∈K,1≤y)→(bitsD n (setS (K.map (· - 1)))).sum=K.length:=fun {K} ka kh k1=>by
    have:=bitsD_set n (asc_pred ka k1) (fun y hy=>by
     obtain ⟨z,hz,rfl⟩:=List.mem_map.1 hy;have:=kh z hz;have:=k1 z hz;show z - 1<n
     omega)
    rw [this,List.length_map]
   cases L with
   | nil =>
     have:=pos (K:=[]) trivial (fun _ h=>by cases h) (fun _ h=>by cases h);simp only [List.map_nil] at this;simp only [bitsD,List.sum_cons,show setS []=0 from rfl,Nat.zero_mod,Nat.zero_div] at this ⊢;omega
   | cons x r =>
     by_cases h0:x=0
     · subst h0
       have r1:∀ y∈r,1≤y:=fun y hy=>ha.1 y hy
       have:=pos ha.2 (fun y hy=>h y (List.mem_cons_of_mem _ hy)) r1;simp only [bitsD,List.sum_cons,setS,setS_pred r1,List.length_cons];rw [show (2 ^ 0+2*setS (r.map (· - 1))) / 2=setS (r.map (· - 1)) by omega,this];omega
     · have h1:∀ y∈x::r,1≤y:=fun y hy=>by
        rcases List.mem_cons.1 hy with rfl | hy
        · omega
        · have:=ha.1 y hy;omega
       have:=pos ha h h1;rw [setS_pred h1];simp only [bitsD,List.sum_cons];rw [show 2*setS ((x::r).map (· - 1)) / 2=setS ((x::r).map (· - 1)) by omega,this];omega
theorem dv1 (a T:Nat) (h:a≤64):(a+256*T) / 256=T:=by omega
theorem dv2 (a b T:Nat) (h:a≤64) (h2:b≤64):(a+256*(b+256*T)) / 65536=T:=by omega
theorem dv4 (a b c d T:Nat) (h:a≤64) (h2:b≤64) (h3:c≤64) (h4:d≤64):(a+256*(b+256*(c+256*(d+256*T)))) / 4294967296=T:=by
 rw [show (4294967296:Nat)=65536*65536 from rfl,← Nat.div_div_eq_div_mul,dv2 _ _ _ h h2,dv2 _ _ _ h3 h4]
theorem ad1 (c0 c1 c2 c3 c4 c5 c6 c7:Nat):(c0+256*(c1+256*(c2+256*(c3+256*(c4+256*(c5+256*(c6+256*(c7))))))))+(c1+256*(c2+256*(c3+256*(c4+256*(c5+256*(c6+256*(c7)))))))=(c0+c1)+256*((c1+c2)+256*((c2+c3)+256*((c3+c4)+256*((c4+c5)+256*((c5+c6)+256*((c6+c7)+256*(c7))))))):=by omega
theorem ad2 (c0 c1 c2 c3 c4 c5 c6 c7:Nat):(c0+256*(c1+256*(c2+256*(c3+256*(c4+256*(c5+256*(c6+256*(c7))))))))+(c2+256*(c3+256*(c4+256*(c5+256*(c6+256*(c7))))))=(c0+c2)+256*((c1+c3)+256*((c2+c4)+256*((c3+c5)+256*((c4+c6)+256*((c5+c7)+256*(c6+256*(c7))))))):=by omega
theorem ad4 (c0 c1 c2 c3 c4 c5 c6 c7:Nat):(c0+256*(c1+256*(c2+256*(c3+256*(c4+256*(c5+256*(c6+256*(c7))))))))+(c4+256*(c5+256*(c6+256*(c7))))=(c0+c4)+256*((c1+c5)+256*((c2+c6)+256*((c3+c7)+256*(c4+256*(c5+256*(c6+256*(c7))))))):=by omega
theorem md (a T:Nat) (h:a≤64):(a+256*T) % 128=a:=by omega
theorem lt8 (T n B:Nat) (a:Nat) (h:a≤64) (hT:T≤B) (hB:64+256*B≤n):a+256*T≤n:=by omega
theorem pop_end (c0 c1 c2 c3 c4 c5 c6 c7 n:Nat) (b0:c0≤8) (b1:c1≤8) (b2:c2≤8) (b3:c3≤8) (b4:c4≤8) (b5:c5≤8) (b6:c6≤8) (b7:c7≤8) (X:Nat) (hX:X=c0+256*(c1+256*(c2+256*(c3+256*(c4+256*(c5+256*(c6+256*(c7)))))))) (hn:c0+c1+c2+c3+c4+c5+c6+c7=n) :
  (X+X / 256)+(X+X / 256) / 65536+((X+X / 256)+(X+X / 256) / 65536) / 4294967296<9223372036854775808∧((X+X / 256)+(X+X / 256) / 65536+((X+X / 256)+(X+X / 256) / 65536) / 4294967296) % 128=n:=by
 rw [hX,dv1 _ _ (by omega),ad1,dv2 _ _ _ (by omega) (by omega),ad2,dv4 _ _ _ _ _ (by omega) (by omega) (by omega) (by omega),ad4];refine ⟨Nat.lt_of_le_of_lt (lt8 _ (64*72340172838076673) (64*282578800148737) _ (by omega) (lt8 _ _ (64*1103823438081) _ (by omega) (lt8 _ _ (64*4311810305) _ (by omega) (lt8 _ _ (64*16843009) _ (by omega) (lt8 _ _ (64*65793) _ (by omega) (lt8 _ _ (64*257) _ (by omega) (lt8 _ _ 64 _ (by omega) (by omega) (by decide)) (by decide)) (by decide)) (by decide)) (by decide)) (by decide)) (by decide)) (by decide), ?_⟩;rw [md _ _ (by omega)];omega
theorem pop_steps {L:List Nat} (ha:Asc L) (hL:∀ y∈L,y<64):∃ p1 p2 v1 p3 p4 v2 v3 v4 v5 v6:Nat,v1<18446744073709551616∧v2<18446744073709551616∧v2 / 16+v2<18446744073709551616∧v6<9223372036854775808 ∧
  setS L / 2 &&& 6148914691236517205=p1∧setS L &&& 6148914691236517205=p2∧p1+p2=v1∧v1 / 4 &&& 3689348814741910323=p3∧v1 &&& 3689348814741910323=p4∧p3+p4=v2 ∧
  (v2 / 16+v2) &&& 1085102592571150095=v3∧v3+v3 / 256=v4∧v4+v4 / 65536=v5∧v5+v5 / 4294967296=v6∧v6 % 128=L.length:=by
 have h64:=setS_lt64 ha hL;obtain ⟨D,hD⟩:∃ D,bitsD 64 (setS L)=D:=⟨_,rfl⟩;have d1:D.length=64:=by rw [← hD];exact bitsD_len _ _
 have d2:∀ d∈D,d≤1:=by rw [← hD];exact bitsD_le _ _
 have d3:ofD 2 D=setS L:=by rw [← hD];exact bitsD_of 64 _ h64
 have d4:D.sum=L.length:=by rw [← hD];exact bitsD_set 64 ha hL
 have s1:=step1 D 32 d1 d2;rw [d3,show ofD 4 (List.replicate 32 1)=6148914691236517205 by decide +kernel] at s1;have e1:=sumP_len D 32 d1;have e2:=sumP_le D 32 d1 d2;have e4:=sumP_sum D 32 d1;obtain ⟨E,hE⟩:∃ E,sumP D=E:=⟨_,rfl⟩;rw [hE] at s1 e1 e2 e4;have s2:=step2 E 16 e1 e2;rw [show ofD 16 (List.replicate 16 3)=3689348814741910323 by decide +kernel] at s2;have f1:=sumP_len E 16 e1;have f2:=sumP_le E 16 e1 e2;have f4:=sumP_sum E 16 e1;obtain ⟨G,hG⟩:∃ G,sumP E=G:=⟨_,rfl⟩;rw [hG] at s2 f1 f2 f4;have s3:=step3 G 8 f1 f2;rw [show ofD 256 (List.replicate 8 15)=1085102592571150095 by decide +kernel] at s3;have g1:=sumP_len G 8 f1;have g2:=sumP_le G 8 f1 f2;have g4:=sumP_sum G 8 f1;obtain ⟨C,hC⟩:∃ C,sumP G=C:=⟨_,rfl⟩;rw [hC] at s3 g1 g2 g4;have bnd:∀ (B:Nat) (k:Nat),k<B→∀ (l:List Nat) (n:Nat),l.length=n→(∀ d∈l,d≤k)→ofD B l*(B - 1)≤k*(B ^ n - 1):=by
  intro B k hk l
  induction l with
  | nil=>intro n _ _;simp [ofD]
  | cons d r ih =>
    intro n hn h;obtain ⟨n,rfl⟩:∃ n',n=n'+1:=⟨n - 1,by simp at hn;omega⟩;have i:=ih n (by simpa using hn) (fun d hd=>h d (List.mem_cons_of_mem _ hd));have hd:=h d List.mem_cons_self;simp only [ofD];have q1:(d+B*ofD B r)*(B - 1)=d*(B - 1)+B*(ofD B r*(B - 1)):=by rw [Nat.add_mul,Nat.mul_assoc]
    have q2:d*(B - 1)≤k*(B - 1):=Nat.mul_le_mul_right _ hd;have q3:B*(ofD B r*(B - 1))≤B*(k*(B ^ n - 1)):=Nat.mul_le_mul_left _ i;have q4:k*(B - 1)+B*(k*(B ^ n - 1))=k*(B ^ (n+1) - 1):=by
     rw [show B*(k*(B ^ n - 1))=k*(B*(B ^ n - 1)) by rw [← Nat.mul_assoc,Nat.mul_comm B k,Nat.mul_assoc],← Nat.mul_add]
     congr 1
     rw [Nat.mul_sub,Nat.mul_one,Nat.pow_succ,Nat.mul_comm B];have:1≤B ^ n:=Nat.one_le_pow _ _ (by omega);have:B≤B ^ n*B:=Nat.le_mul_of_pos_left _ (by omega);omega
    omega
 have v1b:=bnd 4 2 (by decide) E 32 e1 e2;have v2b:=bnd 16 4 (by decide) G 16 f1 f2;match C,g1 with
 | [c0,c1,c2,c3,c4,c5,c6,c7],_ =>
 have b0:=g2 c0 (by simp);have b1:=g2 c1 (by simp);have b2:=g2 c2 (by simp);have b3:=g2 c3 (by simp);have b4:=g2 c4 (by simp);have b5:=g2 c5 (by simp);have b6:=g2 c6 (by simp);have b7:=g2 c7 (by simp);have hsum:c0+c1+c2+c3+c4+c5+c6+c7=L.length:=by
  rw [← d4,← e4,← f4,← g4];simp only [List.sum_cons,List.sum_nil];omega
 simp only [ofD] at s3;clear hC g2 g4 hG hE bnd;refine ⟨_,_,_,_,_,_,_,_,_,_, ?_, ?_, ?_, ?_,rfl,rfl,rfl,rfl,rfl,rfl,rfl,rfl,rfl,rfl, ?_⟩
 · rw [s1];omega
 · rw [s1,s2];omega
 · rw [s1,s2];omega
 · rw [s1,s2,s3];exact (pop_end c0 c1 c2 c3 c4 c5 c6 c7 _ b0 b1 b2 b3 b4 b5 b6 b7 _ (by rw [Nat.mul_zero,Nat.add_zero]) hsum).1
 · rw [s1,s2,s3];exact (pop_end c0 c1 c2 c3 c4 c5 c6 c7 _ b0 b1 b2 b3 b4 b5 b6 b7 _ (by rw [Nat.mul_zero,Nat.add_zero]) hsum).2
end Prb
namespace Go.Proofs.Qm
open Go Go.Pt Go.RowKit Prb
set_option maxRecDepth 100000 in
set_option maxHeartbeats 1600000 in
theorem pop_any {L:List Nat} (ha:Asc L) (hL:∀ y∈L,y<64) (w:World) :
  Calls prog 77 #[.int .u64 (setS L)] w fun e w'=>e=.returned (.int .i64 L.length)∧w'=w:=by
 have h64:=setS_lt64 ha hL;have hlen:=asc_len (lo:=0) ha (fun y hy=>⟨Nat.zero_le _,hL y hy⟩) (by decide);obtain ⟨p1,p2,v1,p3,p4,v2,v3,v4,v5,v6,b1,b2,b3,b6,e1,e2,e3,e4,e5,e6,e7,e8,e9,e10,e11⟩:=pop_steps ha hL;obtain ⟨S,hS⟩:∃ S,setS L=S:=⟨_,rfl⟩;rw [hS] at h64 e1 e2 ⊢;obtain ⟨n,hn⟩:∃ n,L.length=n:=⟨_,rfl⟩;rw [hn] at e11 hlen ⊢;have m64:(2:Nat) ^ 64=18446744073709551616:=by decide
 have c1:bits .and .u64 ((S:Int) / 2) 6148914691236517205=(p1:Int):=by have:=Prb.u64_and (S / 2) 6148914691236517205 (by omega) (by omega);rw [e1] at this;exact this
 have c2:bits .and .u64 (S:Int) 6148914691236517205=(p2:Int):=by have:=Prb.u64_and S 6148914691236517205 (by omega) (by omega);rw [e2] at this;exact this
 have c3:IntKind.u64.wrap ((p1:Int)+p2)=(v1:Int):=by rw [IntKind.wrap_u64];omega
 have c4:bits .and .u64 ((v1:Int) / 4) 3689348814741910323=(p3:Int):=by have:=Prb.u64_and (v1 / 4) 3689348814741910323 (by omega) (by omega);rw [e4] at this;exact this
 have c5:bits .and .u64 (v1:Int) 3689348814741910323=(p4:Int):=by have:=Prb.u64_and v1 3689348814741910323 (by omega) (by omega);rw [e5] at this;exact this
 have c6:IntKind.u64.wrap ((p3:Int)+p4)=(v2:Int):=by rw [IntKind.wrap_u64];omega
 obtain ⟨u2,hu2⟩:∃ u2,v2 / 16+v2=u2:=⟨_,rfl⟩;rw [hu2] at e7 b3;have c7:IntKind.u64.wrap ((v2:Int) / 16+v2)=(u2:Int):=by rw [IntKind.wrap_u64];omega
 have c8:bits .and .u64 (u2:Int) 1085102592571150095=(v3:Int):=by have:=Prb.u64_and u2 1085102592571150095 (by omega) (by omega);rw [e7] at this;exact this
 have c9:IntKind.u64.wrap ((v3:Int)+(v3:Int) / 256)=(v4:Int):=by rw [IntKind.wrap_u64];omega
 have c10:IntKind.u64.wrap ((v4:Int)+(v4:Int) / 65536)=(v5:Int):=by rw [IntKind.wrap_u64];omega
 have c11:IntKind.u64.wrap ((v5:Int)+(v5:Int) / 4294967296)=(v6:Int):=by rw [IntKind.wrap_u64];omega
 have c12:bits .and .i64 (v6:Int) 127=(n:Int):=by
  have:=(bits_nat .i64 63 (by decide) (fun n h0 h1=>by rw [IntKind.wrap_i64];omega) v6 127 (by omega) (by omega)).1;rw [show v6 &&& 127=v6 % 128 from Nat.and_two_pow_sub_one_eq_mod v6 7,e11] at this;exact this
 clear ha hL hS e1 e2 e3 e4 e5 e6 e7 e8 e9 e10 e11 hu2 hn;go_enter func77,ntmps77
 go_wp2_with fail
 exact bodyPost_ret (v:=.int .i64 n) (by simp [results,go_sem]) rfl ⟨rfl,rfl⟩
theorem size_any {L:List Nat} (ha:Asc L) (hL:∀ y∈L,y<64) (w:World) :
  Calls prog 57 #[.int .u64 (setS L)] w fun e w'=>e=.returned (.int .i64 L.length)∧w'=w:=by
 have HP:=hid (pop_any ha hL w);obtain ⟨S,hS⟩:∃ S,setS L=S:=⟨_,rfl⟩;rw [hS] at HP ⊢;obtain ⟨n,hn⟩:∃ n,L.length=n:=⟨_,rfl⟩;rw [hn] at HP ⊢;clear ha hL hS hn;go_enter func57,ntmps57
 go_wp2_with fail
 refine HP.out.mono ?_;rintro e w' ⟨rfl,rfl⟩;go_wp2_with fail
 exact bodyPost_ret (v:=.int .i64 n) (by simp [results,go_sem]) rfl ⟨rfl,rfl⟩
open Go Go.Pt Go.RowKit Prb
structure Fd where
 b:List Bool
 i:Int
 o:Int
def fdOf (z:Tq):Fd:=⟨z.b,z.t.i,z.t.o⟩
theorem fold_cnt (f:Nat→Nat) (i:Nat):∀ (l:List Nat) (cs:List Int),i<cs.length→(l.foldl (fun cs s=>bump cs (f s)) cs).getD i 0=cs.getD i 0+((l.filter fun s=>decide (f s=i)).length:Int)
 | [],cs,_=>by simp
 | x :: r, cs, h => by
   rw [List.foldl_cons,fold_cnt f i r (bump cs (f x)) (by rw [bump_len];exact h),bump_getD,List.filter_cons];by_cases hx:f x=i
   · rw [if_pos ⟨hx,h⟩,if_pos (by simpa using hx),List.length_cons]
     omega
   · rw [if_neg (fun h=>hx h.1),if_neg (by simpa using hx)]
theorem cntL_get (n:Nat) (f:Nat→Nat) (l:List Nat) (i:Nat) (hi:i<n):(cntL n f l)[i]? = some ((l.filter fun s=>decide (f s=i)).length:Int):=by
 have h:=fold_cnt f i l (List.replicate n 0) (by simpa using hi);have e:(cntL n f l).getD i 0=((l.filter fun s=>decide (f s=i)).length:Int):=by
  unfold cntL;rw [h,List.getD_eq_getElem?_getD,List.getElem?_replicate];split <;> simp
 rw [List.getD_eq_getElem?_getD,List.getElem?_eq_getElem (by rw [cntL_len];exact hi)] at e;rw [List.getElem?_eq_getElem (by rw [cntL_len];exact hi)];exact congrArg some e
theorem fold_max:∀ (cs:List Int) (m:Int),m≤cs.foldl max m∧∀ c∈cs,c≤cs.foldl max m
 | [],m=>⟨Int.le_refl _,fun c h=>by cases h⟩
 | x :: r, m => by
   have h:=fold_max r (max m x);refine ⟨by have:=h.1;simp only [List.foldl_cons];omega,fun c hc=>?_⟩;rcases List.mem_cons.1 hc with rfl | hc
   · have:=h.1;simp only [List.foldl_cons];omega
   · exact h.2 c hc
theorem grL_ge {cs:List Int} {c:Int} (h:c∈cs):c≤grL cs:=(fold_max cs 0).2 c h
theorem bstI_val (g:Nat→Int):∀ k,0<k→(bstI g k).2=g (bstI g k).1.toNat∧(bstI g k).1.toNat<k∧0≤(bstI g k).1
 | 0,h=>absurd h (Nat.lt_irrefl 0)
 | k + 1, _ => by
   rw [bstI];split
   · exact ⟨by simp,by simp,by simp⟩
   · rename_i h
     have:=bstI_val g k (by omega);exact ⟨this.1,by omega,this.2.2⟩
def bstX (n:Int) (m:Nat) (L:List Nat) (l:List Tq):Nat:=(bstI (gOf n m L l) l.length).1.toNat
def stopF (n:Int) (m:Nat) (L:List Nat) (l:List Tq):Bool:=decide (l.length=0)||decide ((L.length:Int)≤(bstI (gOf n m L l) l.length).2)
def ansF (n:Int) (s:Nat) (z:Tq):Nat:=refA n (thB s z.b) z.t.i.toNat
def nxtF (n:Int) (s:Nat) (z:Tq) (L:List Nat):List Nat:=L.filter (agP n z.b z.t.i.toNat (ansF n s z:Nat))
def finF (n:Int) (m s:Nat) (l:List Tq):Nat→List Nat→List Fd→List Nat × List Fd
 | 0,L,fl=>(L,fl)
 | k + 1, L, fl => if stopF n m L l then (L, fl) else match l[bstX n m L l]? with
   | none=>(L,fl)
   | some z=>finF n m s l k (nxtF n s z L) (fl++[⟨z.b,z.t.i,(ansF n s z:Nat)⟩])
theorem finF_stop {n:Int} {m s:Nat} {l:List Tq} {k:Nat} {L:List Nat} {fl:List Fd} (h:stopF n m L l=true):finF n m s l k L fl=(L,fl):=by
 cases k with
 | zero=>rfl
 | succ k=>rw [finF,if_pos h]
theorem finF_step {n:Int} {m s:Nat} {l:List Tq} {k:Nat} {L:List Nat} {fl:List Fd} {z:Tq} (h:stopF n m L l=false) (hz:l[bstX n m L l]? = some z):finF n m s l (k+1) L fl=finF n m s l k (nxtF n s z L) (fl++[⟨z.b,z.t.i,(ansF n s z:Nat)⟩]):=by
 rw [finF,if_neg (by rw [h];simp),hz]
theorem bstX_at {n:Int} {m:Nat} {L:List Nat} {l:List Tq} (h:stopF n m L l=false):∃ z,l[bstX n m L l]? = some z∧(bstI (gOf n m L l) l.length).1=(bstX n m L l:Nat)∧(bstI (gOf n m L l) l.length).2=wrst n m L z∧wrst n m L z<L.length:=by
 unfold stopF at h;rw [Bool.or_eq_false_iff,decide_eq_false_iff_not,decide_eq_false_iff_not] at h;obtain ⟨h1,h2,h3⟩:=bstI_val (gOf n m L l) l.length (by omega);obtain ⟨z,hz⟩:∃ z,l[bstX n m L l]? = some z:=⟨l[bstX n m L l]'h2,List.getElem?_eq_getElem _⟩;have e:(bstI (gOf n m L l) l.length).2=wrst n m L z:=h1.trans (gOf_at hz);refine ⟨z,hz, ?_,e, ?_⟩
 · unfold bstX;omega
 · rw [← e];omega
theorem nxtF_lt {n:Int} {m s:Nat} {z:Tq} {L:List Nat} (hA:ansF n s z<m) (hw:wrst n m L z<L.length):(nxtF n s z L).length<L.length:=by
 have h1:=cntL_get m (fun s=>refA n (thB s z.b) z.t.i.toNat) L (ansF n s z) hA;have h2:=grL_ge (List.mem_of_getElem? h1);unfold wrst at hw;have e:nxtF n s z L=L.filter fun y=>decide (refA n (thB y z.b) z.t.i.toNat=ansF n s z):=by
  unfold nxtF;refine List.filter_congr fun y _=>?_
  unfold agP;by_cases h:refA n (thB y z.b) z.t.i.toNat=ansF n s z
  · rw [decide_eq_true h,decide_eq_true (by rw [h])]
  · rw [decide_eq_false h,decide_eq_false (by omega)]
 rw [e];omega
theorem setS_filter (p:Nat→Bool):∀ L:List Nat,setS (L.filter p)≤setS L∧((L.filter p).length<L.length→setS (L.filter p)<setS L)
 | []=>⟨Nat.le_refl _,fun h=>by simp at h⟩
 | x :: r => by
   have ih:=setS_filter p r;have hp:=Nat.two_pow_pos x;rw [List.filter_cons];split
   · refine ⟨by simp only [setS];omega,fun h=>?_⟩
     have:=ih.2 (by simpa using h);simp only [setS];omega
   · exact ⟨by simp only [setS];omega,fun _=>by simp only [setS];omega⟩
theorem ints_nat (L:List Nat):(ints L).map Int.toNat=L:=by
 unfold ints;rw [List.map_map];conv=>rhs;rw [← List.map_id L]
 exact List.map_congr_left fun z _=>by show (Int.ofNat z).toNat=z;simp
theorem ok_ints {N:Nat}:∀ {L:List Nat} {lo:Int},Asc L→(∀ y∈L,y<N)→(∀ y∈L,lo≤(y:Int))→okFrom N lo (ints L)=true
 | [],_,_,_,_=>rfl
 | x :: r, lo, ha, hl, h => by
   have h1:=hl x List.mem_cons_self;have h2:=h x List.mem_cons_self;show okFrom N lo ((x:Int)::ints r)=true
   rw [okFrom,ok_ints (lo:=(x:Int)+1) ha.2 (fun y hy=>hl y (List.mem_cons_of_mem _ hy)) (fun y hy=>by have:=ha.1 y hy;omega)];simp;omega
open Go Go.Pt Go.RowKit Prb
def BlkB (w:World) (g:Nat) (l:List Bool):Prop:=∃ (cs:Array Value) (fz:Nat × Nat),w.heap[g]? = some (.cells cs 4 fz)∧∀ (i:Nat) (x:Bool),l[i]? = some x→cs[i]? = some (Value.bool x)
theorem BlkB.lt {w:World} {g:Nat} {l:List Bool} (h:BlkB w g l):g<w.heap.size:=by
 obtain ⟨cs,fz,h,_⟩:=h;exact (Array.getElem?_eq_some_iff.1 h).1
theorem BlkB.at {w:World} {g:Nat} {l:List Bool} (h:BlkB w g l):BlsAt w g 0 l:=fun i x hx=>by
 obtain ⟨cs,fz,h1,h2⟩:=h;rw [Nat.zero_add];simp only [World.cell?,h1];exact h2 i x hx
def KeepB (w w':World):Prop:=∀ (g:Nat) (cs:Array Value) (fz:Nat × Nat),w.heap[g]? = some (.cells cs 4 fz)→w'.heap[g]? = w.heap[g]?
theorem BlkB.kept {w w':World} {g:Nat} {l:List Bool} (h:BlkB w g l) (hk:KeepB w w'):BlkB w' g l:=by
 obtain ⟨cs,fz,h1,h2⟩:=h;exact ⟨cs,fz,(hk g cs fz h1).trans h1,h2⟩
theorem KeepB.below {w w':World} (h:Below w.heap.size w w'):KeepB w w':=fun g _ _ h1=>h.block g (Array.getElem?_eq_some_iff.1 h1).1
theorem KeepB.grew {w w':World} (h:Grew w w'):KeepB w w':=fun g _ _ h1=>h.block g (Array.getElem?_eq_some_iff.1 h1).1
theorem KeepB.trans {w w2 w':World} (h:KeepB w w2) (k:KeepB w2 w'):KeepB w w':=fun g cs fz h1=>by
 have e:=h g cs fz h1;exact (k g cs fz (e.trans h1)).trans e
theorem KeepB.set {w:World} {b i:Nat} {v:Value} (hb:∀ (cs:Array Value) (fz:Nat × Nat),w.heap[b]? ≠ some (.cells cs 4 fz)):KeepB w (w.setCell ⟨b,i,none⟩ v):=fun g cs fz h=>heap_setCell_ne w (fun e=>hb cs fz (by rw [← e];exact h)) i v
theorem KeepB.row {w w':World} {base:Nat} {e:TypeId} {size k:Nat} {v:Value} {xs:List Value} (ho:w.ownsRow base e size v k xs) (he:4≠e) (hg:w.grownBy w' v.ownBlock):KeepB w w':=fun g _ _ h =>
 hg.block g (Array.getElem?_eq_some_iff.1 h).1 fun e'=>own_ne ho h he e'.symm
def bCells (l:List Bool):List Value:=l.map .bool
theorem bCells_one {l:List Bool} {u:Value} (hu:u∈bCells l):u.oneCell'=true:=by
 obtain ⟨x,_,rfl⟩:=List.mem_map.1 hu;rfl
theorem info_b:(prog.info? 4).map (fun i=>(i.zero,i.size,i.bytes))=some (some (.bool false),1,1):=by rw [p_info];kernel_rfl
theorem und_b:prog.underlying 23=some (.slice 4):=(p_underlying 23).trans Tryd.underlying23
theorem eql_bls_nil (a:Option Addr) (n c:Nat) (w:World):(binOp .eql 23 (.slice a n c) (.slice none 0 0)).run prog w=.ok (.bool a.isNone) w:=run_eql_slice_nil w 23 4 a n c und_b
attribute [local go_sem high] eql_bls_nil
theorem ownsB_blk {w:World} {base k:Nat} {a0:Option Addr} {l:List Bool} (h:w.ownsRow base 4 1 (.slice a0 l.length k) l.length (bCells l)) (hl:l≠[]):∃ g,a0=some ⟨g,0,none⟩∧base≤g∧BlkB w g l:=by
 rcases h.2 with ⟨_,h2⟩ | ⟨g,cap,cur,h1,h2,h3,_,_,h5,h6⟩
 · exact absurd (List.eq_nil_of_length_eq_zero h2) hl
 · injection h1 with e1 e2 e3
   refine ⟨g,e1,h2,cur,_,h3,fun i x hx=>?_⟩;have hi:=(List.getElem?_eq_some_iff.1 hx).1;have:(cur.toList.take (l.length*1))[i]? = some (.bool x):=by rw [h6];simp [bCells,hx]
   rw [List.getElem?_take_of_lt (by omega)] at this
   simpa using this
theorem empty_b {w:World} {b:Nat} (hb:b=w.heap.size):(w.alloc (.cells #[] 4)).ownsRow w.heap.size 4 1 (.slice (some ⟨b,0,none⟩) 0 0) 0 []:=by
 subst hb;exact World.ownsRow_lit (base:=w.heap.size) (e:=4) (size:=1) w #[] 0 (Nat.le_refl _) (by decide) rfl
set_option maxRecDepth 100000 in
set_option maxHeartbeats 1600000 in
theorem clone_any (b off k:Nat) (l:List Bool) (w:World) (hl:l≠[]) (hl6:l.length≤6) (hb:b<w.heap.size) (hc:BlsAt w b off l) :
  Calls prog 58 #[.slice (some ⟨b,off,none⟩) l.length k] w fun e w'=>∃ g k2,e=.returned (.slice (some ⟨g,0,none⟩) l.length k2)∧Grew w w'∧w.heap.size≤g∧BlkB w' g l:=by
 have HC:=hid fun w' (hg:Grew w w')=>hc.grew hb hg
 obtain ⟨i0,hi,hz0,hz1,hz2⟩:=info_parts info_b;have HCELLS:=hid (And.intro hz0 (And.intro hz1 hz2));have HNE:=hid hl;clear hc hl hz0 hz1 hz2;go_enter func58,ntmps58
 go_wp2_with (at_builtin;go_loud (refine wpList_append_behind rfl _ _ 23 rfl w.heap.size 4 i0 (.bool false) 1 1 und_b hi HCELLS.out.1 HCELLS.out.2.1 HCELLS.out.2.2 rfl (by decide) _ 0 [] rfl ((empty_b rfl).grew gw0) ⟨b,off,none⟩ l.length k (bCells l) rfl (by simp [bCells]) ?hnw (fun u hu=>bCells_one hu) (by unfold maxLen;omega) (by omega) ?hbs ?_))
 case hnw =>
  intro j u hj;obtain ⟨x,hx,rfl⟩:∃ x,l[j]? = some x∧u=.bool x:=by
   unfold bCells at hj;rw [List.getElem?_map] at hj;cases hx:l[j]? with
   | none=>rw [hx] at hj;cases hj
   | some x=>rw [hx] at hj;exact ⟨x,rfl,(Option.some.inj hj).symm⟩
  have e:(⟨b,off,none⟩:Addr).add j=⟨b,off+j,none⟩:=by unfold Addr.add;by_cases h1:j=0 <;> simp [h1]
  rw [e];exact HC.out _ gw0 j x hx
 case hbs=>simp
 · intro v' wA hownA hgrowA _ hdrA
   have hgA:Grew w wA:=Grew.by (w':=_) gw0 hgrowA hdrA (fun jj hjj=>by simp [Value.ownBlock] at hjj;omega)
   obtain ⟨a3,k3,rfl⟩:=ownsRow_slice hownA;obtain ⟨g,rfl,hgb,hbk⟩:=ownsB_blk hownA HNE.out;have HGA:=hid hgA;have HBK:=hid hbk;clear hgrowA hdrA hgA hownA hbk;go_wp2_with fail
   exact bodyPost_ret (v:=.slice (some ⟨g,0,none⟩) l.length k3) (by simp [results,go_sem]) rfl ⟨g,k3,rfl,HGA.out,hgb,HBK.out⟩
def tqC (z:Tq):List Value:=[.slice z.t.a z.t.len z.t.cap,.int .i64 z.t.i,.int .i64 z.t.o]
def tqCells (l:List Tq):List Value:=l.flatMap tqC
theorem tqCells_one {l:List Tq} {u:Value} (hu:u∈tqCells l):u.oneCell'=true:=by
 obtain ⟨p,_,h⟩:=List.mem_flatMap.1 hu;simp only [tqC,List.mem_cons,List.not_mem_nil,or_false] at h;rcases h with rfl | rfl | rfl <;> rfl
theorem tqCells_at:∀ {l:List Tq} {i:Nat} {z:Tq},l[i]? = some z→(tqCells l)[i*3]? = some (.slice z.t.a z.t.len z.t.cap)∧(tqCells l)[i*3+1]? = some (.int .i64 z.t.i)∧(tqCells l)[i*3+2]? = some (.int .i64 z.t.o)
 | [],_,_,h=>by cases h
 | q :: r, 0, z, h => by
   obtain rfl:=Option.some.inj h;exact ⟨rfl,rfl,rfl⟩
 | q :: r, i + 1, z, h => by
   have:=tqCells_at (l:=r) (i:=i) (z:=z) h;rw [show (i+1)*3=i*3+3 by omega];exact this
def TurnO (w:World) (z:Tq):Prop:=z.t.len=z.b.length∧∃ g,z.t.a=some ⟨g,0,none⟩∧BlkB w g z.b
theorem TurnO.turn {w:World} {z:Tq} (h:TurnO w z):TurnAt w z.t.a z.t.len z.b:=by
 obtain ⟨h1,g,h2,h3⟩:=h;exact ⟨h1,.inr ⟨g,0,h2,h3.lt,h3.at⟩⟩
def OwnT (w:World) (base:Nat) (a0:Option Addr) (k0:Nat) (l:List Tq):Prop:=w.ownsRow base 48 3 (.slice a0 l.length k0) l.length (tqCells l)∧∀ z∈l,TurnO w z
theorem OwnT.nil (w:World) (base:Nat):OwnT w base none 0 []:=⟨World.ownsRow_nil w base 48 3,fun z h=>by cases h⟩
theorem TurnO.kept {w w':World} {z:Tq} (h:TurnO w z) (hk:KeepB w w'):TurnO w' z:=by
 obtain ⟨h1,g,h2,h3⟩:=h;exact ⟨h1,g,h2,h3.kept hk⟩
theorem OwnT.grew {w w':World} {base:Nat} {a0:Option Addr} {k0:Nat} {l:List Tq} (h:OwnT w base a0 k0 l) (g:Grew w w'):OwnT w' base a0 k0 l:=⟨World.ownsRow.grew h.1 g,fun z hz=>(h.2 z hz).kept (KeepB.grew g)⟩
theorem below_by {w w':World} (h:Below w.heap.size w w'):w.grownBy w' none:=⟨h.os,h.tape,h.output,h.size,fun k hk _=>h.block k hk⟩
theorem OwnT.below {w w':World} {base:Nat} {a0:Option Addr} {k0:Nat} {l:List Tq} (h:OwnT w base a0 k0 l) (g:Below w.heap.size w w'):OwnT w' base a0 k0 l:=⟨World.ownsRow.kept h.1 (below_by g) (by cases (Value.slice a0 l.length k0).ownBlock with | none=>exact .inl rfl | some k=>exact .inr (by simp)),fun z hz=>(h.2 z hz).kept (KeepB.below g)⟩
theorem OwnT.set {w:World} {base:Nat} {a0:Option Addr} {k0:Nat} {l:List Tq} (h:OwnT w base a0 k0 l) {b i:Nat} {v:Value} (hb:∀ (cs:Array Value) (fz:Nat × Nat),w.heap[b]? ≠ some (.cells cs 4 fz)) (hn:(Value.slice a0 l.length k0).ownBlock≠some b):OwnT (w.setCell ⟨b,i,none⟩ v) base a0 k0 l :=
 ⟨World.ownsRow.kept h.1 (grownBy_set w b i v) (by cases hk:(Value.slice a0 l.length k0).ownBlock with | none=>exact .inl rfl | some k=>exact .inr (fun e=>hn (by rw [hk,e]))),fun z hz=>(h.2 z hz).kept (KeepB.set hb)⟩
theorem OwnT.tqAt {w:World} {base k0:Nat} {a0:Option Addr} {l:List Tq} (h:OwnT w base a0 k0 l) (hm:∀ z∈l,z.b.length≤6):TqAt w a0 l:=fun i z hz=>by
 have hi:i<l.length:=(List.getElem?_eq_some_iff.1 hz).1;have hzm:=List.mem_of_getElem? hz;have ht:=(h.2 z hzm).turn;have h6:=hm z hzm;rcases h.1.2 with ⟨h1,h2⟩ | ⟨g,cap,cur,h1,h2,h3,h4⟩
 · omega
 · have e:=h1
   injection e with e1 e2 e3;subst e1;subst e3;obtain ⟨c0,c1,c2⟩:=tqCells_at hz;refine ⟨g,0,rfl,(Array.getElem?_eq_some_iff.1 h3).1,⟨?_, ?_, ?_⟩,by rw [ht.1];omega,ht⟩
   · rw [Nat.zero_add,World.ownsRow.cellAt h.1 (i*3) (by omega)];exact c0
   · rw [Nat.zero_add,World.ownsRow.cellAt h.1 (i*3+1) (by omega)];exact c1
   · rw [Nat.zero_add,World.ownsRow.cellAt h.1 (i*3+2) (by omega)];exact c2
theorem info_t:(prog.info? 48).map (fun i=>(i.zero,i.size,i.bytes))=some (some (.agg #[.slice none 0 0,.int .i64 0,.int .i64 0]),3,40):=by rw [p_info];kernel_rfl
theorem und_t:prog.underlying 30=some (.slice 48):=(p_underlying 30).trans Tryd.underlying30
theorem wpList_append_t {w:World} {ops:Array Oper} {rest:List Oper} {o:Oper} {a:Act} {Q:Exit→Act→World→Prop} (hgd:o.guard=none) (s x:Operand)
  (ho:o.op=.call { callee:=.builtin .append,args:=#[s,x],argTypes:=#[30,30] })
  (base:Nat) (a0:Option Addr) (k0:Nat) (xs:List Tq) (hs:a.eval s=.slice a0 xs.length k0) (hown:OwnT w base a0 k0 xs)
  (b c:Nat) (z:Tq) (hx:a.eval x=.slice (some ⟨b,0,none⟩) 1 c) (hz:w.cell? ⟨b,0,none⟩=some (.slice z.t.a z.t.len z.t.cap)∧w.cell? ⟨b,1,none⟩=some (.int .i64 z.t.i)∧w.cell? ⟨b,2,none⟩=some (.int .i64 z.t.o)) (ht:TurnO w z)
  (hmax:xs.length≤100000) (hbase:base≤w.heap.size)
  (h:∀ a2 k2 w',OwnT w' base a2 k2 (xs++[z])→w.grownBy w' (Value.slice a0 xs.length k0).ownBlock→w.drawn≤w'.drawn→wpList prog ops Q rest (a.put o.dst (.slice a2 (xs++[z]).length k2)) w') :
  wpList prog ops Q (o::rest) a w:=by
 obtain ⟨i0,hi,hz0,hz1,hz2⟩:=info_parts info_t;refine wpList_append_behind hgd s x 30 ho base 48 i0 (.agg #[.slice none 0 0,.int .i64 0,.int .i64 0]) 3 40 und_t hi hz0 hz1 hz2 rfl (by decide) _ _ (tqCells xs) hs hown.1 ⟨b,0,none⟩ 1 c (tqC z) hx rfl ?_ (fun u hu=>tqCells_one (l:=[z]) (by simpa [tqCells] using hu)) (by unfold maxLen;omega) (by omega) hbase fun v' w' hown' hgrow _ hdr=>?_
 · intro j u hj
   match j,hj with
   | 0,hj=>simp [tqC] at hj;subst hj;simpa [Addr.add] using hz.1
   | 1,hj=>simp [tqC] at hj;subst hj;simpa [Addr.add] using hz.2.1
   | 2,hj=>simp [tqC] at hj;subst hj;simpa [Addr.add] using hz.2.2
   | _+3,hj=>simp [tqC] at hj
 · obtain ⟨a2,k2,rfl⟩:=ownsRow_slice hown'
   have hk:=KeepB.row hown.1 (by decide) hgrow;rw [show xs.length+1=(xs++[z]).length by simp,show tqCells xs++tqC z=tqCells (xs++[z]) by simp [tqCells]] at hown';rw [show xs.length+1=(xs++[z]).length by simp];refine h a2 k2 w' ⟨hown',fun y hy=>?_⟩ hgrow hdr;rcases List.mem_append.1 hy with hy | hy
   · exact (hown.2 y hy).kept hk
   · obtain rfl:=List.mem_singleton.1 hy
     exact ht.kept hk
end Go.Proofs.Qm
