import Derived.Test.YtchdmecjhaanfaaGreatDoorMshVal
namespace Go.Proofs.YtchdmecjhaanfaaGreatDoor
open Go Amp Msh
def nrm (x:C4):Int:=x.a*x.a+x.b*x.b+x.c*x.c+x.d*x.d
theorem nrm_root (x:C4):nrm (root x)=2*nrm x:=by
 unfold nrm root
 grind
theorem nrm_rpow:∀ (n:Nat) (x:C4),nrm (rpow n x)=2 ^ n*nrm x
 | 0, x => by
   show nrm x=2 ^ 0*nrm x
   rw [Int.pow_zero,Int.one_mul]
 | n + 1, x => by
   show nrm (rpow n (root x))=_
   rw [nrm_rpow n,nrm_root,Int.pow_succ,Int.mul_assoc]
theorem mul_conj_a (x:C4):(mulC x (conjC x)).a=nrm x:=by
 unfold mulC conjC nrm
 grind
theorem sq_nonneg (x:Int):0≤x*x:=by
 rcases Int.le_total 0 x with h | h
 · exact Int.mul_nonneg h h
 · exact Int.mul_nonneg_of_nonpos_of_nonpos h h
theorem nrm_nonneg (x:C4):0≤nrm x:=by
 have h1:=sq_nonneg x.a;have h2:=sq_nonneg x.b;have h3:=sq_nonneg x.c;have h4:=sq_nonneg x.d;unfold nrm;omega
theorem sum_a_le {n:Nat} {f:Nat→C4} (h:∀ j,0≤(f j).a):0≤(sumC n f).a∧∀ j,j<n→(f j).a≤(sumC n f).a:=by
 induction n with
 | zero=>exact ⟨Int.le_refl 0,fun j hj=>by omega⟩
 | succ n ih =>
   obtain ⟨h1,h2⟩:=ih;have e:(sumC (n+1) f).a=(sumC n f).a+(f n).a:=rfl;have h3:=h n;refine ⟨by omega,fun j hj=>?_⟩;rcases Nat.lt_or_ge j n with h4 | h4
   · have:=h2 j h4
     omega
   · obtain rfl:j=n:=by omega
     omega
theorem one_pow:∀ K:Nat,rpow (2*K) oneC=⟨2 ^ K,0,0,0⟩
 | 0=>rfl
 | K + 1 => by
   rw [show 2*(K+1)=2*K+1+1 by omega,rpow_succ,rpow_succ,one_pow K,Int.pow_succ];refine C4.ext' ?_ ?_ ?_ ?_ <;> simp only [root] <;> omega
theorem sq_small {x:Int} (h:x*x≤1099511627776):-1048576≤x∧x≤1048576:=by
 refine ⟨Int.not_lt.1 fun hl=>?_,Int.not_lt.1 fun hl=>?_⟩
 · have h1:(1048577:Int)*1048577≤(-x)*(-x):=Int.mul_le_mul (by omega) (by omega) (by decide) (by omega)
   rw [Int.neg_mul_neg] at h1;omega
 · have h1:(1048577:Int)*1048577≤x*x:=Int.mul_le_mul (by omega) (by omega) (by decide) (by omega)
   omega
def SmC (x:C4):Prop:=(-1048576≤x.a∧x.a≤1048576)∧(-1048576≤x.b∧x.b≤1048576)∧(-1048576≤x.c∧x.c≤1048576)∧(-1048576≤x.d∧x.d≤1048576)
theorem smC_of {x:C4} (h:nrm x≤1099511627776):SmC x:=by
 have h1:=sq_nonneg x.a;have h2:=sq_nonneg x.b;have h3:=sq_nonneg x.c;have h4:=sq_nonneg x.d;unfold nrm at h;exact ⟨sq_small (by omega),sq_small (by omega),sq_small (by omega),sq_small (by omega)⟩
def scl (K:Nat) (z:Num):C4:=rpow (K - z.k.toNat) z.x
theorem uni_nrm {n:Nat} {l:List Num} (hu:Uni n l) {i j:Nat} (hi:i<n) (hj:j<n):nrm (MV l n i j)≤1099511627776:=by
 have h:=hu.1 i i hi hi;have h1:=(sum_a_le (n:=n) (f:=fun j=>mulC (MV l n i j) (conjC (MV l n i j))) fun j=>by rw [mul_conj_a];exact nrm_nonneg _).2 j hj;rw [h,mul_conj_a] at h1;have e:(dl i i).a=1099511627776:=by
  unfold dl;rw [if_pos rfl,show (80:Nat)=2*40 from rfl,one_pow];rfl
 rwa [e] at h1
theorem uni_small {n:Nat} {l:List Num} (hu:Uni n l) {i j:Nat} (hi:i<n) (hj:j<n) {m:Nat} (hm:m+(l.getD (i*n+j) noneZ).k.toNat≤40):SmC (rpow m (l.getD (i*n+j) noneZ).x):=by
 apply smC_of;have h:=uni_nrm hu hi hj;unfold MV val at h;have e:rpow (40 - (l.getD (i*n+j) noneZ).k.toNat) (l.getD (i*n+j) noneZ).x=rpow (40 - (l.getD (i*n+j) noneZ).k.toNat - m) (rpow m (l.getD (i*n+j) noneZ).x):=by
  rw [rpow_rpow]
  congr 1
  omega
 rw [e,nrm_rpow] at h;have h1:(1:Int)≤2 ^ (40 - (l.getD (i*n+j) noneZ).k.toNat - m):=Int.pow_pos (by decide);have h2:=Int.mul_le_mul_of_nonneg_right h1 (nrm_nonneg (rpow m (l.getD (i*n+j) noneZ).x));rw [Int.one_mul] at h2;exact Int.le_trans h2 h
theorem val_scl {K:Nat} (hK:K≤40) {z:Num} (hz:z.k.toNat≤K):val z=rpow (40 - K) (scl K z):=by
 unfold val scl;rw [rpow_rpow]
 congr 1
 omega
theorem rows_scl {n:Nat} {l:List Num} (hu:Uni n l) {K:Nat} (hK:K≤40) (hk:∀ q,(l.getD q noneZ).k.toNat≤K) {i k:Nat} (hi:i<n) (hj:k<n) :
  sumC n (fun j=>mulC (scl K (l.getD (i*n+j) noneZ)) (conjC (scl K (l.getD (k*n+j) noneZ))))=if i=k then ⟨2 ^ K,0,0,0⟩ else zero:=by
 apply rpow_inj (40 - K+(40 - K));have h:=hu.1 i k hi hj;have e:sumC n (fun j=>mulC (MV l n i j) (conjC (MV l n k j)))=sumC n (fun j=>rpow (40 - K+(40 - K)) (mulC (scl K (l.getD (i*n+j) noneZ)) (conjC (scl K (l.getD (k*n+j) noneZ))))) :=
  sum_congr fun j _=>by
   unfold MV;rw [val_scl hK (hk _),val_scl hK (hk _),conj_rpow,mul_rpow,mul_rpow',rpow_rpow]
 rw [e,← sum_rpow] at h;rw [h];unfold dl;split
 · rw [← one_pow,rpow_rpow]
   congr 1
   omega
 · rw [rpow_zero]
end Go.Proofs.YtchdmecjhaanfaaGreatDoor
