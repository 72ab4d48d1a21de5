import Derived.Test.YtchdmecjhaanfaaGreatDoorBits
import Derived.Test.YtchdmecjhaanfaaGreatDoorAmpA
import Derived.Test.YtchdmecjhaanfaaGreatDoorMshPlain
namespace Go.Proofs.YtchdmecjhaanfaaGreatDoor
open Go Go.RowKit Amp
theorem natAbs_of_nonneg {n:Int} (h:0≤n):(n.natAbs:Int)=n:=by omega
set_option maxHeartbeats 800000 in
theorem size_any (n:Int) (w:World) (h1:-9223372036854775807≤n) (h2:n≤9223372036854775807) :
  Calls Tryz.prog 150 #[.int .i64 n] w fun e w'=>e=.returned (.int .u64 (n.natAbs:Int))∧w=w':=by
 by_cases hn:n<0
 · have hc:IntKind.u64.wrap n=n+18446744073709551616:=by rw [IntKind.wrap_u64];omega
   have hd:IntKind.u64.wrap (-(n+18446744073709551616))=(n.natAbs:Int):=by rw [IntKind.wrap_u64];omega
   have Hc:=hid hc;have Hd:=hid hd;clear hc hd;go_enter Tryz.func150,Tryz.ntmps150
   go_wp2_with fail
   go_ret;exact ⟨ret_int (by rw [Hc.out,Hd.out]),rfl⟩
 · go_enter Tryz.func150,Tryz.ntmps150
   go_wp2_with fail
   go_ret;exact ⟨ret_int (natAbs_of_nonneg (by omega)).symm,rfl⟩
def GtB (h l h' l':Nat):Prop:=h'<h∨(h=h'∧l'<l)
instance (h l h' l':Nat):Decidable (GtB h l h' l'):=by unfold GtB;infer_instance
def WW:Nat:=18446744073709551616
def Two (h l m:Nat):Prop:=h*WW+l=m∧l<WW
theorem two_mk (m:Nat):Two (m / 18446744073709551616) (m % 18446744073709551616) m:=by unfold Two WW;omega
theorem two_lt {h l m h' l' m':Nat} (a:Two h l m) (b:Two h' l' m'):(m'<m↔h'<h∨(h=h'∧l'<l)):=by
 obtain ⟨a1,a2⟩:=a;obtain ⟨b1,b2⟩:=b;unfold WW at *
 omega
theorem two_dbl {h l m:Nat} (a:Two h l m) (hm:2*m<340282366920938463463374607431768211456):Two ((h+h+(l+l+0) / 18446744073709551616) % 18446744073709551616) ((l+l+0) % 18446744073709551616) (2*m):=by
 obtain ⟨a1,a2⟩:=a;unfold Two WW at *
 omega
set_option maxHeartbeats 800000 in
theorem square_any (n:Int) (w:World) (h1:-9223372036854775807≤n) (h2:n≤9223372036854775807) :
  Calls Tryz.prog 130 #[.int .i64 n] w fun e w'=>∃ h l:Nat,e=.returned (.tuple #[.int .u64 h,.int .u64 l])∧Hid (Two h l (n.natAbs*n.natAbs))∧w=w':=by
 have hb:n.natAbs<18446744073709551616:=by omega
 have hm:=fun w=>Tryz.bits_Mul64 _ _ hb hb w
 have ht:=two_mk (n.natAbs*n.natAbs);generalize n.natAbs*n.natAbs / 18446744073709551616=p at *
 generalize n.natAbs*n.natAbs % 18446744073709551616=q at *
 have Hm:=hid hm;have Ht:=hid ht;clear hm ht;go_enter Tryz.func130,Tryz.ntmps130
 go_wp2_with fail
 refine (size_any n _ h1 h2).mono ?_;rintro e w' ⟨rfl,rfl⟩;go_wp2_with fail
 refine (size_any n _ h1 h2).mono ?_;rintro e w' ⟨rfl,rfl⟩;go_wp2_with fail
 refine (Hm.out _).mono ?_;rintro e w' ⟨rfl,hw⟩;rw [hw];go_wp2_with fail
 go_ret2
 exact ⟨p,q,rfl,Ht,rfl⟩
set_option maxHeartbeats 800000 in
theorem sign_any (a b:Int) (w:World) (a1:-4611686018427387904≤a) (a2:a≤4611686018427387904) (b1:-4611686018427387904≤b) (b2:b≤4611686018427387904) :
  Calls Tryz.prog 96 #[.int .i64 a,.int .i64 b] w fun e w'=>e=.returned (.int .i64 (sgn a b))∧w=w':=by
 by_cases h0:a=0∧b=0
 · obtain ⟨rfl,rfl⟩:=h0
   rw [sgn_zero];go_enter Tryz.func96,Tryz.ntmps96
   go_wp2_with fail
   go_ret;exact ⟨rfl,rfl⟩
 by_cases hp:0≤a∧0≤b
 · have hs:sgn a b=1:=by rw [sgn_nonneg hp.1 hp.2];omega
   rw [hs];clear hs;have hab:¬ (a=0)∨(a=0∧¬ (b=0)):=by omega
   obtain ⟨_,_⟩:=hp;clear h0;go_enter Tryz.func96,Tryz.ntmps96
   rcases hab with h | ⟨h,h'⟩
   · have e1:(a==0)=false:=by simpa using h
     clear h;go_wp2_with fail
     go_ret;exact ⟨rfl,rfl⟩
   · have e1:(b==0)=false:=by simpa using h'
     subst h;clear h';go_wp2_with fail
     go_ret;exact ⟨rfl,rfl⟩
 by_cases hn:a≤0∧b≤0
 · have hs:sgn a b=-1:=by rw [sgn_nonpos hn.1 hn.2];omega
   rw [hs];clear hs;obtain ⟨_,_⟩:=hn;have hab:a<0∨(a=0∧b<0):=by omega
   clear h0 hp;go_enter Tryz.func96,Tryz.ntmps96
   rcases hab with h | ⟨h,h'⟩
   · have e1:(a==0)=false:=by simp;omega
     go_wp2_with fail
     go_ret;exact ⟨rfl,rfl⟩
   · have e1:(b==0)=false:=by simp;omega
     subst h;go_wp2_with fail
     go_ret;exact ⟨rfl,rfl⟩
 have hmx:a<0∧0<b∨0<a∧b<0:=by omega
 have Hs:=hid (sgn_mixed hmx);have hA:Hid (((a.natAbs*a.natAbs:Nat):Int)=a*a):=(sq_nat a).symm;have hB:Hid (((b.natAbs*b.natAbs:Nat):Int)=b*b):=(sq_nat b).symm;have hbb:Hid (2*(b.natAbs*b.natAbs)<340282366920938463463374607431768211456):=by
  show 2*(b.natAbs*b.natAbs)<_
  have:b.natAbs*b.natAbs≤4611686018427387904*4611686018427387904:=Nat.mul_le_mul (by omega) (by omega);omega
 clear h0 hp hn;go_enter Tryz.func96,Tryz.ntmps96
 rcases hmx with ⟨_,_⟩ | ⟨_,_⟩
 case' inl=>have e3:decide (0<a)=false:=decide_eq_false (by omega)
 case' inr=>have e3:decide (0<a)=true:=decide_eq_true (by omega)
 all_goals
  have e1:(a==0)=false:=by simp;omega
  have e2:(b==0)=false:=by simp;omega
  go_wp2_with fail
  refine (square_any a _ (by omega) (by omega)).mono ?_;rintro e w' ⟨h1,l1,rfl,t1,rfl⟩;go_wp2_with fail
  refine (square_any b _ (by omega) (by omega)).mono ?_;rintro e w' ⟨h2,l2,rfl,t2,rfl⟩;have td:=two_dbl t2.out hbb.out;have ad1:=add64 l2 l2 0 (by omega);have hc1:(l2+l2+0) / 18446744073709551616≤1:=by have:=t2.out.2;unfold WW at this;omega
  have ad2:=add64 h2 h2 ((l2+l2+0) / 18446744073709551616) hc1;generalize (h2+h2+(l2+l2+0) / 18446744073709551616) % 18446744073709551616=h3 at *
  generalize (h2+h2+(l2+l2+0) / 18446744073709551616) / 18446744073709551616=c3 at *
  generalize (l2+l2+0) / 18446744073709551616=c2 at *
  generalize (l2+l2+0) % 18446744073709551616=l3 at *
  rw [show ((0:Nat):Int)=0 from rfl] at ad1;have Hs2:Hid (sgn a b=if decide (GtB h1 l1 h3 l3)=decide (0<a) then 1 else -1):=by
   refine Eq.trans Hs.out ?_;have key:=two_lt t1.out td;have eA:=hA.out;have eB:=hB.out;rw [show decide (2*(b*b)<a*a)=decide (GtB h1 l1 h3 l3) from decide_eq_decide.2 (by unfold GtB;rw [← key];omega)]
  clear td hc1 t1 t2 Hs hA hB hbb;rcases Nat.lt_trichotomy h1 h3 with h | rfl | h
  case' inr.inl=>rcases Nat.lt_or_ge l3 l1 with h | h
  case' inl=>have e4:decide (h3<h1)=false:=decide_eq_false (by omega)
  case' inr.inl.inr=>have e4:decide (l3<l1)=false:=decide_eq_false (by omega)
  all_goals
   go_wp2;go_ret;refine ⟨ret_int ?_,rfl⟩;refine Eq.trans ?_ Hs2.out.symm;rw [e3];first
    | (have hh : GtB h1 l1 h3 l3 := by unfold GtB; omega
       rw [decide_eq_true hh];rfl)
    | (have hh : ¬ GtB h1 l1 h3 l3 := by unfold GtB; omega
       rw [decide_eq_false hh];rfl)
    | (have hh : GtB h1 l1 h1 l3 := by unfold GtB; omega
       rw [decide_eq_true hh];rfl)
    | (have hh : ¬ GtB h1 l1 h1 l3 := by unfold GtB; omega
       rw [decide_eq_false hh];rfl)
end Go.Proofs.YtchdmecjhaanfaaGreatDoor
