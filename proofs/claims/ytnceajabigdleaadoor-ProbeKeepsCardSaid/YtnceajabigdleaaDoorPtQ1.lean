/- Layer 9, in main's ghost: how many switches, known, between. No condition. -/
import Derived.Test.YtnceajabigdleaaDoorPtS18
import Derived.Test.YtnceajabigdleaaDoorPtS19
import Derived.Test.YtnceajabigdleaaDoorPtH2
import Derived.Test.YtnceajabigdleaaDoorPtH3
import Derived.Test.YtnceajabigdleaaDoorPtH5
import Derived.Laws.Bits64
namespace Go.Proofs.Qm
open Go Go.Pt Go.RowKit
def cntZ (n:Int):Nat:=if n=2 then 1 else if n=4 then 6 else 0
theorem cntZ_no {n:Int} (h2:n≠2) (h4:n≠4):cntZ n=0:=by simp [cntZ,h2,h4]
def stB (n s:Int):Bool:=(decide (n=2)&&(decide (0≤s)&&decide (s≤1)))||(decide (n=4)&&(decide (0≤s)&&decide (s≤63)))
theorem pcount_any (n:Int) (w:World):Calls prog 31 #[.int .i64 n] w fun e w'=>e=.returned (.int .i64 (cntZ n))∧w'=w:=by
 by_cases h2:n=2
 · subst h2;exact pcount2 w
 by_cases h4:n=4
 · subst h4;exact pcount4 w
 have e:cntZ n=0:=cntZ_no h2 h4;rw [e];have e2:(n != 2)=true:=by simpa using h2
 have e4:(n != 4)=true:=by simpa using h4
 clear e;go_enter func31,ntmps31
 go_wp2_with fail
 exact bodyPost_ret (v:=.int .i64 0) (by simp [results,go_sem]) rfl ⟨rfl,rfl⟩
theorem btw_any (a n b:Int) (w:World) :
  Calls prog 32 #[.int .i64 a,.int .i64 n,.int .i64 b] w fun e w'=>e=.returned (.bool (decide (a≤n)&&decide (n≤b)))∧w'=w:=by
 by_cases h1:a≤n
 · by_cases h2:n≤b
   · go_enter func32,ntmps32
     go_wp2_with fail
     exact bodyPost_ret (v:=.bool true) (by simp [results,go_sem]) rfl ⟨by simp [h1,h2],rfl⟩
   · have h3:b<n:=by omega
     have e2:decide (n≤b)=false:=decide_eq_false h2;clear h2;go_enter func32,ntmps32
     go_wp2_with fail
     exact bodyPost_ret (v:=.bool false) (by simp [results,go_sem]) rfl ⟨by simp [h1,e2],rfl⟩
 · have h3:n<a:=by omega
   have e1:decide (a≤n)=false:=decide_eq_false h1;clear h1;go_enter func32,ntmps32
   go_wp2_with fail
   exact bodyPost_ret (v:=.bool false) (by simp [results,go_sem]) rfl ⟨by simp [e1],rfl⟩
theorem known_any (n s:Int) (w:World) :
  Calls prog 56 #[.int .i64 n,.int .i64 s] w fun e w'=>e=.returned (.bool (stB n s))∧w'=w:=by
 by_cases h2:n=2
 · subst h2
   go_enter func56,ntmps56
   go_wp2_with fail
   refine (pcount2 _).mono ?_;rintro e w' ⟨rfl,rfl⟩;go_wp2_with fail
   refine (pcount2 _).mono ?_;rintro e w'' ⟨rfl,rfl⟩;go_wp2_with fail
   refine (btw_any _ _ _ _).mono ?_;rintro e w' ⟨rfl,rfl⟩;go_wp2_with fail
   exact bodyPost_ret (v:=.bool (decide (0≤s)&&decide (s≤1))) (by simp [results,go_sem]) rfl ⟨by simp [stB],rfl⟩
 by_cases h4:n=4
 · subst h4
   go_enter func56,ntmps56
   go_wp2_with fail
   refine (pcount4 _).mono ?_;rintro e w' ⟨rfl,rfl⟩;go_wp2_with fail
   refine (pcount4 _).mono ?_;rintro e w'' ⟨rfl,rfl⟩;go_wp2_with fail
   refine (btw_any _ _ _ _).mono ?_;rintro e w' ⟨rfl,rfl⟩;go_wp2_with fail
   exact bodyPost_ret (v:=.bool (decide (0≤s)&&decide (s≤63))) (by simp [results,go_sem]) rfl ⟨by simp [stB],rfl⟩
 have HC:=pcount_any n w;rw [cntZ_no h2 h4] at HC;go_enter func56,ntmps56
 go_wp2_with fail
 refine HC.mono ?_;rintro e w' ⟨rfl,rfl⟩;go_wp2_with fail
 exact bodyPost_ret (v:=.bool false) (by simp [results,go_sem]) rfl ⟨by simp [stB,h2,h4],rfl⟩
open Go Go.Pt Go.RowKit
def BlsAt (w:World) (b off:Nat) (l:List Bool):Prop:=∀ i x,l[i]? = some x→w.cell? ⟨b,off+i,none⟩=some (.bool x)
def setG:Nat→List Bool→Nat
 | _,[]=>0
 | i,b::r=>(if b then 2 ^ i else 0)+setG (i+1) r
def setN (l:List Bool):Nat:=setG 0 l
theorem setG_snoc (b:Bool):∀ (l:List Bool) (i:Nat),setG i (l++[b])=setG i l+if b then 2 ^ (i+l.length) else 0
 | [],i=>by simp [setG]
 | a::r,i=>by simp only [List.cons_append,setG,setG_snoc b r (i+1),List.length_cons];rw [show i+1+r.length=i+(r.length+1) by omega];omega
theorem setN_take {l:List Bool} {i:Nat} {b:Bool} (h:l[i]? = some b):setN (l.take (i+1))=setN (l.take i)+if b then 2 ^ i else 0:=by
 have hi:i<l.length:=(List.getElem?_eq_some_iff.1 h).1;rw [List.take_add_one,h];show setG 0 (l.take i++[b])=_
 rw [setG_snoc];simp [setN,Nat.min_eq_left (Nat.le_of_lt hi)]
theorem setG_lt:∀ (l:List Bool) (i:Nat),setG i l+2 ^ i≤2 ^ (i+l.length)
 | [],i=>by simp [setG]
 | b :: r, i => by
   have h:=setG_lt r (i+1);have h2:(2:Nat) ^ (i+1)=2 ^ i+2 ^ i:=by rw [Nat.pow_succ];omega
   have h3:=Nat.two_pow_pos i;simp only [setG,List.length_cons];rw [show i+(r.length+1)=i+1+r.length by omega];split <;> omega
theorem setN_lt (l:List Bool):setN l<2 ^ l.length:=by
 have:=setG_lt l 0;simp only [Nat.zero_add,Nat.pow_zero] at this;exact this
theorem or_step:∀ (i:Nat),i<6→∀ (s:Nat),s<2 ^ i→bits .or .u64 (s:Int) ((2 ^ i:Nat):Int)=((s+2 ^ i:Nat):Int):=by decide +kernel
theorem wrap_pow:∀ (i:Nat),i<6→IntKind.u64.wrap ((2:Int) ^ i)=((2 ^ i:Nat):Int):=by decide +kernel
theorem or_take {l:List Bool} {i:Nat} (hi:i<6) (hl:i<l.length):bits .or .u64 (setN (l.take i):Int) ((2 ^ i:Nat):Int)=((setN (l.take i)+2 ^ i:Nat):Int):=by
 have:=setN_lt (l.take i);rw [List.length_take,Nat.min_eq_left (Nat.le_of_lt hl)] at this;exact or_step i hi _ this
set_option maxHeartbeats 800000 in
theorem settings_any (b off cap:Nat) (l:List Bool) (w:World) (hb:b<w.heap.size) (hl:l.length≤6) (hc:BlsAt w b off l) :
  Calls prog 76 #[.slice (some ⟨b,off,none⟩) l.length cap] w fun e w'=>e=.returned (.int .u64 (setN l))∧w'=w:=by
 have HC:=hid hc;clear hc;go_enter func76,ntmps76
 go_wp2_with fail
 go_loopw [3,8] (fun s n wr=>∃ i:Nat,i≤l.length∧n=.int .i64 i∧s=.int .u64 (setN (l.take i):Nat)∧wr=w) (fun _ n _=>l.length - (intOf n).toNat)
 case atStart=>exact ⟨0,Nat.zero_le _,rfl,by simp [setN,setG],rfl⟩
 case round =>
  obtain ⟨i,hi,rfl,rfl,rfl⟩:=hrel;by_cases hlt:i<l.length
  · obtain ⟨x,hx⟩:∃ x,l[i]? = some x:=⟨l[i],List.getElem?_eq_getElem hlt⟩
    have c0:=HC.out i x hx;have HT:=hid (setN_take hx);have HO:=hid (or_take (l:=l) (show i<6 by omega) hlt);clear hx;obtain ⟨S,hS⟩:∃ S,setN (l.take i)=S:=⟨_,rfl⟩;rw [hS] at HT HO ⊢;clear hS;cases x
    · go_wp2_with fail
      go_roundw
      case rel=>exact ⟨i+1,by omega,by go_num,by rw [HT.out];simp,by first | rfl | trivial⟩
      case measure=>simp [intOf];omega
    · go_wp2_with fail
      go_roundw
      case rel=>exact ⟨i+1,by omega,by go_num,by rw [HT.out];simp;rw [wrap_pow i (by omega),HO.out];push_cast;rfl,by first | rfl | trivial⟩
      case measure=>simp [intOf];omega
  · obtain rfl:i=l.length:=by omega
    rw [List.take_length];go_wp2_with fail
    exact bodyPost_ret (v:=.int .u64 (setN l:Nat)) (by simp [results,go_sem]) rfl ⟨rfl,rfl⟩
structure Tab (w:World) (n N C:Nat):Prop where
 lt:C<w.heap.size
 row:∀ k,k<N→∃ g cap,g<w.heap.size∧w.cell? ⟨C,k,none⟩=some (.slice (some ⟨g,0,none⟩) n cap)∧∀ j z,j<n→(LT n k)[j]? = some z→w.cell? ⟨g,j,none⟩=some (.int .i64 z)
theorem Tab.of {n N:Nat} {w0 w:World} (h:TInv n (LT n) w0 w N N) (_:∀ k,(LT n k).length=n):Tab w n N w0.heap.size:=by
 have hsz:=h.size;obtain ⟨rows,h1,h2,h3⟩:=h.tab;refine ⟨by omega,fun k hk=>⟨w0.heap.size+2+2*k,_,by omega,by simp [World.cell?,h1];exact h3 k hk,fun j z hj hz=>?_⟩⟩;have hr:=h.row k hk;have hlt:j<(LT n k).length:=(List.getElem?_eq_some_iff.1 hz).1;simp only [World.cell?,hr,Option.isSome_none,Bool.false_eq_true,if_false];simp [zFull,zCells,List.getElem?_append,hlt];exact (List.getElem?_eq_some_iff.1 hz).2
theorem LT_len2 (k:Nat):(LT 2 k).length=2:=by simp [LT,Ghw.thr]
theorem LT_len4 (k:Nat):(LT 4 k).length=4:=by simp [LT,Ghw.thr]
set_option maxHeartbeats 800000 in
theorem answer_any {n N C:Nat} (s i:Nat) (b off cap:Nat) (l:List Bool) (z:Int) (w:World) (hb:b<w.heap.size) (hl:l.length≤6) (hc:BlsAt w b off l) (hT:Tab w n N C) (hN:N=2 ^ l.length) (hs:s<N) (hi:i<n) (_:n≤4)
  (hz:(LT n (s ^^^ setN l))[i]? = some z) :
  Calls prog 52 #[.slice (some ⟨C,0,none⟩) N N,.int .i64 s,.slice (some ⟨b,off,none⟩) l.length cap,.int .i64 i] w fun e w'=>e=.returned (.int .i64 z)∧w'=w:=by
 have hN64:N≤64:=by rw [hN];exact Nat.pow_le_pow_right (by decide) hl
 have hk:s ^^^ setN l<N:=by rw [hN] at hs ⊢;exact Nat.xor_lt_two_pow hs (setN_lt l)
 have hx:bits .xor .u64 (s:Int) (setN l:Int)=((s ^^^ setN l:Nat):Int):=bits_xor_u64_nat s (setN l) (by omega) (by have:=setN_lt l;rw [← hN] at this;omega);obtain ⟨g,cp,hg,t1,t2⟩:=hT.row _ hk;have t3:=t2 i z hi hz;have HS:=hid (settings_any b off cap l w hb hl hc);obtain ⟨k,hkk⟩:∃ k,s ^^^ setN l=k:=⟨_,rfl⟩;rw [hkk] at hk hx t1;have hTl:=hT.lt;clear hT hc hz t2 hN hkk hl;obtain ⟨L,hL⟩:∃ L,l.length=L:=⟨_,rfl⟩;obtain ⟨T,hTT⟩:∃ T:Nat,setN l=T:=⟨_,rfl⟩;rw [hTT] at hx HS;rw [hL] at HS ⊢;clear hL hTT;go_enter func52,ntmps52
 go_wp2_with fail
 refine HS.out.mono ?_;rintro e w' ⟨rfl,rfl⟩;go_wp2_with fail
 exact bodyPost_ret (v:=.int .i64 z) (by simp [results,go_sem]) rfl ⟨rfl,rfl⟩
open Go Go.Pt Go.RowKit
def swZ (n:Int):Nat:=if n=2 then 1 else 6
theorem rknown_any (n:Int) (w:World):Calls prog 36 #[.int .i64 n] w fun e w'=>e=.returned (.bool (decide (n=2)||decide (n=4)))∧w'=w:=by
 by_cases h2:n=2
 · subst h2
   go_enter func36,ntmps36
   go_wp2_with fail
   exact bodyPost_ret (v:=.bool true) (by simp [results,go_sem]) rfl ⟨by simp,rfl⟩
 · have e:decide (n=2)=false:=decide_eq_false h2
   go_enter func36,ntmps36
   go_wp2_with fail
   have e4:(n==2||n==4)=decide (n=4):=by rw [Bool.eq_iff_iff];simp [h2]
   exact bodyPost_ret (v:=.bool (decide (n=4))) (by simp [results,go_sem,e4]) rfl ⟨by congr 2;rw [Bool.eq_iff_iff];simp [h2],rfl⟩
theorem rsw_any (n:Int) (w:World):Calls prog 68 #[.int .i64 n] w fun e w'=>e=.returned (.int .i64 (swZ n))∧w'=w:=by
 by_cases h2:n=2
 · subst h2
   go_enter func68,ntmps68
   go_wp2_with fail
   exact bodyPost_ret (v:=.int .i64 1) (by simp [results,go_sem]) rfl ⟨rfl,rfl⟩
 · have e:swZ n=6:=by simp [swZ,h2]
   rw [e];go_enter func68,ntmps68
   go_wp2_with fail
   exact bodyPost_ret (v:=.int .i64 6) (by simp [results,go_sem]) rfl ⟨rfl,rfl⟩
theorem rstate_any (n s:Int) (w:World) (hn:n=2∨n=4):Calls prog 59 #[.int .i64 n,.int .i64 s] w fun e w'=>e=.returned (.bool (stB n s))∧w'=w:=by
 have HS:=fun w=>rsw_any n w
 rcases hn with rfl | rfl
 · rw [show swZ 2=1 from rfl] at HS
   have e:stB 2 s=(decide (0≤s)&&decide (s<2)):=by
    rw [Bool.eq_iff_iff];simp [stB];omega
   rw [e];by_cases h0:0≤s
   · go_enter func59,ntmps59
     go_wp2_with fail
     refine (HS _).mono ?_;rintro e w' ⟨rfl,rfl⟩;go_wp2_with fail
     exact bodyPost_ret (v:=.bool (decide (s<2))) (by simp [results,go_sem]) rfl ⟨by simp [h0],rfl⟩
   · have h1:decide (0≤s)=false:=decide_eq_false h0
     go_enter func59,ntmps59
     go_wp2_with fail
     exact bodyPost_ret (v:=.bool false) (by simp [results,go_sem]) rfl ⟨by simp,rfl⟩
 · rw [show swZ 4=6 from rfl] at HS
   have e:stB 4 s=(decide (0≤s)&&decide (s<64)):=by
    rw [Bool.eq_iff_iff];simp [stB];omega
   rw [e];by_cases h0:0≤s
   · go_enter func59,ntmps59
     go_wp2_with fail
     refine (HS _).mono ?_;rintro e w' ⟨rfl,rfl⟩;go_wp2_with fail
     exact bodyPost_ret (v:=.bool (decide (s<64))) (by simp [results,go_sem]) rfl ⟨by simp [h0],rfl⟩
   · have h1:decide (0≤s)=false:=decide_eq_false h0
     go_enter func59,ntmps59
     go_wp2_with fail
     exact bodyPost_ret (v:=.bool false) (by simp [results,go_sem]) rfl ⟨by simp,rfl⟩
def fitB (n:Int) (len:Nat) (i:Int):Bool:=decide (len=cntZ n)&&(decide (0≤i)&&decide (i≤n - 1))
theorem rfits_any (n:Int) (a:Option Addr) (len cap:Nat) (i:Int) (w:World) (hn:n=2∨n=4) (_:len≤9223372036854775807) :
  Calls prog 38 #[.int .i64 n,.slice a len cap,.int .i64 i] w fun e w'=>e=.returned (.bool (fitB n len i))∧w'=w:=by
 have hsw:swZ n=cntZ n:=by rcases hn with rfl | rfl <;> rfl
 have HS:=hid fun w=>rsw_any n w
 rw [hsw] at HS;have Hn:=hid hn;clear hsw hn;obtain ⟨c,hc⟩:∃ c,cntZ n=c:=⟨_,rfl⟩;unfold fitB;rw [hc] at HS ⊢;have Hc:=hid hc;clear hc;by_cases h1:len=c
 · subst h1
   by_cases h2:0≤i
   · by_cases h3:i<n
     · go_enter func38,ntmps38
       go_wp2_with fail
       refine (HS.out _).mono ?_;rintro e w' ⟨rfl,rfl⟩;go_wp2_with fail
       exact bodyPost_ret (v:=.bool true) (by simp [results,go_sem]) rfl ⟨by simp [h2,show i≤n - 1 by omega],rfl⟩
     · have e3:decide (i<n)=false:=decide_eq_false h3
       have e4:decide (i≤n - 1)=false:=decide_eq_false (by omega);have e5:n≤i:=by omega
       clear h3;go_enter func38,ntmps38
       go_wp2_with fail
       refine (HS.out _).mono ?_;rintro e w' ⟨rfl,rfl⟩;go_wp2_with fail
       exact bodyPost_ret (v:=.bool false) (by simp [results,go_sem]) rfl ⟨by simp [e4],rfl⟩
   · have e2:decide (0≤i)=false:=decide_eq_false h2
     have e5:i<0:=by omega
     clear h2;go_enter func38,ntmps38
     go_wp2_with fail
     refine (HS.out _).mono ?_;rintro e w' ⟨rfl,rfl⟩;go_wp2_with fail
     exact bodyPost_ret (v:=.bool false) (by simp [results,go_sem]) rfl ⟨by simp [e2],rfl⟩
 · have e1:decide (len=c)=false:=decide_eq_false h1
   have e1':((len:Int)==(c:Int))=false:=by rw [beq_eq_false_iff_ne];omega
   clear h1;go_enter func38,ntmps38
   go_wp2_with fail
   refine (HS.out _).mono ?_;rintro e w' ⟨rfl,rfl⟩;go_wp2_with fail
   exact bodyPost_ret (v:=.bool false) (by simp [results,go_sem]) rfl ⟨by simp [e1],rfl⟩
def pasN (b:Bool) (i:Nat):Nat:=if b then 1 - i else i
theorem pasN_lt {b:Bool} {i:Nat} (h:i<2):pasN b i<2:=by unfold pasN;split <;> omega
theorem rpassed_any (b:Bool) (i:Nat) (hi:i<2) (w:World):Calls prog 101 #[.bool b,.int .i64 i] w fun e w'=>e=.returned (.int .i64 (pasN b i:Nat))∧Grew w w':=by
 cases b
 · go_enter func101,ntmps101
   go_wp2_with fail
   exact bodyPost_ret (v:=.int .i64 i) (by simp [results,go_sem]) rfl ⟨rfl,Grew.refl _⟩
 · go_enter func101,ntmps101
   go_wp2_with fail
   exact bodyPost_ret (v:=.int .i64 (1 - (i:Int))) (by simp [results,go_sem]) rfl ⟨by rw [show ((pasN true i:Nat):Int)=1 - (i:Int) by simp [pasN];omega],Grew.refl _⟩
def thB (s:Nat) (l:List Bool) (k:Nat):Bool:=(l.getD k false) != s.testBit k
set_option maxHeartbeats 800000 in
theorem rthrough_any (s k i b off cap:Nat) (l:List Bool) (w:World) (_:s<64) (hk:k<l.length) (hl:l.length≤6) (hi:i<2) (hb:b<w.heap.size) (hc:BlsAt w b off l) :
  Calls prog 78 #[.int .i64 s,.slice (some ⟨b,off,none⟩) l.length cap,.int .i64 k,.int .i64 i] w fun e w'=>e=.returned (.int .i64 (pasN (thB s l k) i:Nat))∧Grew w w':=by
 obtain ⟨x,hx⟩:∃ x,l[k]? = some x:=⟨l[k],List.getElem?_eq_getElem hk⟩;have c0:=hc k x hx;have e:thB s l k=(x != ((s:Int) / 2 ^ k % 2==1)):=by
  have:s.testBit k=((s:Int) / 2 ^ k % 2==1):=by
   have hz:(s:Int) / 2 ^ k % 2=((s / 2 ^ k % 2:Nat):Int):=by push_cast;rfl
   rw [hz,Nat.testBit_eq_decide_div_mod_eq,Bool.eq_iff_iff];simp only [decide_eq_true_eq,beq_iff_eq];omega
  unfold thB;rw [this];simp [List.getD,hx]
 rw [e];have HP:=hid fun z=>rpassed_any (x != ((s:Int) / 2 ^ k % 2==1)) i hi z
 clear hc hx e;obtain ⟨L,hL⟩:∃ L,l.length=L:=⟨_,rfl⟩;rw [hL] at hk hl ⊢;clear hL;go_enter func78,ntmps78
 go_wp2_with fail
 refine wp_region_gentle_lit (by kernel_rfl) (by kernel_rfl) ?_;repeat (first | go_big_quiet_skip | (go_big_quiet_want;go_big_quiet_op;first | go_big_quiet_on | (apply Exists.intro;refine ⟨fun qq=>?_, ?_⟩;(focus ((first | (go_at_call 101;refine Calls.gentle_of (HP.out _) ?_));rintro _ ⟨g',n',rfl⟩;(first | exact gentle_fin_c _ _ _ _ _ | exact gentle_fin _ _ _ _ | exact gentle_fin_gc _ _ _ _ _ _ | exact gentle_fin_g _ _ _ _ _)));go_big_quiet_on)))
 refine wpQuiet_nil ?_;rintro _ ⟨gg,ng,rfl⟩;go_wp2_with fail
 exact bodyPost_ret (v:=.int .i64 (pasN (x != ((s:Int) / 2 ^ k % 2==1)) i:Nat)) (by simp [results,go_sem]) rfl ⟨rfl,gw0⟩
open Go Go.Pt Go.RowKit
theorem setG_two:∀ (l:List Bool) (i:Nat),setG (i+1) l=2*setG i l
 | [],_=>rfl
 | b::r,i=>by simp only [setG,setG_two r (i+1)];split <;> (simp [Nat.pow_succ];try omega)
theorem setN_bit:∀ (l:List Bool) (j:Nat),(setN l).testBit j=l.getD j false
 | [],j=>by simp [setN,setG]
 | b :: r, 0 => by
   have:setN (b::r)=(if b then 1 else 0)+2*setN r:=by simp only [setN,setG,setG_two]
   rw [this,Nat.testBit_zero];cases b <;> simp
 | b :: r, j + 1 => by
   have:setN (b::r)=(if b then 1 else 0)+2*setN r:=by simp only [setN,setG,setG_two]
   rw [this,Nat.testBit_succ,show ((if b then 1 else 0)+2*setN r) / 2=setN r by split <;> omega,setN_bit r j];simp
def ref4 (f:Nat→Bool) (i:Nat):Nat:=2*pasN (f (4+pasN (f (i / 2)) (i % 2))) (i / 2)+pasN (f (2+pasN (f (4+pasN (f (i / 2)) (i % 2))) (i / 2))) (pasN (f (i / 2)) (i % 2))
def refA (n:Int) (f:Nat→Bool) (i:Nat):Nat:=if n=2 then pasN (f 0) i else ref4 f i
theorem thB_eq (s:Nat) (l:List Bool):(fun k=>(s ^^^ setN l).testBit k)=thB s l:=by
 funext k
 rw [Nat.testBit_xor,setN_bit];unfold thB;cases l.getD k false <;> cases s.testBit k <;> rfl
theorem table2 (s:Nat) (l:List Bool) (i:Nat) (hi:i<2):(LT 2 (s ^^^ setN l))[i]? = some ((refA 2 (thB s l) i:Nat):Int):=by
 show (Ghw.thr 2 (fun k=>(s ^^^ setN l).testBit k))[i]? = _
 rw [thB_eq];generalize thB s l=f;have hi':i=0∨i=1:=by omega
 rcases hi' with rfl | rfl <;> (simp only [Ghw.thr,refA,pasN];cases f 0 <;> rfl)
theorem table4 (s:Nat) (l:List Bool) (i:Nat) (hi:i<4):(LT 4 (s ^^^ setN l))[i]? = some ((refA 4 (thB s l) i:Nat):Int):=by
 show (Ghw.thr 4 (fun k=>(s ^^^ setN l).testBit k))[i]? = _
 rw [thB_eq];generalize thB s l=f;have hi':i=0∨i=1∨i=2∨i=3:=by omega
 rcases hi' with rfl | rfl | rfl | rfl <;>
  (simp only [Ghw.thr,refA,ref4,pasN,Ghw.tr4];cases h0:f 0 <;> cases h1:f 1 <;> cases h4:f 4 <;> cases h5:f 5 <;> cases h2:f 2 <;> cases h3:f 3 <;> simp [h2,h3,h4,h5])
theorem refA_lt2 (f:Nat→Bool) (i:Nat) (hi:i<2):refA 2 f i<2:=by simp only [refA,if_pos];exact pasN_lt hi
def TurnAt (w:World) (a:Option Addr) (len:Nat) (l:List Bool):Prop:=len=l.length∧(l=[]∨∃ b off,a=some ⟨b,off,none⟩∧b<w.heap.size∧BlsAt w b off l)
theorem BlsAt.grew {w w':World} {b off:Nat} {l:List Bool} (h:BlsAt w b off l) (hb:b<w.heap.size) (hg:Grew w w'):BlsAt w' b off l:=fun i x hx=>(hg.cell hb _).trans (h i x hx)
theorem TurnAt.grew {w w':World} {a:Option Addr} {len:Nat} {l:List Bool} (h:TurnAt w a len l) (hg:Grew w w'):TurnAt w' a len l:=by
 refine ⟨h.1,h.2.imp id ?_⟩;rintro ⟨b,off,rfl,hb,hc⟩;exact ⟨b,off,rfl,Nat.lt_of_lt_of_le hb hg.size,hc.grew hb hg⟩
theorem ranswer2_any (s i b off cap:Nat) (l:List Bool) (w:World) (hs:s<64) (hl:l.length=1) (hi:i<2) (hb:b<w.heap.size) (hc:BlsAt w b off l) :
  Calls prog 60 #[.int .i64 2,.int .i64 s,.slice (some ⟨b,off,none⟩) l.length cap,.int .i64 i] w fun e w'=>e=.returned (.int .i64 (refA 2 (thB s l) i:Nat))∧Grew w w':=by
 have HT:=hid fun w' (hg:Grew w w')=>rthrough_any s 0 i b off cap l w' hs (by omega) (by omega) hi (Nat.lt_of_lt_of_le hb hg.size) (hc.grew hb hg)
 obtain ⟨r,hr⟩:∃ r,pasN (thB s l 0) i=r:=⟨_,rfl⟩;rw [show refA 2 (thB s l) i=pasN (thB s l 0) i from rfl,hr];rw [hr] at HT;clear hc hr hl;obtain ⟨L,hL⟩:∃ L,l.length=L:=⟨_,rfl⟩;rw [hL] at HT ⊢;clear hL;go_enter func60,ntmps60
 go_wp2_with fail
 refine (HT.out _ gw0).mono ?_;rintro e w' ⟨rfl,g,n,rfl⟩;go_wp2_with fail
 exact bodyPost_ret (v:=.int .i64 (r:Nat)) (by simp [results,go_sem]) rfl ⟨rfl,gw0⟩
set_option maxHeartbeats 1600000 in
theorem ranswer4_any (s i b off cap:Nat) (l:List Bool) (w:World) (hs:s<64) (hl:l.length=6) (hi:i<4) (hb:b<w.heap.size) (hc:BlsAt w b off l) :
  Calls prog 60 #[.int .i64 4,.int .i64 s,.slice (some ⟨b,off,none⟩) l.length cap,.int .i64 i] w fun e w'=>e=.returned (.int .i64 (refA 4 (thB s l) i:Nat))∧Grew w w':=by
 have HT:=hid fun w' (hg:Grew w w') k (hk:k<6) j (hj:j<2)=>rthrough_any s k j b off cap l w' hs (by omega) (by omega) hj (Nat.lt_of_lt_of_le hb hg.size) (hc.grew hb hg)
 show Calls _ _ _ _ fun e w'=>e=.returned (.int .i64 (ref4 (thB s l) i:Nat))∧Grew w w'
 unfold ref4;have hA:pasN (thB s l (i / 2)) (i % 2)<2:=pasN_lt (by omega);have HA:=hid fun w' (hg:Grew w w')=>HT.out w' hg (i / 2) (by omega) (i % 2) (by omega)
 obtain ⟨A,eA⟩:∃ A,pasN (thB s l (i / 2)) (i % 2)=A:=⟨_,rfl⟩;rw [eA] at hA HA ⊢;have hB:pasN (thB s l (4+A)) (i / 2)<2:=pasN_lt (by omega);have HB:=hid fun w' (hg:Grew w w')=>HT.out w' hg (4+A) (by omega) (i / 2) (by omega)
 obtain ⟨B,eB⟩:∃ B,pasN (thB s l (4+A)) (i / 2)=B:=⟨_,rfl⟩;rw [eB] at hB HB ⊢;have hC:pasN (thB s l (2+B)) A<2:=pasN_lt (by omega);have HC:=hid fun w' (hg:Grew w w')=>HT.out w' hg (2+B) (by omega) A (by omega)
 obtain ⟨C,eC⟩:∃ C,pasN (thB s l (2+B)) A=C:=⟨_,rfl⟩;rw [eC] at hC HC ⊢;clear HT hc eA eB eC hl;obtain ⟨L,hL⟩:∃ L,l.length=L:=⟨_,rfl⟩;rw [hL] at HA HB HC ⊢;clear hL;obtain ⟨i2,h2⟩:∃ i2,i / 2=i2:=⟨_,rfl⟩;obtain ⟨i1,h1⟩:∃ i1,i % 2=i1:=⟨_,rfl⟩;have e1:(i:Int) % 2=(i1:Int):=by omega
 have e2:(i:Int) / 2=(i2:Int):=by omega
 have hi2:i2<2:=by omega
 rw [h2] at HA HB;rw [h1] at HA;clear h1 h2
 push_cast at HB HC ⊢
 go_enter func60,ntmps60
 go_wp2_with fail
 refine (HA.out _ gw0).mono ?_;rintro e w' ⟨rfl,g,n,rfl⟩;go_wp2_with fail
 refine (HB.out _ gw0).mono ?_;rintro e w' ⟨rfl,g2,n2,rfl⟩;go_wp2_with fail
 refine (HC.out _ gw0).mono ?_;rintro e w' ⟨rfl,g3,n3,rfl⟩;go_wp2_with fail
 exact bodyPost_ret (v:=.int .i64 (2*(B:Int)+(C:Int))) (by simp [results,go_sem]) rfl ⟨rfl,gw0⟩
end Go.Proofs.Qm
