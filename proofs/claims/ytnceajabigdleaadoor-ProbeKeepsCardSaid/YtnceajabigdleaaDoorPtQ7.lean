/- Layer 9, in main's ghost: lists of states: valid ones, and their sets. Condition: the numbers lie in memory. -/
import Derived.Test.YtnceajabigdleaaDoorPtQ3
import Derived.Test.YtnceajabigdleaaDoorPtQ6
import Derived.Calls
import Derived.Test.YtnceajabigdleaaDoorPtS12
namespace Go.Proofs.Qm
open Go Go.Pt Go.RowKit Prb
def NsA (w:World) (a:Option Addr) (l:List Int):Prop:=∀ i x,l[i]? = some x→∃ b off:Nat,a=some ⟨b,off,none⟩∧b<w.heap.size∧w.cell? ⟨b,off+i,none⟩=some (.int .i64 x)
theorem NsA.grew {w w':World} {a:Option Addr} {l:List Int} (h:NsA w a l) (hg:Grew w w'):NsA w' a l:=fun i x hx=>by
 obtain ⟨b,off,rfl,hb,hc⟩:=h i x hx;exact ⟨b,off,rfl,Nat.lt_of_lt_of_le hb hg.size,(hg.cell hb _).trans hc⟩
theorem NsA.below {w w':World} {a:Option Addr} {l:List Int} (h:NsA w a l) (hg:Below w.heap.size w w'):NsA w' a l:=fun i x hx=>by
 obtain ⟨b,off,rfl,hb,hc⟩:=h i x hx;refine ⟨b,off,rfl,Nat.lt_of_lt_of_le hb hg.size, ?_⟩;simp only [World.cell?] at hc ⊢;rw [hg.block b hb];exact hc
def okFrom (N:Int):Int→List Int→Bool
 | _,[]=>true
 | lo,x::r=>(decide (lo≤x)&&decide (x≤N - 1))&&okFrom N (x+1) r
def loAt (l:List Int) (i:Nat):Int:=if i=0 then 0 else l.getD (i - 1) 0+1
theorem loAt_succ {l:List Int} {i:Nat} {x:Int} (h:l[i]? = some x):loAt l (i+1)=x+1:=by simp [loAt,List.getD,h]
theorem okFrom_at {N:Int} {l:List Int} {i:Nat} {x:Int} (h:l[i]? = some x):okFrom N (loAt l i) (l.drop i)=((decide (loAt l i≤x)&&decide (x≤N - 1))&&okFrom N (loAt l (i+1)) (l.drop (i+1))):=by
 have hi:=(List.getElem?_eq_some_iff.1 h).1;rw [List.drop_eq_getElem_cons hi,(List.getElem?_eq_some_iff.1 h).2,loAt_succ h];rfl
structure Gone (N:Int) (l:List Int) (i:Nat):Prop where
 ok:okFrom N 0 l=okFrom N (loAt l i) (l.drop i)
 lo:0≤loAt l i
 hi:loAt l i≤N
 asc:Asc ((l.take i).map Int.toNat)
 lt:∀ y∈(l.take i).map Int.toNat,(y:Int)<loAt l i
theorem Gone.zero {N:Int} (hN:0≤N) (l:List Int):Gone N l 0:=⟨rfl,Int.le_refl _,hN,trivial,fun y h=>by simp at h⟩
theorem Gone.next {N:Int} {l:List Int} {i:Nat} {x:Int} (h:Gone N l i) (hx:l[i]? = some x) (h1:loAt l i≤x) (h2:x≤N - 1):Gone N l (i+1):=by
 have hlo:=h.lo;have e:(l.take (i+1)).map Int.toNat=(l.take i).map Int.toNat++[x.toNat]:=by rw [List.take_add_one,hx];simp
 refine ⟨by rw [h.ok,okFrom_at hx,decide_eq_true h1,decide_eq_true h2];rfl,by rw [loAt_succ hx];omega,by rw [loAt_succ hx];omega, ?_, ?_⟩
 · rw [e]
   exact asc_snoc h.asc fun y hy=>by have:=h.lt y hy;omega
 · rw [e,loAt_succ hx]
   intro y hy;rcases List.mem_append.1 hy with hy | hy
   · have:=h.lt y hy;omega
   · obtain rfl:=List.mem_singleton.1 hy;omega
theorem Gone.set {N:Int} {l:List Int} {i X:Nat} {x:Int} (h:Gone N l i) (hx:l[i]? = some x) (h1:loAt l i≤x) (hX:x=X) (hlt:X<64):bits .or .u64 (setS ((l.take i).map Int.toNat):Int) ((2 ^ X:Nat):Int)=(setS ((l.take (i+1)).map Int.toNat):Nat):=by
 have e:(l.take (i+1)).map Int.toNat=(l.take i).map Int.toNat++[X]:=by rw [List.take_add_one,hx];simp [hX]
 rw [e];exact set_or h.asc (fun y hy=>by have:=h.lt y hy;omega) hlt
theorem Gone.bad {N:Int} {l:List Int} {i:Nat} {x:Int} (h:Gone N l i) (hx:l[i]? = some x) (h1:¬ (loAt l i≤x∧x≤N - 1)):okFrom N 0 l=false:=by
 rw [h.ok,okFrom_at hx];have:(decide (loAt l i≤x)&&decide (x≤N - 1))=false:=by rw [Bool.eq_false_iff];intro h;simp only [Bool.and_eq_true,decide_eq_true_eq] at h;exact h1 h
 rw [this];rfl
theorem Gone.all {N:Int} {l:List Int} (h:Gone N l l.length):okFrom N 0 l=true:=by rw [h.ok,List.drop_length];rfl
theorem pow_wrap {X:Nat} (h:X<64):IntKind.u64.wrap ((2:Int) ^ X)=((2 ^ X:Nat):Int):=by
 have:(2:Nat) ^ X<2 ^ 64:=Nat.pow_lt_pow_right (by decide) h;rw [show ((2:Int) ^ X)=((2 ^ X:Nat):Int) by push_cast;rfl];exact u64_wrap (Int.natCast_nonneg _) (by exact_mod_cast this)
set_option maxHeartbeats 3200000 in
theorem states2_aux (a:Option Addr) (cap:Nat) (l:List Int) (w:World) (hl:l.length≤9223372036854775807) (hc:NsA w a l) (R:Bool) (B:Nat) (hR:okFrom 2 0 l=R) (hB:(if R then setS (l.map Int.toNat) else 0)=B) :
  Calls prog 33 #[.int .i64 2,.slice a l.length cap] w fun e w'=>e=.returned (.tuple #[.int .u64 (B:Nat),.bool R])∧w'=w:=by
 have HC:=hid hc;have HR:=hid hR;have HBB:=hid hB;clear hc hR hB;go_enter func33,ntmps33
 go_wp2_with fail
 go_loopw [6,7,12] (fun s t n wr=>∃ i:Nat,i≤l.length∧n=.int .i64 i∧t=.int .i64 (loAt l i - 1)∧s=.int .u64 (setS ((l.take i).map Int.toNat):Nat)∧Hid (Gone 2 l i)∧wr=w) (fun _ _ n _=>l.length - (intOf n).toNat)
 case atStart=>exact ⟨0,Nat.zero_le _,rfl,by simp [loAt],by simp [setS],Gone.zero (by decide) l,rfl⟩
 case round =>
  obtain ⟨i,hi,rfl,rfl,rfl,hG,rfl⟩:=hrel;by_cases hlt:i<l.length
  · obtain ⟨x,hx⟩:∃ x,l[i]? = some x:=⟨l[i],List.getElem?_eq_getElem hlt⟩
    obtain ⟨b,off,rfl,hb,c0⟩:=HC.out i x hx;have HX:=hid hx;have hlo:=hG.out.lo;have hhi:=hG.out.hi;have HLO:=hid (loAt_succ hx);clear hx;by_cases hv:loAt l i≤x∧x≤2 - 1
    · have HV:=hid hv
      obtain ⟨X,hX⟩:∃ X:Nat,x=X:=⟨x.toNat,by omega⟩;subst hX;have hX64:X<64:=by omega
      have HS:=hid (hG.out.set HX.out hv.1 rfl hX64);have HN:=hid (hG.out.next HX.out hv.1 hv.2);have HW:=hid (pow_wrap hX64);obtain ⟨S,hS⟩:∃ S,setS ((l.take i).map Int.toNat)=S:=⟨_,rfl⟩;obtain ⟨o,ho⟩:∃ o,loAt l i=o:=⟨_,rfl⟩;have HB:=hid fun w=>btw_any o X 1 w
      rw [show (decide (o≤(X:Int))&&decide ((X:Int)≤1))=true by rw [← ho];simp;omega] at HB;rw [hS] at HS ⊢;rw [ho] at hlo hhi ⊢;clear hS ho hv;go_wp2_with fail
      refine (pcount2 _).mono ?_;rintro e w' ⟨rfl,rfl⟩;go_wp2_with fail
      refine (HB.out _).mono ?_;rintro e w' ⟨rfl,rfl⟩;go_wp2_with fail
      go_roundw
      case rel=>exact ⟨i+1,by omega,by go_num,by rw [HLO.out];simp,by first | (rw [HW.out,HS.out]) | (simp;rw [HW.out,HS.out]),HN.out,by first | rfl | trivial⟩
      case measure=>simp [intOf];omega
    · have HBAD:=hid (hG.out.bad HX.out hv)
      obtain ⟨o,ho⟩:∃ o,loAt l i=o:=⟨_,rfl⟩;have HB:=hid fun w=>btw_any o x 1 w
      rw [show (decide (o≤x)&&decide (x≤1))=false by rw [← ho,Bool.eq_false_iff];intro h;simp only [Bool.and_eq_true,decide_eq_true_eq] at h;exact hv ⟨h.1,by omega⟩] at HB;rw [ho] at hlo hhi ⊢;obtain ⟨S,hS⟩:∃ S,setS ((l.take i).map Int.toNat)=S:=⟨_,rfl⟩;rw [hS];clear ho hv hS;go_wp2_with fail
      refine (pcount2 _).mono ?_;rintro e w' ⟨rfl,rfl⟩;go_wp2_with fail
      refine (HB.out _).mono ?_;rintro e w' ⟨rfl,rfl⟩;go_wp2_with fail
      exact bodyPost_ret (v:=.tuple #[.int .u64 0,.bool false]) (by simp [results,go_sem]) rfl ⟨by have:=HBB.out;rw [← HR.out,HBAD.out] at this;rw [← HR.out,HBAD.out,← this];rfl,rfl⟩
  · obtain rfl:i=l.length:=by omega
    have HA:=hid hG.out.all;rw [List.take_length];obtain ⟨S,hS⟩:∃ S,setS (l.map Int.toNat)=S:=⟨_,rfl⟩;rw [hS];obtain ⟨o,ho⟩:∃ o,loAt l l.length=o:=⟨_,rfl⟩;rw [ho];have HSS:=hid hS;clear ho hS;go_wp2_with fail
    exact bodyPost_ret (v:=.tuple #[.int .u64 (S:Nat),.bool true]) (by simp [results,go_sem]) rfl ⟨by have:=HBB.out;rw [← HR.out,HA.out] at this;rw [← HR.out,HA.out,← this,← HSS.out];rfl,rfl⟩
theorem states2_any (a:Option Addr) (cap:Nat) (l:List Int) (w:World) (hl:l.length≤9223372036854775807) (hc:NsA w a l) :
  Calls prog 33 #[.int .i64 2,.slice a l.length cap] w fun e w'=>e=.returned (.tuple #[.int .u64 (if okFrom 2 0 l then setS (l.map Int.toNat) else 0:Nat),.bool (okFrom 2 0 l)])∧w'=w:=states2_aux a cap l w hl hc _ _ rfl rfl
set_option maxHeartbeats 3200000 in
theorem states4_aux (a:Option Addr) (cap:Nat) (l:List Int) (w:World) (hl:l.length≤9223372036854775807) (hc:NsA w a l) (R:Bool) (B:Nat) (hR:okFrom 64 0 l=R) (hB:(if R then setS (l.map Int.toNat) else 0)=B) :
  Calls prog 33 #[.int .i64 4,.slice a l.length cap] w fun e w'=>e=.returned (.tuple #[.int .u64 (B:Nat),.bool R])∧w'=w:=by
 have HC:=hid hc;have HR:=hid hR;have HBB:=hid hB;clear hc hR hB;go_enter func33,ntmps33
 go_wp2_with fail
 go_loopw [6,7,12] (fun s t n wr=>∃ i:Nat,i≤l.length∧n=.int .i64 i∧t=.int .i64 (loAt l i - 1)∧s=.int .u64 (setS ((l.take i).map Int.toNat):Nat)∧Hid (Gone 64 l i)∧wr=w) (fun _ _ n _=>l.length - (intOf n).toNat)
 case atStart=>exact ⟨0,Nat.zero_le _,rfl,by simp [loAt],by simp [setS],Gone.zero (by decide) l,rfl⟩
 case round =>
  obtain ⟨i,hi,rfl,rfl,rfl,hG,rfl⟩:=hrel;by_cases hlt:i<l.length
  · obtain ⟨x,hx⟩:∃ x,l[i]? = some x:=⟨l[i],List.getElem?_eq_getElem hlt⟩
    obtain ⟨b,off,rfl,hb,c0⟩:=HC.out i x hx;have HX:=hid hx;have hlo:=hG.out.lo;have hhi:=hG.out.hi;have HLO:=hid (loAt_succ hx);clear hx;by_cases hv:loAt l i≤x∧x≤64 - 1
    · have HV:=hid hv
      obtain ⟨X,hX⟩:∃ X:Nat,x=X:=⟨x.toNat,by omega⟩;subst hX;have hX64:X<64:=by omega
      have HS:=hid (hG.out.set HX.out hv.1 rfl hX64);have HN:=hid (hG.out.next HX.out hv.1 hv.2);have HW:=hid (pow_wrap hX64);obtain ⟨S,hS⟩:∃ S,setS ((l.take i).map Int.toNat)=S:=⟨_,rfl⟩;obtain ⟨o,ho⟩:∃ o,loAt l i=o:=⟨_,rfl⟩;have HB:=hid fun w=>btw_any o X 63 w
      rw [show (decide (o≤(X:Int))&&decide ((X:Int)≤63))=true by rw [← ho];simp;omega] at HB;rw [hS] at HS ⊢;rw [ho] at hlo hhi ⊢;clear hS ho hv;go_wp2_with fail
      refine (pcount4 _).mono ?_;rintro e w' ⟨rfl,rfl⟩;go_wp2_with fail
      refine (HB.out _).mono ?_;rintro e w' ⟨rfl,rfl⟩;go_wp2_with fail
      go_roundw
      case rel=>exact ⟨i+1,by omega,by go_num,by rw [HLO.out];simp,by first | (rw [HW.out,HS.out]) | (simp;rw [HW.out,HS.out]),HN.out,by first | rfl | trivial⟩
      case measure=>simp [intOf];omega
    · have HBAD:=hid (hG.out.bad HX.out hv)
      obtain ⟨o,ho⟩:∃ o,loAt l i=o:=⟨_,rfl⟩;have HB:=hid fun w=>btw_any o x 63 w
      rw [show (decide (o≤x)&&decide (x≤63))=false by rw [← ho,Bool.eq_false_iff];intro h;simp only [Bool.and_eq_true,decide_eq_true_eq] at h;exact hv ⟨h.1,by omega⟩] at HB;rw [ho] at hlo hhi ⊢;obtain ⟨S,hS⟩:∃ S,setS ((l.take i).map Int.toNat)=S:=⟨_,rfl⟩;rw [hS];clear ho hv hS;go_wp2_with fail
      refine (pcount4 _).mono ?_;rintro e w' ⟨rfl,rfl⟩;go_wp2_with fail
      refine (HB.out _).mono ?_;rintro e w' ⟨rfl,rfl⟩;go_wp2_with fail
      exact bodyPost_ret (v:=.tuple #[.int .u64 0,.bool false]) (by simp [results,go_sem]) rfl ⟨by have:=HBB.out;rw [← HR.out,HBAD.out] at this;rw [← HR.out,HBAD.out,← this];rfl,rfl⟩
  · obtain rfl:i=l.length:=by omega
    have HA:=hid hG.out.all;rw [List.take_length];obtain ⟨S,hS⟩:∃ S,setS (l.map Int.toNat)=S:=⟨_,rfl⟩;rw [hS];obtain ⟨o,ho⟩:∃ o,loAt l l.length=o:=⟨_,rfl⟩;rw [ho];have HSS:=hid hS;clear ho hS;go_wp2_with fail
    exact bodyPost_ret (v:=.tuple #[.int .u64 (S:Nat),.bool true]) (by simp [results,go_sem]) rfl ⟨by have:=HBB.out;rw [← HR.out,HA.out] at this;rw [← HR.out,HA.out,← this,← HSS.out];rfl,rfl⟩
theorem states4_any (a:Option Addr) (cap:Nat) (l:List Int) (w:World) (hl:l.length≤9223372036854775807) (hc:NsA w a l) :
  Calls prog 33 #[.int .i64 4,.slice a l.length cap] w fun e w'=>e=.returned (.tuple #[.int .u64 (if okFrom 64 0 l then setS (l.map Int.toNat) else 0:Nat),.bool (okFrom 64 0 l)])∧w'=w:=states4_aux a cap l w hl hc _ _ rfl rfl
end Go.Proofs.Qm
namespace Prb
def bump (cs:List Int) (j:Nat):List Int:=cs.set j (cs.getD j 0+1)
def cntL (n:Nat) (f:Nat→Nat) (l:List Nat):List Int:=l.foldl (fun cs s=>bump cs (f s)) (List.replicate n 0)
theorem cntL_nil (n:Nat) (f:Nat→Nat):cntL n f []=List.replicate n 0:=rfl
theorem cntL_snoc (n:Nat) (f:Nat→Nat) (l:List Nat) (x:Nat):cntL n f (l++[x])=bump (cntL n f l) (f x):=by simp [cntL,List.foldl_append]
theorem bump_len (cs:List Int) (j:Nat):(bump cs j).length=cs.length:=by simp [bump]
theorem fold_len (f:Nat→Nat):∀ (l:List Nat) (cs:List Int),(l.foldl (fun cs s=>bump cs (f s)) cs).length=cs.length
 | [],_=>rfl
 | x::r,cs=>by rw [List.foldl_cons,fold_len f r,bump_len]
theorem cntL_len (n:Nat) (f:Nat→Nat) (l:List Nat):(cntL n f l).length=n:=by simp [cntL,fold_len]
theorem bump_getD (cs:List Int) (j i:Nat):(bump cs j).getD i 0=if j=i∧i<cs.length then cs.getD i 0+1 else cs.getD i 0:=by
 unfold bump;rw [List.getD_eq_getElem?_getD,List.getElem?_set,List.getD_eq_getElem?_getD,List.getD_eq_getElem?_getD];by_cases h:j=i
 · subst h
   by_cases h2:j<cs.length
   · simp [h2]
   · simp [h2]
 · simp [h]
theorem fold_le (f:Nat→Nat):∀ (l:List Nat) (cs:List Int) (K:Int),(∀ i,0≤cs.getD i 0∧cs.getD i 0≤K)→∀ i,0≤(l.foldl (fun cs s=>bump cs (f s)) cs).getD i 0∧(l.foldl (fun cs s=>bump cs (f s)) cs).getD i 0≤K+l.length
 | [],cs,K,h,i=>by have:=h i;simp only [List.foldl_nil,List.length_nil];omega
 | x :: r, cs, K, h, i => by
   have:=fold_le f r (bump cs (f x)) (K+1) (fun i=>by
    have:=h i;rw [bump_getD];split <;> omega) i
   simp only [List.foldl_cons,List.length_cons];omega
theorem cntL_le (n:Nat) (f:Nat→Nat) (l:List Nat) (i:Nat):0≤(cntL n f l).getD i 0∧(cntL n f l).getD i 0≤l.length:=by
 have:=fold_le f l (List.replicate n 0) 0 (fun i=>by rw [List.getD_eq_getElem?_getD,List.getElem?_replicate];split <;> simp) i;unfold cntL;omega
end Prb
namespace Go.Proofs.Qm
open Go Go.Pt Go.RowKit Prb
def topN (n:Int):Int:=if n=2 then 2 else 64
open Go Go.Pt Go.RowKit Prb
theorem zeros_arr (m:Nat):madeCells (Value.int .i64 0).cells (m*1)=(zCells (List.replicate m 0)).toArray:=by
 apply Array.ext
 · simp [zCells,madeCells]
 · intro i h1 h2
   simp [zCells,madeCells,Value.cells,Nat.mod_one]
theorem mk_ints (m:Nat) (hm:m≤100) (w:World):Sem.run prog (Instr.makeSlice 22 (.int .i64 m) (.int .i64 m)) w=.ok (.slice (some ⟨w.heap.size,0,none⟩) m m) (w.alloc (.cells (zCells (List.replicate m 0)).toArray 3)):=by
 obtain ⟨i0,hi,hz0,hz1,hz2⟩:=info_parts zok.info;have hr:=run_make (P:=prog) w 22 3 i0 (.int .i64 0) zok.und hi hz0 .i64 .i64 m m (by omega) (Int.le_refl _) (by rw [hz2];omega) (by omega);rw [hz1,Int.toNat_natCast,zeros_arr] at hr;exact hr
theorem ok_at {N:Int}:∀ {l:List Int} {lo:Int},okFrom N lo l=true→∀ x∈l,lo≤x∧x≤N - 1
 | [],_,_,x,hx=>by cases hx
 | y :: r, lo, h, x, hx => by
   simp only [okFrom,Bool.and_eq_true,decide_eq_true_eq] at h;obtain ⟨⟨h1,h2⟩,h3⟩:=h;rcases List.mem_cons.1 hx with rfl | hx
   · exact ⟨h1,h2⟩
   · have:=ok_at h3 x hx;omega
theorem refA_lt (n:Int) (N m k:Nat) (hn:(n=2∧N=2∧m=2∧k=1)∨(n=4∧N=64∧m=4∧k=6)) (f:Nat→Bool) (i:Nat) (hi:i<m):refA n f i<m:=by
 rcases hn with ⟨rfl,rfl,rfl,h4⟩ | ⟨rfl,rfl,rfl,h4⟩
 · exact refA_lt2 f i hi
 · show ref4 f i<4
   unfold ref4;have h1:=pasN_lt (b:=f (i / 2)) (i:=i % 2) (by omega);have h2:=pasN_lt (b:=f (4+pasN (f (i / 2)) (i % 2))) (i:=i / 2) (by omega);have h3:=pasN_lt (b:=f (2+pasN (f (4+pasN (f (i / 2)) (i % 2))) (i / 2))) (i:=pasN (f (i / 2)) (i % 2)) h1;omega
theorem BlsAt.below {w w':World} {b off:Nat} {l:List Bool} (h:BlsAt w b off l) (hb:b<w.heap.size) (hg:Below w.heap.size w w'):BlsAt w' b off l:=fun i x hx=>by
 have:=h i x hx;simp only [World.cell?] at this ⊢;rw [hg.block b hb];exact this
theorem below_set {B b i:Nat} {w w':World} {v:Value} (h:Below B w w') (hb:B≤b):Below B w (w'.setCell ⟨b,i,none⟩ v):=by
 have g:=grownBy_set w' b i v;exact ⟨g.os.trans h.os,g.tape.trans h.tape,g.output.trans h.output,Nat.le_trans h.size g.size,fun k hk=>(Below.heap_setCell _ _ _ k (by show k≠b;omega)).trans (h.block k hk)⟩
theorem below_grew {B:Nat} {w w' w'':World} (h:Below B w w') (hg:Grew w' w'') (hB:B≤w'.heap.size):Below B w w'' :=
 ⟨(hg.grownBy none).os.trans h.os,(hg.grownBy none).tape.trans h.tape,(hg.grownBy none).output.trans h.output,Nat.le_trans h.size hg.size,fun k hk=>(hg.block k (by omega)).trans (h.block k hk)⟩
end Go.Proofs.Qm
