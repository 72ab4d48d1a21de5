/- Layer 9, in main's ghost: lists of states: valid ones, and their sets. Condition: the numbers lie in memory. -/
import Derived.Test.YtnceajabigdleaaDoorPtQ3
import Derived.Test.YtnceajabigdleaaDoorPtQ6
import Derived.Calls
import Derived.Test.YtnceajabigdleaaDoorPtS12
namespace Go.Proofs.Qm
open Go Go.Pt Go.RowKit Prb
def NsA (w:World) (a:Option Addr) (l:List Int):Prop:=∀ i x,l[i]? = some x→∃ b off:Nat,a=some ⟨b,off,none⟩∧b<w.heap.size∧w.cell? ⟨b,off+i,none⟩=some (.int .i64 x)
theorem NsA.grew {w w':World} {a:Option Addr} {l:List Int} (h:NsA w a l) (hg:Grew w w'):NsA w' a l:=fun i x hx=>by
 obtain ⟨b,off,rfl,hb,hc⟩:=h i x hx;exact ⟨b,off,rfl,Nat.lt_of_lt_of_le hb hg.size,(hg.cell hb _).trans hc⟩
theorem NsA.below {w w':World} {a:Option Addr} {l:List Int} (h:NsA w a l) (hg:Below w.heap.size w w'):NsA w' a l:=fun i x hx=>by
 obtain ⟨b,off,rfl,hb,hc⟩:=h i x hx;refine ⟨b,off,rfl,Nat.lt_of_lt_of_le hb hg.size, ?_⟩;simp only [World.cell?] at hc ⊢;rw [hg.block b hb];exact hc
def okFrom (N:Int):Int→List Int→Bool
 | _,[]=>true
 | lo,x::r=>(decide (lo≤x)&&decide (x≤N - 1))&&okFrom N (x+1) r
def loAt (l:List Int) (i:Nat):Int:=if i=0 then 0 else l.getD (i - 1) 0+1
theorem loAt_succ {l:List Int} {i:Nat} {x:Int} (h:l[i]? = some x):loAt l (i+1)=x+1:=by simp [loAt,List.getD,h]
theorem okFrom_at {N:Int} {l:List Int} {i:Nat} {x:Int} (h:l[i]? = some x):okFrom N (loAt l i) (l.drop i)=((decide (loAt l i≤x)&&decide (x≤N - 1))&&okFrom N (loAt l (i+1)) (l.drop (i+1))):=by
 have hi:=(List.getElem?_eq_some_iff.1 h).1;rw [List.drop_eq_getElem_cons hi,(List.getElem?_eq_some_iff.1 h).2,loAt_succ h];rfl
structure Gone (N:Int) (l:List Int) (i:Nat):Prop where
 ok:okFrom N 0 l=okFrom N (loAt l i) (l.drop i)
 lo:0≤loAt l i
 hi:loAt l i≤N
 asc:Asc ((l.take i).map Int.toNat)
 lt:∀ y∈(l.take i).map Int.toNat,(y:Int)<loAt l i
theorem Gone.zero {N:Int} (hN:0≤N) (l:List Int):Gone N l 0:=⟨rfl,Int.le_refl _,hN,trivial,fun y h=>by simp at h⟩
theorem Gone.next {N:Int} {l:List Int} {i:Nat} {x:Int} (h:Gone N l i) (hx:l[i]? = some x) (h1:loAt l i≤x) (h2:x≤N - 1):Gone N l (i+1):=by
 have hlo:=h.lo;have e:(l.take (i+1)).map Int.toNat=(l.take i).map Int.toNat++[x.toNat]:=by rw [List.take_add_one,hx];simp
 refine ⟨by rw [h.ok,okFrom_at hx,decide_eq_true h1,decide_eq_true h2];rfl,by rw [loAt_succ hx];omega,by rw [loAt_succ hx];omega, ?_, ?_⟩
 · rw [e]
   exact asc_snoc h.asc fun y hy=>by have:=h.lt y hy;omega
 · rw [e,loAt_succ hx]
   intro y hy;rcases List.mem_append.1 hy with hy | hy
   · have:=h.lt y hy;omega
   · obtain rfl:=List.mem_singleton.1 hy;omega
theorem Gone.set {N:Int} {l:List Int} {i X:Nat} {x:Int} (h:Gone N l i) (hx:l[i]? = some x) (h1:loAt l i≤x) (hX:x=X) (hlt:X<64):bits .or .u64 (setS ((l.take i).map Int.toNat):Int) ((2 ^ X:Nat):Int)=(setS ((l.take (i+1)).map Int.toNat):Nat):=by
 have e:(l.take (i+1)).map Int.toNat=(l.take i).map Int.toNat++[X]:=by rw [List.take_add_one,hx];simp [hX]
 rw [e];exact set_or h.asc (fun y hy=>by have:=h.lt y hy;omega) hlt
theorem Gone.bad {N:Int} {l:List Int} {i:Nat} {x:Int} (h:Gone N l i) (hx:l[i]? = some x) (h1:¬ (loAt l i≤x∧x≤N - 1)):okFrom N 0 l=false:=by
 rw [h.ok,okFrom_at hx];have:(decide (loAt l i≤x)&&decide (x≤N - 1))=false:=by rw [Bool.eq_false_iff];intro h;simp only [Bool.and_eq_true,decide_eq_true_eq] at h;exact h1 h
 rw [this];rfl
theorem Gone.all {N:Int} {l:List Int} (h:Gone N l l.length):okFrom N 0 l=true:=by rw [h.ok,List.drop_length];rfl
theorem pow_wrap {X:Nat} (h:X<64):IntKind.u64.wrap ((2:Int) ^ X)=((2 ^ X:Nat):Int):=by
 have:(2:Nat) ^ X<2 ^ 64:=Nat.pow_lt_pow_right (by decide) h;rw [show ((2:Int) ^ X)=((2 ^ X:Nat):Int) by push_cast;rfl];exact u64_wrap (Int.natCast_nonneg _) (by exact_mod_cast this)
end Go.Proofs.Qm
namespace Prb
def bump (cs:List Int) (j:Nat):List Int:=cs.set j (cs.getD j 0+1)
def cntL (n:Nat) (f:Nat→Nat) (l:List Nat):List Int:=l.foldl (fun cs s=>bump cs (f s)) (List.replicate n 0)
theorem cntL_nil (n:Nat) (f:Nat→Nat):cntL n f []=List.replicate n 0:=rfl
theorem cntL_snoc (n:Nat) (f:Nat→Nat) (l:List Nat) (x:Nat):cntL n f (l++[x])=bump (cntL n f l) (f x):=by simp [cntL,List.foldl_append]
theorem bump_len (cs:List Int) (j:Nat):(bump cs j).length=cs.length:=by simp [bump]
theorem fold_len (f:Nat→Nat):∀ (l:List Nat) (cs:List Int),(l.foldl (fun cs s=>bump cs (f s)) cs).length=cs.length
 | [],_=>rfl
 | x::r,cs=>by rw [List.foldl_cons,fold_len f r,bump_len]
theorem cntL_len (n:Nat) (f:Nat→Nat) (l:List Nat):(cntL n f l).length=n:=by simp [cntL,fold_len]
theorem bump_getD (cs:List Int) (j i:Nat):(bump cs j).getD i 0=if j=i∧i<cs.length then cs.getD i 0+1 else cs.getD i 0:=by
 unfold bump;rw [List.getD_eq_getElem?_getD,List.getElem?_set,List.getD_eq_getElem?_getD,List.getD_eq_getElem?_getD];by_cases h:j=i
 · subst h
   by_cases h2:j<cs.length
   · simp [h2]
   · simp [h2]
 · simp [h]
theorem fold_le (f:Nat→Nat):∀ (l:List Nat) (cs:List Int) (K:Int),(∀ i,0≤cs.getD i 0∧cs.getD i 0≤K)→∀ i,0≤(l.foldl (fun cs s=>bump cs (f s)) cs).getD i 0∧(l.foldl (fun cs s=>bump cs (f s)) cs).getD i 0≤K+l.length
 | [],cs,K,h,i=>by have:=h i;simp only [List.foldl_nil,List.length_nil];omega
 | x :: r, cs, K, h, i => by
   have:=fold_le f r (bump cs (f x)) (K+1) (fun i=>by
    have:=h i;rw [bump_getD];split <;> omega) i
   simp only [List.foldl_cons,List.length_cons];omega
theorem cntL_le (n:Nat) (f:Nat→Nat) (l:List Nat) (i:Nat):0≤(cntL n f l).getD i 0∧(cntL n f l).getD i 0≤l.length:=by
 have:=fold_le f l (List.replicate n 0) 0 (fun i=>by rw [List.getD_eq_getElem?_getD,List.getElem?_replicate];split <;> simp) i;unfold cntL;omega
end Prb
namespace Go.Proofs.Qm
open Go Go.Pt Go.RowKit Prb
theorem gone_n (w:World) (n:Int) (h:n=2∨n=4) (x:Int):Calls prog 59 #[.int .i64 n,.int .i64 x] w fun e w'=>e=.returned (.bool (stB n x))∧w'=w:=rstate_any n x w h
def topN (n:Int):Int:=if n=2 then 2 else 64
theorem stB_top {n x:Int} (hn:n=2∨n=4):stB n x=(decide (0≤x)&&decide (x≤topN n - 1)):=by
 rcases hn with rfl | rfl <;> simp [stB,topN]
set_option maxHeartbeats 3200000 in
theorem areStates_any (n:Int) (hn:n=2∨n=4) (a:Option Addr) (cap:Nat) (l:List Int) (w:World) (hl:l.length≤9223372036854775807) (hc:NsA w a l) :
  Calls prog 37 #[.int .i64 n,.slice a l.length cap] w fun e w'=>e=.returned (.bool (okFrom (topN n) 0 l))∧Grew w w':=by
 have HC:=hid hc;have HS:=hid fun w x=>gone_n w n hn x
 have HT:=hid fun x=>stB_top (x:=x) hn
 have hN:0≤topN n∧topN n≤64:=by unfold topN;split <;> omega
 obtain ⟨N,hNN⟩:∃ N,topN n=N:=⟨_,rfl⟩;rw [hNN] at hN HT ⊢;clear hc hNN hn;go_enter func37,ntmps37
 go_wp2_with fail
 go_loopw [9] (fun v wr=>∃ i:Nat,i≤l.length∧v=.int .i64 i∧Hid (Gone N l i)∧wr=w) (fun v _=>l.length - (intOf v).toNat)
 case atStart=>exact ⟨0,Nat.zero_le _,rfl,Gone.zero hN.1 l,rfl⟩
 case round =>
  obtain ⟨i,hi,rfl,hG,rfl⟩:=hrel;by_cases hlt:i<l.length
  · obtain ⟨x,hx⟩:∃ x,l[i]? = some x:=⟨l[i],List.getElem?_eq_getElem hlt⟩
    obtain ⟨b,off,rfl,hb,c0⟩:=HC.out i x hx;have HX:=hid hx;have hlo:=hG.out.lo;have hhi:=hG.out.hi;clear hx;by_cases hs:0≤x∧x≤N - 1
    · have hS:stB n x=true:=by rw [HT.out,decide_eq_true hs.1,decide_eq_true hs.2];rfl
      cases i with
      | zero =>
        have HN:=hid (hG.out.next HX.out (by simp only [loAt,if_true];omega) hs.2);rw [Nat.add_zero] at c0;clear hlo hhi;go_wp2_with fail
        refine (HS.out _ _).mono ?_;rintro e w' ⟨rfl,rfl⟩;rw [hS];go_wp2_with fail
        go_roundw
        case rel=>exact ⟨1,by omega,by go_num,HN.out,by first | rfl | trivial⟩
        case measure=>simp [intOf];omega
      | succ k =>
        obtain ⟨y,hy⟩:∃ y,l[k]? = some y:=⟨l[k],List.getElem?_eq_getElem (by omega)⟩;obtain ⟨b',off',e',hb',c1⟩:=HC.out k y hy;obtain ⟨rfl,rfl⟩:b=b'∧off=off':=by injection e' with e';injection e' with e1 e2;exact ⟨e1,e2⟩
        have hlv:=loAt_succ hy;rw [hlv] at hlo hhi;clear e' hb';by_cases hv:x≤y
        · have HBAD:=hid (hG.out.bad HX.out (by rw [hlv];omega))
          have hd:decide (x≤y)=true:=decide_eq_true hv;clear hlv hy;go_wp2_with fail
          refine (HS.out _ _).mono ?_;rintro e w' ⟨rfl,rfl⟩;rw [hS];go_wp2_with fail
          exact bodyPost_ret (v:=.bool false) (by simp [results,go_sem]) rfl ⟨by rw [HBAD.out],gw0⟩
        · have HN:=hid (hG.out.next HX.out (by rw [hlv];omega) hs.2)
          have hd:decide (x≤y)=false:=decide_eq_false hv;clear hlv hy;go_wp2_with fail
          refine (HS.out _ _).mono ?_;rintro e w' ⟨rfl,rfl⟩;rw [hS];go_wp2_with fail
          go_roundw
          case rel=>exact ⟨k+2,by omega,by go_num,HN.out,by first | rfl | trivial⟩
          case measure=>simp [intOf];omega
    · have hS:stB n x=false:=by
       rw [HT.out,Bool.eq_false_iff];intro h;simp only [Bool.and_eq_true,decide_eq_true_eq] at h;exact hs h
      have HBAD:=hid (hG.out.bad HX.out (by omega));clear hlo hhi;go_wp2_with fail
      refine (HS.out _ _).mono ?_;rintro e w' ⟨rfl,rfl⟩;rw [hS];go_wp2_with fail
      exact bodyPost_ret (v:=.bool false) (by simp [results,go_sem]) rfl ⟨by rw [HBAD.out],gw0⟩
  · obtain rfl:i=l.length:=by omega
    have HA:=hid hG.out.all;go_wp2_with fail
    exact bodyPost_ret (v:=.bool true) (by simp [results,go_sem]) rfl ⟨by rw [HA.out],gw0⟩
open Go Go.Pt Go.RowKit Prb
theorem zeros_arr (m:Nat):madeCells (Value.int .i64 0).cells (m*1)=(zCells (List.replicate m 0)).toArray:=by
 apply Array.ext
 · simp [zCells,madeCells]
 · intro i h1 h2
   simp [zCells,madeCells,Value.cells,Nat.mod_one]
theorem mk_ints (m:Nat) (hm:m≤100) (w:World):Sem.run prog (Instr.makeSlice 22 (.int .i64 m) (.int .i64 m)) w=.ok (.slice (some ⟨w.heap.size,0,none⟩) m m) (w.alloc (.cells (zCells (List.replicate m 0)).toArray 3)):=by
 obtain ⟨i0,hi,hz0,hz1,hz2⟩:=info_parts zok.info;have hr:=run_make (P:=prog) w 22 3 i0 (.int .i64 0) zok.und hi hz0 .i64 .i64 m m (by omega) (Int.le_refl _) (by rw [hz2];omega) (by omega);rw [hz1,Int.toNat_natCast,zeros_arr] at hr;exact hr
theorem own_new (w:World) (l:List Int) (hl:l.length≤100):OwnZ (w.alloc (.cells (zCells l).toArray 3)) w.heap.size (some ⟨w.heap.size,0,none⟩) l.length l:=by
 unfold OwnZ;have h1:=World.ownsRow_lit (base:=w.heap.size) (e:=3) (size:=1) w (zCells l).toArray l.length (Nat.le_refl _) (by unfold maxLen;omega) (by simp [zCells])
 simpa using h1
theorem ok_at {N:Int}:∀ {l:List Int} {lo:Int},okFrom N lo l=true→∀ x∈l,lo≤x∧x≤N - 1
 | [],_,_,x,hx=>by cases hx
 | y :: r, lo, h, x, hx => by
   simp only [okFrom,Bool.and_eq_true,decide_eq_true_eq] at h;obtain ⟨⟨h1,h2⟩,h3⟩:=h;rcases List.mem_cons.1 hx with rfl | hx
   · exact ⟨h1,h2⟩
   · have:=ok_at h3 x hx;omega
theorem refA_lt (n:Int) (N m k:Nat) (hn:(n=2∧N=2∧m=2∧k=1)∨(n=4∧N=64∧m=4∧k=6)) (f:Nat→Bool) (i:Nat) (hi:i<m):refA n f i<m:=by
 rcases hn with ⟨rfl,rfl,rfl,h4⟩ | ⟨rfl,rfl,rfl,h4⟩
 · exact refA_lt2 f i hi
 · show ref4 f i<4
   unfold ref4;have h1:=pasN_lt (b:=f (i / 2)) (i:=i % 2) (by omega);have h2:=pasN_lt (b:=f (4+pasN (f (i / 2)) (i % 2))) (i:=i / 2) (by omega);have h3:=pasN_lt (b:=f (2+pasN (f (4+pasN (f (i / 2)) (i % 2))) (i / 2))) (i:=pasN (f (i / 2)) (i % 2)) h1;omega
theorem ranswer_any (n:Int) (N m s i b off cap:Nat) (l:List Bool) (w:World) (hn:(n=2∧N=2∧m=2∧l.length=1)∨(n=4∧N=64∧m=4∧l.length=6)) (hs:s<N) (hi:i<m) (hb:b<w.heap.size) (hc:BlsAt w b off l) :
  Calls prog 60 #[.int .i64 n,.int .i64 s,.slice (some ⟨b,off,none⟩) l.length cap,.int .i64 i] w fun e w'=>e=.returned (.int .i64 (refA n (thB s l) i:Nat))∧Grew w w':=by
 rcases hn with ⟨rfl,rfl,rfl,h4⟩ | ⟨rfl,rfl,rfl,h4⟩
 · exact ranswer2_any s i b off cap l w (by omega) h4 hi hb hc
 · exact ranswer4_any s i b off cap l w (by omega) h4 hi hb hc
theorem BlsAt.below {w w':World} {b off:Nat} {l:List Bool} (h:BlsAt w b off l) (hb:b<w.heap.size) (hg:Below w.heap.size w w'):BlsAt w' b off l:=fun i x hx=>by
 have:=h i x hx;simp only [World.cell?] at this ⊢;rw [hg.block b hb];exact this
theorem below_set {B b i:Nat} {w w':World} {v:Value} (h:Below B w w') (hb:B≤b):Below B w (w'.setCell ⟨b,i,none⟩ v):=by
 have g:=grownBy_set w' b i v;exact ⟨g.os.trans h.os,g.tape.trans h.tape,g.output.trans h.output,Nat.le_trans h.size g.size,fun k hk=>(Below.heap_setCell _ _ _ k (by show k≠b;omega)).trans (h.block k hk)⟩
theorem below_grew {B:Nat} {w w' w'':World} (h:Below B w w') (hg:Grew w' w'') (hB:B≤w'.heap.size):Below B w w'' :=
 ⟨(hg.grownBy none).os.trans h.os,(hg.grownBy none).tape.trans h.tape,(hg.grownBy none).output.trans h.output,Nat.le_trans h.size hg.size,fun k hk=>(hg.block k (by omega)).trans (h.block k hk)⟩
set_option maxRecDepth 100000 in
set_option maxHeartbeats 3200000 in
theorem rparts_any (n:Int) (N m i b off tcap:Nat) (tl:List Bool) (a:Option Addr) (cap:Nat) (l:List Int) (w:World) (hn:(n=2∧N=2∧m=2∧tl.length=1)∨(n=4∧N=64∧m=4∧tl.length=6)) (hl:l.length≤9223372036854775807) (hok:okFrom N 0 l=true) (hc:NsA w a l) (hb:b<w.heap.size) (ht:BlsAt w b off tl) (hi:i<m) :
  Calls prog 39 #[.int .i64 n,.slice a l.length cap,.slice (some ⟨b,off,none⟩) tl.length tcap,.int .i64 i] w fun e w'=>e=.returned (.slice (some ⟨w.heap.size,0,none⟩) m m)∧OwnZ w' w.heap.size (some ⟨w.heap.size,0,none⟩) m (cntL m (fun s=>refA n (thB s tl) i) (l.map Int.toNat))∧Below w.heap.size w w':=by
 have HC:=hid hc;have HT:=hid fun s (hs:s<N) w' (hg:Below w.heap.size w w')=>ranswer_any n N m s i b off tcap tl w' hn hs hi (Nat.lt_of_lt_of_le hb hg.size) (ht.below hb hg)
 have HLT:=hid fun s=>refA_lt n N m _ hn (thB s tl) i hi
 have hm4:m≤4:=by omega
 have hN64:N≤64:=by omega
 obtain rfl:n=(m:Int):=by omega
 have HOK:=hid (ok_at hok);obtain ⟨f,hf⟩:∃ f,(fun s=>refA (m:Int) (thB s tl) i)=f:=⟨_,rfl⟩;have HT2:Hid (∀ s,s<N→∀ w',Below w.heap.size w w'→Calls prog 60 #[.int .i64 m,.int .i64 s,.slice (some ⟨b,off,none⟩) tl.length tcap,.int .i64 i] w' fun e w''=>e=.returned (.int .i64 (f s:Nat))∧Grew w' w''):=by rw [← hf];exact HT
 have HL2:Hid (∀ s,f s<m):=by rw [← hf];exact HLT
 rw [hf];clear hc HT HLT hn hok ht hf;obtain ⟨T,hTT⟩:∃ T,tl.length=T:=⟨_,rfl⟩;rw [hTT] at HT2 ⊢;clear hTT;have HM:=fun w=>mk_ints m (by omega) w
 have HON:=hid (own_new w (List.replicate m 0) (by simp;omega));rw [List.length_replicate] at HON;obtain ⟨Z,hZ⟩:∃ Z,(zCells (List.replicate m 0)).toArray=Z:=⟨_,rfl⟩;rw [hZ] at HM HON;clear hZ;have hB0:Hid (Below w.heap.size w (w.alloc (.cells Z 3))):=hid ((Grew.refl w).alloc _).below;go_enter func39,ntmps39
 go_wp2_with fail
 go_loopw [16] (fun v wr=>∃ q:Nat,q≤l.length∧v=.int .i64 q∧Hid (OwnZ wr w.heap.size (some ⟨w.heap.size,0,none⟩) m (cntL m f ((l.take q).map Int.toNat)))∧Hid (Below w.heap.size w wr)) (fun v _=>l.length - (intOf v).toNat)
 case atStart=>exact ⟨0,Nat.zero_le _,rfl,HON,hB0⟩
 case round =>
  obtain ⟨q,hq,rfl,hO,hB⟩:=hrel;by_cases hlt:q<l.length
  · obtain ⟨x,hx⟩:∃ x,l[q]? = some x:=⟨l[q],List.getElem?_eq_getElem hlt⟩
    have hxm:=HOK.out x (List.mem_of_getElem? hx);obtain ⟨X,rfl⟩:∃ X:Nat,x=X:=⟨x.toNat,by omega⟩;obtain ⟨b',off',rfl,hb',c0⟩:=(HC.out.below hB.out) q X hx;have etk:(l.take (q+1)).map Int.toNat=(l.take q).map Int.toNat++[X]:=by rw [List.take_add_one,hx];simp
    have hle:=cntL_le m f ((l.take q).map Int.toNat) (f X);have hlen:=cntL_len m f ((l.take q).map Int.toNat);rw [List.length_map,List.length_take] at hle;have hjm:=HL2.out X;have HA:=HT2.out X (by omega) wr hB.out;have hstep:=cntL_snoc m f ((l.take q).map Int.toNat) X;rw [← etk] at hstep;obtain ⟨cs,hcs⟩:∃ cs,cntL m f ((l.take q).map Int.toNat)=cs:=⟨_,rfl⟩;rw [hcs] at hO hle hlen hstep;obtain ⟨j,hj⟩:∃ j,f X=j:=⟨_,rfl⟩;rw [hj] at hle hjm HA hstep;obtain ⟨c,hcj⟩:∃ c,cs[j]? = some c:=⟨cs[j]'(by omega),List.getElem?_eq_getElem (by omega)⟩;have hcD:cs.getD j 0=c:=by rw [List.getD_eq_getElem?_getD,hcj];rfl
    unfold bump at hstep;rw [hcD] at hstep hle;have hc63:0≤c∧c≤9223372036854775806:=by omega
    obtain ⟨c1,f1⟩:=hO.out.at hcj;have hbo:=hO.out.lt;have HSTEP:=hid hstep;clear hstep hle hcs hcj hcD hj etk hx hxm hlen;obtain ⟨_,_⟩:=hc63;go_wp2_with fail
    refine HA.mono ?_;rintro e w' ⟨rfl,g,k,rfl⟩;go_wp2_with fail
    go_roundw
    case rel=>exact ⟨q+1,by omega,by go_num,hid (by rw [HSTEP.out];exact (hO.out.put j (c+1)).grew gw0),hid (below_grew (below_set hB.out (Nat.le_refl _)) gw0 (by have:=(grownBy_set wr w.heap.size j (.int .i64 (c+1))).size;omega))⟩
    case measure=>simp [intOf];omega
  · obtain rfl:q=l.length:=by omega
    rw [List.take_length] at hO;go_wp2_with fail
    exact bodyPost_ret (v:=.slice (some ⟨w.heap.size,0,none⟩) m m) (by simp [results,go_sem]) rfl ⟨rfl,hO.out,hB.out⟩
end Go.Proofs.Qm
