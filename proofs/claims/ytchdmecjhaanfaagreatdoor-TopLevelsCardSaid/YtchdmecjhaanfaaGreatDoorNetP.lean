import Derived.Test.YtchdmecjhaanfaaGreatDoorMshInv
import Derived.Test.YtchdmecjhaanfaaGreatDoorMshX
import Derived.Test.YtchdmecjhaanfaaGreatDoorNetD
import Derived.Test.YtchdmecjhaanfaaGreatDoorMshJ
import Derived.RangeFuncNested
import Derived.RangeFuncBox
import Derived.RangeFuncBound
import Derived.RangeFuncCalls
import Derived.RangeFuncLeaves
import Derived.WalkKit
import Derived.OwnWalkIn
import Derived.TacticsInMore
import Derived.LoopNIn
import Derived.LoopIn
import Derived.Shelf.Abstract
import Derived.Test.YtchdmecjhaanfaaGreatDoorNetL
import Derived.Test.YtchdmecjhaanfaaGreatDoorHouse
namespace Go.Proofs.YtchdmecjhaanfaaGreatDoor
open Go Go.RowKit Amp Msh
attribute [local go_sem] Oper.semAt_some
def bkF (n:Nat):Nat→List (Fin n)
 | 0=>[]
 | k+1=>bkF n k++(if h:n - 1 - k<n then [⟨n - 1 - k,h⟩] else [])
theorem bkF_length (n:Nat):∀ k,k≤n→(bkF n k).length=k
 | 0,_=>rfl
 | k + 1, h => by
   unfold bkF;rw [dif_pos (by omega),List.length_append,bkF_length n k (by omega)];rfl
theorem bkF_succ {n k j:Nat} (h:j<n) (hj:j+k+1=n):bkF n (k+1)=bkF n k++[⟨j,h⟩]:=by
 conv=>lhs;unfold bkF
 rw [dif_pos (by omega)]
 congr 3
 omega
def encR {m:Nat} (R:Nat→Value × Value × Value) (x:Fin m):Array Value:=#[.int .i64 x.1,.agg #[(R x.1).1,(R x.1).2.1,(R x.1).2.2]]
def RawAt (W:World) (b off m:Nat) (R:Nat→Value × Value × Value):Prop:=∀ i,i<m→W.cell? ⟨b,off+i*3,none⟩=some (R i).1∧W.cell? ⟨b,off+i*3+1,none⟩=some (R i).2.1∧W.cell? ⟨b,off+i*3+2,none⟩=some (R i).2.2
set_option maxHeartbeats 1000000 in
theorem backwardC_any (a:Option Addr) (len cap:Nat) (w:World) :
  Calls Tryz.prog 47 #[.slice a len cap] w fun e w'=>e=.returned (.func (.func 102) #[] #[.pointer (some ⟨w.heap.size,0,none⟩)])∧w'=w.alloc (.cells #[.slice a len cap] 22):=by
 go_enter Tryz.func47,Tryz.ntmps47
 go_wp2_with fail
 go_ret;exact ⟨rfl,rfl⟩
set_option maxRecDepth 100000 in
set_option maxHeartbeats 2000000 in
theorem backwardC1_in (F:Fence) (n:Nat) (hF:F.fn 102) (hro:F.round=none) (hn:1≤n) (l Bs n₀:Nat) (a0:Option Addr) (cap m:Nat) (hl:m≤5000) (R:Nat→Value × Value × Value) (J Jx:List (Fin m)→World→Prop)
  (hY:∀ pre x W,J pre W→pre.length<m→YieldAt F (n - 1) Tryz.prog l (encR R x) W fun e W' =>
    (e=.returned (.bool true)∧J (pre++[x]) W'∧KpB n₀ Bs W W')∨(e=.returned (.bool false)∧Jx (pre++[x]) W'))
  (W:World) (hBs:W.cell? ⟨Bs,0,none⟩=some (.slice a0 m cap)) (hc:m=0∨∃ b off:Nat,a0=some ⟨b,off,none⟩∧b<n₀∧RawAt W b off m R) (h0:J [] W) :
  CallsIn F n Tryz.prog 102 #[.func (.yield l) #[] #[],.pointer (some ⟨Bs,0,none⟩)] W fun e W'=>(∃ v,e=.returned v) ∧
   ((∃ ys,ys=bkF m m∧J ys W')∨(∃ pre,(∃ k,k≤m∧pre=bkF m k)∧Jx pre W')):=by
 refine callsIn_of_wp Tryz.func102 rfl hF ?_ hro;simp only [Tryz.ntmps102,List.size_toArray,List.length_cons,List.length_nil,Nat.reduceAdd,Nat.reduceSub,Array.replicate_succ,Array.replicate_zero,List.push_toArray,List.append_toArray,List.nil_append,List.cons_append]
 gi_wp2
 gi_loopw [3] (fun i wr=>∃ k:Nat,k≤m∧i=.int .i64 ((m:Int) - 1 - k)∧J (bkF m k) wr∧KpB n₀ Bs W wr)
  (fun i _=>(intOf i+1).toNat)
 case atStart=>exact ⟨0,Nat.zero_le _,by simp,h0,Below.refl _ _,rfl⟩
 case round =>
  obtain ⟨k,hk,rfl,hJs,hnx⟩:=hrel;have hBx:=(cell_of_block (i:=0) hnx.2).trans hBs;by_cases hlt:k<m
  · obtain ⟨j,hj⟩:∃ j:Nat,j+k+1=m:=⟨m - 1 - k,by omega⟩
    have hji:(m:Int) - 1 - k=j:=by omega
    have hjl:j<m:=by omega
    have hbk:=bkF_succ hjl hj;obtain ⟨b,off,rfl,hb,hcs⟩:∃ b off:Nat,a0=some ⟨b,off,none⟩∧b<n₀∧RawAt W b off m R:=by
     rcases hc with rfl | h
     · omega
     · exact h
    obtain ⟨c0,c1,c2⟩:=hcs j hjl;have c0:=(hnx.1.cell (p:=⟨b,_,none⟩) hb).trans c0;have c1:=(hnx.1.cell (p:=⟨b,_,none⟩) hb).trans c1;have c2:=(hnx.1.cell (p:=⟨b,_,none⟩) hb).trans c2;obtain ⟨fn,tmps,assign,body,hy,hR⟩:=hY _ ⟨j,hjl⟩ wr hJs (by rw [bkF_length m k hk];exact hlt);simp only [encR] at hy;obtain ⟨⟨v0,v1,v2⟩,hv⟩:∃ v,R j=v:=⟨_,rfl⟩;rw [hv] at c0 c1 c2 hy;dsimp only at c0 c1 c2 hy;have HBK:=hid hbk;have HJ:=hid (And.intro hj hji);have HL:=hid hl;have hp:0≤(j:Int):=by omega
    have hjm:(j:Int)<m:=by omega
    have HW:=hid (show wrap64 ((j:Int) - 1)=j - 1 by unfold wrap64;omega);rw [hji];clear hbk hj hcs hc hk hl hji hlt hv
    gi_wp2
    refine hR.mono ?_;rintro e W3 (⟨rfl,hJ3,hk3⟩ | ⟨rfl,hJx3⟩)
    · gi_wp2
      go_roundw
      case rel=>exact ⟨k+1,by have:=HJ.out;omega,by have:=HJ.out;rw [HW.out];congr 1;omega,by rw [HBK.out];exact hJ3,hnx.trans hk3⟩
      case measure=>simp only [intOf];rw [HW.out];omega
    · gi_wp2
      refine bodyPost_ret (results_none rfl _ _ _) rfl ?_;exact ⟨⟨_,rfl⟩,.inr ⟨_,⟨k+1,by have:=HJ.out;omega,HBK.out.symm⟩,hJx3⟩⟩
  · obtain rfl:k=m:=by omega
    rw [show (k:Int) - 1 - k=-1 by omega]
    gi_wp2
    go_end0
    exact ⟨⟨_,rfl⟩,.inl ⟨_,rfl,hJs⟩⟩
theorem backwardC_stops (F:Fence) (n:Nat) (hF:F.fn 102) (hro:F.round=none) (hn:1≤n) (Bs n₀:Nat) (a0:Option Addr) (cap m:Nat) (hl:m≤5000) (R:Nat→Value × Value × Value) (w:World) (hBs:Bs<w.heap.size) (hn₀:n₀≤w.heap.size)
  (hx:w.cell? ⟨Bs,0,none⟩=some (.slice a0 m cap)) (hc:m=0∨∃ b off:Nat,a0=some ⟨b,off,none⟩∧b<n₀∧RawAt w b off m R) :
  SeqStopsK F n Tryz.prog 102 #[.pointer (some ⟨Bs,0,none⟩)] (encR (m:=m) R) (KpB n₀ Bs) (fun ys=>ys=bkF m m) (fun _=>True) m w:=fun l J Jx W hW _ _ hY h0=>by
 refine (backwardC1_in F n hF hro hn l Bs n₀ a0 cap m hl R J Jx hY W ((hW.cell (p:=⟨Bs,0,none⟩) hBs).trans hx) ?_ h0).mono ?_
 · rcases hc with h | ⟨b,off,rfl,hb,hcs⟩
   · exact .inl h
   · refine .inr ⟨b,off,rfl,hb,fun i hi=>?_⟩
     obtain ⟨c0,c1,c2⟩:=hcs i hi;have hb':b<w.heap.size:=by omega
     exact ⟨(hW.cell (p:=⟨b,_,none⟩) hb').trans c0,(hW.cell (p:=⟨b,_,none⟩) hb').trans c1,(hW.cell (p:=⟨b,_,none⟩) hb').trans c2⟩
 · rintro e W' ⟨he,⟨ys,rfl,hj⟩ | ⟨pre,_,hj⟩⟩
   · exact ⟨he,.inl ⟨_,rfl,hj⟩⟩
   · exact ⟨he,.inr ⟨_,trivial,hj⟩⟩
theorem Net.raw {w:World} {a0:Option Addr} {L:List Cl} (h:Net w a0 L) (h1:1≤L.length):∃ (R:Nat→Value × Value × Value) (b off:Nat),a0=some ⟨b,off,none⟩∧b<w.heap.size∧RawAt w b off L.length R∧∀ i c,L[i]? = some c→∃ (a':Option Addr) (k':Nat),R i=(.string c.name,.int .i64 c.gd,.slice a' c.items.length k')∧Its w a' c.items:=by
 obtain ⟨z,hz⟩:∃ z,L[0]? = some z:=⟨L[0],List.getElem?_eq_getElem h1⟩;obtain ⟨b,off,rfl,hb,_⟩:=h.cells hz;refine ⟨fun i=>((w.cell? ⟨b,off+i*3,none⟩).getD undef,(w.cell? ⟨b,off+i*3+1,none⟩).getD undef,(w.cell? ⟨b,off+i*3+2,none⟩).getD undef),b,off,rfl,hb,fun i hi=>?_,fun i c hc=>?_⟩
 · obtain ⟨_,_,e,_,c0,c1,a',k',c2,_⟩:=h.cells (List.getElem?_eq_getElem hi)
   injection e with e;injection e with e1 e2 e3;subst e1;subst e2;dsimp only;rw [c0,c1,c2];exact ⟨rfl,rfl,rfl⟩
 · obtain ⟨_,_,e,_,c0,c1,a',k',c2,hi⟩:=h.cells hc
   injection e with e;injection e with e1 e2 e3;subst e1;subst e2;refine ⟨a',k', ?_,hi⟩;dsimp only;rw [c0,c1,c2];rfl
theorem usP_bk {L:List Cl} {n:Nat} (S:List Int):∀ k,k≤n→usP L (n - k) ((bkF n k).foldl (fun S x=>(itsAt L x.1).foldl (usrP L x.1) S) S)=usP L n S
 | 0,_=>rfl
 | k + 1, hk => by
   rw [← usP_bk S k (by omega),bkF_succ (show n - k - 1<n by omega) (by omega),List.foldl_append];conv=>rhs;rw [show n - k=(n - k - 1)+1 by omega]
   rfl
set_option maxHeartbeats 800000 in
theorem max_any (S:List Int) (a:Option Addr) (cap:Nat) (w:World) (hl:S.length≤5000) (h1:1≤S.length) (hc:Ins w a S) :
  Calls Tryz.prog 48 #[.slice a S.length cap] w fun e w'=>e=.returned (.int .i64 (mxL S))∧Grew w w':=by
 obtain ⟨z,hz⟩:∃ z,S[0]? = some z:=⟨S[0],List.getElem?_eq_getElem h1⟩;obtain ⟨b,off,rfl,hb,c0⟩:=hc.cells hz;have HC:=hid hc;have HM:Hid (mxL S=S.foldl max z):=hid (by unfold mxL;rw [List.getD_eq_getElem?_getD,hz];rfl);have H0:=hid (show (S.take 1).foldl max z=z by rw [show S.take 1=[z] by rw [List.take_add_one,hz];rfl];show max z z=z;omega);have hl1:(0:Int)<S.length:=by omega
 have hl2:¬ (S.length:Int)<1:=by omega
 have hl3:0<S.length:=h1;rw [Nat.add_zero] at c0;clear hc hz;go_enter Tryz.func48,Tryz.ntmps48
 go_wp2_with fail
 go_loop [3,4] (fun x i=>∃ k:Nat,1≤k∧k≤S.length∧i=.int .i64 k∧x=.int .i64 ((S.take k).foldl max z)) (fun _ i=>S.length - (intOf i).toNat)
 case atStart=>exact ⟨1,Nat.le_refl _,h1,rfl,by rw [H0.out]⟩
 case round =>
  obtain ⟨k,hk1,hk,rfl,rfl⟩:=hrel;by_cases hlt:k<S.length
  · obtain ⟨y,hy⟩:∃ y,S[k]? = some y:=⟨S[k],List.getElem?_eq_getElem hlt⟩
    obtain ⟨b',off',e,_,c1⟩:=HC.out.cells hy;injection e with e;injection e with e1 e2 e3;subst e1;subst e2;have HS:=hid (show (S.take (k+1)).foldl max z=max ((S.take k).foldl max z) y by rw [List.take_add_one,hy,Option.toList,List.foldl_append];rfl);obtain ⟨M,hM⟩:∃ M,(S.take k).foldl max z=M:=⟨_,rfl⟩;rw [hM] at HS ⊢;have hki:(k:Int)<S.length:=by omega
    clear hy e3 hM c0;by_cases hm:M<y;all_goals
     go_wp2_with fail
     go_round
     case rel=>exact ⟨k+1,by omega,by omega,by go_num,by rw [HS.out];congr 1;omega⟩
     case measure=>simp [intOf];omega
  · obtain rfl:k=S.length:=by omega
    clear c0;go_wp2_with fail
    go_ret;exact ⟨ret_int (by rw [HM.out]),Grew.refl _⟩
open Go Go.RowKit Amp Msh
attribute [local go_sem] Oper.semAt_some
def stepU (L:List Cl) (n:Nat) (S:List Int) (x:Fin n):List Int:=(itsAt L x.1).foldl (usrP L x.1) S
def usA (L:List Cl) (n:Nat) (pre:List (Fin n)):List Int:=pre.foldl (stepU L n) (us0 n)
structure UsAt (lo bO kO:Nat) (W0 W:World) (S:List Int) (wr:World):Prop where
 from0:W0.grownBy wr (some bO)
 own:OwnZ wr lo (some ⟨bO,0,none⟩) kO S
 keep:KeepsOthers W wr
theorem UsAt.grow {lo bO kO:Nat} {W0 W wr wr':World} {S:List Int} (h:UsAt lo bO kO W0 W S wr) (g:Grew wr wr'):UsAt lo bO kO W0 W S wr' :=
 ⟨⟨(g.grownBy none).os.trans h.from0.os, (g.grownBy none).tape.trans h.from0.tape, (g.grownBy none).output.trans h.from0.output, Nat.le_trans h.from0.size g.size, fun k hk hn => (g.block k (Nat.lt_of_lt_of_le hk h.from0.size)).trans (h.from0.block k hk hn)⟩,
   h.own.grew g,⟨Nat.le_trans h.keep.size g.size,fun k o hk ho=>(g.block k (Nat.lt_of_lt_of_le (Array.getElem?_eq_some_iff.1 hk).1 h.keep.size)).trans (h.keep.same k o hk ho)⟩⟩
theorem UsAt.put {lo bO kO:Nat} {W0 W wr:World} {S:List Int} (h:UsAt lo bO kO W0 W S wr) (i:Nat) (z:Int):UsAt lo bO kO W0 W (S.set i z) (wr.setCell ⟨bO,i,none⟩ (.int .i64 z)):=by
 have g:=grownBy_set wr bO i (.int .i64 z);refine ⟨⟨g.os.trans h.from0.os,g.tape.trans h.from0.tape,g.output.trans h.from0.output,Nat.le_trans h.from0.size g.size,fun k hk hn=>(g.block k (Nat.lt_of_lt_of_le hk h.from0.size) hn).trans (h.from0.block k hk hn)⟩,h.own.put i z,h.keep.trans (KeepsOthers.setCell wr ⟨bO,i,none⟩ (.int .i64 z))⟩
theorem UsAt.its {lo bO kO:Nat} {W0 W wr w:World} {S:List Int} {a:Option Addr} {l:List It} (h:UsAt lo bO kO W0 W S wr) (hi:Its w a l) (g:Grew w W0) (hb:w.heap.size≤bO):Its wr a l:=by
 rcases hi with rfl | ⟨b,off,rfl,hlt,hc⟩
 · exact .inl rfl
 refine .inr ⟨b,off,rfl,Nat.lt_of_lt_of_le hlt (Nat.le_trans g.size h.from0.size),fun i z hz=>?_⟩;obtain ⟨c0,c1,c2,c3⟩:=hc i z hz;have e:wr.heap[b]? = w.heap[b]? := (h.from0.block b (Nat.lt_of_lt_of_le hlt g.size) (fun e=>by injection e with e;omega)).trans (g.block b hlt);simp only [World.cell?] at *
 rw [e];exact ⟨c0,c1,c2,c3⟩
theorem UsAt.map {lo bO kO bm nn:Nat} {W0 W wr:World} {S:List Int} {f:ByteArray→Option Value} (h:UsAt lo bO kO W0 W S wr) (hm:MapV W0 bm nn f) (hne:bm≠bO):MapV wr bm nn f:=hm.kept h.from0 (fun e=>hne (by injection e))
theorem usA_snoc (L:List Cl) (n:Nat) (pre:List (Fin n)) (x:Fin n):usA L n (pre++[x])=(itsAt L x.1).foldl (usrP L x.1) (usA L n pre):=by
 unfold usA;rw [List.foldl_append];rfl
theorem usA_length (L:List Cl) (n:Nat) (pre:List (Fin n)):(usA L n pre).length=n:=by
 unfold usA;have h:∀ (l:List (Fin n)) (S:List Int),(l.foldl (stepU L n) S).length=S.length:=by
  intro l
  induction l with
  | nil=>intro S;rfl
  | cons x l ih=>intro S;exact (ih _).trans (foldP_length L x.1 _ S)
 rw [h];simp [us0]
theorem usA_bk {L:List Cl}:usA L L.length (bkF L.length L.length)=usP L L.length (us0 L.length):=by
 have h:=usP_bk (L:=L) (n:=L.length) (us0 L.length) L.length (Nat.le_refl _);rw [Nat.sub_self] at h;exact h
def UsB (S:List Int):Prop:=∀ s∈S,0≤s∧s≤1000000000001
theorem UsB.get {S:List Int} (h:UsB S) (j:Nat):0≤S.getD j 0∧S.getD j 0≤1000000000001:=by
 rw [List.getD_eq_getElem?_getD];cases hj:S[j]? with
 | none=>simp
 | some t=>simpa using h t (List.mem_of_getElem? hj)
theorem UsB.step {L:List Cl} {i:Nat} {S:List Int} (h:UsB S) (x:It):UsB (usrP L i S x):=by
 unfold usrP;split
 · intro s hs
   rcases List.mem_or_eq_of_mem_set hs with hs | rfl
   · exact h s hs
   · have h1:=h.get (jx L x)
     have h2:=h.get i;omega
 · exact h
theorem UsB.fold {L:List Cl} {i:Nat}:∀ (l:List It) {S:List Int},UsB S→UsB (l.foldl (usrP L i) S)
 | [],_,h=>h
 | x::l,_,h=>UsB.fold l (h.step x)
theorem usA_b (L:List Cl) (n:Nat):∀ pre:List (Fin n),UsB (usA L n pre):=by
 have h:∀ (l:List (Fin n)) (S:List Int),UsB S→UsB (l.foldl (stepU L n) S):=by
  intro l
  induction l with
  | nil=>intro S h;exact h
  | cons x l ih=>intro S h;exact ih _ (h.fold _)
 intro pre;refine h pre _ fun s hs=>?_
 unfold us0 at hs;rcases List.mem_or_eq_of_mem_set hs with hs | rfl
 · rw [(List.mem_replicate.1 hs).2];omega
 · omega
def UseP (R:List Int × Int) (w:World) (e:Ending) (w':World):Prop:=(∃ (a2:Option Addr) (k2:Nat),e=.returned (.tuple #[.slice a2 R.1.length k2,.int .i64 R.2])∧OwnZ w' w.heap.size a2 k2 R.1)∧Below w.heap.size w w'
set_option maxHeartbeats 800000 in
theorem uses_bad (a0:Option Addr) (cap:Nat) (L:List Cl) (w:World) (hl:L.length≤9223372036854775807) (hN:Net w a0 L) (hk:CsOk L) (hv:vnet L=false) :
  Calls Tryz.prog 24 #[.slice a0 L.length cap] w (UseP (usesN L) w):=by
 have HV:=hid (fun w' (hg:Grew w w')=>vnetP_any a0 cap L w' hl (hN.grew hg) hk);rw [hv] at HV;have HR:Hid (usesN L=([],30)):=hid (by unfold usesN;rw [if_neg (by rw [hv];exact Bool.false_ne_true)]);clear hv hN;go_enter Tryz.func24,Tryz.ntmps24
 go_wp2_with (go_at_call 20;refine (HV.out _ gw0).mono ?_;rintro e w1 ⟨rfl,g,n,rfl⟩)
 go_ret2
 rw [HR.out];exact ⟨⟨none,0,rfl,OwnZ.nil _ _⟩,Grew.below gw0⟩
theorem map_block {w:World} {b n:Nat} {f:ByteArray→Option Value} (h:MapV w b n f):∃ es clock,w.heap[b]? = some (.map es clock):=by
 exact k72_
structure UsS (L:List Cl) (bN oN cap b4 b5 b8 bm g:Nat) (w W0:World):Prop where
 at_:W0.heap[b4]? = some (.cells #[.map (some bm)] 53)
 out:W0.heap[b5]? = some (.cells #[.slice (some ⟨g,0,none⟩) L.length L.length] 55)
 net:W0.heap[b8]? = some (.cells #[.slice (some ⟨bN,oN,none⟩) L.length cap] 22)
 own:OwnZ W0 w.heap.size (some ⟨g,0,none⟩) L.length (us0 L.length)
 map:MapV W0 bm L.length (ixV L)
 grew:Grew w W0
 low:w.heap.size≤g
theorem us_start {L:List Cl} {bN oN cap b4 bm g nL:Nat} {w W2:World} (h4:W2.heap[b4]? = some (.cells #[.map (some bm)] 53)) (h4g:b4≠g) (hZ:OwnZ W2 g (some ⟨g,0,none⟩) L.length (List.replicate L.length 0)) (hm:MapV W2 bm L.length (ixV L)) (hg:Grew w W2) (hlo:w.heap.size<g) (hn:L.length - 1=nL) :
  UsS L bN oN cap b4 W2.heap.size (W2.heap.size+1) bm g w (((W2.setCell ⟨g,nL,none⟩ (.int .i64 1)).alloc (.cells #[.slice (some ⟨g,0,none⟩) L.length L.length] 55)).alloc (.cells #[.slice (some ⟨bN,oN,none⟩) L.length cap] 22)):=by
 have z4:=(Array.getElem?_eq_some_iff.1 h4).1;have hO:=OwnZ.put hZ nL 1;have e0:(List.replicate L.length (0:Int)).set nL 1=us0 L.length:=by unfold us0;rw [hn]
 rw [e0] at hO;have hm1:MapV (W2.setCell ⟨g,nL,none⟩ (.int .i64 1)) bm L.length (ixV L):=by
  obtain ⟨⟨cs,hb⟩,_⟩:=hZ.lay;exact hm.setCell (fun e=>by
   obtain ⟨es,ck,h1⟩:=map_block hm;rw [show bm=g from e,hb] at h1;cases h1) _
 have hg1:Grew w (W2.setCell ⟨g,nL,none⟩ (.int .i64 1)):=hg.set (by omega) _ _;have h41:=(heap_setCell_other W2 ⟨g,nL,none⟩ b4 (.int .i64 1) h4g).trans h4;have e6:(W2.setCell ⟨g,nL,none⟩ (.int .i64 1)).heap.size=W2.heap.size:=by simp [go_sem]
 obtain ⟨S,hS⟩:∃ S,W2.setCell ⟨g,nL,none⟩ (.int .i64 1)=S:=⟨_,rfl⟩;rw [hS] at hO hm1 hg1 h41 e6 ⊢;have gg:Grew S ((S.alloc (.cells #[.slice (some ⟨g,0,none⟩) L.length L.length] 55)).alloc (.cells #[.slice (some ⟨bN,oN,none⟩) L.length cap] 22)):=((Grew.refl S).alloc _).alloc _;have b5e:(S.alloc (.cells #[.slice (some ⟨g,0,none⟩) L.length L.length] 55)).heap[W2.heap.size]? = some (.cells #[.slice (some ⟨g,0,none⟩) L.length L.length] 55):=blk_new e6.symm;refine ⟨(gg.block _ (Array.getElem?_eq_some_iff.1 h41).1).trans h41,(((Grew.refl _).alloc _).block _ (Array.getElem?_eq_some_iff.1 b5e).1).trans b5e,blk_new (by simp [go_sem,e6]), ?_,hm1.grew gg,hg1.trans gg,by omega⟩;exact World.ownsRow.mono (hO.grew gg) (by omega)
theorem UsS.row {L:List Cl} {bN oN cap b4 b5 b8 bm g:Nat} {w W0:World} (h:UsS L bN oN cap b4 b5 b8 bm g w W0):g<W0.heap.size∧bm≠g∧b4≠g∧b5≠g∧b8≠g:=by
 obtain ⟨⟨cs,hb⟩,_⟩:=h.own.lay;refine ⟨h.own.lt, ?_, ?_, ?_, ?_⟩
 · rintro rfl
   obtain ⟨es,ck,h1⟩:=map_block h.map;rw [hb] at h1;cases h1
 · rintro rfl
   have h1:=h.at_;rw [hb] at h1;simp at h1
 · rintro rfl
   have h1:=h.out;rw [hb] at h1;simp at h1
 · rintro rfl
   have h1:=h.net;rw [hb] at h1;simp at h1
set_option maxRecDepth 100000 in
set_option maxHeartbeats 4000000 in
theorem uses_main (a0:Option Addr) (cap:Nat) (L:List Cl) (w:World) (hl:L.length≤9223372036854775807) (hN:Net w a0 L) (hk:CsOk L) (hv:vnet L=true) :
  Calls Tryz.prog 24 #[.slice a0 L.length cap] w (UseP (usesN L) w):=by
 refine (callsIn_wide (n:=9)).1 ?_;have HV:=hid (fun w' (hg:Grew w w')=>vnetP_any a0 cap L w' hl (hN.grew hg) hk);rw [hv] at HV;have HP:=hid (fun w' (hg:Grew w w')=>places_any a0 cap L w' (hN.grew hg) hk hv);obtain ⟨h1,h20⟩:=(vnet_all hv).1;have HR:=hid (show usesN L=if 1000000000000<mxL (usP L L.length (us0 L.length)) then ([],4) else (usP L L.length (us0 L.length),0) by unfold usesN;rw [if_pos hv]);obtain ⟨R,bN,oN,rfl,hbN,hRaw,hRI⟩:=hN.raw h1;have HRAW:=hid (And.intro hbN (And.intro hRaw hRI));have HK:=hid hk;have HVT:=hid hv;have hn1:wrap64 ((L.length:Int) - 1)=((L.length - 1:Nat):Int):=by unfold wrap64;omega
 have hn2:(L.length:Int) - 1=((L.length - 1:Nat):Int):=by omega
 obtain ⟨nL,hnL⟩:∃ n,L.length - 1=n:=⟨_,rfl⟩;rw [hnL] at hn1 hn2;have HNL:=hid hnL;have hnl:(nL:Int)<L.length:=by omega
 clear hN hk hv hbN hRaw hRI hnL;refine callsIn_of_wp_marks Tryz.func24 rfl trivial ?_ rfl;refine wpIn_wide.2 ?_;simp only [Tryz.ntmps24,List.size_toArray,List.length_cons,List.length_nil,Nat.reduceAdd,Nat.reduceSub,Array.replicate_succ,Array.replicate_zero,List.push_toArray,List.append_toArray,List.nil_append,List.cons_append];go_wp2_with (first | (go_at_call 20;refine (HV.out _ gw0).mono ?_;rintro e w1 ⟨rfl,g,n,rfl⟩) | (go_at_call 21;refine (HP.out _ gw0).mono ?_;rintro e w3 ⟨⟨bm,rfl,hbm,hM⟩,hg3⟩;have HM:=hid hM;have HG3:=hid (show Grew w w3 from Grew.trans gw0 hg3);clear hM hg3 hbm) | (at_make;go_loud (refine wpList_make_z rfl _ _ rfl L.length _ _ rfl rfl rfl rfl (by omega) ?_)))
 intro W2 hZ hg2 hs2;obtain ⟨g,hgq⟩:∃ g,g=w3.heap.size+1:=⟨_,rfl⟩;rw [← hgq] at hZ hs2 ⊢;have y4:W2.heap[w3.heap.size]? = some (.cells #[.map (some bm)] 53):=(hg2.block _ (by simp [go_sem])).trans (blk_new rfl);obtain ⟨yG,fG⟩:=hZ.at (i:=nL) (z:=0) (by rw [List.getElem?_replicate,if_pos (by have:=HNL.out;omega)]);have zG:=hZ.lt;have HZ:=hid hZ;have HG2:=hid (HG3.out.trans (Grew.trans gw0 hg2));have HY4:=hid y4;have HGL:=hid (show w.heap.size<g by have:=HG3.out.size;omega);have HGQ:=hid hgq;clear hgq;have HM2:=hid (HM.out.grew (Grew.trans gw0 hg2));clear hZ hg2 hs2 y4 HM;have zG1:=fun m0:Nat=>Nat.lt_add_right m0 (zG)
 have zG2:=fun m0 m1:Nat=>Nat.lt_add_right m1 (zG1 m0)
 have zG3:=fun m0 m1 m2:Nat=>Nat.lt_add_right m2 (zG2 m0 m1)
 go_wp2_with (go_at_call 47;refine (backwardC_any _ _ _ _).mono ?_;rintro e w' ⟨rfl,rfl⟩)
 have HSS:=hid (us_start (bN:=bN) (oN:=oN) (cap:=cap) HY4.out (by have:=HGQ.out;omega) HZ.out HM2.out HG2.out HGL.out HNL.out);refine any_of (fun W0=>UsS L bN oN cap w3.heap.size W2.heap.size (W2.heap.size+1) bm g w W0) HSS.out ?_;intro W0 hS0;obtain ⟨b4,hb4⟩:∃ b,w3.heap.size=b:=⟨_,rfl⟩;obtain ⟨b5,hb5⟩:∃ b,W2.heap.size=b:=⟨_,rfl⟩;obtain ⟨b8,hb8⟩:∃ b,b5+1=b:=⟨_,rfl⟩;rw [hb4,hb5,hb8] at hS0;rw [hb4,hb5,hb8];obtain ⟨r0,rm,r4,r5,r8⟩:=hS0.row;have q8:=(Array.getElem?_eq_some_iff.1 hS0.net).1;have x8:W0.cell? ⟨b8,0,none⟩=some (.slice (some ⟨bN,oN,none⟩) L.length cap):=by simp [World.cell?,hS0.net]
 have hlo:=hS0.grew.size;have HS0:=hid hS0;have hraw:RawAt W0 bN oN L.length R:=fun i hi=>by
  obtain ⟨c0,c1,c2⟩:=HRAW.out.2.1 i hi;have e:=hS0.grew.cell HRAW.out.1;exact ⟨(e _).trans c0,(e _).trans c1,(e _).trans c2⟩
 clear HSS HZ HM2 HY4 hb4 hb5 hb8 yG fG zG zG1 zG2 zG3 hS0;refine (wpIn_wide (n:=9)).1 ?_;refine wpIn_rangeFunc_ownH rfl (by decide) (gf:=102) (lb:=#[.pointer (some ⟨b8,0,none⟩)]) rfl trivial (enters_of Tryz.func102 (by kernel_rfl) rfl)
  (backwardC_stops Fence.wide 8 trivial rfl (by decide) b8 w.heap.size (some ⟨bN,oN,none⟩) cap L.length (by omega) R W0 q8 hlo x8 (.inr ⟨bN,oN,rfl,HRAW.out.1,hraw⟩)) (fun h k=>KpB.trans h k) (KpB.put (by omega) (by omega)) (Below.refl _ _) (fun _=>rfl)
  (fun pre W=>W0.grownBy W (some g)∧OwnZ W w.heap.size (some ⟨g,0,none⟩) L.length (usA L L.length pre))
  (fun _ _ _=>False)
  (fun pre X Y row hs hg hr=>⟨⟨hg.os.trans hs.1.os,hg.tape.trans hs.1.tape,hg.output.trans hs.1.output,Nat.le_trans hs.1.size hg.size,fun k hk hn=>(hg.block k (Nat.lt_of_lt_of_le hk hs.1.size) (fun e=>by have:=(hr k e.symm).1;omega)).trans (hs.1.block k hk hn)⟩,hs.2.by hg (fun e=>by have:=(hr g e.symm).1;omega)⟩)
  (fun _ _ _ _ _ hs _ _=>hs)
  ⟨World.grownBy.refl _ _,HS0.out.own⟩
  (fun x a' W=>∃ Bx:Nat,W0.heap.size≤Bx∧W.heap[Bx]? = some (.cells #[(R x.1).1,(R x.1).2.1,(R x.1).2.2] 28)∧a'={ tmps:=#[.slice (some ⟨bN,oN,none⟩) L.length cap,undef,.slice none 0 0,.int .i64 0,.pointer (some ⟨b4,0,none⟩),.pointer (some ⟨b5,0,none⟩),.int .i64 x.1,.pointer (some ⟨Bx,0,none⟩),undef,undef,.slice (some ⟨bN,oN,none⟩) L.length cap,.bool true,.bool false,.slice (some ⟨bN,oN,none⟩) L.length cap,.map (some bm),.slice (some ⟨bN,oN,none⟩) L.length cap,.int .i64 L.length,.slice (some ⟨g,0,none⟩) L.length L.length,.slice (some ⟨g,0,none⟩) L.length L.length,.slice (some ⟨bN,oN,none⟩) L.length cap,.int .i64 L.length,.int .i64 nL,.pointer (some ⟨g,nL,none⟩),.slice (some ⟨bN,oN,none⟩) L.length cap,.func (.func 102) #[] #[.pointer (some ⟨b8,0,none⟩)],.int .i64 x.1,.agg #[(R x.1).1,(R x.1).2.1,(R x.1).2.2],undef,undef,undef,undef,undef,undef,undef,undef,undef,undef,undef,undef,undef,undef,undef,undef,undef,undef,undef,undef,undef,undef,undef,undef,undef,undef,undef,undef,undef,undef,undef,undef,undef,undef],defers:=[] })
  (fun x a' _ X Y row ⟨Bx,h1,h2,h3⟩ hg hr=>⟨Bx,h1,kept_cells h2 rfl hg hr,h3⟩) ?assign ?body ?done ?stop
 case assign =>
  rintro l pre x W K ⟨hW,hO⟩ hK;obtain ⟨c,hc⟩:∃ c,L[x.1]? = some c:=⟨L[x.1],List.getElem?_eq_getElem x.2⟩;obtain ⟨a',k',hR,_⟩:=HRAW.out.2.2 x.1 c hc;simp only [encR];simp only [hR] at hK ⊢;clear hc hR
  gi_wp2
  have gq:=(Grew.refl W).alloc (.cells #[.string c.name,.int .i64 c.gd,.slice a' c.items.length k'] 28);exact hK _ _ ((KeepsOthers.alloc _ _).from _) ⟨(Below.refl _ W).alloc (Nat.le_trans hlo hW.size) _,Below.heap_alloc _ _ _ (Nat.lt_of_lt_of_le q8 hW.size)⟩ ⟨⟨hW.os,hW.tape,hW.output,Nat.le_trans hW.size gq.size,fun k hk hn=>(gq.block k (Nat.lt_of_lt_of_le hk hW.size)).trans (hW.block k hk hn)⟩,hO.grew gq⟩ ⟨W.heap.size,hW.size,World.alloc_heap_new W _,rfl⟩
 case body =>
  rintro l pre x a' W hl' ⟨r,hr⟩ ⟨hW,hO⟩ ⟨Bx,hBx,hX,rfl⟩ hlt;obtain ⟨c,hc⟩:∃ c,L[x.1]? = some c:=⟨L[x.1],List.getElem?_eq_getElem x.2⟩;obtain ⟨ai,ki,hRx,hits⟩:=HRAW.out.2.2 x.1 c hc;rw [hRx] at hX ⊢;have hix:∀ y:It,y∈c.items→y.kind=4→jx L y<x.1∧nmO y.name 0 L=jx L y∧jx L y<L.length:=fun y=>cell_ix HVT.out hc
  have k5:=(HK.out.at hc).2.2;have hl200:=(vcell_iff.1 ((vnet_all HVT.out).2 x.1 c hc)).2.2.2.1;have hus:=usA_snoc L L.length pre x;rw [itsAt_some hc] at hus;have hBl:=(Array.getElem?_eq_some_iff.1 hX).1;have k2:W.cell? ⟨Bx,2,none⟩=some (.slice ai c.items.length ki):=by simp [World.cell?,hX]
  have hSB:=usA_b L L.length pre;have hSL:=usA_length L L.length pre;obtain ⟨its,hits0⟩:∃ l,c.items=l:=⟨_,rfl⟩;obtain ⟨S0,hS0'⟩:∃ S,usA L L.length pre=S:=⟨_,rfl⟩;rw [hits0] at hus k2 k5 hl200 hits hix ⊢;rw [hS0'] at hus hO hSB hSL;have HUS:=hid hus;have HIT:=hid hits;have HIX:=hid hix;have HSZ:=hid k5;have HSB:=hid hSB;have HSL:=hid hSL;have HW:=hid (show UsAt w.heap.size g L.length W0 W S0 W from ⟨hW,hO,KeepsOthers.refl W⟩);have HLT:=hid hlt;have HWW:=hid hW;have hxn:(x.1:Int)<L.length:=by have:=x.2;omega
  have HXN:=hid x.2;obtain ⟨ix,hixx⟩:∃ i,x.1=i:=⟨_,rfl⟩;have HXX:=hid hixx;rw [hixx] at hxn HXN HUS HIX ⊢;clear hc hRx hits hix k5 hus hits0 hS0' hSB hSL hO hW hlt hr hl' hX hixx
  gi_wp2
  clear k2 hBl;obtain ⟨wR,hwR⟩:∃ wR,wR=W:=⟨_,rfl⟩;subst W
  gi_loopw [30] (fun v wr=>∃ q:Nat,q≤its.length∧v=.int .i64 q∧Hid (UsAt w.heap.size g L.length W0 wR ((its.take q).foldl (usrP L ix) S0) wr)) (fun v _=>its.length - (intOf v).toNat)
  case atStart=>exact ⟨0,Nat.zero_le _,rfl,HW⟩
  case round =>
   obtain ⟨q,hq,rfl,HQ⟩:=hrel;by_cases hltq:q<its.length
   case neg =>
    obtain rfl:q=its.length:=by omega
    have hs:=HQ.out;rw [List.take_length,← HUS.out] at hs;have HE:=hid hs;clear hs HQ
    gi_wp2
    have h8:wr.heap[b8]? = wR.heap[b8]? := (HE.out.from0.block b8 q8 (fun e=>r8 (by injection e))).trans (HWW.out.block b8 q8 (fun e=>r8 (by injection e))).symm;exact ⟨HE.out.keep.from _,⟨⟨HE.out.from0.os.trans HWW.out.os.symm,HE.out.from0.tape.trans HWW.out.tape.symm,HE.out.from0.output.trans HWW.out.output.symm,HE.out.keep.size,fun k hk=>(HE.out.from0.block k (by omega) (fun e=>by injection e with e;have:=HS0.out.low;omega)).trans (HWW.out.block k (by omega) (fun e=>by injection e with e;have:=HS0.out.low;omega)).symm⟩,h8⟩,HE.out.from0,HE.out.own⟩
   case pos =>
    obtain ⟨y,hy⟩:∃ y,its[q]? = some y:=⟨its[q],List.getElem?_eq_getElem hltq⟩;obtain ⟨bi,oi,rfl,hbi,d0,d1,d2,d3⟩:=(HQ.out.its HIT.out HS0.out.grew HS0.out.low).cells hy;have hym:=List.mem_of_getElem? hy;have hTK:(its.take (q+1)).foldl (usrP L ix) S0=usrP L ix ((its.take q).foldl (usrP L ix) S0) y:=by rw [List.take_add_one,hy,Option.toList,List.foldl_append];rfl
    have hSq:((its.take q).foldl (usrP L ix) S0).length=L.length:=(foldP_length L ix _ S0).trans HSL.out;have hBq:UsB ((its.take q).foldl (usrP L ix) S0):=HSB.out.fold _;obtain ⟨T,hT⟩:∃ T,(its.take q).foldl (usrP L ix) S0=T:=⟨_,rfl⟩;rw [hT] at hTK hSq hBq HQ;have hbi1:=fun m0:Nat=>Nat.lt_add_right m0 (hbi)
    have hbi2:=fun m0 m1:Nat=>Nat.lt_add_right m1 (hbi1 m0)
    have hbi3:=fun m0 m1 m2:Nat=>Nat.lt_add_right m2 (hbi2 m0 m1)
    by_cases hx4:y.kind=4
    case neg =>
     have e4:(y.kind==4)=false:=by simpa using hx4
     have HTK:=hid (hTK.trans (show usrP L ix T y=T by unfold usrP;rw [if_neg hx4]));clear hy hym hTK hx4 hSq hBq hT
     gi_wp2
     go_roundw
     case rel=>exact ⟨q+1,by omega,by go_num,hid (by rw [HTK.out];exact HQ.out.grow gw0)⟩
     case measure=>simp [intOf];omega
    case pos =>
     obtain ⟨j1,j2,j3⟩:=HIX.out y hym hx4;have HTK:=hid (hTK.trans (show usrP L ix T y=T.set (jx L y) (min (T.getD (jx L y) 0+T.getD ix 0) 1000000000001) by unfold usrP;rw [if_pos hx4]));have b1:=hBq.get (jx L y);have b2:=hBq.get ix;obtain ⟨j,hj⟩:∃ j,jx L y=j:=⟨_,rfl⟩;rw [hj] at j1 j2 j3 b1 HTK;obtain ⟨sj,hsj⟩:∃ s,T[j]? = some s:=⟨T[j]'(by omega),List.getElem?_eq_getElem (by omega)⟩;obtain ⟨si,hsi⟩:∃ s,T[ix]? = some s:=⟨T[ix]'(by rw [hSq];exact HXN.out),List.getElem?_eq_getElem (by rw [hSq];exact HXN.out)⟩;have g1:T.getD j 0=sj:=by rw [List.getD_eq_getElem?_getD,hsj];rfl
     have g2:T.getD ix 0=si:=by rw [List.getD_eq_getElem?_getD,hsi];rfl
     rw [g1,g2] at HTK;rw [g1] at b1;rw [g2] at b2;obtain ⟨b1l,b1h⟩:=b1;obtain ⟨b2l,b2h⟩:=b2;obtain ⟨cj,fj⟩:=HQ.out.own.at hsj;obtain ⟨ci,fi⟩:=HQ.out.own.at hsi;have zg:=HQ.out.own.lt;have h4:=(HQ.out.from0.block b4 (Array.getElem?_eq_some_iff.1 HS0.out.at_).1 (fun e=>r4 (by injection e))).trans HS0.out.at_;have h5:=(HQ.out.from0.block b5 (Array.getElem?_eq_some_iff.1 HS0.out.out).1 (fun e=>r5 (by injection e))).trans HS0.out.out;have z4:=(Array.getElem?_eq_some_iff.1 h4).1;have z5:=(Array.getElem?_eq_some_iff.1 h5).1;have y4:wr.cell? ⟨b4,0,none⟩=some (.map (some bm)):=by simp [World.cell?,h4]
     have y5:wr.cell? ⟨b5,0,none⟩=some (.slice (some ⟨g,0,none⟩) L.length L.length):=by simp [World.cell?,h5]
     rw [hx4] at d0;have HMW:=hid (HQ.out.map HS0.out.map rm);have HLK:=look_ix (HMW.out.grew (w':=wr.alloc (.cells #[.int .i64 4,.int .i64 y.pos,.int .i64 y.n,.string y.name] 51)) gw0) (HSZ.out y hym) j2;have HLG:∀ (g:List Obj) (n:Nat),(Instr.lookup 53 (.map (some bm)) (.string y.name) false).run Tryz.prog (((wr.alloc (.cells #[.int .i64 4,.int .i64 y.pos,.int .i64 y.n,.string y.name] 51)).grow g).drewN n)=.ok (.int .i64 j) (((wr.alloc (.cells #[.int .i64 4,.int .i64 y.pos,.int .i64 y.n,.string y.name] 51)).grow g).drewN n):=fun g n=>look_ix (HMW.out.grew gw0) (HSZ.out y hym) j2
     have hjL:(j:Int)<L.length:=by omega
     have hjp:(0:Int)≤j:=by omega
     have hip:(0:Int)≤ix:=by omega
     have HQS:=hid hSq;have zg1:=fun m0:Nat=>Nat.lt_add_right m0 (zg)
     have zg2:=fun m0 m1:Nat=>Nat.lt_add_right m1 (zg1 m0)
     have zg3:=fun m0 m1 m2:Nat=>Nat.lt_add_right m2 (zg2 m0 m1)
     have z41:=fun m0:Nat=>Nat.lt_add_right m0 (z4)
     have z42:=fun m0 m1:Nat=>Nat.lt_add_right m1 (z41 m0)
     have z43:=fun m0 m1 m2:Nat=>Nat.lt_add_right m2 (z42 m0 m1)
     have z51:=fun m0:Nat=>Nat.lt_add_right m0 (z5)
     have z52:=fun m0 m1:Nat=>Nat.lt_add_right m1 (z51 m0)
     have z53:=fun m0 m1 m2:Nat=>Nat.lt_add_right m2 (z52 m0 m1)
     clear hy hym hTK hx4 hSq hBq hT h4 h5 g1 g2 hsj hsi j1 j2 j3 hj;have hsum:IntKind.i64.wrap (sj+si)=sj+si:=IntWalk.i64_in _ (by omega);have hcmp:∀ v:Int,v=min (sj+si) 1000000000001→T.set j (min (sj+si) 1000000000001)=T.set j v:=fun v hv=>by rw [hv]
     by_cases hm:1000000000001<sj+si;all_goals
      have HCMP:=hid (hcmp _ (show (if 1000000000001<sj+si then 1000000000001 else sj+si)=min (sj+si) 1000000000001 by split <;> omega));first | rw [if_pos hm] at HCMP | rw [if_neg hm] at HCMP
      clear hcmp
      gi_wp2
      refine R3.wpIn_region_gentle_tail 18 (by kernel_rfl) (by kernel_rfl) (fun h=>by obtain ⟨_,_,h⟩:=h;exact h) (by kernel_rfl) (by kernel_rfl) ?_;simp only [List.take_succ_cons,List.take_zero,List.drop_succ_cons,List.drop_zero];repeat (first | go_big_quiet_skip | (go_big_quiet_want;go_big_quiet_op;first | go_big_quiet_on | fail))
      refine wpQuiet_nil ?_;rintro _ ⟨gg,ng,rfl⟩;go_wp2_with fail
      gi_wp2
      go_roundw
      case rel=>exact ⟨q+1,by omega,by go_num,hid (by rw [HTK.out,HCMP.out];exact ((HQ.out.grow gw0).put _ _).grow gw0)⟩
      case measure=>simp [intOf];omega
 case done =>
  rintro D ys W hD rfl ⟨hW,hO⟩ hK;have hSL:=usA_length L L.length (bkF L.length L.length);rw [usA_bk] at hO hSL;obtain ⟨T,hT⟩:∃ T,usP L L.length (us0 L.length)=T:=⟨_,rfl⟩;rw [hT] at hO hSL HR;have h5:=(hW.block b5 (Array.getElem?_eq_some_iff.1 HS0.out.out).1 (fun e=>r5 (by injection e))).trans HS0.out.out;have y5:W.cell? ⟨b5,0,none⟩=some (.slice (some ⟨g,0,none⟩) L.length L.length):=by simp [World.cell?,h5]
  have HMX:=hid (max_any T (some ⟨g,0,none⟩) L.length W (by omega) (by omega) hO.zs);rw [hSL] at HMX;obtain ⟨v,hv⟩:∃ v,mxL T=v:=⟨_,rfl⟩;rw [hv] at HMX HR;have HO:=hid hO;have HK0:=hid hK;have HWW:=hid hW;have HTL:=hid hSL;have HB:=hid (show Below w.heap.size w W by
   have hb:=HS0.out.grew.below;refine ⟨hW.os.trans hb.os,hW.tape.trans hb.tape,hW.output.trans hb.output,Nat.le_trans hb.size hW.size,fun k hk=>(hW.block k (by have:=hb.size;omega) (fun e=>by injection e with e;have:=HS0.out.low;omega)).trans (hb.block k hk)⟩)
  clear hW hO hK hSL hT h5 hv x8;by_cases h12:1000000000000<v
  case pos =>
   have HR5:=hid (HR.out.trans (if_pos h12));have e5:decide (1000000000000<v)=true:=decide_eq_true h12;go_wp2_with (go_at_call 48;refine HMX.out.mono ?_;rintro e w9 ⟨rfl,hg9⟩;have HG9:=hid hg9;clear hg9)
   refine ⟨by simp,.inl ⟨_,_,rfl,run_takeDeferred ((HG9.out.block D (Array.getElem?_eq_some_iff.1 HK0.out).1).trans HK0.out), ?_⟩⟩;refine ⟨_,results_tmp2 rfl _ _ _, ?_⟩;rw [HR5.out];exact ⟨⟨none,0,rfl,OwnZ.nil _ _⟩,(HB.out.trans (HG9.out.below.mono (by have:=HB.out.size;omega))).trans (belowK_b (w:=w) (Nat.le_refl _) _ D _ _ (by have:=HS0.out.grew.size;omega) ((HG9.out.block D (Array.getElem?_eq_some_iff.1 HK0.out).1).trans HK0.out) rfl rfl)⟩
  case neg =>
   have HR5:=hid (HR.out.trans (if_neg h12));have e5:decide (1000000000000<v)=false:=decide_eq_false h12;go_wp2_with (go_at_call 48;refine HMX.out.mono ?_;rintro e w9 ⟨rfl,hg9⟩;have y59:=(hg9.cell (Array.getElem?_eq_some_iff.1 (show W.heap[b5]? = some (.cells #[.slice (some ⟨g,0,none⟩) L.length L.length] 55) from (HWW.out.block b5 (Array.getElem?_eq_some_iff.1 HS0.out.out).1 (fun e=>r5 (by injection e))).trans HS0.out.out)).1 0).trans y5;have HG9:=hid hg9;clear hg9)
   refine ⟨by simp,.inl ⟨_,_,rfl,run_takeDeferred ((HG9.out.block D (Array.getElem?_eq_some_iff.1 HK0.out).1).trans HK0.out), ?_⟩⟩;refine ⟨_,results_tmp2 rfl _ _ _, ?_⟩;rw [HR5.out];exact ⟨⟨some ⟨g,0,none⟩,L.length,by rw [HTL.out];rfl,ownsRow_putObj (HO.out.grew HG9.out) _ ((HG9.out.block D (Array.getElem?_eq_some_iff.1 HK0.out).1).trans HK0.out) rfl⟩,(HB.out.trans (HG9.out.below.mono (by have:=HB.out.size;omega))).trans (belowK_b (w:=w) (Nat.le_refl _) _ D _ _ (by have:=HS0.out.grew.size;omega) ((HG9.out.block D (Array.getElem?_eq_some_iff.1 HK0.out).1).trans HK0.out) rfl rfl)⟩
 case stop =>
  rintro D c pre W _ _ h _;exact h.elim
theorem uses_any (a0:Option Addr) (cap:Nat) (L:List Cl) (w:World) (hl:L.length≤9223372036854775807) (hN:Net w a0 L) (hk:CsOk L) :
  Calls Tryz.prog 24 #[.slice a0 L.length cap] w (UseP (usesN L) w):=by
 by_cases hv:vnet L=true
 · exact uses_main a0 cap L w hl hN hk hv
 · exact uses_bad a0 cap L w hl hN hk (by simpa using hv)
open Go Go.RowKit Amp Msh
def UsC (B:Int) (S:List Int):Prop:=∀ s∈S,0≤s∧s≤B
theorem UsC.get {B:Int} {S:List Int} (h:UsC B S) (hB:0≤B) (j:Nat):0≤S.getD j 0∧S.getD j 0≤B:=by
 rw [List.getD_eq_getElem?_getD];cases hj:S[j]? with
 | none=>simpa using hB
 | some t=>simpa using h t (List.mem_of_getElem? hj)
theorem UsC.step {L:List Cl} {i:Nat} {B:Int} {S:List Int} (h:UsC B S) (hB:0≤B) (hi:S.getD i 0≤1000000000000) (x:It):UsC (B+1000000000000) (usrR L i S x):=by
 have hm:UsC (B+1000000000000) S:=fun s hs=>by have:=h s hs;omega
 unfold usrR;split
 · intro s hs
   rcases List.mem_or_eq_of_mem_set hs with hs | rfl
   · exact hm s hs
   · have h1:=h.get hB (jx L x)
     have h2:=h.get hB i;omega
 · exact hm
theorem UsC.fold {L:List Cl} {i:Nat}:∀ (l:List It) {B:Int} {S:List Int},(∀ x∈l,x.kind=4→jx L x<i)→UsC B S→0≤B→S.getD i 0≤1000000000000→UsC (B+1000000000000*l.length) (l.foldl (usrR L i) S)
 | [], B, _, _, h, _, _ => by
   intro s hs;have:=h s hs;simp;omega
 | x :: l, B, S, hx, h, hB, hi => by
   have h2:(usrR L i S x).getD i 0≤1000000000000:=by
    have:=foldR_kept (L:=L) (i:=i) [x] S (fun y hy=>hx y (by rw [List.mem_singleton] at hy;subst hy;exact List.mem_cons_self)) i (Nat.le_refl _);show ([x].foldl (usrR L i) S).getD i 0≤_
    rw [this];exact hi
   have h3:=UsC.fold l (fun y hy=>hx y (List.mem_cons_of_mem _ hy)) (h.step hB hi x) (by omega) h2;intro s hs;have:=h3 s hs;rw [List.length_cons];refine ⟨this.1, ?_⟩;have:=this.2;omega
end Go.Proofs.YtchdmecjhaanfaaGreatDoor
