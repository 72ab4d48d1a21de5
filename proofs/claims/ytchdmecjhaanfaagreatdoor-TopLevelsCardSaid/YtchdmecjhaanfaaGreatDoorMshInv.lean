import Derived.Test.YtchdmecjhaanfaaGreatDoorMshA
import Derived.Test.YtchdmecjhaanfaaGreatDoorMshX
import Derived.Test.YtchdmecjhaanfaaGreatDoorMshLin
import Derived.RangeFuncNested
import Derived.RangeFuncBox
import Derived.RangeFuncBound
import Derived.RangeFuncCalls
import Derived.RangeFuncLeaves
import Derived.WalkKit
import Derived.OwnWalkIn
import Derived.TacticsInMore
import Derived.LoopNIn
import Derived.LoopIn
import Derived.Shelf.Abstract
namespace Go.Proofs.YtchdmecjhaanfaaGreatDoor
open Go Go.RowKit Amp Msh
attribute [local go_sem] Oper.semAt_some
def encB (x:Int × It):Array Value:=#[.int .i64 x.1,.agg #[.int .i64 x.2.kind,.int .i64 x.2.pos,.int .i64 x.2.n,.string x.2.name]]
set_option maxHeartbeats 1000000 in
theorem backward_in (F:Fence) (n:Nat) (hF:F.fn 71) (hro:F.round=none) (a:Option Addr) (len cap:Nat) (w:World) :
  CallsIn F n Tryz.prog 71 #[.slice a len cap] w fun e w'=>e=.returned (.func (.func 119) #[] #[.pointer (some ⟨w.heap.size,0,none⟩)])∧w'=w.alloc (.cells #[.slice a len cap] 26):=by
 refine callsIn_of_wp Tryz.func71 rfl hF ?_ hro;simp only [Tryz.ntmps71,List.size_toArray,List.length_cons,List.length_nil,Nat.reduceAdd,Nat.reduceSub,Array.replicate_succ,Array.replicate_zero,List.push_toArray,List.append_toArray,List.nil_append,List.cons_append]
 gi_wp2
 go_ret;exact ⟨rfl,rfl⟩
def KpB (n₀ Bs:Nat) (W W':World):Prop:=Below n₀ W W'∧W'.heap[Bs]? = W.heap[Bs]?
theorem KpB.trans {n₀ Bs:Nat} {A B C:World} (h:KpB n₀ Bs A B) (k:KpB n₀ Bs B C):KpB n₀ Bs A C:=⟨h.1.trans k.1,k.2.trans h.2⟩
theorem KpB.put {n₀ Bs:Nat} {w:World} (hn:n₀≤w.heap.size) (hB:Bs<w.heap.size) (W:World) (l:Nat) (o o':Obj) (hl:w.heap.size≤l) (h:W.heap[l]? = some o) (hc:o.isCells=false) (hw:o.isWalk=false):KpB n₀ Bs W (W.putObj l o') :=
 ⟨belowK_b hn W l o o' hl h hc hw,World.putObj_heap_other (by omega)⟩
theorem cell_of_block {W W':World} {b i:Nat} (h:W'.heap[b]? = W.heap[b]?):W'.cell? ⟨b,i,none⟩=W.cell? ⟨b,i,none⟩:=by simp only [World.cell?,h]
set_option maxRecDepth 100000 in
set_option maxHeartbeats 2000000 in
theorem backward1_in (F:Fence) (n:Nat) (hF:F.fn 119) (hro:F.round=none) (hn:1≤n) (l Bs n₀:Nat) (a0:Option Addr) (cap:Nat) (its:List It) (hl:its.length≤5000) (J Jx:List (Int × It)→World→Prop)
  (hY:∀ pre x W,J pre W→pre.length<its.length→YieldAt F (n - 1) Tryz.prog l (encB x) W fun e W' =>
    (e=.returned (.bool true)∧J (pre++[x]) W'∧KpB n₀ Bs W W')∨(e=.returned (.bool false)∧Jx (pre++[x]) W'))
  (W:World) (hBs:W.cell? ⟨Bs,0,none⟩=some (.slice a0 its.length cap)) (hc:its=[]∨∃ b off:Nat,a0=some ⟨b,off,none⟩∧b<n₀∧ItsAt W b off its) (h0:J [] W) :
  CallsIn F n Tryz.prog 119 #[.func (.yield l) #[] #[],.pointer (some ⟨Bs,0,none⟩)] W fun e W'=>(∃ v,e=.returned v) ∧
   ((∃ ys,ys=bk its its.length∧J ys W')∨(∃ pre,(∃ k,k≤its.length∧pre=bk its k)∧Jx pre W')):=by
 refine callsIn_of_wp Tryz.func119 rfl hF ?_ hro;simp only [Tryz.ntmps119,List.size_toArray,List.length_cons,List.length_nil,Nat.reduceAdd,Nat.reduceSub,Array.replicate_succ,Array.replicate_zero,List.push_toArray,List.append_toArray,List.nil_append,List.cons_append]
 gi_wp2
 gi_loopw [3] (fun i wr=>∃ k:Nat,k≤its.length∧i=.int .i64 ((its.length:Int) - 1 - k)∧J (bk its k) wr∧KpB n₀ Bs W wr)
  (fun i _=>(intOf i+1).toNat)
 case atStart=>exact ⟨0,Nat.zero_le _,by simp,h0,Below.refl _ _,rfl⟩
 case round =>
  obtain ⟨k,hk,rfl,hJs,hnx⟩:=hrel;have hBx:=(cell_of_block (i:=0) hnx.2).trans hBs;by_cases hlt:k<its.length
  · obtain ⟨j,hj⟩:∃ j:Nat,j+k+1=its.length:=⟨its.length - 1 - k,by omega⟩
    have hji:(its.length:Int) - 1 - k=j:=by omega
    have hjl:j<its.length:=by omega
    have hjn:its.length - 1 - k=j:=by omega
    obtain ⟨z,hz⟩:∃ z,its[j]? = some z:=⟨its[j],List.getElem?_eq_getElem hjl⟩;have hbk:=bk_succ (l:=its) (k:=k) (z:=z) (by rw [hjn];exact hz);rw [hjn] at hbk;obtain ⟨b,off,rfl,hb,hcs⟩:∃ b off:Nat,a0=some ⟨b,off,none⟩∧b<n₀∧ItsAt W b off its:=by
     rcases hc with rfl | h
     · simp at hz
     · exact h
    obtain ⟨c0,c1,c2,c3⟩:=hcs j z hz;have c0:=(hnx.1.cell (p:=⟨b,_,none⟩) hb).trans c0;have c1:=(hnx.1.cell (p:=⟨b,_,none⟩) hb).trans c1;have c2:=(hnx.1.cell (p:=⟨b,_,none⟩) hb).trans c2;have c3:=(hnx.1.cell (p:=⟨b,_,none⟩) hb).trans c3;obtain ⟨fn,tmps,assign,body,hy,hR⟩:=hY _ ((j:Int),z) wr hJs (by rw [bk_length];exact hlt);simp only [encB] at hy;have HBK:=hid hbk;have HJ:=hid (And.intro hj hji);have HL:=hid hl;have hp:0≤(j:Int):=by omega
    have HW:=hid (show wrap64 ((j:Int) - 1)=j - 1 by unfold wrap64;omega);rw [hji];clear hbk hj hjn hcs hz hc hk hl hji hlt
    gi_wp2
    refine hR.mono ?_;rintro e W3 (⟨rfl,hJ3,hk3⟩ | ⟨rfl,hJx3⟩)
    · gi_wp2
      go_roundw
      case rel=>exact ⟨k+1,by have:=HJ.out;omega,by have:=HJ.out;rw [HW.out];congr 1;omega,by rw [HBK.out];exact hJ3,hnx.trans hk3⟩
      case measure=>simp only [intOf];rw [HW.out];omega
    · gi_wp2
      refine bodyPost_ret (results_none rfl _ _ _) rfl ?_;exact ⟨⟨_,rfl⟩,.inr ⟨_,⟨k+1,by have:=HJ.out;omega,HBK.out.symm⟩,hJx3⟩⟩
  · obtain rfl:k=its.length:=by omega
    rw [show (its.length:Int) - 1 - its.length=-1 by omega]
    gi_wp2
    go_end0
    exact ⟨⟨_,rfl⟩,.inl ⟨_,rfl,hJs⟩⟩
theorem backward_stops (F:Fence) (n:Nat) (hF:F.fn 119) (hro:F.round=none) (hn:1≤n) (Bs n₀:Nat) (a0:Option Addr) (cap:Nat) (its:List It) (hl:its.length≤5000) (w:World) (hBs:Bs<w.heap.size) (hn₀:n₀≤w.heap.size)
  (hx:w.cell? ⟨Bs,0,none⟩=some (.slice a0 its.length cap)) (hc:its=[]∨∃ b off:Nat,a0=some ⟨b,off,none⟩∧b<n₀∧ItsAt w b off its) :
  SeqStopsK F n Tryz.prog 119 #[.pointer (some ⟨Bs,0,none⟩)] encB (KpB n₀ Bs) (fun ys=>ys=bk its its.length) (fun _=>True) its.length w:=fun l J Jx W hW _ _ hY h0=>by
 refine (backward1_in F n hF hro hn l Bs n₀ a0 cap its hl J Jx hY W ((hW.cell (p:=⟨Bs,0,none⟩) hBs).trans hx) ?_ h0).mono ?_
 · rcases hc with h | ⟨b,off,rfl,hb,hcs⟩
   · exact .inl h
   · refine .inr ⟨b,off,rfl,hb,fun i z hz=>?_⟩
     obtain ⟨c0,c1,c2,c3⟩:=hcs i z hz;have hb':b<w.heap.size:=by omega
     exact ⟨(hW.cell (p:=⟨b,_,none⟩) hb').trans c0,(hW.cell (p:=⟨b,_,none⟩) hb').trans c1,(hW.cell (p:=⟨b,_,none⟩) hb').trans c2,(hW.cell (p:=⟨b,_,none⟩) hb').trans c3⟩
 · rintro e W' ⟨he,⟨ys,rfl,hj⟩ | ⟨pre,_,hj⟩⟩
   · exact ⟨he,.inl ⟨_,rfl,hj⟩⟩
   · exact ⟨he,.inr ⟨_,trivial,hj⟩⟩
open Go Go.RowKit Amp Msh
attribute [local go_sem] Oper.semAt_some
def InvP (R:List It × Int) (w:World) (e:Ending) (w':World):Prop:=(∃ (a2:Option Addr) (k2:Nat),e=.returned (.tuple #[.slice a2 R.1.length k2,.int .i64 R.2])∧OwnI w' w.heap.size a2 k2 R.1)∧Below w.heap.size w w'
def invE (g:Int) (l:List It):List It × Int:=if chkIts g l=0 then (if (invL l).length≤5000 then (invL l,0) else ([],4)) else ([],chkIts g l)
def BoxI (W:World) (B:Nat) (z:It):Prop:=W.heap[B]? = some (.cells #[.int .i64 z.kind,.int .i64 z.pos,.int .i64 z.n,.string z.name] 51 (0,0))
theorem kept_cells {W W':World} {row:Option Nat} {B B':Nat} {o:Obj} (h:W.heap[B]? = some o) (ho:o.isCells=true) (hg:W.grownBy W' row) (hr:∀ r,row=some r→B'≤r∧∃ o:Obj,W.heap[r]? = some o∧o.isCells=false):W'.heap[B]? = some o:=by
 refine (hg.block B (Array.getElem?_eq_some_iff.1 h).1 fun e=>?_).trans h;obtain ⟨_,o',h1,h2⟩:=hr B e.symm;rw [h] at h1;cases h1;rw [ho] at h2;cases h2
theorem own_ne {W:World} {base:Nat} {e:TypeId} {size k:Nat} {v:Value} {xs:List Value} (h:W.ownsRow base e size v k xs):some W.heap.size≠v.ownBlock:=by
 rcases h.2 with ⟨rfl,_⟩ | ⟨g,cap,cur,rfl,_,hg,_⟩
 · simp [Value.ownBlock]
 · have:=(Array.getElem?_eq_some_iff.1 hg).1
   simp [Value.ownBlock];omega
theorem boxed_one {W:World} {B:Nat} {t:TypeId} {v v':Value} (h:Boxed W B t v) (h':Boxed W B t v'):v=v':=by
 have:=(show W.heap[B]? = _ from h).symm.trans h'
 simpa using this
theorem cells_new (W:World) (b:Nat) (hb:b=W.heap.size) (cs:Array Value) (t:TypeId):∀ j u,cs.toList[j]? = some u→(W.alloc (.cells cs t)).cell? ((⟨b,0,none⟩:Addr).add j)=some u:=by
 intro j u hj;subst hb;have e:(W.alloc (.cells cs t)).heap[W.heap.size]? = some (.cells cs t (0,0)):=World.alloc_heap_new W _;have ha:(⟨W.heap.size,0,none⟩:Addr).add j=⟨W.heap.size,j,none⟩:=by
  unfold Addr.add;by_cases h0:j=0
  · simp [h0]
  · simp [h0]
 rw [ha];simp only [World.cell?,e]
 simpa using hj
theorem grownBy_set (W:World) (b i:Nat) (v:Value):W.grownBy (W.setCell ⟨b,i,none⟩ v) (some b) :=
 ⟨rfl,rfl,rfl,(KeepsWalks.setCell W _ v).size,fun k _ hk=>Below.heap_setCell _ _ _ k (fun e=>hk (by rw [e]))⟩
theorem inv_fin {w W W1 w1:World} {b7 B:Nat} {v v' s8:Value} {pre:List (Int × It)} {x:Int × It} {k m:Nat} {xs ys:List Value} {tmp:Obj}
  (hk:KeepsOthers W W1) (hb:Below w.heap.size W W1) (h8:Boxed W (b7+1) 26 s8) (h81:Boxed W1 (b7+1) 26 s8) (hB:Below w.heap.size w W)
  (hv:Boxed W1 b7 26 v) (hrow:W1.ownsRow w.heap.size 51 4 v k xs) (hn:w.heap.size≤b7) (hown:w1.ownsRow w.heap.size 51 4 v' m ys) (hgrow:(W1.alloc tmp).grownBy w1 v.ownBlock)
  (hm:m=(outB (pre++[x])).length) (hys:ys=itsCells (outB (pre++[x]))) :
  Boxed w1 b7 26 v∧(KeepsFrom B W (w1.setCell ⟨b7,0,none⟩ v')∧KpB w.heap.size (b7+1) W (w1.setCell ⟨b7,0,none⟩ v') ∧
   ((∃ v2,Boxed (w1.setCell ⟨b7,0,none⟩ v') b7 26 v2∧(w1.setCell ⟨b7,0,none⟩ v').ownsRow w.heap.size 51 4 v2 (outB (pre++[x])).length (itsCells (outB (pre++[x]))))∧(Boxed (w1.setCell ⟨b7,0,none⟩ v') (b7+1) 26 s8∧Below w.heap.size w (w1.setCell ⟨b7,0,none⟩ v')))):=by
 subst hm;subst hys;obtain ⟨hv1,hv2,hr2,hk2,hb2⟩:=hv.appended (by decide) hrow (Nat.le_trans hB.size hk.size) hn hown hgrow;have h9:Boxed (w1.setCell ⟨b7,0,none⟩ v') (b7+1) 26 s8:=((h81.alloc tmp).kept hgrow (h81.not_row (by decide) hrow)).other (by omega) _;exact ⟨hv1,(hk.trans hk2).from _,⟨hb.trans hb2,(show _=_ from h9).trans (show _=_ from h8).symm⟩,⟨_,hv2,hr2⟩,h9,hB.trans (hb.trans hb2)⟩
set_option maxHeartbeats 800000 in
theorem inv_bad (g:Int) (a0:Option Addr) (cap:Nat) (its:List It) (w:World) (hl:its.length≤9223372036854775807) (hc:Its w a0 its) (hk:¬ chkIts g its=0) :
  Calls Tryz.prog 35 #[.int .i64 g,.slice a0 its.length cap] w (InvP (invE g its) w):=by
 have HK:=hid fun w' (h:Grew w w')=>check_any g a0 cap its w' hl (hc.grew h)
 have HR:Hid (invE g its=([],chkIts g its)):=hid (by unfold invE;rw [if_neg hk]);obtain ⟨E,hE⟩:∃ E,chkIts g its=E:=⟨_,rfl⟩;rw [hE] at HK HR hk;have e1:(E != 0)=true:=by simpa using hk
 clear hc hk hE;go_enter Tryz.func35,Tryz.ntmps35
 go_wp2_with fail
 refine (HK.out _ gw0).mono ?_;rintro e w' ⟨rfl,g1,m1,rfl⟩;go_wp2_with fail
 exact bodyPost_ret (v:=.tuple #[.slice none 0 0,.int .i64 E]) (by simp [results,Tryz.results35,go_sem]) rfl ⟨⟨none,0,by rw [HR.out];rfl,by rw [HR.out];exact OwnI.nil _ _⟩,Grew.below gw0⟩
set_option maxRecDepth 100000 in
set_option maxHeartbeats 4000000 in
theorem inv_main (g:Int) (a0:Option Addr) (cap:Nat) (its:List It) (w:World) (hl:its.length≤9223372036854775807) (hc:Its w a0 its) (hk:chkIts g its=0) :
  Calls Tryz.prog 35 #[.int .i64 g,.slice a0 its.length cap] w (InvP (invE g its) w):=by
 refine (callsIn_wide (n:=9)).1 ?_;have HK:=hid fun w' (h:Grew w w')=>check_any g a0 cap its w' hl (hc.grew h)
 rw [hk] at HK;obtain ⟨q1,q2,q3,q4⟩:=chkIts_zero hk;have HLEN:=hid q3;have HC:=hid hc;have HR:Hid (invE g its=if (invL its).length≤5000 then (invL its,0) else ([],4)):=hid (by unfold invE;rw [if_pos hk]);obtain ⟨i0,hi,hz0,hz1,hz2⟩:=info_parts info_it;have HCELLS:=hid (And.intro hz0 (And.intro hz1 hz2));clear hl hc hk q1 q2 q3 q4 hz0 hz1 hz2;refine callsIn_of_wp_marks Tryz.func35 rfl trivial ?_ rfl;simp only [Tryz.ntmps35,List.size_toArray,List.length_cons,List.length_nil,Nat.reduceAdd,Nat.reduceSub,Array.replicate_succ,Array.replicate_zero,List.push_toArray,List.append_toArray,List.nil_append,List.cons_append]
 gi_wp2
 refine ⟨trivial,(callsIn_wide.2 (HK.out _ gw0)).mono ?_⟩;rintro e w' ⟨rfl,g1,m1,rfl⟩
 gi_wp2
 refine ⟨trivial,(backward_in Fence.wide _ trivial rfl _ _ _ _).mono ?_⟩;rintro e w' ⟨rfl,rfl⟩
 gi_wp2
 obtain ⟨b7,hb7⟩:∃ b7,b7=w.heap.size+g1.length:=⟨_,rfl⟩;obtain ⟨W0,hW0⟩:∃ W0,W0=(((w.grow g1).alloc (.cells #[.slice none 0 0] 26)).alloc (.cells #[.slice a0 its.length cap] 26)).drewN m1:=⟨_,rfl⟩;have e7:b7=(w.grow g1).heap.size:=by rw [hb7,World.size_grow]
 have hsz:W0.heap.size=b7+2:=by rw [hW0,hb7];simp [go_sem]
 have hn0:w.heap.size≤b7:=by rw [hb7];omega
 have hB0:Below w.heap.size w W0:=by rw [hW0];exact Grew.below gw0
 have x7:Boxed W0 b7 26 (.slice none 0 0):=by rw [hW0,e7];exact (Boxed.new (w.grow g1) 26 _).alloc _
 have x8:Boxed W0 (b7+1) 26 (.slice a0 its.length cap):=by
  have:=Boxed.new ((w.grow g1).alloc (.cells #[.slice none 0 0] 26)) 26 (.slice a0 its.length cap);rw [World.size_alloc,← e7] at this;rw [hW0];exact this
 have hcs:its=[]∨∃ b off:Nat,a0=some ⟨b,off,none⟩∧b<w.heap.size∧ItsAt W0 b off its:=by
  rcases HC.out with h | ⟨b,off,h,hb,hcs⟩
  · exact .inl h
  · exact .inr ⟨b,off,h,hb,hcs.grew hb (by rw [hW0];exact gw0)⟩
 have c8:=x8.cell;have HB0:=hid (show w.heap.size≤W0.heap.size by omega);rw [← hW0,← hb7];clear hW0 hb7 e7;refine wpIn_rangeFunc_ownH rfl (by decide) (gf:=119) (lb:=#[.pointer (some ⟨b7+1,0,none⟩)]) rfl trivial (enters_of Tryz.func119 (by kernel_rfl) rfl)
  (backward_stops Fence.wide 8 trivial rfl (by decide) (b7+1) w.heap.size a0 cap its HLEN.out W0 (by omega) (by omega) c8 hcs) (fun h k=>KpB.trans h k) (KpB.put (by omega) (by omega)) (Below.refl _ _) (fun _=>rfl)
  (fun pre W=>(∃ v,Boxed W b7 26 v∧W.ownsRow w.heap.size 51 4 v (outB pre).length (itsCells (outB pre))∧True)∧(Boxed W (b7+1) 26 (.slice a0 its.length cap)∧Below w.heap.size w W))
  (fun _ _ _=>False)
  (OwnFrom.and (Own.from (holdsRow_own w.heap.size b7 26 51 4 (fun pre=>(outB pre).length) (fun pre=>itsCells (outB pre)) (fun _ _=>True)) _) (OwnFrom.and (Own.from (boxed_own (b7+1) 26 (fun _=>.slice a0 its.length cap)) _) (ownFrom_below (Nat.le_refl _) (by omega))))
  (fun _ _ _ _ _ hs _ _=>hs)
  ⟨⟨_,x7,World.ownsRow_nil _ _ _ _,trivial⟩,x8,hB0⟩
  (fun x a' W=>∃ (Bx:Nat) (v:Value),w.heap.size≤Bx∧BoxI W Bx x.2∧Boxed W b7 26 v∧some Bx≠v.ownBlock∧a'={ tmps:=#[.int .i64 g,.slice a0 its.length cap,undef,undef,.slice none 0 0,.int .i64 0,.int .i64 0,.pointer (some ⟨b7,0,none⟩),undef,.pointer (some ⟨Bx,0,none⟩),undef,.int .i64 g,.slice a0 its.length cap,.int .i64 0,.int .i64 0,.bool false,undef,.slice a0 its.length cap,.func (.func 119) #[] #[.pointer (some ⟨b7+1,0,none⟩)],.int .i64 x.1,.agg #[.int .i64 x.2.kind,.int .i64 x.2.pos,.int .i64 x.2.n,.string x.2.name],undef,undef,undef,undef,undef,undef,undef,undef,undef,undef,undef,undef,undef,undef,undef,undef,undef,undef,undef,undef,undef,undef,undef,undef,undef,undef,undef,undef,undef,undef,undef],defers:=[] })
  (fun x a' _ X Y row ⟨Bx,v,h1,h2,h3,h4,h5⟩ hg hr=>⟨Bx,v,h1,kept_cells h2 rfl hg hr,kept_cells h3 rfl hg hr,h4,h5⟩) ?assign ?body ?done ?stop
 case assign =>
  rintro l pre x W K ⟨⟨v,hv,hrow,_⟩,h8,hB⟩ hK;simp only [encB]
  gi_wp2
  exact hK _ _ ((KeepsOthers.alloc _ _).from _) ⟨(Below.refl _ W).alloc hB.size _,Below.heap_alloc _ _ _ h8.lt⟩ ⟨⟨v,hv.alloc _,hrow.alloc _,trivial⟩,h8.alloc _,hB.alloc hB.size _⟩ ⟨W.heap.size,v,hB.size,World.alloc_heap_new W _,hv.alloc _,own_ne hrow,rfl⟩
 case body =>
  rintro l pre ⟨ix,z⟩ a' W hl' ⟨r,hr⟩ ⟨⟨v,hv,hrow,_⟩,h8,hB⟩ ⟨Bx,v',hBx,hX,hv',hne,rfl⟩ hlt;obtain rfl:v=v':=boxed_one hv hv';have hBl:=(Array.getElem?_eq_some_iff.1 hX).1;have c7:=hv.cell;have k0:W.cell? ⟨Bx,0,none⟩=some (.int .i64 z.kind):=by simp [World.cell?,show W.heap[Bx]? = _ from hX]
  have k1:W.cell? ⟨Bx,1,none⟩=some (.int .i64 z.pos):=by simp [World.cell?,show W.heap[Bx]? = _ from hX]
  have k2:W.cell? ⟨Bx,2,none⟩=some (.int .i64 z.n):=by simp [World.cell?,show W.heap[Bx]? = _ from hX]
  have k3:W.cell? ⟨Bx,3,none⟩=some (.string z.name):=by simp [World.cell?,show W.heap[Bx]? = _ from hX]
  have kf:∀ i,W.frozen? ⟨Bx,i,none⟩=false:=fun i=>by simp [World.frozen?,show W.heap[Bx]? = _ from hX]
  have h7l:=hv.lt;have hBl1:=fun m0:Nat=>Nat.lt_add_right m0 (hBl)
  have hBl2:=fun m0 m1:Nat=>Nat.lt_add_right m1 (hBl1 m0)
  have hBl3:=fun m0 m1 m2:Nat=>Nat.lt_add_right m2 (hBl2 m0 m1)
  have h7l1:=fun m0:Nat=>Nat.lt_add_right m0 (h7l)
  have h7l2:=fun m0 m1:Nat=>Nat.lt_add_right m1 (h7l1 m0)
  have h7l3:=fun m0 m1 m2:Nat=>Nat.lt_add_right m2 (h7l2 m0 m1)
  have HV:=hid hv;have HRW:=hid hrow;have H8:=hid h8;have HB:=hid hB;have HX:=hid hX;have HNE:=hid hne;have HLT:=hid hlt;clear hv hrow h8 hB hX hne hlt hv' hr hl' x7 x8 hB0 hcs;have hlo:=outB_length pre;have HLO:=hid (show (outB pre).length≤15000 by have:=HLEN.out;have:=HLT.out;omega);have hne8:Bx≠b7+1:=by
   rintro rfl;have:=(show W.heap[b7+1]? = _ from H8.out).symm.trans HX.out;simp at this
  have hne7:Bx≠b7:=by
   rintro rfl;have:=(show W.heap[Bx]? = _ from HV.out).symm.trans HX.out;simp at this
  have HNE8:=hid (And.intro hne7 hne8);clear hlo hne8 hne7;by_cases hz1:z.kind=1
  case pos =>
   have e1:(z.kind==1)=true:=by simpa using hz1
   have HINV:=hid (show invItem (ix,z).2=[⟨z.kind,z.pos,wrap64 (8 - z.n),z.name⟩] by unfold invItem;rw [if_pos hz1]);have h70:Boxed ((W.setCell ⟨Bx,2,none⟩ (.int .i64 (wrap64 (8 - z.n)))).alloc (.cells #[.int .i64 1,.int .i64 z.pos,.int .i64 4,.string ⟨#[]⟩] 51)) b7 26 v:=(HV.out.kept (grownBy_set _ _ _ _) (fun e=>HNE8.out.1 (by cases e;rfl))).alloc _;have h81:Boxed ((W.setCell ⟨Bx,2,none⟩ (.int .i64 (wrap64 (8 - z.n)))).alloc (.cells #[.int .i64 1,.int .i64 z.pos,.int .i64 4,.string ⟨#[]⟩] 51)) (b7+1) 26 (.slice a0 its.length cap):=(H8.out.kept (grownBy_set _ _ _ _) (fun e=>HNE8.out.2 (by cases e;rfl))).alloc _;have hr1:((W.setCell ⟨Bx,2,none⟩ (.int .i64 (wrap64 (8 - z.n)))).alloc (.cells #[.int .i64 1,.int .i64 z.pos,.int .i64 4,.string ⟨#[]⟩] 51)).ownsRow w.heap.size 51 4 v (outB pre).length (itsCells (outB pre)):=(HRW.out.kept (grownBy_set _ _ _ _) (.inr fun e=>HNE.out e.symm)).alloc _;have hk1:=(KeepsOthers.setCell W ⟨Bx,2,none⟩ (.int .i64 (wrap64 (8 - z.n)))).trans (KeepsOthers.alloc _ (.cells #[.int .i64 1,.int .i64 z.pos,.int .i64 4,.string ⟨#[]⟩] 51));have hb1:=((Below.refl w.heap.size W).setCell (p:=⟨Bx,2,none⟩) hBx (.int .i64 (wrap64 (8 - z.n)))).alloc (by simp [World.setCell];exact HB.out.size) (.cells #[.int .i64 1,.int .i64 z.pos,.int .i64 4,.string ⟨#[]⟩] 51);have h71:=h70;clear h70 hz1
   gi_wp2_with (gi_at_builtin;go_loud (refine wpListIn_append_own _ rfl _ _ 26 rfl w.heap.size 51 i0 (.agg #[.int .i64 0,.int .i64 0,.int .i64 0,.string ⟨#[]⟩]) 4 40 Tryz.underlying26 hi HCELLS.out.1 HCELLS.out.2.1 HCELLS.out.2.2 rfl (by decide) _ _ _ rfl (hr1.alloc _) ⟨_,0,none⟩ 1 1 (itsCells [⟨z.kind,z.pos,wrap64 (8 - z.n),z.name⟩]) rfl rfl (cells_new _ _ (by simp [go_sem]) #[.int .i64 z.kind,.int .i64 z.pos,.int .i64 (wrap64 (8 - z.n)),.string z.name] _) (fun u hu=>itsCells_one hu) (by have:=HLO.out;unfold maxLen;omega) (by have:=HLO.out;omega) (by have:=HB.out.size;simp [go_sem];omega) ?_);intro v2 w1 hown hgrow _;obtain ⟨g',cap',rfl⟩:=ownsRow_succ (k:=_+0) hown;rw [← itsCells_app] at hown;obtain ⟨hv1,hfin⟩:=inv_fin (B:=b7+2) (pre:=pre) (x:=(ix,z)) hk1 hb1 H8.out h81 HB.out h71 hr1 hn0 hown hgrow (by rw [outB_snoc,HINV.out,List.length_append];rfl) (by rw [outB_snoc,HINV.out]);have hc1:=hv1.cell;have hf1:=hv1.frozen;have HFIN:=hid hfin;clear hv1 hfin hown hgrow)
   exact HFIN.out
  case neg =>
   have e1:(z.kind==1)=false:=by simpa using hz1
   have h71:=HV.out.alloc (.cells #[.int .i64 1,.int .i64 z.pos,.int .i64 4,.string ⟨#[]⟩] 51);have h81:=H8.out.alloc (.cells #[.int .i64 1,.int .i64 z.pos,.int .i64 4,.string ⟨#[]⟩] 51);have hr1:=HRW.out.alloc (.cells #[.int .i64 1,.int .i64 z.pos,.int .i64 4,.string ⟨#[]⟩] 51);have hk1:=KeepsOthers.alloc W (.cells #[.int .i64 1,.int .i64 z.pos,.int .i64 4,.string ⟨#[]⟩] 51);have hb1:=(Below.refl w.heap.size W).alloc HB.out.size (.cells #[.int .i64 1,.int .i64 z.pos,.int .i64 4,.string ⟨#[]⟩] 51);by_cases hz2:z.kind=2
   case pos =>
    have e2:(z.kind==2)=true:=by simpa using hz2
    have HINV:=hid (show invItem (ix,z).2=[halfOf z,z,halfOf z] by unfold invItem;rw [if_neg hz1,if_pos hz2]);clear hz1 hz2
    gi_wp2_with (gi_at_builtin;go_loud (refine wpListIn_append_own _ rfl _ _ 26 rfl w.heap.size 51 i0 (.agg #[.int .i64 0,.int .i64 0,.int .i64 0,.string ⟨#[]⟩]) 4 40 Tryz.underlying26 hi HCELLS.out.1 HCELLS.out.2.1 HCELLS.out.2.2 rfl (by decide) _ _ _ rfl (hr1.alloc _) ⟨_,0,none⟩ 3 3 (itsCells [halfOf z,z,halfOf z]) rfl rfl (cells_new _ _ (by simp [go_sem]) #[.int .i64 1,.int .i64 z.pos,.int .i64 4,.string ⟨#[]⟩,.int .i64 z.kind,.int .i64 z.pos,.int .i64 z.n,.string z.name,.int .i64 1,.int .i64 z.pos,.int .i64 4,.string ⟨#[]⟩] _) (fun u hu=>itsCells_one hu) (by have:=HLO.out;unfold maxLen;omega) (by have:=HLO.out;omega) (by have:=HB.out.size;simp [go_sem];omega) ?_);intro v2 w1 hown hgrow _;obtain ⟨g',cap',rfl⟩:=ownsRow_succ (k:=_+2) hown;rw [← itsCells_app] at hown;obtain ⟨hv1,hfin⟩:=inv_fin (B:=b7+2) (pre:=pre) (x:=(ix,z)) hk1 hb1 H8.out h81 HB.out h71 hr1 hn0 hown hgrow (by rw [outB_snoc,HINV.out,List.length_append];rfl) (by rw [outB_snoc,HINV.out]);have hc1:=hv1.cell;have hf1:=hv1.frozen;have HFIN:=hid hfin;clear hv1 hfin hown hgrow)
    exact HFIN.out
   case neg =>
    have e2:(z.kind==2)=false:=by simpa using hz2
    have HINV:=hid (show invItem (ix,z).2=[z] by unfold invItem;rw [if_neg hz1,if_neg hz2]);clear hz1 hz2
    gi_wp2_with (gi_at_builtin;go_loud (refine wpListIn_append_own _ rfl _ _ 26 rfl w.heap.size 51 i0 (.agg #[.int .i64 0,.int .i64 0,.int .i64 0,.string ⟨#[]⟩]) 4 40 Tryz.underlying26 hi HCELLS.out.1 HCELLS.out.2.1 HCELLS.out.2.2 rfl (by decide) _ _ _ rfl (hr1.alloc _) ⟨_,0,none⟩ 1 1 (itsCells [z]) rfl rfl (cells_new _ _ (by simp [go_sem]) #[.int .i64 z.kind,.int .i64 z.pos,.int .i64 z.n,.string z.name] _) (fun u hu=>itsCells_one hu) (by have:=HLO.out;unfold maxLen;omega) (by have:=HLO.out;omega) (by have:=HB.out.size;simp [go_sem];omega) ?_);intro v2 w1 hown hgrow _;obtain ⟨g',cap',rfl⟩:=ownsRow_succ (k:=_+0) hown;rw [← itsCells_app] at hown;obtain ⟨hv1,hfin⟩:=inv_fin (B:=b7+2) (pre:=pre) (x:=(ix,z)) hk1 hb1 H8.out h81 HB.out h71 hr1 hn0 hown hgrow (by rw [outB_snoc,HINV.out,List.length_append];rfl) (by rw [outB_snoc,HINV.out]);have hc1:=hv1.cell;have hf1:=hv1.frozen;have HFIN:=hid hfin;clear hv1 hfin hown hgrow)
    exact HFIN.out
 case done =>
  rintro D ys W hD rfl ⟨⟨v,hv,hrow,_⟩,h8,hB⟩ hK;rw [outB_bk] at hrow;obtain ⟨a2,k2,rfl⟩:=ownsRow_slice hrow;obtain ⟨LL,hLL⟩:∃ l,invL its=l:=⟨_,rfl⟩;rw [hLL] at HR hrow hv;have hc:=hv.cell;have hLl:LL.length≤15000:=by have:=invL_length its;have:=HLEN.out;rw [← hLL];omega
  have HROW:=hid hrow;have HB:=hid hB;have HD:=hid hD;clear hLL hv hrow hB hD h8 x7 x8 hB0 hcs c8 hsz hn0;by_cases h5:LL.length≤5000
  case pos =>
   have e5:decide ((5000:Int)<LL.length)=false:=decide_eq_false (by omega);have HR:=hid (HR.out.trans (if_pos h5));have HLl:=hid hLl;clear h5 hLl
   gi_wp2
   refine ⟨by simp,.inl ⟨_,_,rfl,run_takeDeferred hK, ?_⟩⟩;refine ⟨_,results_tmp2 rfl _ _ _, ?_⟩;rw [HR.out];exact ⟨⟨a2,k2,rfl,ownsRow_putObj HROW.out _ hK rfl⟩,HB.out.trans (belowK_b (w:=w) (Nat.le_refl _) W D _ _ (by have:=HD.out;have:=HB0.out;omega) hK rfl rfl)⟩
  case neg =>
   have e5:decide ((5000:Int)<LL.length)=true:=decide_eq_true (by omega);have HR:=hid (HR.out.trans (if_neg h5));have HLl:=hid hLl;clear h5 hLl
   gi_wp2
   refine ⟨by simp,.inl ⟨_,_,rfl,run_takeDeferred hK, ?_⟩⟩;refine ⟨_,results_tmp2 rfl _ _ _, ?_⟩;rw [HR.out];exact ⟨⟨none,0,rfl,OwnI.nil _ _⟩,HB.out.trans (belowK_b (w:=w) (Nat.le_refl _) W D _ _ (by have:=HD.out;have:=HB0.out;omega) hK rfl rfl)⟩
 case stop =>
  rintro D c pre W _ _ h _;exact h.elim
theorem inv_any (g:Int) (a0:Option Addr) (cap:Nat) (its:List It) (w:World) (hl:its.length≤9223372036854775807) (hc:Its w a0 its) :
  Calls Tryz.prog 35 #[.int .i64 g,.slice a0 its.length cap] w (InvP (invE g its) w):=by
 by_cases hk:chkIts g its=0
 · exact inv_main g a0 cap its w hl hc hk
 · exact inv_bad g a0 cap its w hl hc hk
open Go Go.RowKit Amp Msh
def ListI (R:List It × Int) (w:World) (e:Ending) (w':World):Prop:=(∃ (a2:Option Addr) (k2:Nat),e=.returned (.tuple #[.slice a2 R.1.length k2,.int .i64 R.2])∧OwnI w' w.heap.size a2 k2 R.1)∧Grew w w'
theorem cells_newI (W:World) (b:Nat) (hb:b=W.heap.size) (cs:Array Value) (t:TypeId) (l:List It) (hc:cs.toList=itsCells l):∀ ad,some (⟨b,0,none⟩:Addr)=some ad→∀ j u,(itsCells l)[j]? = some u→(W.alloc (.cells cs t)).cell? (ad.add j)=some u:=by
 intro ad e j u hj;cases e;rw [← hc] at hj;exact cells_new W b hb cs t j u hj
open Go Go.RowKit Amp Msh
theorem run_eql_its_nil (a:Option Addr) (n c:Nat) (w:World):(binOp .eql 26 (.slice a n c) (.slice none 0 0)).run Tryz.prog w=.ok (.bool a.isNone) w:=run_eql_slice_nil w 26 51 a n c Tryz.underlying26
attribute [local go_sem high] run_eql_its_nil
theorem take_snocI {l:List It} {i:Nat} {x:It} (h:l[i]? = some x):l.take (i+1)=l.take i++[x]:=by rw [List.take_add_one,h];rfl
theorem OwnI.here {w:World} {base k0:Nat} {a0:Option Addr} {l:List It} (h:OwnI w base a0 k0 l) (hl:l≠[]):∃ g,a0=some ⟨g,0,none⟩∧base≤g∧g<w.heap.size∧∀ j,w.frozen? ⟨g,j,none⟩=false:=by
 rcases h.2 with ⟨_,h2⟩ | ⟨g,cap,cur,h1,h2,h3,h4⟩
 · exact absurd (List.eq_nil_of_length_eq_zero h2) hl
 · injection h1 with e1 e2 e3
   subst e1;subst e3;exact ⟨g,rfl,h2,(Array.getElem?_eq_some_iff.1 h3).1,fun j=>World.ownsRow.frozenAt h j⟩
end Go.Proofs.YtchdmecjhaanfaaGreatDoor
