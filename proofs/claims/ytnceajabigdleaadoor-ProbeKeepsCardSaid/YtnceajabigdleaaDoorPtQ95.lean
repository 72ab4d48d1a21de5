/- Layer 9, in main's ghost: the states of a set that agree with a test: the program. Condition: the table and the test lie in memory. -/
import Derived.Test.YtnceajabigdleaaDoorPtQ94
namespace Go.Proofs.Qm
open Go Go.Pt Go.RowKit Prb
attribute [local go_sem] Oper.semAt_some
structure LoopI (W1:World) (bO bS:Nat) (o:List Nat→Obj) (pre:List Nat) (W:World):Prop where
 low:Below 0 W1 W
 kept:∀ k,k<W1.heap.size→k≠bO→k≠bS→W.heap[k]? = W1.heap[k]?
 own:W.heap[bO]? = some (o pre)
theorem loopI_steady {W1:World} {bO bS:Nat} {o:List Nat→Obj} (hO:bO<W1.heap.size) (hne:bO≠bS):Steady W1.heap.size [bS] (LoopI W1 bO bS o):=by
 intro pre X Y row h hg hr;have key:∀ k,k<W1.heap.size→k≠bS→Y.heap[k]? = X.heap[k]? := fun k hk hks=>hg.block k (Nat.lt_of_lt_of_le hk h.low.size) fun e=>by
  rcases hr k e.symm with h1 | ⟨h1,_⟩
  · exact hks (List.mem_singleton.1 h1)
  · omega
 exact ⟨h.low.grown hg (Nat.zero_le _) (fun _ _=>Nat.zero_le _),fun k h1 h2 h3=>(key k h1 h3).trans (h.kept k h1 h2 h3),(key bO hO hne).trans h.own⟩
theorem LoopI.start {w W1 W:World} {bO bS:Nat} {o:List Nat→Obj} {pre:List Nat} (h:LoopI W1 bO bS o pre W) (hg:Grew w W1) (h1:w.heap.size≤bO) (h2:w.heap.size≤bS):Below w.heap.size w W:=by
 have e:=hg.below;have l:=h.low;exact ⟨l.os.trans e.os,l.tape.trans e.tape,l.output.trans e.output,Nat.le_trans e.size l.size,fun k hk=>(h.kept k (Nat.lt_of_lt_of_le hk hg.size) (by omega) (by omega)).trans (hg.block k hk)⟩
theorem LoopI.put {W1 W V:World} {bO bS j:Nat} {o:List Nat→Obj} {pre:List Nat} {x:Nat} {v:Value} (h:LoopI W1 bO bS o pre W) (hO:bO<W1.heap.size) (hne:bO≠bS) (h0:bO≠0) (hS:bS<W1.heap.size)
  (hv:(W.setCell ⟨bO,j,none⟩ v).heap[bO]? = some (o (pre++[x]))) (hg:Grew (W.setCell ⟨bO,j,none⟩ v) V):KeepsFrom W1.heap.size W V∧(∀ b∈[bS,0],V.heap[b]? = W.heap[b]?)∧LoopI W1 bO bS o (pre++[x]) V:=by
 have hs:=(grownBy_set W bO j v).size;have key:∀ k,k<W.heap.size→k≠bO→V.heap[k]? = W.heap[k]? := fun k hk hkO=>(hg.block k (Nat.lt_of_lt_of_le hk hs)).trans (heap_setCell_ne W hkO _ _)
 have hsz:=h.low.size;refine ⟨⟨Nat.le_trans hs hg.size,fun k o hk ho _=>(key k (Array.getElem?_eq_some_iff.1 ho).1 (by omega)).trans ho⟩,fun b hb=>?_,⟨below_grew (below_set h.low (Nat.zero_le _)) hg (Nat.zero_le _),fun k h1 h2 h3=>(key k (by omega) h2).trans (h.kept k h1 h2 h3),(hg.block bO (by omega)).trans hv⟩⟩;rcases List.mem_cons.1 hb with rfl | hb
 · exact key _ (by omega) (fun e=>hne e.symm)
 · obtain rfl:=List.mem_singleton.1 hb
   exact key 0 (by omega) (fun e=>h0 e.symm)
theorem LoopI.same {W1 W V:World} {bO bS:Nat} {o:List Nat→Obj} {pre:List Nat} {x:Nat} (h:LoopI W1 bO bS o pre W) (hO:bO<W1.heap.size) (hS:bS<W1.heap.size) (he:o (pre++[x])=o pre)
  (hg:Grew W V):KeepsFrom W1.heap.size W V∧(∀ b∈[bS,0],V.heap[b]? = W.heap[b]?)∧LoopI W1 bO bS o (pre++[x]) V:=by
 have hsz:=h.low.size;refine ⟨⟨hg.size,fun k o hk ho _=>(hg.block k (Array.getElem?_eq_some_iff.1 ho).1).trans ho⟩,fun b hb=>hg.block b ?_,⟨below_grew h.low hg (Nat.zero_le _),fun k h1 h2 h3=>(hg.block k (by omega)).trans (h.kept k h1 h2 h3),(hg.block bO (by omega)).trans (he ▸ h.own)⟩⟩;rcases List.mem_cons.1 hb with rfl | hb
 · omega
 · obtain rfl:=List.mem_singleton.1 hb
   omega
def setO (p:Nat→Bool) (pre:List Nat):Obj:=.cells #[.int .u64 (setS (pre.filter p):Nat)] 69 (0,0)
theorem asc_sub:∀ {L:List Nat} (p:Nat→Bool),Asc L→Asc (L.filter p)
 | [],_,_=>trivial
 | x :: r, p, h => by
   have ih:=asc_sub p h.2;rw [List.filter_cons];split
   · exact ⟨fun y hy=>h.1 y (List.mem_filter.1 hy).1,ih⟩
   · exact ih
theorem asc_pre:∀ {pre r:List Nat} {x:Nat},Asc (pre++x::r)→Asc pre∧∀ y∈pre,y<x
 | [],_,_,_=>⟨trivial,fun y h=>by cases h⟩
 | z :: pre, r, x, h => by
   obtain ⟨h1,h2⟩:=asc_pre (pre:=pre) h.2;refine ⟨⟨fun y hy=>h.1 y (List.mem_append_left _ hy),h1⟩,fun y hy=>?_⟩;rcases List.mem_cons.1 hy with rfl | hy
   · exact h.1 x (by simp)
   · exact h2 y hy
set_option maxRecDepth 100000 in
set_option maxHeartbeats 16000000 in
theorem keep_any (n:Int) (N m I b off tcap C:Nat) (tl:List Bool) (o:Int) (L:List Nat) (w:World) (hn:(n=2∧N=2∧m=2∧tl.length=1)∨(n=4∧N=64∧m=4∧tl.length=6)) (ha:Asc L) (hL:∀ y∈L,y<N) (hb:b<w.heap.size) (ht:BlsAt w b off tl) (hI:I<m) (hT:Tab w m N C) (hD:DebAt w) :
  Calls prog 42 #[.slice (some ⟨C,0,none⟩) N N,.int .u64 (setS L),.agg #[.slice (some ⟨b,off,none⟩) tl.length tcap,.int .i64 I,.int .i64 o]] w fun e w'=>e=.returned (.int .u64 (setS (L.filter (agP n tl I o)):Nat))∧Below w.heap.size w w':=by
 have HAN:=hid fun s (hs:s<N) w' (h1:b<w'.heap.size) (h2:BlsAt w' b off tl) (h3:Tab w' m N C)=>show Calls prog 52 #[.slice (some ⟨C,0,none⟩) N N,.int .i64 s,.slice (some ⟨b,off,none⟩) tl.length tcap,.int .i64 I] w' fun e w''=>e=.returned (.int .i64 (refA n (thB s tl) I:Nat))∧w''=w' by
  rcases hn with ⟨rfl,rfl,rfl,h4⟩ | ⟨rfl,rfl,rfl,h4⟩
  · exact answer_any s I b off tcap tl _ w' h1 (by omega) h2 h3 (by rw [h4]) hs hI (by omega) (table2 s tl I hI)
  · exact answer_any s I b off tcap tl _ w' h1 (by omega) h2 h3 (by rw [h4]) hs hI (by omega) (table4 s tl I hI)
 have hN64:N≤64:=by omega
 have hC:=hT.lt;obtain ⟨p,hp⟩:∃ p,agP n tl I o=p:=⟨_,rfl⟩;have HP:Hid (∀ s,p s=decide (((refA n (thB s tl) I:Nat):Int)=o)):=hid fun s=>by rw [← hp];rfl
 rw [hp];have HT:=hid hT;have HB:=hid ht;have HD:=hid hD;have HA:=hid ha;have HLB:=hid hL;have h0w:0<w.heap.size:=hD.1;clear hn hT ht hD ha hL hp;obtain ⟨T,hTT⟩:∃ T,tl.length=T:=⟨_,rfl⟩;rw [hTT] at HAN ⊢;clear hTT;obtain ⟨S,hS⟩:∃ S,setS L=S:=⟨_,rfl⟩;rw [hS];have HS:=hid hS;clear hS;refine (callsIn_wide (n:=9)).1 ?_;refine callsIn_of_wp_marks func42 rfl trivial ?_ rfl;refine wpIn_wide.2 ?_;simp only [ntmps42,List.size_toArray,List.length_cons,List.length_nil,Nat.reduceAdd,Nat.reduceSub,Array.replicate_succ,Array.replicate_zero,List.push_toArray,List.append_toArray,List.nil_append,List.cons_append];go_wp2_with fail
 refine (all_any _ _).mono ?_;rintro e w1 ⟨rfl,rfl⟩;go_wp2_with fail
 obtain ⟨B,hB⟩:∃ B,w.heap.size=B:=⟨_,rfl⟩;simp only [Nat.add_assoc,Nat.reduceAdd,hB];obtain ⟨W1,hW1⟩:∃ W,(((w.alloc (.cells #[.slice (some ⟨C,0,none⟩) N N] 73)).alloc (.cells #[.slice (some ⟨b,off,none⟩) T tcap,.int .i64 I,.int .i64 o] 48)).alloc (.cells #[.int .u64 0] 69)).alloc (.cells #[.int .u64 S] 69)=W:=⟨_,rfl⟩;have hs1:W1.heap.size=B+4:=by rw [← hW1];simp only [World.size_alloc];omega
 have e0:W1.heap[B]? = some (.cells #[.slice (some ⟨C,0,none⟩) N N] 73 (0,0)):=by rw [← hW1];repeat (first | exact al_new (by first | omega | (simp only [World.size_alloc];omega)) | rw [al_old (by first | omega | (simp only [World.size_alloc];omega))])
 have e1:W1.heap[B+1]? = some (.cells #[.slice (some ⟨b,off,none⟩) T tcap,.int .i64 I,.int .i64 o] 48 (0,0)):=by rw [← hW1];repeat (first | exact al_new (by first | omega | (simp only [World.size_alloc];omega)) | rw [al_old (by first | omega | (simp only [World.size_alloc];omega))])
 have e2:W1.heap[B+2]? = some (.cells #[.int .u64 0] 69 (0,0)):=by rw [← hW1];repeat (first | exact al_new (by first | omega | (simp only [World.size_alloc];omega)) | rw [al_old (by first | omega | (simp only [World.size_alloc];omega))])
 have e3:W1.heap[B+3]? = some (.cells #[.int .u64 S] 69 (0,0)):=by rw [← hW1];repeat (first | exact al_new (by first | omega | (simp only [World.size_alloc];omega)) | rw [al_old (by first | omega | (simp only [World.size_alloc];omega))])
 have hg1:Grew w W1:=by rw [← hW1];exact gw0
 rw [hW1];have HE:=hid (And.intro e0 e1);have HG:=hid hg1;have HRUN:=hid (all_runs 8 (by decide) (B+3) L HA.out (fun y hy=>by have:=HLB.out y hy;omega) W1 (HD.out.of_block (hg1.block 0 h0w)) (by rw [HS.out];exact e3));have HI0:Hid (LoopI W1 (B+2) (B+3) (setO p) [] W1):=hid ⟨Below.refl _ _,fun _ _ _ _=>rfl,e2⟩;clear hW1 e0 e1 e2 e3 hg1 HD HS;refine (wpIn_wide (n:=9)).1 ?_;refine wpIn_rangeFunc_run (by decide) (gf:=71) (lb:=#[.pointer (some ⟨B+3,0,none⟩)]) rfl (enters_of func71 (by kernel_rfl) rfl)
  (bs:=[B+3]) (ks:=[B+3,0]) HRUN.out (fun k hk=>by rw [List.mem_singleton] at hk;omega) (fun k hk=>by simp at hk;omega) (fun _=>rfl)
  (LoopI W1 (B+2) (B+3) (setO p)) (loopI_steady (by omega) (by omega)) HI0.out
  (fun x=>{ tmps:=#[.slice (some ⟨C,0,none⟩) N N,.int .u64 S,.agg #[.slice (some ⟨b,off,none⟩) T tcap,.int .i64 I,.int .i64 o],.pointer (some ⟨B,0,none⟩),undef,.pointer (some ⟨B+1,0,none⟩),.int .u64 0,.pointer (some ⟨B+2,0,none⟩),.int .i64 (x:Nat),.int .u64 S,.func (.func 71) #[] #[.pointer (some ⟨B+3,0,none⟩)],.int .i64 (x:Nat),undef,undef,undef,undef,undef,undef,undef,undef,undef,undef,undef,undef,undef,undef,undef],defers:=[] }) ?assign ?body ?done
 case assign =>
  intro lp x W K hK;simp only [encX]
  gi_wp2
  exact hK
 case body =>
  rintro lp pre x W hI ⟨r,hr⟩;have hxN:x<N:=HLB.out x (by rw [hr];simp);have hBW:Below w.heap.size w W:=hI.start HG.out (by omega) (by omega);have HAX:=hid fun w' (hg:Grew W w')=>(HAN.out x hxN w' (Nat.lt_of_lt_of_le (Nat.lt_of_lt_of_le hb hBW.size) hg.size) ((HB.out.below hb hBW).grew (Nat.lt_of_lt_of_le hb hBW.size) hg) ((HT.out.below hBW).grew hg)).mono fun e w'' h=>And.intro h.1 (show Grew w' w'' by rw [h.2];exact Grew.refl _)
  have hpx:=HP.out x;have hfs:(pre++[x]).filter p=pre.filter p++(if p x then [x] else []):=by rw [List.filter_append];congr 1;cases hq:p x <;> simp [hq]
  rw [hr] at HA;obtain ⟨hap,hlt⟩:=asc_pre HA.out;have hor:=set_or (asc_sub p hap) (fun y hy=>hlt y (List.mem_filter.1 hy).1) (show x<64 by omega);obtain ⟨r,hr⟩:∃ r,refA n (thB x tl) I=r:=⟨_,rfl⟩;rw [hr] at HAX hpx;have k0:=(hI.kept B (by omega) (by omega) (by omega)).trans HE.out.1;have k1:=(hI.kept (B+1) (by omega) (by omega) (by omega)).trans HE.out.2;have y0:W.cell? ⟨B,0,none⟩=some (.slice (some ⟨C,0,none⟩) N N):=by simp [World.cell?,k0]
  have y1:W.cell? ⟨B+1,0,none⟩=some (.slice (some ⟨b,off,none⟩) T tcap):=by simp [World.cell?,k1]
  have y2:W.cell? ⟨B+1,1,none⟩=some (.int .i64 I):=by simp [World.cell?,k1]
  have y3:W.cell? ⟨B+1,2,none⟩=some (.int .i64 o):=by simp [World.cell?,k1]
  have hsW:B+4≤W.heap.size:=by have:=hI.low.size;omega
  have z0:B<W.heap.size:=by omega
  have z1:B+1<W.heap.size:=by omega
  have z2:B+2<W.heap.size:=by omega
  have hown:=hI.own;have HI:=hid hI;obtain ⟨V0,hV0⟩:∃ V0,setS (pre.filter p)=V0:=⟨_,rfl⟩;have c1:W.cell? ⟨B+2,0,none⟩=some (.int .u64 V0):=by simp [World.cell?,hown,setO,hV0]
  have f1:W.frozen? ⟨B+2,0,none⟩=false:=by simp [World.frozen?,hown,setO]
  rw [hV0] at hor;by_cases hv:(r:Int)=o
  · rw [decide_eq_true hv] at hpx
    rw [hpx,if_pos rfl] at hfs;have hv1:((r:Int)==o)=true:=by simpa using hv
    have hv2:decide ((r:Int)=o)=true:=decide_eq_true hv;have hpw:=pow_wrap (show x<64 by omega);have HST:=hid fun V (hg:Grew (W.setCell ⟨B+2,0,none⟩ (.int .u64 (setS (pre.filter p++[x]):Nat))) V)=>hI.put (x:=x) (V:=V) (by omega) (by omega) (by omega) (by omega) (show _=some (setO p (pre++[x])) by unfold setO;rw [hfs];exact box_set hown) hg
    obtain ⟨V1,hV1⟩:∃ V1,setS (pre.filter p++[x])=V1:=⟨_,rfl⟩;rw [hV1] at HST hor;have hor2:bits .or .u64 (V0:Int) ((2:Int) ^ x)=(V1:Int):=by rw [← hor];congr 1
    clear hI hBW hr k0 k1 hown hV0 hV1 hap hlt hfs hpx hv
    gi_wp2
    refine R3.wpIn_region_gentle_tail 10 (by kernel_rfl) (by kernel_rfl) (fun h=>by obtain ⟨_,_,h⟩:=h;exact h) (by kernel_rfl) (by kernel_rfl) ?_;simp only [List.take_succ_cons,List.take_zero,List.drop_succ_cons,List.drop_zero];repeat (first | go_big_quiet_skip | (go_big_quiet_want;go_big_quiet_op;first | go_big_quiet_on | (apply Exists.intro;refine ⟨fun qq=>?_, ?_⟩;(focus ((first | (go_at_call 52;refine Calls.gentle_of (HAX.out _ gw0) ?_));rintro _ ⟨g',n',rfl⟩;(first | exact gentle_fin_c _ _ _ _ _ | exact gentle_fin _ _ _ _ | exact gentle_fin_gc _ _ _ _ _ _ | exact gentle_fin_g _ _ _ _ _)));go_big_quiet_on)))
    refine wpQuiet_nil ?_;rintro _ ⟨gg,ng,rfl⟩;go_wp2_with fail
    gi_wp2
    refine R3.wpIn_region_gentle_tail 4 (by kernel_rfl) (by kernel_rfl) (fun h=>by obtain ⟨_,_,h⟩:=h;exact h) (by kernel_rfl) (by kernel_rfl) ?_;simp only [List.take_succ_cons,List.take_zero,List.drop_succ_cons,List.drop_zero];repeat (first | go_big_quiet_skip | (go_big_quiet_want;go_big_quiet_op;go_big_quiet_on))
    refine wpQuiet_nil ?_;rintro _ ⟨gg,ng,rfl⟩;go_wp2_with fail
    exact HST.out _ gw0
  · rw [decide_eq_false hv] at hpx
    rw [hpx,if_neg Bool.false_ne_true,List.append_nil] at hfs;have hv1:((r:Int)==o)=false:=by simpa using hv
    have hv2:decide ((r:Int)=o)=false:=decide_eq_false hv;have HST:=hid fun V (hg:Grew W V)=>hI.same (x:=x) (V:=V) (by omega) (by omega) (show setO p (pre++[x])=setO p pre by unfold setO;rw [hfs]) hg
    clear hI hBW hr k0 k1 hown hV0 hap hlt hfs hpx hv hor
    gi_wp2
    refine R3.wpIn_region_gentle_tail 10 (by kernel_rfl) (by kernel_rfl) (fun h=>by obtain ⟨_,_,h⟩:=h;exact h) (by kernel_rfl) (by kernel_rfl) ?_;simp only [List.take_succ_cons,List.take_zero,List.drop_succ_cons,List.drop_zero];repeat (first | go_big_quiet_skip | (go_big_quiet_want;go_big_quiet_op;first | go_big_quiet_on | (apply Exists.intro;refine ⟨fun qq=>?_, ?_⟩;(focus ((first | (go_at_call 52;refine Calls.gentle_of (HAX.out _ gw0) ?_));rintro _ ⟨g',n',rfl⟩;(first | exact gentle_fin_c _ _ _ _ _ | exact gentle_fin _ _ _ _ | exact gentle_fin_gc _ _ _ _ _ _ | exact gentle_fin_g _ _ _ _ _)));go_big_quiet_on)))
    refine wpQuiet_nil ?_;rintro _ ⟨gg,ng,rfl⟩;go_wp2_with fail
    gi_wp2
    exact HST.out _ gw0
 case done =>
  intro D Wd hDl hI hK;have hBW:Below w.heap.size w Wd:=hI.start HG.out (by omega) (by omega);have hown:=hI.own;obtain ⟨V0,hV0⟩:∃ V0,setS (L.filter p)=V0:=⟨_,rfl⟩;have y4:Wd.cell? ⟨B+2,0,none⟩=some (.int .u64 V0):=by simp [World.cell?,hown,setO,hV0]
  have z4:B+2<Wd.heap.size:=(Array.getElem?_eq_some_iff.1 hown).1;have HBW:=hid hBW;have HK:=hid hK;have HDL:=hid hDl;have HV:=hid hV0;clear hI hBW hK hown hDl hV0
  gi_wp2
  go_wp2_with fail
  refine ⟨by simp,.inl ⟨_,_,rfl,run_takeDeferred (b:=D) (ds:=[]) HK.out, ?_⟩⟩;refine ⟨.int .u64 V0,by simp [results,go_sem],by rw [HV.out], ?_⟩;exact HBW.out.trans (belowK_b (w:=w) (Nat.le_refl _) Wd D _ _ (by have:=HDL.out;omega) HK.out rfl rfl)
open Go Go.Pt Go.RowKit Prb
attribute [local go_sem] Oper.semAt_some
structure ColI (w W1:World) (bS:Nat) (pre:List Nat) (W:World):Prop where
 low:Below 0 W1 W
 kept:∀ k,k<W1.heap.size→k≠w.heap.size→k≠bS→W.heap[k]? = W1.heap[k]?
 own:∃ v,Boxed W w.heap.size 22 v∧W.ownsRow w.heap.size 3 1 v pre.length (zCells (ints pre))
theorem colI_steady {w W1:World} {bS:Nat} (hs:W1.heap.size=w.heap.size+1) (hS:bS<w.heap.size):Steady W1.heap.size [bS] (ColI w W1 bS):=by
 intro pre X Y row h hg hr;have key:∀ k,k<W1.heap.size→k≠bS→Y.heap[k]? = X.heap[k]? := fun k hk hks=>hg.block k (Nat.lt_of_lt_of_le hk h.low.size) fun e=>by
  rcases hr k e.symm with h1 | ⟨h1,_⟩
  · exact hks (List.mem_singleton.1 h1)
  · omega
 obtain ⟨v,hv,ho⟩:=h.own;refine ⟨h.low.grown hg (Nat.zero_le _) (fun _ _=>Nat.zero_le _),fun k h1 h2 h3=>(key k h1 h3).trans (h.kept k h1 h2 h3),v,(key _ (by omega) (by omega)).trans hv,ho.kept hg ?_⟩;cases hk:v.ownBlock with
 | none=>exact .inl rfl
 | some k =>
   refine .inr fun e=>?_
   rcases ho.2 with ⟨h1,_⟩ | ⟨g,cap,cur,h1,h2,h3,_⟩
   · rw [h1] at hk;simp [Value.ownBlock] at hk
   · obtain rfl:g=k:=by rw [h1] at hk;simpa [Value.ownBlock] using hk
     rcases hr g e.symm with h4 | ⟨_,o,h5,h6⟩
     · have:=List.mem_singleton.1 h4;omega
     · rw [h3] at h5;cases h5;cases h6
theorem ColI.step {w W1 W w1:World} {bS:Nat} {v v':Value} {pre:List Nat} {x:Nat} {tmp:Obj} (h:ColI w W1 bS pre W) (hs:W1.heap.size=w.heap.size+1) (hS:bS<w.heap.size)
  (hv:Boxed W w.heap.size 22 v) (ho:W.ownsRow w.heap.size 3 1 v pre.length (zCells (ints pre))) (hown:w1.ownsRow w.heap.size 3 1 v' (pre.length+1) (zCells (ints pre)++[.int .i64 (x:Nat)])) (hgrow:(W.alloc tmp).grownBy w1 v.ownBlock) :
  Boxed w1 w.heap.size 22 v∧(KeepsFrom W1.heap.size W (w1.setCell ⟨w.heap.size,0,none⟩ v')∧(∀ b∈[bS,0],(w1.setCell ⟨w.heap.size,0,none⟩ v').heap[b]? = W.heap[b]?)∧ColI w W1 bS (pre++[x]) (w1.setCell ⟨w.heap.size,0,none⟩ v')):=by
 have hsz:=h.low.size;obtain ⟨hv1,hv2,hr2,hk2,hb2⟩:=hv.appended (by decide) ho (by omega) (Nat.le_refl _) hown hgrow;refine ⟨hv1,hk2.from _,fun b hb=>hb2.block b ?_,⟨h.low.trans ⟨hb2.os,hb2.tape,hb2.output,hb2.size,fun k hk=>absurd hk (Nat.not_lt_zero k)⟩,fun k h1 h2 h3=>(hb2.block k (by omega)).trans (h.kept k h1 h2 h3),v',hv2, ?_⟩⟩
 · rcases List.mem_cons.1 hb with rfl | hb
   · exact hS
   · obtain rfl:=List.mem_singleton.1 hb
     omega
 · rw [ints_snoc,zCells_app,List.length_append]
   exact hr2
theorem ColI.start {w W1 W:World} {bS:Nat} {pre:List Nat} (h:ColI w W1 bS pre W) (hg:Grew w W1):w.grownBy W (some bS):=by
 have e:=hg.below;have l:=h.low;exact ⟨l.os.trans e.os,l.tape.trans e.tape,l.output.trans e.output,Nat.le_trans e.size l.size,fun k hk hn=>(h.kept k (Nat.lt_of_lt_of_le hk hg.size) (by omega) (fun e=>hn (by rw [e]))).trans (hg.block k hk)⟩
theorem newCell (W:World) (b:Nat) (hb:b=W.heap.size) (x:Int):∀ j u,[Value.int .i64 x][j]? = some u→(W.alloc (.cells #[.int .i64 x] 3)).cell? ((⟨b,0,none⟩:Addr).add j)=some u:=by
 intro j u hj;subst hb;match j,hj with
 | 0, hj =>
   simp at hj;subst hj;have e:(W.alloc (.cells #[.int .i64 x] 3)).heap[W.heap.size]? = some (.cells #[.int .i64 x] 3 (0,0)):=World.alloc_heap_new W _;unfold Addr.add;simp only [if_pos];simp only [World.cell?,e];rfl
def LisB (bS:Nat) (L:List Nat) (w:World) (e:Ending) (w':World):Prop:=∃ (a:Option Addr) (k:Nat),e=.returned (.slice a L.length k)∧OwnZ w' w.heap.size a k (ints L)∧w.grownBy w' (some bS)
set_option maxRecDepth 100000 in
set_option maxHeartbeats 16000000 in
theorem apseq_any (bS:Nat) (L:List Nat) (w:World) (ha:Asc L) (hL:∀ y∈L,y<64) (hlen:L.length≤64) (hD:DebAt w) (hx:w.heap[bS]? = some (.cells #[.int .u64 (setS L)] 69 (0,0))) :
  Calls prog 70 #[.slice none 0 0,.func (.func 71) #[] #[.pointer (some ⟨bS,0,none⟩)]] w (LisB bS L w):=by
 have hbS:=(Array.getElem?_eq_some_iff.1 hx).1;have HX:=hid hx;have HD:=hid hD;have HA:=hid ha;have HLB:=hid hL;have h0w:0<w.heap.size:=hD.1;obtain ⟨i0,hi,hz0,hz1,hz2⟩:=info_parts zok.info;have HCELLS:=hid (And.intro hz0 (And.intro hz1 hz2));clear hx hD ha hL hz0 hz1 hz2;refine (callsIn_wide (n:=9)).1 ?_;refine callsIn_of_wp_marks func70 rfl trivial ?_ rfl;refine wpIn_wide.2 ?_;simp only [ntmps70,List.size_toArray,List.length_cons,List.length_nil,Nat.reduceAdd,Nat.reduceSub,Array.replicate_succ,Array.replicate_zero,List.push_toArray,List.append_toArray,List.nil_append,List.cons_append];go_wp2_with fail
 obtain ⟨B,hB⟩:∃ B,w.heap.size=B:=⟨_,rfl⟩;have HBQ:=hid hB;rw [hB];obtain ⟨W1,hW1⟩:∃ W,w.alloc (.cells #[.slice none 0 0] 22)=W:=⟨_,rfl⟩;have hs1:W1.heap.size=w.heap.size+1:=by rw [← hW1];simp only [World.size_alloc]
 have e0:W1.heap[w.heap.size]? = some (.cells #[.slice none 0 0] 22 (0,0)):=by rw [← hW1];exact al_new rfl
 have hg1:Grew w W1:=by rw [← hW1];exact (Grew.refl w).alloc _
 rw [hW1];have HG:=hid hg1;have HRUN:=hid (all_runs 8 (by decide) bS L HA.out HLB.out W1 (HD.out.of_block (hg1.block 0 h0w)) ((hg1.block bS hbS).trans HX.out));have HI0:Hid (ColI w W1 bS [] W1):=hid ⟨Below.refl _ _,fun _ _ _ _=>rfl,_,e0,World.ownsRow_nil _ _ _ _⟩;have HS1:=hid hs1;have hs2:W1.heap.size=B+1:=by rw [hs1,hB]
 clear hW1 e0 hg1 HA HD hs1;refine (wpIn_wide (n:=9)).1 ?_;refine wpIn_rangeFunc_run (by decide) (gf:=71) (lb:=#[.pointer (some ⟨bS,0,none⟩)]) rfl (enters_of func71 (by kernel_rfl) rfl)
  (bs:=[bS]) (ks:=[bS,0]) HRUN.out (fun k hk=>by rw [List.mem_singleton] at hk;omega) (fun k hk=>by simp at hk;omega) (fun _=>rfl)
  (ColI w W1 bS) (colI_steady HS1.out hbS) HI0.out
  (fun x=>{ tmps:=#[.slice none 0 0,.func (.func 71) #[] #[.pointer (some ⟨bS,0,none⟩)],.pointer (some ⟨B,0,none⟩),undef,.slice none 0 0,.int .i64 (x:Nat),.func (.func 71) #[] #[.pointer (some ⟨bS,0,none⟩)],.int .i64 (x:Nat),undef,undef,undef,undef,undef],defers:=[] }) ?assign ?body ?done
 case assign =>
  intro lp x W K hK;simp only [encX]
  gi_wp2
  exact hK
 case body =>
  rintro lp pre x W hI ⟨r,hr⟩;obtain ⟨v,hv,ho⟩:=hI.own;have hpl:pre.length<L.length:=by rw [hr];simp
  have HI:=hid hI;have HV:=hid hv;have HO:=hid ho;have HS2:=hid hI.low.size;have c7:=hv.cell;have hbl:=hv.lt;rw [hB] at c7 hbl;have hp9:pre.length≤64:=by omega
  clear hI hv ho hr hpl
  gi_wp2_with (gi_at_builtin;go_loud (refine wpListIn_append_own _ rfl _ _ 22 rfl w.heap.size 3 i0 (.int .i64 0) 1 8 zok.und hi HCELLS.out.1 HCELLS.out.2.1 HCELLS.out.2.2 rfl (by decide) _ _ _ rfl (HO.out.alloc _) ⟨_,0,none⟩ 1 1 [.int .i64 (x:Nat)] rfl rfl (newCell _ _ (by simp [go_sem]) x) (fun u hu=>zCells_one (l:=[(x:Int)]) hu) (by unfold maxLen;omega) (by omega) (by have:=HS2.out;simp [go_sem];omega) ?_);intro v2 w1 hown hgrow _;obtain ⟨g',cap',rfl⟩:=ownsRow_succ hown;obtain ⟨hv1,hfin⟩:=ColI.step HI.out HS1.out hbS HV.out HO.out hown hgrow;have hc1:=hv1.cell;have hf1:=hv1.frozen;have HFIN:=hid hfin;rw [hB] at hc1 hf1;rw [hB] at HFIN;clear hv1 hfin hown hgrow)
  exact HFIN.out
 case done =>
  intro D Wd hDl hI hK;obtain ⟨v,hv,ho⟩:=hI.own;obtain ⟨a2,k2,rfl⟩:=ownsRow_slice ho;have hBW:=hI.start HG.out;have c7:=hv.cell;have hbl:=hv.lt;rw [hB] at c7 hbl;have HO:=hid ho;have HBW:=hid hBW;have HK:=hid hK;have HDL:=hid hDl;clear hI hv ho hBW hK hDl
  gi_wp2
  go_wp2_with fail
  refine ⟨by simp,.inl ⟨_,_,rfl,run_takeDeferred (b:=D) (ds:=[]) HK.out, ?_⟩⟩;refine ⟨.slice a2 L.length k2,by simp [results,go_sem],a2,k2,rfl, ?_, ?_⟩
  · unfold OwnZ
    rw [ints_len];exact ownsRow_putObj HO.out _ HK.out rfl
  · have h:=HBW.out
    have hp:=belowK_b (w:=w) (Nat.le_refl _) Wd D (.deferred (some [])) (.deferred none) (by have:=HDL.out;have:=HS1.out;omega) HK.out rfl rfl;exact ⟨hp.os.trans h.os,hp.tape.trans h.tape,hp.output.trans h.output,Nat.le_trans h.size hp.size,fun k hk hn=>(hp.block k hk).trans (h.block k hk hn)⟩
theorem collect_any (bS:Nat) (L:List Nat) (w:World) (ha:Asc L) (hL:∀ y∈L,y<64) (hlen:L.length≤64) (hD:DebAt w) (hx:w.heap[bS]? = some (.cells #[.int .u64 (setS L)] 69 (0,0))) :
  Calls prog 43 #[.func (.func 71) #[] #[.pointer (some ⟨bS,0,none⟩)]] w (LisB bS L w):=by
 have HA:=hid (apseq_any bS L w ha hL hlen hD hx);clear ha hL hlen hD hx;go_enter func43,ntmps43
 go_wp2_with fail
 refine HA.out.mono ?_;rintro e w1 ⟨a,k,rfl,hO,hB⟩;have HO:=hid hO;have HB:=hid hB;clear hO hB;go_wp2_with fail
 exact bodyPost_ret (v:=.slice a L.length k) (by simp [results,go_sem]) rfl ⟨a,k,rfl,HO.out,HB.out⟩
theorem asc_len:∀ {L:List Nat} {lo:Nat},Asc L→(∀ y∈L,lo≤y∧y<64)→lo≤64→L.length+lo≤64
 | [],_,_,_,h=>by simpa using h
 | x :: r, lo, ha, hb, h => by
   have hx:=hb x List.mem_cons_self;have:=asc_len (L:=r) (lo:=x+1) ha.2 (fun y hy=>⟨ha.1 y hy,(hb y (List.mem_cons_of_mem _ hy)).2⟩) (by omega);simp only [List.length_cons];omega
end Go.Proofs.Qm
