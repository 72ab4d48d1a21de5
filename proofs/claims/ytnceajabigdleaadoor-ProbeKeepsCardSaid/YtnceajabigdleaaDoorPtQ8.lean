/- Layer 9, in main's ghost: how the states of a set answer: the program. Condition: the table and the settings lie in memory. -/
import Derived.Test.YtnceajabigdleaaDoorPtQ7
import Derived.Test.YtnceajabigdleaaDoorPtQ6
import Derived.Test.YtnceajabigdleaaDoorPtH4
import Derived.RangeFuncKeeps
import Derived.Shelf.Abstract
namespace Go.Proofs.Qm
open Go Go.Pt Go.RowKit Prb
attribute [local go_sem] Oper.semAt_some
theorem all_any (s:Int) (w:World):Calls prog 44 #[.int .u64 s] w fun e w'=>e=.returned (.func (.func 71) #[] #[.pointer (some ⟨w.heap.size,0,none⟩)])∧w'=w.alloc (.cells #[.int .u64 s] 69):=by
 go_enter func44,ntmps44
 go_wp2_with fail
 exact bodyPost_ret (v:=.func (.func 71) #[] #[.pointer (some ⟨w.heap.size,0,none⟩)]) (by simp [results,go_sem]) rfl ⟨rfl,rfl⟩
theorem al_new {w:World} {o:Obj} {k:Nat} (h:k=w.heap.size):(w.alloc o).heap[k]? = some o:=by subst h;exact World.alloc_heap_new w o
theorem al_old {w:World} {o:Obj} {k:Nat} (h:k<w.heap.size):(w.alloc o).heap[k]? = w.heap[k]? := Below.heap_alloc _ _ _ h
def Row (w:World) (b:Nat) (cs:List Int):Prop:=w.heap[b]? = some (.cells (zCells cs).toArray 3 (0,0))
theorem Row.at {w:World} {b:Nat} {cs:List Int} (h:Row w b cs) {j:Nat} {c:Int} (hc:cs[j]? = some c):w.cell? ⟨b,j,none⟩=some (.int .i64 c)∧w.frozen? ⟨b,j,none⟩=false:=by
 unfold Row at h;refine ⟨?_,by simp [World.frozen?,h]⟩;simp only [World.cell?,h];have:=zCells_at hc
 simpa using this
theorem Row.put {w:World} {b:Nat} {cs:List Int} (h:Row w b cs) (j:Nat) (c:Int):Row (w.setCell ⟨b,j,none⟩ (.int .i64 c)) b (cs.set j c):=by
 unfold Row at *
 unfold World.setCell;rw [Array.getElem?_modify,if_pos rfl,h];simp [zCells,List.map_set]
theorem Row.lt {w:World} {b:Nat} {cs:List Int} (h:Row w b cs):b<w.heap.size:=(Array.getElem?_eq_some_iff.1 h).1
theorem Row.nsA {w:World} {b:Nat} {cs:List Int} (h:Row w b cs):NsA w (some ⟨b,0,none⟩) cs:=fun i x hx=>⟨b,0,rfl,h.lt,by rw [Nat.zero_add];exact (h.at hx).1⟩
structure PartI (W1:World) (bO bS m:Nat) (f:Nat→Nat) (pre:List Nat) (W:World):Prop where
 low:Below 0 W1 W
 kept:∀ k,k<W1.heap.size→k≠bO→k≠bS→W.heap[k]? = W1.heap[k]?
 own:Row W bO (cntL m f pre)
theorem partI_steady {W1:World} {bO bS m:Nat} {f:Nat→Nat} (hO:bO<W1.heap.size) (hne:bO≠bS):Steady W1.heap.size [bS] (PartI W1 bO bS m f):=by
 intro pre X Y row h hg hr;have key:∀ k,k<W1.heap.size→k≠bS→Y.heap[k]? = X.heap[k]? := fun k hk hks=>hg.block k (Nat.lt_of_lt_of_le hk h.low.size) fun e=>by
  rcases hr k e.symm with h1 | ⟨h1,_⟩
  · exact hks (List.mem_singleton.1 h1)
  · omega
 exact ⟨h.low.grown hg (Nat.zero_le _) (fun _ _=>Nat.zero_le _),fun k h1 h2 h3=>(key k h1 h3).trans (h.kept k h1 h2 h3),(key bO hO hne).trans h.own⟩
theorem PartI.step {W1 W V:World} {bO bS m:Nat} {f:Nat→Nat} {pre:List Nat} {x:Nat} {c:Int} (h:PartI W1 bO bS m f pre W) (hO:bO<W1.heap.size) (hne:bO≠bS) (h0:bO≠0) (hS:bS<W1.heap.size) (hc:(cntL m f pre).getD (f x) 0=c)
  (hg:Grew (W.setCell ⟨bO,f x,none⟩ (.int .i64 (c+1))) V):KeepsFrom W1.heap.size W V∧(∀ b∈[bS,0],V.heap[b]? = W.heap[b]?)∧PartI W1 bO bS m f (pre++[x]) V:=by
 have hs:=(grownBy_set W bO (f x) (.int .i64 (c+1))).size;have key:∀ k,k<W.heap.size→k≠bO→V.heap[k]? = W.heap[k]? := fun k hk hkO=>(hg.block k (Nat.lt_of_lt_of_le hk hs)).trans (heap_setCell_ne W hkO _ _)
 have hsz:=h.low.size;refine ⟨⟨Nat.le_trans hs hg.size,fun k o hk ho _=>(key k (Array.getElem?_eq_some_iff.1 ho).1 (by omega)).trans ho⟩,fun b hb=>?_,⟨?_,fun k h1 h2 h3=>(key k (by omega) h2).trans (h.kept k h1 h2 h3), ?_⟩⟩
 · rcases List.mem_cons.1 hb with rfl | hb
   · exact key _ (by omega) (fun e=>hne e.symm)
   · obtain rfl:=List.mem_singleton.1 hb
     exact key 0 (by omega) (fun e=>h0 e.symm)
 · exact below_grew (below_set h.low (Nat.zero_le _)) hg (Nat.zero_le _)
 · rw [cntL_snoc]
   unfold bump;rw [hc];exact (hg.block bO (Nat.lt_of_lt_of_le h.own.lt hs)).trans (h.own.put (f x) (c+1))
theorem Tab.below {w w':World} {n N C:Nat} (h:Tab w n N C) (hg:Below w.heap.size w w'):Tab w' n N C:=by
 have key:∀ b i:Nat,b<w.heap.size→w'.cell? ⟨b,i,none⟩=w.cell? ⟨b,i,none⟩:=fun b i hb=>by simp only [World.cell?,hg.block b hb]
 refine ⟨Nat.lt_of_lt_of_le h.lt hg.size,fun k hk=>?_⟩;obtain ⟨g,cp,h1,h2,h3⟩:=h.row k hk;exact ⟨g,cp,Nat.lt_of_lt_of_le h1 hg.size,(key _ _ h.lt).trans h2,fun j z hj hz=>(key _ _ h1).trans (h3 j z hj hz)⟩
theorem PartI.start {w W1 W:World} {bO bS m:Nat} {f:Nat→Nat} {pre:List Nat} (h:PartI W1 bO bS m f pre W) (hg:Grew w W1) (h1:w.heap.size≤bO) (h2:w.heap.size≤bS):Below w.heap.size w W:=by
 have e:=hg.below;have l:=h.low;exact ⟨l.os.trans e.os,l.tape.trans e.tape,l.output.trans e.output,Nat.le_trans e.size l.size,fun k hk=>(h.kept k (Nat.lt_of_lt_of_le hk hg.size) (by omega) (by omega)).trans (hg.block k hk)⟩
set_option maxRecDepth 100000 in
set_option maxHeartbeats 16000000 in
theorem pparts_any (n:Int) (N m i b off tcap C:Nat) (tl:List Bool) (L:List Nat) (w:World) (hn:(n=2∧N=2∧m=2∧tl.length=1)∨(n=4∧N=64∧m=4∧tl.length=6)) (ha:Asc L) (hL:∀ y∈L,y<N) (hlen:L.length≤9223372036854775807) (hb:b<w.heap.size) (ht:BlsAt w b off tl) (hi:i<m) (hT:Tab w m N C) (hD:DebAt w) :
  Calls prog 35 #[.slice (some ⟨C,0,none⟩) N N,.int .i64 n,.int .u64 (setS L),.slice (some ⟨b,off,none⟩) tl.length tcap,.int .i64 i] w fun e w'=>∃ bo:Nat,e=.returned (.slice (some ⟨bo,0,none⟩) m m)∧w.heap.size≤bo∧NsA w' (some ⟨bo,0,none⟩) (cntL m (fun s=>refA n (thB s tl) i) L)∧Below w.heap.size w w':=by
 have HAN:=hid fun s (hs:s<N) w' (h1:b<w'.heap.size) (h2:BlsAt w' b off tl) (h3:Tab w' m N C)=>show Calls prog 52 #[.slice (some ⟨C,0,none⟩) N N,.int .i64 s,.slice (some ⟨b,off,none⟩) tl.length tcap,.int .i64 i] w' fun e w''=>e=.returned (.int .i64 (refA n (thB s tl) i:Nat))∧w''=w' by
  rcases hn with ⟨rfl,rfl,rfl,h4⟩ | ⟨rfl,rfl,rfl,h4⟩
  · exact answer_any s i b off tcap tl _ w' h1 (by omega) h2 h3 (by rw [h4]) hs hi (by omega) (table2 s tl i hi)
  · exact answer_any s i b off tcap tl _ w' h1 (by omega) h2 h3 (by rw [h4]) hs hi (by omega) (table4 s tl i hi)
 have HLT:=hid fun s=>refA_lt n N m _ hn (thB s tl) i hi
 have hm4:m≤4:=by omega
 have hN64:N≤64:=by omega
 obtain rfl:n=(m:Int):=by omega
 have hC:=hT.lt;obtain ⟨f,hf⟩:∃ f,(fun s=>refA (m:Int) (thB s tl) i)=f:=⟨_,rfl⟩;have HAN2:Hid (∀ s,s<N→∀ w':World,b<w'.heap.size→BlsAt w' b off tl→Tab w' m N C→Calls prog 52 #[.slice (some ⟨C,0,none⟩) N N,.int .i64 s,.slice (some ⟨b,off,none⟩) tl.length tcap,.int .i64 i] w' fun e w''=>e=.returned (.int .i64 (f s:Nat))∧w''=w'):=by rw [← hf];exact HAN
 have HL2:Hid (∀ s,f s<m):=by rw [← hf];exact HLT
 rw [hf];have HT:=hid hT;have HB:=hid ht;have HD:=hid hD;have HA:=hid ha;have HLB:=hid hL;have h0w:0<w.heap.size:=hD.1;clear HAN HLT hn hf hT ht hD ha hL;obtain ⟨T,hTT⟩:∃ T,tl.length=T:=⟨_,rfl⟩;rw [hTT] at HAN2 ⊢;clear hTT;obtain ⟨S,hS⟩:∃ S,setS L=S:=⟨_,rfl⟩;rw [hS];have HS:=hid hS;clear hS;have HM:=fun w=>mk_ints m (by omega) w
 obtain ⟨Z,hZ⟩:∃ Z,(zCells (List.replicate m 0)).toArray=Z:=⟨_,rfl⟩;rw [hZ] at HM;have HZ:=hid hZ;clear hZ;refine (callsIn_wide (n:=9)).1 ?_;refine callsIn_of_wp_marks func35 rfl trivial ?_ rfl;refine wpIn_wide.2 ?_;simp only [ntmps35,List.size_toArray,List.length_cons,List.length_nil,Nat.reduceAdd,Nat.reduceSub,Array.replicate_succ,Array.replicate_zero,List.push_toArray,List.append_toArray,List.nil_append,List.cons_append];go_wp2_with fail
 refine (all_any _ _).mono ?_;rintro e w1 ⟨rfl,rfl⟩;go_wp2_with fail
 obtain ⟨B,hB⟩:∃ B,w.heap.size=B:=⟨_,rfl⟩;simp only [Nat.add_assoc,Nat.reduceAdd,hB];obtain ⟨W1,hW1⟩:∃ W,(((((w.alloc (.cells #[.slice (some ⟨C,0,none⟩) N N] 73)).alloc (.cells #[.slice (some ⟨b,off,none⟩) T tcap] 23)).alloc (.cells #[.int .i64 i] 3)).alloc (.cells Z 3)).alloc (.cells #[.slice (some ⟨B+3,0,none⟩) m m] 22)).alloc (.cells #[.int .u64 S] 69)=W:=⟨_,rfl⟩;have hs1:W1.heap.size=B+6:=by rw [← hW1];simp only [World.size_alloc];omega
 have e0:W1.heap[B]? = some (.cells #[.slice (some ⟨C,0,none⟩) N N] 73 (0,0)):=by rw [← hW1];repeat (first | exact al_new (by first | omega | (simp only [World.size_alloc];omega)) | rw [al_old (by first | omega | (simp only [World.size_alloc];omega))])
 have e1:W1.heap[B+1]? = some (.cells #[.slice (some ⟨b,off,none⟩) T tcap] 23 (0,0)):=by rw [← hW1];repeat (first | exact al_new (by first | omega | (simp only [World.size_alloc];omega)) | rw [al_old (by first | omega | (simp only [World.size_alloc];omega))])
 have e2:W1.heap[B+2]? = some (.cells #[.int .i64 i] 3 (0,0)):=by rw [← hW1];repeat (first | exact al_new (by first | omega | (simp only [World.size_alloc];omega)) | rw [al_old (by first | omega | (simp only [World.size_alloc];omega))])
 have e3:W1.heap[B+3]? = some (.cells Z 3 (0,0)):=by rw [← hW1];repeat (first | exact al_new (by first | omega | (simp only [World.size_alloc];omega)) | rw [al_old (by first | omega | (simp only [World.size_alloc];omega))])
 have e4:W1.heap[B+4]? = some (.cells #[.slice (some ⟨B+3,0,none⟩) m m] 22 (0,0)):=by rw [← hW1];repeat (first | exact al_new (by first | omega | (simp only [World.size_alloc];omega)) | rw [al_old (by first | omega | (simp only [World.size_alloc];omega))])
 have e5:W1.heap[B+5]? = some (.cells #[.int .u64 S] 69 (0,0)):=by rw [← hW1];repeat (first | exact al_new (by first | omega | (simp only [World.size_alloc];omega)) | rw [al_old (by first | omega | (simp only [World.size_alloc];omega))])
 have hg1:Grew w W1:=by rw [← hW1];exact gw0
 rw [hW1];have HE:=hid (And.intro e0 (And.intro e1 (And.intro e2 e4)));have HG:=hid hg1;have hrow:Row W1 (B+3) (cntL m f []):=by
  unfold Row;rw [cntL_nil,HZ.out];exact e3
 have HRUN:=hid (all_runs 8 (by decide) (B+5) L HA.out (fun y hy=>by have:=HLB.out y hy;omega) W1 (HD.out.of_block (hg1.block 0 h0w)) (by rw [HS.out];exact e5));have HI0:Hid (PartI W1 (B+3) (B+5) m f [] W1):=hid ⟨Below.refl _ _,fun _ _ _ _=>rfl,hrow⟩;clear hW1 e0 e1 e2 e3 e4 e5 hg1 hrow HM HZ HA HD HS;refine (wpIn_wide (n:=9)).1 ?_;refine wpIn_rangeFunc_run (by decide) (gf:=71) (lb:=#[.pointer (some ⟨B+5,0,none⟩)]) rfl (enters_of func71 (by kernel_rfl) rfl)
  (bs:=[B+5]) (ks:=[B+5,0]) HRUN.out (fun k hk=>by rw [List.mem_singleton] at hk;omega) (fun k hk=>by simp at hk;omega) (fun _=>rfl)
  (PartI W1 (B+3) (B+5) m f) (partI_steady (by omega) (by omega)) HI0.out
  (fun x=>{ tmps:=#[.slice (some ⟨C,0,none⟩) N N,.int .i64 m,.int .u64 S,.slice (some ⟨b,off,none⟩) T tcap,.int .i64 i,.pointer (some ⟨B,0,none⟩),undef,undef,.pointer (some ⟨B+1,0,none⟩),.pointer (some ⟨B+2,0,none⟩),.slice none 0 0,.pointer (some ⟨B+4,0,none⟩),.int .i64 (x:Nat),.int .i64 m,.slice (some ⟨B+3,0,none⟩) m m,.int .u64 S,.func (.func 71) #[] #[.pointer (some ⟨B+5,0,none⟩)],.int .i64 (x:Nat),undef,undef,undef,undef,undef,undef,undef,undef,undef,undef,undef],defers:=[] }) ?assign ?body ?done
 case assign =>
  intro lp x W K hK;simp only [encX]
  gi_wp2
  exact hK
 case body =>
  rintro lp pre x W hI ⟨r,hr⟩;have hxN:x<N:=HLB.out x (by rw [hr];simp);have hBW:Below w.heap.size w W:=hI.start HG.out (by omega) (by omega);have HAX:=hid fun w' (hg:Grew W w')=>(HAN2.out x hxN w' (Nat.lt_of_lt_of_le (Nat.lt_of_lt_of_le hb hBW.size) hg.size) ((HB.out.below hb hBW).grew (Nat.lt_of_lt_of_le hb hBW.size) hg) ((HT.out.below hBW).grew hg)).mono fun e w'' h=>And.intro h.1 (show Grew w' w'' by rw [h.2];exact Grew.refl _)
  have hjm:=HL2.out x;have hle:=cntL_le m f pre (f x);have hlen:=cntL_len m f pre;have hpl:pre.length<L.length:=by rw [hr];simp
  have hst:∀ c V,(cntL m f pre).getD (f x) 0=c→Grew (W.setCell ⟨B+3,f x,none⟩ (.int .i64 (c+1))) V→_:=fun c V hc hg=>hI.step (c:=c) (V:=V) (x:=x) (by omega) (by omega) (by omega) (by omega) hc hg
  have k0:=(hI.kept B (by omega) (by omega) (by omega)).trans HE.out.1;have k1:=(hI.kept (B+1) (by omega) (by omega) (by omega)).trans HE.out.2.1;have k2:=(hI.kept (B+2) (by omega) (by omega) (by omega)).trans HE.out.2.2.1;have k4:=(hI.kept (B+4) (by omega) (by omega) (by omega)).trans HE.out.2.2.2;have y0:W.cell? ⟨B,0,none⟩=some (.slice (some ⟨C,0,none⟩) N N):=by simp [World.cell?,k0]
  have y1:W.cell? ⟨B+1,0,none⟩=some (.slice (some ⟨b,off,none⟩) T tcap):=by simp [World.cell?,k1]
  have y2:W.cell? ⟨B+2,0,none⟩=some (.int .i64 i):=by simp [World.cell?,k2]
  have y4:W.cell? ⟨B+4,0,none⟩=some (.slice (some ⟨B+3,0,none⟩) m m):=by simp [World.cell?,k4]
  have hsW:B+6≤W.heap.size:=by have:=hI.low.size;omega
  have z0:B<W.heap.size:=by omega
  have z1:B+1<W.heap.size:=by omega
  have z2:B+2<W.heap.size:=by omega
  have z3:B+3<W.heap.size:=by omega
  have z4:B+4<W.heap.size:=by omega
  have hrow:=hI.own;obtain ⟨cs,hcs⟩:∃ cs,cntL m f pre=cs:=⟨_,rfl⟩;rw [hcs] at hrow hle hlen hst;obtain ⟨j,hj⟩:∃ j,f x=j:=⟨_,rfl⟩;rw [hj] at hle hjm HAX hst;obtain ⟨c,hcj⟩:∃ c,cs[j]? = some c:=⟨cs[j]'(by omega),List.getElem?_eq_getElem (by omega)⟩;have hcD:cs.getD j 0=c:=by rw [List.getD_eq_getElem?_getD,hcj];rfl
  rw [hcD] at hle;obtain ⟨c1,f1⟩:=hrow.at hcj;have HST:=hid fun V (hg:Grew (W.setCell ⟨B+3,j,none⟩ (.int .i64 (c+1))) V)=>hst c V hcD hg
  have hc0:0≤c∧c≤9223372036854775806:=by omega
  obtain ⟨_,_⟩:=hc0;clear hst hrow hcs hle hlen hj hcj hcD hI hr k0 k1 k2 k4 hBW hpl
  gi_wp2
  refine R3.wpIn_region_gentle_tail 9 (by kernel_rfl) (by kernel_rfl) (fun h=>by obtain ⟨_,_,h⟩:=h;exact h) (by kernel_rfl) (by kernel_rfl) ?_;simp only [List.take_succ_cons,List.take_zero,List.drop_succ_cons,List.drop_zero];repeat (first | go_big_quiet_skip | (go_big_quiet_want;go_big_quiet_op;first | go_big_quiet_on | (apply Exists.intro;refine ⟨fun qq=>?_, ?_⟩;(focus ((first | (go_at_call 52;refine Calls.gentle_of (HAX.out _ gw0) ?_));rintro _ ⟨g',n',rfl⟩;(first | exact gentle_fin_c _ _ _ _ _ | exact gentle_fin _ _ _ _ | exact gentle_fin_gc _ _ _ _ _ _ | exact gentle_fin_g _ _ _ _ _)));go_big_quiet_on)))
  refine wpQuiet_nil ?_;rintro _ ⟨gg,ng,rfl⟩;go_wp2_with fail
  exact HST.out _ gw0
 case done =>
  intro D Wd hDl hI hK;have hBW:Below w.heap.size w Wd:=hI.start HG.out (by omega) (by omega);have k4:=(hI.kept (B+4) (by omega) (by omega) (by omega)).trans HE.out.2.2.2;have y4:Wd.cell? ⟨B+4,0,none⟩=some (.slice (some ⟨B+3,0,none⟩) m m):=by simp [World.cell?,k4]
  have z4:B+4<Wd.heap.size:=(Array.getElem?_eq_some_iff.1 k4).1;have HO:=hid hI.own;have HBW:=hid hBW;have HK:=hid hK;have HDL:=hid hDl;clear hI hBW hK k4 hDl
  gi_wp2
  go_wp2_with fail
  refine ⟨by simp,.inl ⟨_,_,rfl,run_takeDeferred (b:=D) (ds:=[]) HK.out, ?_⟩⟩;have hO2:Row (Wd.putObj D (.deferred none)) (B+3) (cntL m f L):=(World.putObj_heap_other (by have:=HDL.out;omega)).trans HO.out;refine ⟨.slice (some ⟨B+3,0,none⟩) m m,by simp [results,go_sem],B+3,rfl,by omega,hO2.nsA, ?_⟩;exact HBW.out.trans (belowK_b (w:=w) (Nat.le_refl _) Wd D _ _ (by have:=HDL.out;omega) HK.out rfl rfl)
open Go Go.Pt Go.RowKit Prb
theorem states_any (n:Int) (hn:n=2∨n=4) (a:Option Addr) (cap:Nat) (l:List Int) (w:World) (hl:l.length≤9223372036854775807) (hc:NsA w a l) :
  Calls prog 33 #[.int .i64 n,.slice a l.length cap] w fun e w'=>e=.returned (.tuple #[.int .u64 (if okFrom (topN n) 0 l then setS (l.map Int.toNat) else 0:Nat),.bool (okFrom (topN n) 0 l)])∧w'=w:=by
 rcases hn with rfl | rfl
 · exact states2_any a cap l w hl hc
 · exact states4_any a cap l w hl hc
def ParP (Rl:List Int) (r:Int) (w:World) (e:Ending) (w':World):Prop:=∃ (a:Option Addr) (cap:Nat),e=.returned (.tuple #[.slice a Rl.length cap,.int .i64 r])∧NsA w' a Rl∧Below w.heap.size w w'
set_option maxHeartbeats 3200000 in
theorem Parts_yes (n:Int) (N m i b off tcap cap:Nat) (tl:List Bool) (a:Option Addr) (l:List Int) (w:World) (hn:(n=2∧N=2∧m=2∧tl.length=1)∨(n=4∧N=64∧m=4∧tl.length=6)) (hi:i<m) (hl:l.length≤9223372036854775807) (hc:NsA w a l) (hb:b<w.heap.size) (ht:BlsAt w b off tl) (hD:DebAt w) (hok:okFrom N 0 l=true) :
  Calls prog 10 #[.int .i64 n,.slice a l.length cap,.slice (some ⟨b,off,none⟩) tl.length tcap,.int .i64 i] w (ParP (cntL m (fun s=>refA n (thB s tl) i) (l.map Int.toNat)) 0 w):=by
 have hn2:n=2∨n=4:=hn.imp (fun h=>h.1) (fun h=>h.1);have hNt:(N:Int)=topN n:=by rcases hn with ⟨rfl,rfl,_⟩ | ⟨rfl,rfl,_⟩ <;> rfl
 have HC:=hid fun w=>pcount_any n w
 rw [show cntZ n=tl.length by rcases hn with ⟨rfl,_,_,h⟩ | ⟨rfl,_,_,h⟩ <;> simp [cntZ,h]] at HC;have hsub:=wrapN hn2;have HS:=hid fun w' (hg:Grew w w')=>states_any n hn2 a cap l w' hl (hc.grew hg)
 rw [← hNt,hok] at HS;simp only [if_true] at HS;have HB:=hid fun w=>btw_any 0 i (n - 1) w
 rw [show (decide ((0:Int)≤i)&&decide ((i:Int)≤n - 1))=true by simp;omega] at HB;have HT:=hid fun w'=>tables_any n N m (hn.imp (fun h=>⟨h.1,h.2.1,h.2.2.1⟩) (fun h=>⟨h.1,h.2.1,h.2.2.1⟩)) w'
 have hall:=ok_at hok;have hasc:Asc (l.map Int.toNat):=by
  have key:∀ (l:List Int) (lo:Int),0≤lo→okFrom N lo l=true→Asc (l.map Int.toNat)∧∀ y∈l,lo≤y:=by
   intro l
   induction l with
   | nil=>intro lo _ _;exact ⟨trivial,fun y h=>by cases h⟩
   | cons x r ih =>
     intro lo h0 h;simp only [okFrom,Bool.and_eq_true,decide_eq_true_eq] at h;obtain ⟨⟨h1,h2⟩,h3⟩:=h;obtain ⟨ha,hb⟩:=ih (x+1) (by omega) h3;refine ⟨⟨fun y hy=>?_,ha⟩,fun y hy=>?_⟩
     · obtain ⟨z,hz,rfl⟩:=List.mem_map.1 hy
       have:=hb z hz;omega
     · rcases List.mem_cons.1 hy with rfl | hy
       · exact h1
       · have:=hb y hy;omega
  exact (key l 0 (Int.le_refl _) hok).1
 have hlt:∀ y∈l.map Int.toNat,y<N:=fun y hy=>by
  obtain ⟨z,hz,rfl⟩:=List.mem_map.1 hy;have:=hall z hz;omega
 have HP:=hid fun C w' (hg:Grew w w') (hT:Tab w' m N C)=>pparts_any n N m i b off tcap C tl (l.map Int.toNat) w' hn hasc hlt (by simpa using hl) (Nat.lt_of_lt_of_le hb hg.size) (ht.grew hb hg) hi hT (hD.of_block (hg.block 0 hD.1))
 have hm:=cntL_len m (fun s=>refA n (thB s tl) i) (l.map Int.toNat);obtain ⟨Rl,hR⟩:∃ Rl,cntL m (fun s=>refA n (thB s tl) i) (l.map Int.toNat)=Rl:=⟨_,rfl⟩;rw [hR] at HP hm ⊢;have hc6:tl.length≠0:=by omega
 have hT63:tl.length≤6:=by omega
 clear hc ht hD hok hall hasc hlt hR hn hn2 hNt hb;obtain ⟨S,hS⟩:∃ S,setS (l.map Int.toNat)=S:=⟨_,rfl⟩;rw [hS] at HS HP;clear hS;obtain ⟨c,hcc⟩:∃ c,tl.length=c:=⟨_,rfl⟩;rw [hcc] at HC HP hc6 hT63 ⊢;have e0:((c:Int)==0)=false:=by simpa using hc6
 have e2:((c:Int) != (c:Int))=false:=by simp
 clear hcc;go_enter func10,ntmps10
 go_wp2_with fail
 refine (HC.out _).mono ?_;rintro e w' ⟨rfl,rfl⟩;go_wp2_with fail
 refine (HC.out _).mono ?_;rintro e w' ⟨rfl,rfl⟩;go_wp2_with fail
 refine (HB.out _).mono ?_;rintro e w' ⟨rfl,rfl⟩;go_wp2_with fail
 refine (HS.out _ gw0).mono ?_;rintro e w' ⟨rfl,rfl⟩;go_wp2_with fail
 refine (HT.out _).mono ?_;rintro e w1 ⟨C,rfl,hT,hg⟩;go_wp2_with fail
 refine (HP.out C w1 hg hT).mono ?_;rintro e w2 ⟨bo,rfl,hbo,hN,hB⟩;have HN:=hid hN;have HBB:=hid (hg.below.trans (hB.mono hg.size));clear hT hg hN hB;go_wp2_with fail
 exact bodyPost_ret (v:=.tuple #[.slice (some ⟨bo,0,none⟩) m m,.int .i64 0]) (by simp [results,go_sem]) rfl ⟨some ⟨bo,0,none⟩,m,by rw [hm],HN.out,HBB.out⟩
open Go Go.Pt Go.RowKit Prb
theorem ownZ_nsA {w:World} {base k0:Nat} {a0:Option Addr} {l:List Int} (h:OwnZ w base a0 k0 l):NsA w a0 l:=by
 rcases h.here with rfl | ⟨g,rfl,_,hlt,hc⟩
 · intro i x hx;cases hx
 · exact fun i x hx=>⟨g,0,rfl,hlt,by rw [Nat.zero_add];exact hc i x hx⟩
open Go Go.Pt Go.RowKit Prb
end Go.Proofs.Qm
