/- Layer 9, in main's ghost: the pairs that no try parts: the program. Condition: the states and the tests lie in memory. -/
import Derived.Test.YtnceajabigdleaaDoorPtQ981
import Derived.Test.YtnceajabigdleaaDoorPtQ97
namespace Go.Proofs.Qm
open Go Go.Pt Go.RowKit Prb
attribute [local go_sem] Oper.semAt_some
def rowP (tw:Nat→Nat→Bool) (x:Nat) (pre:List Nat):List (Nat × Nat):=(pre.filter fun y=>decide (x<y)&&tw x y).map fun y=>(x,y)
def prsP (tw:Nat→Nat→Bool) (L pre:List Nat):List (Nat × Nat):=pre.flatMap fun x=>rowP tw x L
theorem rowP_snoc (tw:Nat→Nat→Bool) (x:Nat) (pre:List Nat) (y:Nat):rowP tw x (pre++[y])=rowP tw x pre++(if decide (x<y)&&tw x y then [(x,y)] else []):=by
 unfold rowP;rw [List.filter_append,List.map_append]
 congr 1
 cases h:(decide (x<y)&&tw x y) <;> simp [List.filter,h]
theorem prsP_snoc (tw:Nat→Nat→Bool) (L pre:List Nat) (x:Nat):prsP tw L (pre++[x])=prsP tw L pre++rowP tw x L:=by simp [prsP]
structure PrI (W1:World) (T bS:Nat) (ps:List (Nat × Nat)) (W:World):Prop where
 low:Below T W1 W
 typ:∀ k cs t fz,W1.heap[k]? = some (.cells cs t fz)→t≠57→k≠T→k≠bS→W.heap[k]? = W1.heap[k]?
 non:∀ k o,W1.heap[k]? = some o→o.isCells=false→k≠bS→W.heap[k]? = some o
 own:∃ v,Boxed W T 36 v∧W.ownsRow T 57 2 v ps.length (pCells ps)∧v.ownBlock≠some bS
theorem own_cells {W:World} {base:Nat} {e:TypeId} {size k g:Nat} {v:Value} {xs:List Value} (h:W.ownsRow base e size v k xs) (hg:v.ownBlock=some g):∃ cs fz,W.heap[g]? = some (.cells cs e fz):=by
 rcases h.2 with ⟨h1,_⟩ | ⟨g',cap,cur,h1,_,h3,_⟩
 · rw [h1] at hg;simp [Value.ownBlock] at hg
 · obtain rfl:g'=g:=by rw [h1] at hg;simpa [Value.ownBlock] using hg
   exact ⟨_,_,h3⟩
theorem own_ne {W:World} {base b:Nat} {e t:TypeId} {size k:Nat} {v:Value} {xs:List Value} {cs:Array Value} {fz:Nat × Nat} (h:W.ownsRow base e size v k xs) (hb:W.heap[b]? = some (.cells cs t fz)) (hne:t≠e):v.ownBlock≠some b:=fun hk=>by
 obtain ⟨cs',fz',h1⟩:=own_cells h hk;rw [hb] at h1;cases h1;exact hne rfl
theorem prI_steady {W1:World} {T bS:Nat} {ps:List Nat→List (Nat × Nat)} (hT:T<W1.heap.size) (hb:T<bS):Steady W1.heap.size [bS] (fun pre W=>PrI W1 T bS (ps pre) W):=by
 intro pre X Y row h hg hr;have key:∀ k,k<X.heap.size→k≠bS→(k<W1.heap.size∨∃ cs t fz,X.heap[k]? = some (.cells cs t fz))→Y.heap[k]? = X.heap[k]? := fun k hk hks ho=>hg.block k hk fun e=>by
  rcases hr k e.symm with h1 | ⟨h1,o,h2,h3⟩
  · exact hks (List.mem_singleton.1 h1)
  · rcases ho with ho | ⟨cs,t,fz,ho⟩
    · omega
    · rw [ho] at h2;cases h2;cases h3
 have hsz:=h.low.size;obtain ⟨v,hv,ho,hn⟩:=h.own;refine ⟨h.low.grown hg (by omega) (fun r e=>?_),fun k cs t fz h1 h2 h3 h4=>?_,fun k o h1 h2 h5=>?_,v,(key T (by omega) (by omega) (.inl hT)).trans hv,ho.kept hg ?_,hn⟩
 · rcases hr r e with h1 | ⟨h1,_⟩
   · rw [List.mem_singleton.1 h1];omega
   · omega
 · have hk:=(Array.getElem?_eq_some_iff.1 h1).1
   exact (key k (by omega) h4 (.inl hk)).trans (h.typ k cs t fz h1 h2 h3 h4)
 · have hk:=(Array.getElem?_eq_some_iff.1 h1).1
   exact (key k (by omega) h5 (.inl hk)).trans (h.non k o h1 h2 h5)
 · cases hk:v.ownBlock with
   | none=>exact .inl rfl
   | some k =>
     obtain ⟨cs,fz,h3⟩:=own_cells ho hk;refine .inr fun e=>?_
     rcases hr k e.symm with h4 | ⟨_,o,h5,h6⟩
     · rw [hk] at hn
       exact hn (by rw [List.mem_singleton.1 h4])
     · rw [h3] at h5;cases h5;cases h6
theorem PrI.grew {W1 W V:World} {T bS:Nat} {ps:List (Nat × Nat)} (h:PrI W1 T bS ps W) (hT:T≤W1.heap.size) (hg:Grew W V):PrI W1 T bS ps V:=by
 have hsz:=h.low.size;obtain ⟨v,hv,ho,hn⟩:=h.own;refine ⟨below_grew h.low hg (by omega),fun k cs t fz h1 h2 h3 h4=>?_,fun k o h1 h2 h5=>?_,v,(hg.block _ hv.lt).trans hv,ho.grew hg,hn⟩
 · have hk:=(Array.getElem?_eq_some_iff.1 h1).1
   exact (hg.block k (by omega)).trans (h.typ k cs t fz h1 h2 h3 h4)
 · have hk:=(Array.getElem?_eq_some_iff.1 h1).1
   exact (hg.block k (by omega)).trans (h.non k o h1 h2 h5)
theorem boxed_app {W w1:World} {n₀ B:Nat} {t e:TypeId} {size:Nat} {v v':Value} {k m:Nat} {xs ys:List Value}
  (hv:Boxed W B t v) (hte:t≠e) (hrow:W.ownsRow n₀ e size v k xs) (hn₀:n₀≤W.heap.size) (hB:n₀≤B)
  (hown':w1.ownsRow n₀ e size v' m ys) (hgrow:W.grownBy w1 v.ownBlock) :
  Boxed w1 B t v∧Boxed (w1.setCell ⟨B,0,none⟩ v') B t v'∧(w1.setCell ⟨B,0,none⟩ v').ownsRow n₀ e size v' m ys∧KeepsOthers W (w1.setCell ⟨B,0,none⟩ v')∧Below n₀ W (w1.setCell ⟨B,0,none⟩ v'):=by
 have hv1:Boxed w1 B t v:=hv.kept hgrow (hv.not_row hte hrow);refine ⟨hv1,hv1.set v',hown'.kept (grownBy_setCell' w1 B v') (.inr (hv1.not_row hte hown').symm), ?_, ?_⟩
 · refine (KeepsOthers.of_grownBy hgrow fun j o ej hj=>?_).trans (KeepsOthers.setCell _ _ _)
   obtain ⟨cs,fz,h1⟩:=own_cells hrow ej;rw [h1] at hj;cases hj;rfl
 · refine ((Below.refl n₀ W).grown hgrow hn₀ fun j ej=>?_).setCell (p:=⟨B,0,none⟩) hB v'
   exact ownsRow_above hrow j ej
theorem PrI.step {W1 W V w1:World} {T bS x y:Nat} {v v':Value} {ps:List (Nat × Nat)} (h:PrI W1 T bS ps W) (hT:0<T) (hT1:T<W1.heap.size) (hne:bS≠T) (hS:∃ cs fz,W.heap[bS]? = some (.cells cs 69 fz))
  (hg:Grew W V) (hv:Boxed W T 36 v) (ho:W.ownsRow T 57 2 v ps.length (pCells ps)) (hown:w1.ownsRow T 57 2 v' (ps.length+1) (pCells ps++[.int .i64 (x:Nat),.int .i64 (y:Nat)])) (hgrow:V.grownBy w1 v.ownBlock) :
  Boxed w1 T 36 v∧(KeepsFrom W1.heap.size W (w1.setCell ⟨T,0,none⟩ v')∧(∀ b∈[bS,0],(w1.setCell ⟨T,0,none⟩ v').heap[b]? = W.heap[b]?)∧PrI W1 T bS (ps++[(x,y)]) (w1.setCell ⟨T,0,none⟩ v')):=by
 have hsz:=h.low.size;have hsg:=hg.size;have hvV:Boxed V T 36 v:=(hg.block _ hv.lt).trans hv;have hoV:=ho.grew hg;obtain ⟨hv1,hv2,hr2,hk2,hb2⟩:=boxed_app hvV (by decide) hoV (by omega) (Nat.le_refl _) hown hgrow;have typ:∀ k cs t fz,W.heap[k]? = some (.cells cs t fz)→t≠57→k≠T→(w1.setCell ⟨T,0,none⟩ v').heap[k]? = W.heap[k]? := fun k cs t fz h1 h2 h3=>by
  have hk:=(Array.getElem?_eq_some_iff.1 h1).1;refine (heap_setCell_ne _ h3 _ _).trans ((hgrow.block k (by omega) fun e=>?_).trans (hg.block k hk));exact own_ne hoV ((hg.block k hk).trans h1) h2 e.symm
 obtain ⟨cs,fz,hS⟩:=hS;refine ⟨hv1,⟨Nat.le_trans hg.size hk2.size,fun k o hk ho' hc=>hk2.same k o ((hg.block k (Array.getElem?_eq_some_iff.1 ho').1).trans ho') hc⟩,fun b hb=>?_,⟨(below_grew h.low hg (by omega)).trans hb2,fun k cs t fz h1 h2 h3 h4=>?_,fun k o h1 h2 h5=>?_,v',hv2, ?_, ?_⟩⟩
 · rcases List.mem_cons.1 hb with rfl | hb
   · exact typ _ _ _ _ hS (by decide) hne
   · obtain rfl:=List.mem_singleton.1 hb
     exact (hb2.block 0 hT).trans (hg.block 0 (by omega))
 · have e:=h.typ k cs t fz h1 h2 h3 h4
   exact (typ k cs t fz (e.trans h1) h2 h3).trans e
 · have e:=h.non k o h1 h2 h5
   exact hk2.same k o ((hg.block k (Array.getElem?_eq_some_iff.1 e).1).trans e) h2
 · rw [pCells_app,List.length_append]
   exact hr2
 · exact own_ne hr2 ((typ _ _ _ _ hS (by decide) hne).trans hS) (by decide)
theorem PrI.enter {W1 W:World} {T bS:Nat} {ps:List (Nat × Nat)} {o:Obj} (h:PrI W1 T bS ps W):PrI (W.alloc o) T W.heap.size ps (W.alloc o):=by
 obtain ⟨v,hv,ho,hn⟩:=h.own;refine ⟨Below.refl _ _,fun _ _ _ _ _ _ _ _=>rfl,fun _ _ h _ _=>h,v,hv.alloc _,ho.alloc _,fun hk=>?_⟩;obtain ⟨cs,fz,h1⟩:=own_cells ho hk;have:=(Array.getElem?_eq_some_iff.1 h1).1;omega
theorem PrI.leave {W1 W V:World} {T bS:Nat} {ps qs:List (Nat × Nat)} {o:Obj} (h:PrI W1 T bS ps W) (hT:0<T) (hT1:T<W1.heap.size) (hne:bS≠T) (hS:∃ cs fz,W.heap[bS]? = some (.cells cs 69 fz)) (hq:PrI (W.alloc o) T W.heap.size qs V) :
  KeepsFrom W1.heap.size W V∧(∀ b∈[bS,0],V.heap[b]? = W.heap[b]?)∧PrI W1 T bS qs V:=by
 have hsz:=h.low.size;have hsq:=hq.low.size;rw [World.size_alloc] at hsq;obtain ⟨cs,fz,hS⟩:=hS;have hbl:=(Array.getElem?_eq_some_iff.1 hS).1;have typ:∀ k cs t fz,W.heap[k]? = some (.cells cs t fz)→t≠57→k≠T→V.heap[k]? = W.heap[k]? := fun k cs t fz h1 h2 h3=>by
  have hk:=(Array.getElem?_eq_some_iff.1 h1).1;exact (hq.typ k cs t fz ((al_old hk).trans h1) h2 h3 (by omega)).trans (al_old hk)
 have non:∀ (k:Nat) (o':Obj),W.heap[k]? = some o'→o'.isCells=false→V.heap[k]? = some o':=fun k o' h1 h2=>by
  have hk:=(Array.getElem?_eq_some_iff.1 h1).1;exact hq.non k o' ((al_old hk).trans h1) h2 (by omega)
 have hlow:Below T W V:=((Below.refl T W).alloc (by omega) o).trans hq.low;refine ⟨⟨by omega,fun k o' _ h1 h2=>non k o' h1 h2⟩,fun b hb=>?_,⟨h.low.trans hlow,fun k cs t fz h1 h2 h3 h4=>?_,fun k o' h1 h2 h5=>non k o' (h.non k o' h1 h2 h5) h2, ?_⟩⟩
 · rcases List.mem_cons.1 hb with rfl | hb
   · exact typ _ _ _ _ hS (by decide) hne
   · obtain rfl:=List.mem_singleton.1 hb
     exact hlow.block 0 hT
 · have e:=h.typ k cs t fz h1 h2 h3 h4
   exact (typ k cs t fz (e.trans h1) h2 h3).trans e
 · obtain ⟨v,hv,ho,_⟩:=hq.own
   exact ⟨v,hv,ho,own_ne ho ((typ _ _ _ _ hS (by decide) hne).trans hS) (by decide)⟩
theorem newPair (W:World) (b:Nat) (hb:b=W.heap.size) (x y:Int):∀ j u,[Value.int .i64 x,.int .i64 y][j]? = some u→(W.alloc (.cells #[.int .i64 x,.int .i64 y] 57)).cell? ((⟨b,0,none⟩:Addr).add j)=some u:=by
 intro j u hj;subst hb;have e:(W.alloc (.cells #[.int .i64 x,.int .i64 y] 57)).heap[W.heap.size]? = some (.cells #[.int .i64 x,.int .i64 y] 57 (0,0)):=World.alloc_heap_new W _;match j,hj with
 | 0, hj =>
   simp at hj;subst hj;unfold Addr.add;simp only [if_pos];simp only [World.cell?,e];rfl
 | 1, hj =>
   simp at hj;subst hj;show (W.alloc (.cells #[.int .i64 x,.int .i64 y] 57)).cell? ⟨W.heap.size,1,none⟩=_
   simp only [World.cell?,e];rfl
theorem PrI.same {W1 W V:World} {T bS:Nat} {ps:List (Nat × Nat)} (h:PrI W1 T bS ps W) (hT:T≤W1.heap.size) (hS:bS<W.heap.size) (hg:Grew W V) :
  KeepsFrom W1.heap.size W V∧(∀ b∈[bS,0],V.heap[b]? = W.heap[b]?)∧PrI W1 T bS ps V:=by
 refine ⟨⟨hg.size,fun k o _ ho _=>(hg.block k (Array.getElem?_eq_some_iff.1 ho).1).trans ho⟩,fun b hb=>hg.block b ?_,h.grew hT hg⟩;rcases List.mem_cons.1 hb with rfl | hb
 · exact hS
 · obtain rfl:=List.mem_singleton.1 hb
   omega
theorem rowP_len (tw:Nat→Nat→Bool) (x:Nat) (pre:List Nat):(rowP tw x pre).length≤pre.length:=by
 unfold rowP;rw [List.length_map];exact List.length_filter_le _ _
theorem prsP_len (tw:Nat→Nat→Bool) {L:List Nat} (hL:L.length≤64):∀ pre:List Nat,(prsP tw L pre).length≤pre.length*64
 | []=>by simp [prsP]
 | x :: r => by
   have h:=prsP_len tw hL r;have h1:=rowP_len tw x L;simp only [prsP,List.flatMap_cons,List.length_append,List.length_cons] at h ⊢;omega
def VarA (B:Nat) (act:Nat→Nat→Act) (_:List Nat) (x:Nat) (a:Act) (X:World):Prop:=∃ b:Nat,a=act x b∧B≤b∧X.heap[b]? = some (.cells #[.int .i64 x] 3 (0,0))
theorem varA_steady (B:Nat) (act:Nat→Nat→Act):SteadyA B (VarA B act):=by
 rintro pre x a X Y row ⟨b,h1,h2,h3⟩ hg hr;refine ⟨b,h1,h2,(hg.block b (Array.getElem?_eq_some_iff.1 h3).1 fun e=>?_).trans h3⟩;obtain ⟨_,o,h4,h5⟩:=hr b e.symm;rw [h3] at h4;cases h4;cases h5
open Go Go.Pt Go.RowKit Prb
attribute [local go_sem] Oper.semAt_some
def TwnP (ps:List (Nat × Nat)) (r:Int) (w:World) (e:Ending) (w':World):Prop:=∃ (a:Option Addr) (k:Nat),e=.returned (.tuple #[.slice a ps.length k,.int .i64 r])∧PsA w' a ps∧Below w.heap.size w w'
set_option maxRecDepth 100000 in
set_option maxHeartbeats 16000000 in
theorem Twins_yes (n:Int) (N m:Nat) (hn:(n=2∧N=2∧m=2)∨(n=4∧N=64∧m=4)) (sa:Option Addr) (scap:Nat) (sl:List Int) (a:Option Addr) (cap:Nat) (l:List Tq) (w:World) (hsl:sl.length≤9223372036854775807) (hl:l.length≤40) (hs:NsA w sa sl) (hok:okFrom N 0 sl=true) (hc:TqAt w a l) (h:tqsB n l=true) (hD:DebAt w) :
  Calls prog 18 #[.int .i64 n,.slice sa sl.length scap,.slice a l.length cap] w (TwnP (prsP (twB n l) (sl.map Int.toNat) (sl.map Int.toNat)) 0 w):=by
 have hn2:n=2∨n=4:=hn.imp (fun h=>h.1) (fun h=>h.1);have h0:cntZ n≠0:=by rcases hn2 with rfl | rfl <;> simp [cntZ]
 have hNt:(N:Int)=topN n:=by rcases hn with ⟨rfl,rfl,_⟩ | ⟨rfl,rfl,_⟩ <;> rfl
 have hN64:N≤64:=by omega
 have HC:=hid fun w=>pcount_any n w
 have HS:=hid fun w' (hg:Grew w w')=>states_any n hn2 sa scap sl w' hsl (hs.grew hg)
 have HF:=hid fun w' (hg:Grew w w')=>fit_any n hn2 a cap l w' (by omega) (hc.grew hg)
 have HT:=hid fun w'=>tables_any n N m hn w'
 rw [h,decide_eq_true hl] at HF;simp only [Bool.and_true] at HF;rw [← hNt,hok] at HS;simp only [if_true] at HS;have hasc:=(asc_of_ok (Int.le_refl _) hok).1;have hlt:=lt_of_ok hok;obtain ⟨L,hL⟩:∃ L,sl.map Int.toNat=L:=⟨_,rfl⟩;rw [hL] at hasc hlt HS ⊢;have hlen64:=asc_len (lo:=0) hasc (fun y hy=>⟨Nat.zero_le _,by have:=hlt y hy;omega⟩) (by decide);have HHW:=hid fun C bt bx by' x y (hx:x∈L) (hy:y∈L) w' (hg:Below w.heap.size w w') (hT:Tab w' m N C) (hA:TwAt w' N C bt bx by' x y)=>hasw_any n N m C bt bx by' x y hn (hlt x hx) (hlt y hy) a cap l w' hl (hc.below hg) h hT hA
 obtain ⟨tw,htw⟩:∃ tw,twB n l=tw:=⟨_,rfl⟩;rw [htw] at HHW ⊢;have HD:=hid hD;have HAS:=hid hasc;have HLT:=hid hlt;have h0w:0<w.heap.size:=hD.1;obtain ⟨c,hcc⟩:∃ c,cntZ n=c:=⟨_,rfl⟩;rw [hcc] at HC h0;have e0:((c:Int)==0)=false:=by simpa using h0
 obtain ⟨S,hS⟩:∃ S,setS L=S:=⟨_,rfl⟩;rw [hS] at HS;have HSS:=hid hS;obtain ⟨LE,hLE⟩:∃ LE,l.length=LE:=⟨_,rfl⟩;rw [hLE] at HF HHW hl ⊢;obtain ⟨SL,hSL⟩:∃ SL,sl.length=SL:=⟨_,rfl⟩;rw [hSL] at HS ⊢;obtain ⟨i0,hi,hz0,hz1,hz2⟩:=info_parts info_p;have HCELLS:=hid (And.intro hz0 (And.intro hz1 hz2));clear hs h h0 hok hn hn2 hcc hS hc hasc hlt hNt hD hL htw hLE hSL hsl hz0 hz1 hz2;refine (callsIn_wide (n:=9)).1 ?_;refine callsIn_of_wp_marks func18 rfl trivial ?_ rfl;refine wpIn_wide.2 ?_;simp only [ntmps18,List.size_toArray,List.length_cons,List.length_nil,Nat.reduceAdd,Nat.reduceSub,Array.replicate_succ,Array.replicate_zero,List.push_toArray,List.append_toArray,List.nil_append,List.cons_append];go_wp2_with fail
 refine (HC.out _).mono ?_;rintro e w' ⟨rfl,rfl⟩;go_wp2_with fail
 refine (HS.out _ gw0).mono ?_;rintro e w' ⟨rfl,rfl⟩;go_wp2_with fail
 refine (HF.out _ gw0).mono ?_;rintro e w' ⟨rfl,g1,n1,rfl⟩;go_wp2_with fail
 refine (HT.out _).mono ?_;rintro e w1 ⟨C,rfl,hT,hg⟩;have hg0:Grew ((w.alloc (.cells #[.slice a LE cap] 30)).alloc (.cells #[.int .u64 S] 69)) w1:=by
  refine Grew.trans ?_ hg;exact gw0
 have hgw:Grew w w1:=(((Grew.refl w).alloc _).alloc _).trans hg0;have hsz1:=hg0.size;simp only [World.size_alloc] at hsz1;have k0:w1.heap[w.heap.size]? = some (.cells #[.slice a LE cap] 30 (0,0)):=(hg0.block _ (by simp only [World.size_alloc];omega)).trans ((al_old (by simp only [World.size_alloc];omega)).trans (al_new rfl));have k1:w1.heap[w.heap.size+1]? = some (.cells #[.int .u64 S] 69 (0,0)):=(hg0.block _ (by simp only [World.size_alloc];omega)).trans (al_new (by simp only [World.size_alloc]));have y1:w1.cell? ⟨w.heap.size+1,0,none⟩=some (.int .u64 S):=by simp [World.cell?,k1]
 have hl1:w.heap.size+1<w1.heap.size:=by omega
 have hb1:=fun m0:Nat=>Nat.lt_add_right m0 hl1
 have HT1:=hid hT;have HG1:=hid hgw;have HK:=hid (And.intro k0 k1);obtain ⟨B,hB⟩:∃ B,w.heap.size=B:=⟨_,rfl⟩;have HBQ:=hid hB;rw [hB] at hsz1 y1 hl1 hb1 HK;simp only [hB];clear hT hg hg0 hgw k0 k1 hB;go_wp2_with fail
 refine (all_any _ _).mono ?_;rintro e w2 ⟨rfl,rfl⟩;go_wp2_with fail
 obtain ⟨B2,hB2⟩:∃ B2,w1.heap.size=B2:=⟨_,rfl⟩;simp only [Nat.add_assoc,Nat.reduceAdd,hB2];obtain ⟨W1,hW1⟩:∃ W,((w1.alloc (.cells #[.slice (some ⟨C,0,none⟩) N N] 73)).alloc (.cells #[.slice none 0 0] 36)).alloc (.cells #[.int .u64 S] 69)=W:=⟨_,rfl⟩;have hs1:W1.heap.size=B2+3:=by rw [← hW1];simp only [World.size_alloc];omega
 have ho:∀ k,k<B2→W1.heap[k]? = w1.heap[k]? := fun k hk=>by
  rw [← hW1,al_old (by simp only [World.size_alloc];omega),al_old (by simp only [World.size_alloc];omega),al_old (by omega)]
 have e2:W1.heap[B2]? = some (.cells #[.slice (some ⟨C,0,none⟩) N N] 73 (0,0)):=by rw [← hW1];repeat (first | exact al_new (by first | omega | (simp only [World.size_alloc];omega)) | rw [al_old (by first | omega | (simp only [World.size_alloc];omega))])
 have e3:W1.heap[B2+1]? = some (.cells #[.slice none 0 0] 36 (0,0)):=by rw [← hW1];repeat (first | exact al_new (by first | omega | (simp only [World.size_alloc];omega)) | rw [al_old (by first | omega | (simp only [World.size_alloc];omega))])
 have e4:W1.heap[B2+2]? = some (.cells #[.int .u64 S] 69 (0,0)):=by rw [← hW1];repeat (first | exact al_new (by first | omega | (simp only [World.size_alloc];omega)) | rw [al_old (by first | omega | (simp only [World.size_alloc];omega))])
 have hg1:Grew w1 W1:=by rw [← hW1];exact (((Grew.refl w1).alloc _).alloc _).alloc _
 rw [hW1];have HE:=hid (And.intro ((ho B (by omega)).trans HK.out.1) (And.intro ((ho (B+1) (by omega)).trans HK.out.2) e2));have HG:=hid (HG1.out.trans hg1);have HTT:=hid (HT1.out.grew hg1);have HDD:=hid (HD.out.of_block (HG.out.block 0 h0w));have HI0:Hid (PrI W1 (B2+1) (B2+2) (prsP tw L []) W1):=hid ⟨Below.refl _ _,fun _ _ _ _ _ _ _ _=>rfl,fun _ _ h _ _=>h,_,e3,World.ownsRow_nil _ _ _ _,by simp [Value.ownBlock]⟩;have HLOW:=hid fun V (hV:Below (B2+1) W1 V)=>(show Below w.heap.size w V∧Tab V m N C∧DebAt V∧V.heap[B]? = some (.cells #[.slice a LE cap] 30 (0,0))∧V.heap[B+1]? = some (.cells #[.int .u64 S] 69 (0,0))∧V.heap[B2]? = some (.cells #[.slice (some ⟨C,0,none⟩) N N] 73 (0,0)) from by
  have hw:=HG1.out.size;exact ⟨HG.out.below.trans (hV.mono (by omega)),HT1.out.below ((hg1.below).trans (hV.mono (by omega))),HDD.out.of_block (hV.block 0 (by omega)),(hV.block B (by omega)).trans HE.out.1,(hV.block (B+1) (by omega)).trans HE.out.2.1,(hV.block B2 (by omega)).trans HE.out.2.2⟩)
 have HRUN:=hid (all_runsT 8 (by decide) (B2+2) L HAS.out (fun y hy=>by have:=HLT.out y hy;omega) W1 HDD.out (by rw [HSS.out];exact e4));have HDB:=hid HBQ;have hB0:0<B:=by have:=HBQ.out;omega
 have hT1:Tab W1 m N C:=HTT.out;have hCB:=HT1.out.lt;rw [hB2] at hCB hsz1;clear hW1 ho e2 e3 e4 hg1 HK hb1 hl1 y1 hT1 HC HS HF HT e0 HT1;refine (wpIn_wide (n:=9)).1 ?_;refine wpIn_rangeFunc_runO (by decide) (gf:=71) (lb:=#[.pointer (some ⟨B2+2,0,none⟩)]) rfl (enters_of func71 (by kernel_rfl) rfl)
  (bs:=[B2+2]) (ks:=[B2+2,0]) HRUN.out (fun k hk=>by rw [List.mem_singleton] at hk;omega) (fun k hk=>by simp at hk;omega) (fun _=>rfl)
  (fun pre W=>PrI W1 (B2+1) (B2+2) (prsP tw L pre) W) (prI_steady (by omega) (by omega)) HI0.out
  (VarA W1.heap.size (fun x b=>{ tmps:=#[.int .i64 n,.slice sa SL scap,.slice a LE cap,undef,undef,.pointer (some ⟨B,0,none⟩),.slice none 0 0,.int .i64 0,.pointer (some ⟨B+1,0,none⟩),.bool true,.pointer (some ⟨B2,0,none⟩),.pointer (some ⟨B2+1,0,none⟩),.pointer (some ⟨b,0,none⟩),undef,.int .i64 n,.int .i64 c,.bool false,.tuple #[.int .u64 S,.bool true],.int .i64 n,.slice sa SL scap,.tuple #[.int .u64 S,.bool true],.int .u64 S,.bool true,.bool false,.bool true,.bool false,.bool false,.int .i64 n,.slice a LE cap,.bool true,.bool false,.int .i64 n,.slice (some ⟨C,0,none⟩) N N,.int .u64 S,.func (.func 71) #[] #[.pointer (some ⟨B2+2,0,none⟩)],.int .i64 (x:Nat),undef,undef,undef,undef,undef,undef,undef,undef,undef,undef,undef,undef,undef,undef,undef,undef,undef,undef,undef],defers:=[] })) (varA_steady _ _) ?assign ?body ?done
 case assign =>
  intro lp pre x W K hI _ hK;have hlow:=hI.low.size;simp only [encX]
  gi_wp2
  exact hK _ _ ((Grew.refl W).alloc _) ⟨W.heap.size,rfl,hlow,al_new rfl⟩
 case body =>
  rintro lp pre x a' W hBl ⟨r0,hr0⟩ hI ⟨bx,rfl,hbx,hx⟩ ⟨r,hr⟩ hty;have hsz:=hI.low.size;have k1:=(hI.low.block (B+1) (by omega)).trans HE.out.2.1;have y1:W.cell? ⟨B+1,0,none⟩=some (.int .u64 S):=by simp [World.cell?,k1]
  have hl1:B+1<W.heap.size:=by omega
  have HI:=hid hI;have HX:=hid hx;have HR:=hid hr;have HR0:=hid hr0;have HTY:=hid hty;clear hI hx hr hr0 hty k1
  gi_wp2
  refine ⟨trivial,(callsIn_wide.2 (all_any _ _)).mono ?_⟩;rintro e w2 ⟨rfl,rfl⟩
  gi_wp2
  obtain ⟨B3,hB3⟩:∃ B3,W.heap.size=B3:=⟨_,rfl⟩;simp only [hB3];obtain ⟨W2,hW2⟩:∃ V,W.alloc (.cells #[.int .u64 S] 69)=V:=⟨_,rfl⟩;have hs2:W2.heap.size=B3+1:=by rw [← hW2];simp only [World.size_alloc];omega
  have hI2:Hid (PrI W2 (B2+1) B3 (prsP tw L pre++rowP tw x []) W2):=hid (by
   rw [show rowP tw x []=[] from rfl,List.append_nil,← hW2,← hB3];exact HI.out.enter)
  have HLW:=hid (show Below (B2+1) W1 W2 by rw [← hW2];exact HI.out.low.alloc (by omega) _);have HRUN2:=hid (all_runsT 6 (by decide) B3 L HAS.out (fun y hy=>by have:=HLT.out y hy;omega) W2 (HLOW.out W2 HLW.out).2.2.1 (by rw [HSS.out,← hW2];exact al_new hB3.symm));have HBX:=hid (show W2.heap[bx]? = some (.cells #[.int .i64 x] 3 (0,0)) from by rw [← hW2];exact (al_old (Array.getElem?_eq_some_iff.1 HX.out).1).trans HX.out);have hbx3:bx<B3:=by have:=(Array.getElem?_eq_some_iff.1 HX.out).1;omega
  have HL2:=hid (show W2.heap[lp]? = some (.loop r0) from by rw [← hW2];exact (al_old (Array.getElem?_eq_some_iff.1 HR0.out).1).trans HR0.out);have hpl:pre.length<L.length:=by rw [HR.out];simp
  have hxL:x∈L:=by rw [HR.out];simp
  rw [hW2];refine wpIn_rangeFunc_runN (l₀:=lp) (r₀:=r0) HL2.out (by decide) (gf:=71) (lb:=#[.pointer (some ⟨B3,0,none⟩)]) rfl (enters_of func71 (by kernel_rfl) rfl)
   (bs:=[B3]) (ks:=[B3,0]) HRUN2.out (fun k hk=>by rw [List.mem_singleton] at hk;omega) (fun k hk=>by simp at hk;omega) (fun _=>rfl)
   (fun pre2 V=>PrI W2 (B2+1) B3 (prsP tw L pre++rowP tw x pre2) V) (prI_steady (by omega) (by omega)) hI2.out
   (VarA W2.heap.size (fun y b=>{ tmps:=#[.int .i64 n,.slice sa SL scap,.slice a LE cap,undef,undef,.pointer (some ⟨B,0,none⟩),.slice none 0 0,.int .i64 0,.pointer (some ⟨B+1,0,none⟩),.bool true,.pointer (some ⟨B2,0,none⟩),.pointer (some ⟨B2+1,0,none⟩),.pointer (some ⟨bx,0,none⟩),.pointer (some ⟨b,0,none⟩),.int .i64 n,.int .i64 c,.bool false,.tuple #[.int .u64 S,.bool true],.int .i64 n,.slice sa SL scap,.tuple #[.int .u64 S,.bool true],.int .u64 S,.bool true,.bool false,.bool true,.bool false,.bool false,.int .i64 n,.slice a LE cap,.bool true,.bool false,.int .i64 n,.slice (some ⟨C,0,none⟩) N N,.int .u64 S,.func (.func 71) #[] #[.pointer (some ⟨B2+2,0,none⟩)],.int .i64 (x:Nat),.int .u64 S,.func (.func 71) #[] #[.pointer (some ⟨B3,0,none⟩)],.int .i64 (y:Nat),undef,undef,undef,undef,undef,undef,undef,undef,undef,undef,undef,undef,undef,undef,undef,undef],defers:=[] })) (varA_steady _ _) ?assign2 ?body2 ?done2
  case assign2 =>
   intro lp2 pre2 y V K hJ _ hK;have hlow:=hJ.low.size;simp only [encX]
   gi_wp2
   exact hK _ _ ((Grew.refl V).alloc _) ⟨V.heap.size,rfl,hlow,al_new rfl⟩
  case body2 =>
   rintro lp2 pre2 y a' V hBl2 _ hJ ⟨by',rfl,hby,hy⟩ ⟨r2,hr2⟩ hty2;have hsv:=hJ.low.size;obtain ⟨hLw,hLT,_,hLb,_,hLt⟩:=HLOW.out V (HLW.out.trans hJ.low);have hbxV:=(hJ.typ bx _ _ _ HBX.out (by decide) (by omega) (by omega)).trans HBX.out;have hyL:y∈L:=by rw [hr2];simp
   have y0:V.cell? ⟨B,0,none⟩=some (.slice a LE cap):=by simp [World.cell?,hLb]
   have z0:B<V.heap.size:=by omega
   have y1:V.cell? ⟨bx,0,none⟩=some (.int .i64 x):=by simp [World.cell?,hbxV]
   have z1:bx<V.heap.size:=by omega
   have y2:V.cell? ⟨by',0,none⟩=some (.int .i64 y):=by simp [World.cell?,hy]
   have z2:by'<V.heap.size:=(Array.getElem?_eq_some_iff.1 hy).1
   have HHX:=hid fun V' (hg:Grew V V')=>HHW.out C B2 bx by' x y hxL hyL V' (hLw.trans (hg.below.mono hLw.size)) (hLT.grew hg) (TwAt.grew ⟨⟨by simp [World.cell?,hLt],by omega⟩,⟨y1,z1⟩,⟨y2,z2⟩⟩ hg)
   obtain ⟨v,hv,ho,_⟩:=hJ.own;have hpl2:pre2.length<L.length:=by rw [hr2];simp
   have hlen:=prsP_len tw (show L.length≤64 by omega) pre;have hlen2:=rowP_len tw x pre2;have hsn:=rowP_snoc tw x pre2 y;have hps:(prsP tw L pre++rowP tw x pre2).length≤8192:=by rw [List.length_append];omega
   have HI2:=hid hJ;have HV2:=hid hv;have HOW:=hid ho;have HSV:=hid hsv;have HTY2:=hid (hty2 B3 (List.mem_singleton.2 rfl));have hbS:=(Array.getElem?_eq_some_iff.1 (hty2 B3 (List.mem_singleton.2 rfl)).choose_spec.choose_spec).1;by_cases hxy:x<y
   · have hxy1:decide ((x:Int)<(y:Int))=true:=decide_eq_true (by omega)
     have hxy2:decide (x<y)=true:=decide_eq_true hxy;cases htt:tw x y with
     | true =>
       rw [htt] at HHX;have HSN:=hid (show prsP tw L pre++rowP tw x (pre2++[y])=(prsP tw L pre++rowP tw x pre2)++[(x,y)] by rw [hsn,htt,decide_eq_true hxy,List.append_assoc];rfl);have c11:=hv.cell;have hbl:=hv.lt;obtain ⟨ps,hpsq⟩:∃ ps,prsP tw L pre++rowP tw x pre2=ps:=⟨_,rfl⟩;rw [hpsq] at HI2 HOW HSN hps;clear hJ hy hr2 hty2 hLw hLT hLb hLt hbxV hv ho hsn hlen hlen2 hsv htt hpsq
       gi_wp2
       refine ⟨trivial,(callsIn_wide.2 (HHX.out _ gw0)).mono ?_⟩;rintro e w' ⟨rfl,g2,n2,rfl⟩
       gi_wp2_with (gi_at_builtin;go_loud (refine wpListIn_append_own _ rfl _ _ 36 rfl (B2+1) 57 i0 (.agg #[.int .i64 0,.int .i64 0]) 2 16 und_p hi HCELLS.out.1 HCELLS.out.2.1 HCELLS.out.2.2 rfl (by decide) _ _ _ rfl (HOW.out.grew gw0) ⟨_,0,none⟩ 1 1 [.int .i64 (x:Nat),.int .i64 (y:Nat)] rfl rfl (newPair _ _ (by simp [go_sem]) x y) (fun u hu=>pCells_one (l:=[(x,y)]) hu) (by unfold maxLen;omega) (by omega) (by have:=HSV.out;simp [go_sem];omega) ?_);intro v2 w1 hown hgrow _;obtain ⟨g',cap',rfl⟩:=ownsRow_succ hown;obtain ⟨hv1,hfin⟩:=PrI.step HI2.out (by omega) (by omega) (by omega) HTY2.out gw0 HV2.out HOW.out hown hgrow;have hc1:=hv1.cell;have hf1:=hv1.frozen;have HFIN:=hid hfin;clear hv1 hfin hown hgrow)
       have:=HFIN.out;rw [← HSN.out] at this;exact this
     | false =>
       rw [htt] at HHX;have HSN:=hid (show rowP tw x (pre2++[y])=rowP tw x pre2 by rw [hsn,htt,Bool.and_false,if_neg Bool.false_ne_true,List.append_nil]);have HST:=hid fun V' (hg:Grew V V')=>(show KeepsFrom W2.heap.size V V'∧(∀ b∈[B3,0],V'.heap[b]? = V.heap[b]?)∧PrI W2 (B2+1) B3 (prsP tw L pre++rowP tw x (pre2++[y])) V' by rw [HSN.out];exact HI2.out.same (by omega) hbS hg)
       clear hJ hy hr2 hty2 hLw hLT hLb hLt hbxV hv ho hsn hlen hlen2 hsv htt
       gi_wp2
       refine ⟨trivial,(callsIn_wide.2 (HHX.out _ gw0)).mono ?_⟩;rintro e w' ⟨rfl,g2,n2,rfl⟩
       gi_wp2
       exact HST.out _ gw0
   · have hxy1:decide ((x:Int)<(y:Int))=false:=decide_eq_false (by omega)
     have hxy2:decide (x<y)=false:=decide_eq_false hxy;have HSN:=hid (show rowP tw x (pre2++[y])=rowP tw x pre2 by rw [hsn,decide_eq_false hxy,Bool.false_and,if_neg Bool.false_ne_true,List.append_nil]);have HST:=hid fun V' (hg:Grew V V')=>(show KeepsFrom W2.heap.size V V'∧(∀ b∈[B3,0],V'.heap[b]? = V.heap[b]?)∧PrI W2 (B2+1) B3 (prsP tw L pre++rowP tw x (pre2++[y])) V' by rw [HSN.out];exact HI2.out.same (by omega) hbS hg)
     clear hJ hy hr2 hty2 hLw hLT hLb hLt hbxV hv ho hsn hlen hlen2 hsv
     gi_wp2
     refine ⟨trivial, ?_⟩
     gi_wp2
     exact HST.out _ gw0
  case done2 =>
   intro V hJ
   gi_wp2
   rw [← hW2,← hB3,← prsP_snoc] at hJ;exact PrI.leave HI.out (by omega) (by omega) (by omega) (HTY.out _ (List.mem_singleton.2 rfl)) hJ
 case done =>
  intro D Wd hDl hI hK;obtain ⟨v,hv,ho,_⟩:=hI.own;obtain ⟨a2,k2,rfl⟩:=ownsRow_slice ho;have c11:=hv.cell;have hbl:=hv.lt;have HBW:=hid (HLOW.out Wd hI.low).1;have HO:=hid ho;have HK:=hid hK;have HDL:=hid hDl;clear hI hv ho hK hDl
  gi_wp2
  go_wp2_with fail
  refine ⟨by simp,.inl ⟨_,_,rfl,run_takeDeferred (b:=D) (ds:=[]) HK.out, ?_⟩⟩;refine ⟨.tuple #[.slice a2 (prsP tw L L).length k2,.int .i64 0],by simp [results,go_sem],a2,k2,rfl, ?_, ?_⟩
  · exact OwnP.psA (base:=B2+1) (ownsRow_putObj HO.out _ HK.out rfl)
  · exact HBW.out.trans (belowK_b (w:=w) (Nat.le_refl _) Wd D _ _ (by have:=HDL.out;have:=HG.out.size;omega) HK.out rfl rfl)
end Go.Proofs.Qm
