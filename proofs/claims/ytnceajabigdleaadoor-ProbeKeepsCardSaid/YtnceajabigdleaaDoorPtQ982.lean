/- Layer 9, in main's ghost: the pairs that no try parts: the program. Condition: the states and the tests lie in memory. -/
import Derived.Test.YtnceajabigdleaaDoorPtQ981
import Derived.Test.YtnceajabigdleaaDoorPtQ97
namespace Go.Proofs.Qm
open Go Go.Pt Go.RowKit Prb
attribute [local go_sem] Oper.semAt_some
structure PrI (W1:World) (T bS:Nat) (ps:List (Nat × Nat)) (W:World):Prop where
 low:Below T W1 W
 typ:∀ k cs t fz,W1.heap[k]? = some (.cells cs t fz)→t≠57→k≠T→k≠bS→W.heap[k]? = W1.heap[k]?
 non:∀ k o,W1.heap[k]? = some o→o.isCells=false→k≠bS→W.heap[k]? = some o
 own:∃ v,Boxed W T 36 v∧W.ownsRow T 57 2 v ps.length (pCells ps)∧v.ownBlock≠some bS
theorem own_cells {W:World} {base:Nat} {e:TypeId} {size k g:Nat} {v:Value} {xs:List Value} (h:W.ownsRow base e size v k xs) (hg:v.ownBlock=some g):∃ cs fz,W.heap[g]? = some (.cells cs e fz):=by
 rcases h.2 with ⟨h1,_⟩ | ⟨g',cap,cur,h1,_,h3,_⟩
 · rw [h1] at hg;simp [Value.ownBlock] at hg
 · obtain rfl:g'=g:=by rw [h1] at hg;simpa [Value.ownBlock] using hg
   exact ⟨_,_,h3⟩
theorem own_ne {W:World} {base b:Nat} {e t:TypeId} {size k:Nat} {v:Value} {xs:List Value} {cs:Array Value} {fz:Nat × Nat} (h:W.ownsRow base e size v k xs) (hb:W.heap[b]? = some (.cells cs t fz)) (hne:t≠e):v.ownBlock≠some b:=fun hk=>by
 obtain ⟨cs',fz',h1⟩:=own_cells h hk;rw [hb] at h1;cases h1;exact hne rfl
theorem PrI.grew {W1 W V:World} {T bS:Nat} {ps:List (Nat × Nat)} (h:PrI W1 T bS ps W) (hT:T≤W1.heap.size) (hg:Grew W V):PrI W1 T bS ps V:=by
 have hsz:=h.low.size;obtain ⟨v,hv,ho,hn⟩:=h.own;refine ⟨below_grew h.low hg (by omega),fun k cs t fz h1 h2 h3 h4=>?_,fun k o h1 h2 h5=>?_,v,(hg.block _ hv.lt).trans hv,ho.grew hg,hn⟩
 · have hk:=(Array.getElem?_eq_some_iff.1 h1).1
   exact (hg.block k (by omega)).trans (h.typ k cs t fz h1 h2 h3 h4)
 · have hk:=(Array.getElem?_eq_some_iff.1 h1).1
   exact (hg.block k (by omega)).trans (h.non k o h1 h2 h5)
theorem boxed_app {W w1:World} {n₀ B:Nat} {t e:TypeId} {size:Nat} {v v':Value} {k m:Nat} {xs ys:List Value}
  (hv:Boxed W B t v) (hte:t≠e) (hrow:W.ownsRow n₀ e size v k xs) (hn₀:n₀≤W.heap.size) (hB:n₀≤B)
  (hown':w1.ownsRow n₀ e size v' m ys) (hgrow:W.grownBy w1 v.ownBlock) :
  Boxed w1 B t v∧Boxed (w1.setCell ⟨B,0,none⟩ v') B t v'∧(w1.setCell ⟨B,0,none⟩ v').ownsRow n₀ e size v' m ys∧KeepsOthers W (w1.setCell ⟨B,0,none⟩ v')∧Below n₀ W (w1.setCell ⟨B,0,none⟩ v'):=by
 have hv1:Boxed w1 B t v:=hv.kept hgrow (hv.not_row hte hrow);refine ⟨hv1,hv1.set v',hown'.kept (grownBy_setCell' w1 B v') (.inr (hv1.not_row hte hown').symm), ?_, ?_⟩
 · refine (KeepsOthers.of_grownBy hgrow fun j o ej hj=>?_).trans (KeepsOthers.setCell _ _ _)
   obtain ⟨cs,fz,h1⟩:=own_cells hrow ej;rw [h1] at hj;cases hj;rfl
 · refine ((Below.refl n₀ W).grown hgrow hn₀ fun j ej=>?_).setCell (p:=⟨B,0,none⟩) hB v'
   exact ownsRow_above hrow j ej
theorem PrI.step {W1 W V w1:World} {T bS x y:Nat} {v v':Value} {ps:List (Nat × Nat)} (h:PrI W1 T bS ps W) (hT:0<T) (hT1:T<W1.heap.size) (hne:bS≠T) (hS:∃ cs fz,W.heap[bS]? = some (.cells cs 69 fz))
  (hg:Grew W V) (hv:Boxed W T 36 v) (ho:W.ownsRow T 57 2 v ps.length (pCells ps)) (hown:w1.ownsRow T 57 2 v' (ps.length+1) (pCells ps++[.int .i64 (x:Nat),.int .i64 (y:Nat)])) (hgrow:V.grownBy w1 v.ownBlock) :
  Boxed w1 T 36 v∧(KeepsFrom W1.heap.size W (w1.setCell ⟨T,0,none⟩ v')∧(∀ b∈[bS,0],(w1.setCell ⟨T,0,none⟩ v').heap[b]? = W.heap[b]?)∧PrI W1 T bS (ps++[(x,y)]) (w1.setCell ⟨T,0,none⟩ v')):=by
 have hsz:=h.low.size;have hsg:=hg.size;have hvV:Boxed V T 36 v:=(hg.block _ hv.lt).trans hv;have hoV:=ho.grew hg;obtain ⟨hv1,hv2,hr2,hk2,hb2⟩:=boxed_app hvV (by decide) hoV (by omega) (Nat.le_refl _) hown hgrow;have typ:∀ k cs t fz,W.heap[k]? = some (.cells cs t fz)→t≠57→k≠T→(w1.setCell ⟨T,0,none⟩ v').heap[k]? = W.heap[k]? := fun k cs t fz h1 h2 h3=>by
  have hk:=(Array.getElem?_eq_some_iff.1 h1).1;refine (heap_setCell_ne _ h3 _ _).trans ((hgrow.block k (by omega) fun e=>?_).trans (hg.block k hk));exact own_ne hoV ((hg.block k hk).trans h1) h2 e.symm
 obtain ⟨cs,fz,hS⟩:=hS;refine ⟨hv1,⟨Nat.le_trans hg.size hk2.size,fun k o hk ho' hc=>hk2.same k o ((hg.block k (Array.getElem?_eq_some_iff.1 ho').1).trans ho') hc⟩,fun b hb=>?_,⟨(below_grew h.low hg (by omega)).trans hb2,fun k cs t fz h1 h2 h3 h4=>?_,fun k o h1 h2 h5=>?_,v',hv2, ?_, ?_⟩⟩
 · rcases List.mem_cons.1 hb with rfl | hb
   · exact typ _ _ _ _ hS (by decide) hne
   · obtain rfl:=List.mem_singleton.1 hb
     exact (hb2.block 0 hT).trans (hg.block 0 (by omega))
 · have e:=h.typ k cs t fz h1 h2 h3 h4
   exact (typ k cs t fz (e.trans h1) h2 h3).trans e
 · have e:=h.non k o h1 h2 h5
   exact hk2.same k o ((hg.block k (Array.getElem?_eq_some_iff.1 e).1).trans e) h2
 · rw [pCells_app,List.length_append]
   exact hr2
 · exact own_ne hr2 ((typ _ _ _ _ hS (by decide) hne).trans hS) (by decide)
theorem PrI.enter {W1 W:World} {T bS:Nat} {ps:List (Nat × Nat)} {o:Obj} (h:PrI W1 T bS ps W):PrI (W.alloc o) T W.heap.size ps (W.alloc o):=by
 obtain ⟨v,hv,ho,hn⟩:=h.own;refine ⟨Below.refl _ _,fun _ _ _ _ _ _ _ _=>rfl,fun _ _ h _ _=>h,v,hv.alloc _,ho.alloc _,fun hk=>?_⟩;obtain ⟨cs,fz,h1⟩:=own_cells ho hk;have:=(Array.getElem?_eq_some_iff.1 h1).1;omega
theorem PrI.leave {W1 W V:World} {T bS:Nat} {ps qs:List (Nat × Nat)} {o:Obj} (h:PrI W1 T bS ps W) (hT:0<T) (hT1:T<W1.heap.size) (hne:bS≠T) (hS:∃ cs fz,W.heap[bS]? = some (.cells cs 69 fz)) (hq:PrI (W.alloc o) T W.heap.size qs V) :
  KeepsFrom W1.heap.size W V∧(∀ b∈[bS,0],V.heap[b]? = W.heap[b]?)∧PrI W1 T bS qs V:=by
 have hsz:=h.low.size;have hsq:=hq.low.size;rw [World.size_alloc] at hsq;obtain ⟨cs,fz,hS⟩:=hS;have hbl:=(Array.getElem?_eq_some_iff.1 hS).1;have typ:∀ k cs t fz,W.heap[k]? = some (.cells cs t fz)→t≠57→k≠T→V.heap[k]? = W.heap[k]? := fun k cs t fz h1 h2 h3=>by
  have hk:=(Array.getElem?_eq_some_iff.1 h1).1;exact (hq.typ k cs t fz ((al_old hk).trans h1) h2 h3 (by omega)).trans (al_old hk)
 have non:∀ (k:Nat) (o':Obj),W.heap[k]? = some o'→o'.isCells=false→V.heap[k]? = some o':=fun k o' h1 h2=>by
  have hk:=(Array.getElem?_eq_some_iff.1 h1).1;exact hq.non k o' ((al_old hk).trans h1) h2 (by omega)
 have hlow:Below T W V:=((Below.refl T W).alloc (by omega) o).trans hq.low;refine ⟨⟨by omega,fun k o' _ h1 h2=>non k o' h1 h2⟩,fun b hb=>?_,⟨h.low.trans hlow,fun k cs t fz h1 h2 h3 h4=>?_,fun k o' h1 h2 h5=>non k o' (h.non k o' h1 h2 h5) h2, ?_⟩⟩
 · rcases List.mem_cons.1 hb with rfl | hb
   · exact typ _ _ _ _ hS (by decide) hne
   · obtain rfl:=List.mem_singleton.1 hb
     exact hlow.block 0 hT
 · have e:=h.typ k cs t fz h1 h2 h3 h4
   exact (typ k cs t fz (e.trans h1) h2 h3).trans e
 · obtain ⟨v,hv,ho,_⟩:=hq.own
   exact ⟨v,hv,ho,own_ne ho ((typ _ _ _ _ hS (by decide) hne).trans hS) (by decide)⟩
theorem PrI.same {W1 W V:World} {T bS:Nat} {ps:List (Nat × Nat)} (h:PrI W1 T bS ps W) (hT:T≤W1.heap.size) (hS:bS<W.heap.size) (hg:Grew W V) :
  KeepsFrom W1.heap.size W V∧(∀ b∈[bS,0],V.heap[b]? = W.heap[b]?)∧PrI W1 T bS ps V:=by
 refine ⟨⟨hg.size,fun k o _ ho _=>(hg.block k (Array.getElem?_eq_some_iff.1 ho).1).trans ho⟩,fun b hb=>hg.block b ?_,h.grew hT hg⟩;rcases List.mem_cons.1 hb with rfl | hb
 · exact hS
 · obtain rfl:=List.mem_singleton.1 hb
   omega
open Go Go.Pt Go.RowKit Prb
attribute [local go_sem] Oper.semAt_some
end Go.Proofs.Qm
