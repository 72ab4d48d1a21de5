/- Layer 9, in main's ghost: the states of a set that agree with a test: the program. Condition: the table and the test lie in memory. -/
import Derived.Test.YtnceajabigdleaaDoorPtQ94
namespace Go.Proofs.Qm
open Go Go.Pt Go.RowKit Prb
attribute [local go_sem] Oper.semAt_some
structure LoopI (W1:World) (bO bS:Nat) (o:List Nat→Obj) (pre:List Nat) (W:World):Prop where
 low:Below 0 W1 W
 kept:∀ k,k<W1.heap.size→k≠bO→k≠bS→W.heap[k]? = W1.heap[k]?
 own:W.heap[bO]? = some (o pre)
theorem LoopI.start {w W1 W:World} {bO bS:Nat} {o:List Nat→Obj} {pre:List Nat} (h:LoopI W1 bO bS o pre W) (hg:Grew w W1) (h1:w.heap.size≤bO) (h2:w.heap.size≤bS):Below w.heap.size w W:=by
 have e:=hg.below;have l:=h.low;exact ⟨l.os.trans e.os,l.tape.trans e.tape,l.output.trans e.output,Nat.le_trans e.size l.size,fun k hk=>(h.kept k (Nat.lt_of_lt_of_le hk hg.size) (by omega) (by omega)).trans (hg.block k hk)⟩
theorem LoopI.put {W1 W V:World} {bO bS j:Nat} {o:List Nat→Obj} {pre:List Nat} {x:Nat} {v:Value} (h:LoopI W1 bO bS o pre W) (hO:bO<W1.heap.size) (hne:bO≠bS) (h0:bO≠0) (hS:bS<W1.heap.size)
  (hv:(W.setCell ⟨bO,j,none⟩ v).heap[bO]? = some (o (pre++[x]))) (hg:Grew (W.setCell ⟨bO,j,none⟩ v) V):KeepsFrom W1.heap.size W V∧(∀ b∈[bS,0],V.heap[b]? = W.heap[b]?)∧LoopI W1 bO bS o (pre++[x]) V:=by
 have hs:=(grownBy_set W bO j v).size;have key:∀ k,k<W.heap.size→k≠bO→V.heap[k]? = W.heap[k]? := fun k hk hkO=>(hg.block k (Nat.lt_of_lt_of_le hk hs)).trans (heap_setCell_ne W hkO _ _)
 have hsz:=h.low.size;refine ⟨⟨Nat.le_trans hs hg.size,fun k o hk ho _=>(key k (Array.getElem?_eq_some_iff.1 ho).1 (by omega)).trans ho⟩,fun b hb=>?_,⟨below_grew (below_set h.low (Nat.zero_le _)) hg (Nat.zero_le _),fun k h1 h2 h3=>(key k (by omega) h2).trans (h.kept k h1 h2 h3),(hg.block bO (by omega)).trans hv⟩⟩;rcases List.mem_cons.1 hb with rfl | hb
 · exact key _ (by omega) (fun e=>hne e.symm)
 · obtain rfl:=List.mem_singleton.1 hb
   exact key 0 (by omega) (fun e=>h0 e.symm)
theorem LoopI.same {W1 W V:World} {bO bS:Nat} {o:List Nat→Obj} {pre:List Nat} {x:Nat} (h:LoopI W1 bO bS o pre W) (hO:bO<W1.heap.size) (hS:bS<W1.heap.size) (he:o (pre++[x])=o pre)
  (hg:Grew W V):KeepsFrom W1.heap.size W V∧(∀ b∈[bS,0],V.heap[b]? = W.heap[b]?)∧LoopI W1 bO bS o (pre++[x]) V:=by
 have hsz:=h.low.size;refine ⟨⟨hg.size,fun k o hk ho _=>(hg.block k (Array.getElem?_eq_some_iff.1 ho).1).trans ho⟩,fun b hb=>hg.block b ?_,⟨below_grew h.low hg (Nat.zero_le _),fun k h1 h2 h3=>(hg.block k (by omega)).trans (h.kept k h1 h2 h3),(hg.block bO (by omega)).trans (he ▸ h.own)⟩⟩;rcases List.mem_cons.1 hb with rfl | hb
 · omega
 · obtain rfl:=List.mem_singleton.1 hb
   omega
theorem asc_pre:∀ {pre r:List Nat} {x:Nat},Asc (pre++x::r)→Asc pre∧∀ y∈pre,y<x
 | [],_,_,_=>⟨trivial,fun y h=>by cases h⟩
 | z :: pre, r, x, h => by
   obtain ⟨h1,h2⟩:=asc_pre (pre:=pre) h.2;refine ⟨⟨fun y hy=>h.1 y (List.mem_append_left _ hy),h1⟩,fun y hy=>?_⟩;rcases List.mem_cons.1 hy with rfl | hy
   · exact h.1 x (by simp)
   · exact h2 y hy
open Go Go.Pt Go.RowKit Prb
attribute [local go_sem] Oper.semAt_some
structure ColI (w W1:World) (bS:Nat) (pre:List Nat) (W:World):Prop where
 low:Below 0 W1 W
 kept:∀ k,k<W1.heap.size→k≠w.heap.size→k≠bS→W.heap[k]? = W1.heap[k]?
 own:∃ v,Boxed W w.heap.size 22 v∧W.ownsRow w.heap.size 3 1 v pre.length (zCells (ints pre))
theorem ColI.step {w W1 W w1:World} {bS:Nat} {v v':Value} {pre:List Nat} {x:Nat} {tmp:Obj} (h:ColI w W1 bS pre W) (hs:W1.heap.size=w.heap.size+1) (hS:bS<w.heap.size)
  (hv:Boxed W w.heap.size 22 v) (ho:W.ownsRow w.heap.size 3 1 v pre.length (zCells (ints pre))) (hown:w1.ownsRow w.heap.size 3 1 v' (pre.length+1) (zCells (ints pre)++[.int .i64 (x:Nat)])) (hgrow:(W.alloc tmp).grownBy w1 v.ownBlock) :
  Boxed w1 w.heap.size 22 v∧(KeepsFrom W1.heap.size W (w1.setCell ⟨w.heap.size,0,none⟩ v')∧(∀ b∈[bS,0],(w1.setCell ⟨w.heap.size,0,none⟩ v').heap[b]? = W.heap[b]?)∧ColI w W1 bS (pre++[x]) (w1.setCell ⟨w.heap.size,0,none⟩ v')):=by
 have hsz:=h.low.size;obtain ⟨hv1,hv2,hr2,hk2,hb2⟩:=hv.appended (by decide) ho (by omega) (Nat.le_refl _) hown hgrow;refine ⟨hv1,hk2.from _,fun b hb=>hb2.block b ?_,⟨h.low.trans ⟨hb2.os,hb2.tape,hb2.output,hb2.size,fun k hk=>absurd hk (Nat.not_lt_zero k)⟩,fun k h1 h2 h3=>(hb2.block k (by omega)).trans (h.kept k h1 h2 h3),v',hv2, ?_⟩⟩
 · rcases List.mem_cons.1 hb with rfl | hb
   · exact hS
   · obtain rfl:=List.mem_singleton.1 hb
     omega
 · rw [ints_snoc,zCells_app,List.length_append]
   exact hr2
theorem ColI.start {w W1 W:World} {bS:Nat} {pre:List Nat} (h:ColI w W1 bS pre W) (hg:Grew w W1):w.grownBy W (some bS):=by
 have e:=hg.below;have l:=h.low;exact ⟨l.os.trans e.os,l.tape.trans e.tape,l.output.trans e.output,Nat.le_trans e.size l.size,fun k hk hn=>(h.kept k (Nat.lt_of_lt_of_le hk hg.size) (by omega) (fun e=>hn (by rw [e]))).trans (hg.block k hk)⟩
theorem asc_len:∀ {L:List Nat} {lo:Nat},Asc L→(∀ y∈L,lo≤y∧y<64)→lo≤64→L.length+lo≤64
 | [],_,_,_,h=>by simpa using h
 | x :: r, lo, ha, hb, h => by
   have hx:=hb x List.mem_cons_self;have:=asc_len (L:=r) (lo:=x+1) ha.2 (fun y hy=>⟨ha.1 y hy,(hb y (List.mem_cons_of_mem _ hy)).2⟩) (by omega);simp only [List.length_cons];omega
end Go.Proofs.Qm
