/- Layer 9, in main's ghost: the finding of a state: the program's walk. Condition: the tests lie in memory. -/
import Derived.Test.YtnceajabigdleaaDoorPtQ984
namespace Go.Proofs.Qm
open Go Go.Pt Go.RowKit Prb
structure FinI (n:Int) (N m s:Nat) (l:List Tq) (R:List Nat × List Fd) (k:Nat) (L:List Nat) (Ft:List Tq):Prop where
 fin:finF n m s l k L (Ft.map fdOf)=R
 len:L.length≤k
 asc:Asc L
 lt:∀ y∈L,y<N
 six:∀ z∈Ft,z.b.length≤6
theorem FinI.stop {n:Int} {N m s k:Nat} {l:List Tq} {R:List Nat × List Fd} {L:List Nat} {Ft:List Tq} (h:FinI n N m s l R k L Ft) (hs:stopF n m L l=true):R.1=L∧R.2=Ft.map fdOf:=by
 have:=h.fin;rw [finF_stop hs] at this;rw [← this];exact ⟨rfl,rfl⟩
theorem FinI.step {n:Int} {N m s k:Nat} {l:List Tq} {R:List Nat × List Fd} {L:List Nat} {Ft:List Tq} (h:FinI n N m s l R k L Ft) (hs:stopF n m L l=false) {z:Tq} (hz:l[bstX n m L l]? = some z) (hA:ansF n s z<m) (hw:wrst n m L z<L.length) (hb:z.b.length≤6)
  {a:Option Addr} {len cap:Nat}:FinI n N m s l R (k - 1) (nxtF n s z L) (Ft++[⟨⟨a,len,cap,z.t.i,(ansF n s z:Nat)⟩,z.b⟩])∧setS (nxtF n s z L)<setS L∧(nxtF n s z L).length<L.length:=by
 have hlt:=nxtF_lt hA hw;have hlen:=h.len;obtain ⟨k,rfl⟩:∃ k',k=k'+1:=⟨k - 1,by omega⟩;refine ⟨⟨?_,by omega,asc_sub _ h.asc,fun y hy=>h.lt y (List.mem_filter.1 hy).1,fun y hy=>?_⟩,(setS_filter _ L).2 hlt,hlt⟩
 · have:=h.fin
   rw [finF_step hs hz] at this;rw [List.map_append];exact this
 · rcases List.mem_append.1 hy with hy | hy
   · exact h.six y hy
   · rw [List.mem_singleton.1 hy];exact hb
end Go.Proofs.Qm
