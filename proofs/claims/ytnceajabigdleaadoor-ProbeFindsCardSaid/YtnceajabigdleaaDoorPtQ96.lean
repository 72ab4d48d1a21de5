/- Layer 9, in main's ghost: Left of the program and of the reference. Condition: the tests lie in memory. -/
import Derived.Test.YtnceajabigdleaaDoorPtQ95
import Derived.Test.YtnceajabigdleaaDoorPtQ8
namespace Go.Proofs.Qm
open Go Go.Pt Go.RowKit Prb
def leftL (n:Int) (N:Nat) (l:List Tq):List Nat:=l.foldl (fun L z=>L.filter (agP n z.b z.t.i.toNat z.t.o)) (List.range N)
theorem asc_range:∀ N:Nat,Asc (List.range N)
 | 0=>trivial
 | N+1=>by rw [List.range_succ];exact asc_snoc (asc_range N) fun y hy=>List.mem_range.1 hy
theorem leftL_ok (n:Int) (N:Nat) (l:List Tq):Asc (leftL n N l)∧∀ y∈leftL n N l,y<N:=by
 have key:∀ (l:List Tq) (L:List Nat),Asc L→(∀ y∈L,y<N)→Asc (l.foldl (fun L z=>L.filter (agP n z.b z.t.i.toNat z.t.o)) L)∧∀ y∈l.foldl (fun L z=>L.filter (agP n z.b z.t.i.toNat z.t.o)) L,y<N:=by
  intro l
  induction l with
  | nil=>intro L h1 h2;exact ⟨h1,h2⟩
  | cons z r ih=>intro L h1 h2;exact ih _ (asc_sub _ h1) fun y hy=>h2 y (List.mem_filter.1 hy).1
 exact key l _ (asc_range N) fun y hy=>List.mem_range.1 hy
theorem tq_open {n:Int} {N m:Nat} {z:Tq} {w:World} (hn:(n=2∧N=2∧m=2)∨(n=4∧N=64∧m=4)) (ht:TurnAt w z.t.a z.t.len z.b) (h:tstB n z.t=true) :
  ∃ (b off I:Nat),z.t.a=some ⟨b,off,none⟩∧b<w.heap.size∧BlsAt w b off z.b∧z.t.len=z.b.length∧z.t.i=(I:Int)∧I<m∧((n=2∧N=2∧m=2∧z.b.length=1)∨(n=4∧N=64∧m=4∧z.b.length=6)):=by
 obtain ⟨h1,h2,h3,_,_⟩:=tq_fits (hn.imp (fun h=>h.1) (fun h=>h.1)) h;obtain ⟨hl,ht⟩:=ht;have hk:(n=2∧N=2∧m=2∧z.b.length=1)∨(n=4∧N=64∧m=4∧z.b.length=6):=by
  rcases hn with ⟨rfl,rfl,rfl⟩ | ⟨rfl,rfl,rfl⟩
  · exact .inl ⟨rfl,rfl,rfl,by rw [← hl,h1];rfl⟩
  · exact .inr ⟨rfl,rfl,rfl,by rw [← hl,h1];rfl⟩
 rcases ht with ht | ⟨b,off,ha,hb,hc⟩
 · rw [ht] at hk;simp at hk
 · exact ⟨b,off,z.t.i.toNat,ha,hb,hc,hl,by omega,by omega,hk⟩
open Go Go.Pt Go.RowKit Prb
theorem known_f {n:Int} (h:cntZ n=0):(decide (n=2)||decide (n=4))=false:=by
 rw [Bool.eq_false_iff];intro h2;simp only [Bool.or_eq_true,decide_eq_true_eq] at h2;rcases h2 with rfl | rfl <;> simp [cntZ] at h
theorem known_t {n:Int} (h:n=2∨n=4):(decide (n=2)||decide (n=4))=true:=by rcases h with rfl | rfl <;> simp
end Go.Proofs.Qm
