/- Aids for the rows of laws: every argument reads on as it did where only new memory was made; a value of a type whose cells are all ints. No condition; no program in sight. -/
import Derived.ProofKit
import Derived.WalkKit
import Derived.Lib.SmallJoins
import Derived.Test.YtnceajabigdleaaDoorPtH1
namespace Go
open Go.ChangeShapes Go.WideShapes Go.ChangeAt Go.RowKit
theorem trodAll_below {H:Type} {enc:TypeId × Value→H} {P:Program} (hl:laidOutB P=true) {W W':World} (hb:Below W.heap.size W W') :
  ∀ (ts:List TypeId) (vs:List Value) (ds:List (DataW H)) (ps:List MemPlace),(ts.all fun t=>P.readableRec t&&decide (t<P.types.size))=true →
   DataW.TrodAll enc P W 0 (fun _=>true) true ts vs ds ps→DataW.TrodAll enc P W' 0 (fun b=>decide (b<W.heap.size)) true ts vs ds ps
 | [],[],[],_,_,h=>h
 | t :: ts, v :: vs, d :: ds, ps, hr, h => by
   obtain ⟨p,q,h1,h2,rfl⟩:=h;simp only [List.all_cons,Bool.and_eq_true,decide_eq_true_eq] at hr;refine ⟨p,q,Below.trod hl hr.1.1 hr.1.2 h1 hb ?_,trodAll_below hl hb ts vs ds q hr.2 h2,rfl⟩;obtain ⟨m,hm⟩:=h1;exact DataW.trod_lt m _ _ _ hm
 | [],[],_::_,_,_,h=>h.elim
 | [],_::_,_,_,_,h=>h.elim
 | _::_,[],_,_,_,h=>h.elim
 | _::_,_::_,[],_,_,h=>h.elim
theorem list4 {α:Type} {l:List α} (h:l.length=4):∃ a b c d,l=[a,b,c,d]:=by
 match l,h with
 | [a,b,c,d],_=>exact ⟨a,b,c,d,rfl⟩
end Go
