/- Layer 9, in main's ghost: the finding of a state: the reference's walk. Condition: the tests lie in memory. -/
import Derived.Test.YtnceajabigdleaaDoorPtQ985
import Derived.Test.YtnceajabigdleaaDoorPtH3
namespace Go.Proofs.Qm
open Go Go.Pt Go.RowKit Prb
def EmpS (v:Value):Prop:=∃ g:Nat,v=.slice (some ⟨g,0,none⟩) 0 0
def CopS (base:Nat) (bl:List Bool) (T:Nat) (v:Value) (W:World):Prop:=∃ (g k2:Nat),v=.slice (some ⟨g,0,none⟩) T k2∧base≤g∧BlkB W g bl
theorem CopS.grew {base T:Nat} {bl:List Bool} {v:Value} {W W':World} (h:CopS base bl T v W) (hg:Grew W W'):CopS base bl T v W':=by
 obtain ⟨g,k2,h1,h2,h3⟩:=h;exact ⟨g,k2,h1,h2,h3.kept (KeepB.grew hg)⟩
def BldS (base:Nat) (bl:List Bool) (T I:Nat) (v:Value) (W:World):Prop:=∃ (g k2:Nat),v=.agg #[.slice (some ⟨g,0,none⟩) T k2,.int .i64 I,.int .i64 0]∧base≤g∧BlkB W g bl
theorem BldS.grew {base T I:Nat} {bl:List Bool} {v:Value} {W W':World} (h:BldS base bl T I v W) (hg:Grew W W'):BldS base bl T I v W':=by
 obtain ⟨g,k2,h1,h2,h3⟩:=h;exact ⟨g,k2,h1,h2,h3.kept (KeepB.grew hg)⟩
def BoxS (base:Nat) (v:Value) (W:World):Prop:=∃ bx:Nat,v=.pointer (some ⟨bx,0,none⟩)∧base≤bx∧W.heap[bx]? = some (.cells #[.slice none 0 0,.int .i64 0,.int .i64 0] 48 (0,0))
theorem BoxS.grew {base:Nat} {v:Value} {W W':World} (h:BoxS base v W) (hg:Grew W W'):BoxS base v W':=by
 obtain ⟨bx,h1,h2,h3⟩:=h;exact ⟨bx,h1,h2,(hg.block _ (Array.getElem?_eq_some_iff.1 h3).1).trans h3⟩
theorem slot_append_b {o:Oper} {a:Act} {W:World} {Post:Value→World→Prop} {s x:Operand} {b0:Addr} {tb toff c:Nat} {l:List Bool} (ho:o.op=.call { callee:=.builtin .append,args:=#[s,x],argTypes:=#[23,23] })
  (hs:a.eval s=.slice (some b0) 0 0) (hx:a.eval x=.slice (some ⟨tb,toff,none⟩) l.length c) (hl:l≠[]) (hl6:l.length≤6) (hc:BlsAt W tb toff l)
  (h:∀ g k2 W',W.heap.size≤g→Grew W W'→BlkB W' g l→Post (.slice (some ⟨g,0,none⟩) l.length k2) W'):R4.Oper.slotAt prog o a W Post:=by
 obtain ⟨i0,hi,hz0,hz1,hz2⟩:=info_parts info_b;have hl1:0<l.length:=List.length_pos_iff.2 hl;have hr:=run_append_grow (P:=prog) W 23 o.type 4 i0 (.bool false) und_b hi hz0 b0 0 0 [] (by simp) (fun j v hj=>by simp at hj) ⟨tb,toff,none⟩ l.length c (bCells l) (by rw [hz1];simp [bCells]) (fun j u hj=>by
  obtain ⟨x,hx,rfl⟩:∃ x,l[j]? = some x∧u=.bool x:=by
   unfold bCells at hj;rw [List.getElem?_map] at hj;cases hx:l[j]? with
   | none=>rw [hx] at hj;cases hj
   | some x=>rw [hx] at hj;exact ⟨x,rfl,(Option.some.inj hj).symm⟩
  have e:(⟨tb,toff,none⟩:Addr).add j=⟨tb,toff+j,none⟩:=by unfold Addr.add;by_cases h1:j=0 <;> simp [h1]
  rw [e];exact hc j x hx) (by omega) (by omega) (growslice_fits (by omega) (by rw [hz2];omega))
 unfold R4.Oper.slotAt execOp;simp only [ho,resolve,invoke,builtin,Sem.run_bind,Sem.run_pure,Result.andThen_ok,List.map_toArray,List.map_cons,List.map_nil,hs,hx,hr,R4.Oper.slotUpon,Nat.zero_add];refine h _ _ _ (Nat.le_refl _) ((Grew.refl W).drew.alloc _) ⟨_,_,al_new rfl,fun i x hi=>?_⟩;have:(bCells l)[i]? = some (.bool x):=by simp [bCells,hi]
 have hil:i<(bCells l).length:=(List.getElem?_eq_some_iff.1 this).1;rw [Array.getElem?_append_left (by simp;simpa using hil),Array.getElem?_append_right (by simp)]
 simpa using this
def KeepI (w w':World):Prop:=∀ (g:Nat) (cs:Array Value) (fz:Nat × Nat),w.heap[g]? = some (.cells cs 3 fz)→w'.heap[g]? = w.heap[g]?
theorem KeepI.below {w w':World} (h:Below w.heap.size w w'):KeepI w w':=fun g _ _ h1=>h.block g (Array.getElem?_eq_some_iff.1 h1).1
theorem KeepI.trans {w w2 w':World} (h:KeepI w w2) (k:KeepI w2 w'):KeepI w w':=fun g cs fz h1=>by
 have e:=h g cs fz h1;exact (k g cs fz (e.trans h1)).trans e
theorem KeepI.set {w:World} {b i:Nat} {v:Value} (hb:∀ (cs:Array Value) (fz:Nat × Nat),w.heap[b]? ≠ some (.cells cs 3 fz)):KeepI w (w.setCell ⟨b,i,none⟩ v):=fun g cs fz h=>heap_setCell_ne w (fun e=>hb cs fz (by rw [← e];exact h)) i v
theorem KeepI.row {w w':World} {base:Nat} {e:TypeId} {size k:Nat} {v:Value} {xs:List Value} (ho:w.ownsRow base e size v k xs) (he:3≠e) (hg:w.grownBy w' v.ownBlock):KeepI w w':=fun g _ _ h =>
 hg.block g (Array.getElem?_eq_some_iff.1 h).1 fun e'=>own_ne ho h he e'.symm
theorem OwnZ.low {w:World} {base base' k0:Nat} {a0:Option Addr} {l:List Int} (h:OwnZ w base a0 k0 l) (hb:base'≤base):OwnZ w base' a0 k0 l:=by
 refine ⟨h.1,h.2.imp id ?_⟩;rintro ⟨g,cap,cur,h1,h2,h3⟩;exact ⟨g,cap,cur,h1,Nat.le_trans hb h2,h3⟩
open Go Go.Pt Go.RowKit Prb
end Go.Proofs.Qm
