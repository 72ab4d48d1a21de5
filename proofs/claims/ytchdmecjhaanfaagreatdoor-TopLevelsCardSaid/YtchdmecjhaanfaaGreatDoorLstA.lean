import Derived.Test.YtchdmecjhaanfaaGreatDoorMshX
import Derived.Test.YtchdmecjhaanfaaGreatDoorMshX
import Derived.Test.YtchdmecjhaanfaaGreatDoorStrA
import Derived.Laws.AppendOwnNone
import Derived.OwnWalk
namespace Go.Proofs.YtchdmecjhaanfaaGreatDoor
open Go Go.RowKit Amp Msh
def strsC (l:List (List UInt8)):List Value:=l.map fun p=>.string (strB p)
def OwnS (w:World) (base:Nat) (a0:Option Addr) (k0:Nat) (l:List (List UInt8)):Prop:=w.ownsRow base 9 1 (.slice a0 l.length k0) l.length (strsC l)
theorem OwnS.nil (w:World) (base:Nat):OwnS w base none 0 []:=World.ownsRow_nil w base 9 1
theorem OwnS.grew {w w':World} {base:Nat} {a0:Option Addr} {k0:Nat} {l:List (List UInt8)} (h:OwnS w base a0 k0 l) (g:Grew w w'):OwnS w' base a0 k0 l:=World.ownsRow.grew h g
theorem strsC_at {l:List (List UInt8)} {j:Nat} {p:List UInt8} (h:l[j]? = some p):(strsC l)[j]? = some (.string (strB p)):=by unfold strsC;rw [List.getElem?_map,h];rfl
theorem OwnS.at {w:World} {base:Nat} {a0:Option Addr} {k0:Nat} {l:List (List UInt8)} (h:OwnS w base a0 k0 l) (hl:l≠[]):∃ g,a0=some ⟨g,0,none⟩∧g<w.heap.size∧l.length≤k0∧∀ (j:Nat) (p:List UInt8),l[j]? = some p→w.cell? ⟨g,j,none⟩=some (.string (strB p)):=by
 rcases h.2 with ⟨_,h2⟩ | ⟨g,cap,cur,h1,h2,h3,h4⟩
 · exact absurd (List.eq_nil_of_length_eq_zero h2) hl
 · injection h1 with e1 e2 e3
   subst e1;subst e3;refine ⟨g,rfl,(Array.getElem?_eq_some_iff.1 h3).1,by omega,fun j p hp=>?_⟩;have hj:=(List.getElem?_eq_some_iff.1 hp).1;rw [World.ownsRow.cellAt h j (by omega)];exact strsC_at hp
def ItsK (w:World) (a0:Option Addr) (l:List It):Prop:=Its w a0 l∧∀ q,a0=some q→∃ cs fz,w.heap[q.block]? = some (.cells cs 51 fz)
theorem ItsK.nil (w:World):ItsK w none []:=⟨.inl rfl,fun q hq=>by cases hq⟩
theorem ItsK.by {W w:World} {row:Option Nat} {a0:Option Addr} {l:List It} (h:ItsK W a0 l) (hg:W.grownBy w row) (hr:∀ r,row=some r→∀ cs fz,W.heap[r]? ≠ some (.cells cs 51 fz)):ItsK w a0 l:=by
 have key:∀ q,a0=some q→w.heap[q.block]? = W.heap[q.block]? := fun q hq=>by
  obtain ⟨cs,fz,h1⟩:=h.2 q hq;exact hg.block _ (Array.getElem?_eq_some_iff.1 h1).1 fun e=>hr _ e.symm _ _ h1
 refine ⟨?_,fun q hq=>?_⟩
 · rcases h.1 with h1 | ⟨b,off,rfl,hlt,hc⟩
   · exact .inl h1
   · refine .inr ⟨b,off,rfl,Nat.lt_of_lt_of_le hlt hg.size,fun i z hz=>?_⟩
     have e:=key _ rfl;have e2:∀ j,w.cell? ⟨b,j,none⟩=W.cell? ⟨b,j,none⟩:=fun j=>by
      have e':w.heap[b]? = W.heap[b]? := e;simp only [World.cell?,e']
     obtain ⟨c0,c1,c2,c3⟩:=hc i z hz;exact ⟨(e2 _).trans c0,(e2 _).trans c1,(e2 _).trans c2,(e2 _).trans c3⟩
 · obtain ⟨cs,fz,h1⟩:=h.2 q hq
   exact ⟨cs,fz,(key q hq).trans h1⟩
theorem ItsK.grew {w w':World} {a0:Option Addr} {l:List It} (h:ItsK w a0 l) (g:Grew w w'):ItsK w' a0 l:=h.by (g.grownBy none) fun r e=>by cases e
theorem OwnI.itsK {w:World} {base:Nat} {a0:Option Addr} {k0:Nat} {l:List It} (h:OwnI w base a0 k0 l):ItsK w a0 l:=by
 refine ⟨h.its,fun q hq=>?_⟩;rcases h.2 with ⟨h1,_⟩ | ⟨g,cap,cur,h1,h2,h3,_⟩
 · injection h1 with e1;rw [e1] at hq;cases hq
 · injection h1 with e1 e2 e3
   subst e1;injection hq with hq;subst hq;exact ⟨cur,_,h3⟩
structure CV where
 name:ByteArray
 gd:Int
 a:Option Addr
 len:Nat
 k:Nat
def cvC (m:CV):List Value:=[.string m.name,.int .i64 m.gd,.slice m.a m.len m.k]
def cvCells (V:List CV):List Value:=V.flatMap cvC
theorem cvCells_app (V:List CV) (m:CV):cvCells V++cvC m=cvCells (V++[m]):=by simp [cvCells]
theorem cvCells_at:∀ (V:List CV) (i:Nat) (m:CV),V[i]? = some m→∀ j,j<3→(cvCells V)[i*3+j]? = (cvC m)[j]?
 | [],i,z,h,_,_=>by simp at h
 | y :: t, 0, z, h, j, hj => by
   simp at h;subst h;simp only [cvCells,List.flatMap_cons,Nat.zero_mul,Nat.zero_add];rw [List.getElem?_append_left (by simpa [cvC] using hj)]
 | y :: t, i + 1, z, h, j, hj => by
   simp at h;have:=cvCells_at t i z h j hj;simp only [cvCells,List.flatMap_cons] at *
   rw [List.getElem?_append_right (by simp [cvC];omega),← this]
   congr 1
   simp [cvC];omega
theorem info_cl:(Tryz.prog.info? 28).map (fun i=>(i.zero,i.size,i.bytes))=some (some (.agg #[.string ⟨#[]⟩,.int .i64 0,.slice none 0 0]),3,48):=by kernel_rfl
def OwnCs (w:World) (base:Nat) (a0:Option Addr) (k0:Nat) (V:List CV):Prop:=w.ownsRow base 28 3 (.slice a0 V.length k0) V.length (cvCells V)
theorem OwnCs.nil (w:World) (base:Nat):OwnCs w base none 0 []:=World.ownsRow_nil w base 28 3
theorem OwnCs.grew {w w':World} {base:Nat} {a0:Option Addr} {k0:Nat} {V:List CV} (h:OwnCs w base a0 k0 V) (g:Grew w w'):OwnCs w' base a0 k0 V:=World.ownsRow.grew h g
theorem wpList_append_cv {w:World} {ops:Array Oper} {rest:List Oper} {o:Oper} {a:Act} {Q:Exit→Act→World→Prop} (hgd:o.guard=none) (s x:Operand)
  (ho:o.op=.call { callee:=.builtin .append,args:=#[s,x],argTypes:=#[22,22] })
  (base:Nat) (a0:Option Addr) (k0:Nat) (V:List CV) (hs:a.eval s=.slice a0 V.length k0) (hown:OwnCs w base a0 k0 V)
  (bx c:Nat) (m:CV) (hx:a.eval x=.slice (some ⟨bx,0,none⟩) 1 c) (hb:w.heap[bx]? = some (.cells #[.string m.name,.int .i64 m.gd,.slice m.a m.len m.k] 28))
  (hmax:V.length+1≤200000) (hbase:base≤w.heap.size)
  (h:∀ a2 k2 w',OwnCs w' base a2 k2 (V++[m])→w.grownBy w' (Value.slice a0 V.length k0).ownBlock→w.drawn≤w'.drawn→wpList Tryz.prog ops Q rest (a.put o.dst (.slice a2 (V++[m]).length k2)) w') :
  wpList Tryz.prog ops Q (o::rest) a w:=by
 obtain ⟨i0,hi,hz0,hz1,hz2⟩:=info_parts info_cl;refine wpList_append_behind hgd s x 22 ho base 28 i0 (.agg #[.string ⟨#[]⟩,.int .i64 0,.slice none 0 0]) 3 48 Tryz.underlying22 hi hz0 hz1 hz2 rfl (by decide) _ _ (cvCells V) hs hown ⟨bx,0,none⟩ 1 c (cvC m) hx rfl (fun j u hj=>by
  match j,hj with
  | 0,hj=>simp [cvC] at hj;subst hj;simp [Addr.add,World.cell?,hb]
  | 1,hj=>simp [cvC] at hj;subst hj;simp [Addr.add,World.cell?,hb]
  | 2,hj=>simp [cvC] at hj;subst hj;simp [Addr.add,World.cell?,hb]
  | j+3,hj=>simp [cvC] at hj) (fun u hu=>by simp [cvC] at hu;rcases hu with rfl | rfl | rfl <;> rfl) (by unfold maxLen;omega) (by omega) hbase fun v' w' hown' hgrow _ hdr=>?_
 obtain ⟨a2,k2,rfl⟩:=ownsRow_slice hown';rw [show V.length+1=(V++[m]).length by simp,cvCells_app] at hown';rw [show V.length+1=(V++[m]).length by simp];exact h a2 k2 w' hown' hgrow hdr
def CvIn (w:World) (V:List CV) (L:List Cl):Prop:=V.length=L.length∧∀ (j:Nat) (m:CV) (c:Cl),V[j]? = some m→L[j]? = some c→m.name=c.name∧m.gd=c.gd∧m.len=c.items.length∧ItsK w m.a c.items
theorem CvIn.nil (w:World):CvIn w [] []:=⟨rfl,fun j m c h=>by simp at h⟩
theorem CvIn.by {W w:World} {row:Option Nat} {V:List CV} {L:List Cl} (h:CvIn W V L) (hg:W.grownBy w row) (hr:∀ r,row=some r→∀ cs fz,W.heap[r]? ≠ some (.cells cs 51 fz)):CvIn w V L :=
 ⟨h.1,fun j m c h1 h2=>by
  obtain ⟨e1,e2,e3,e4⟩:=h.2 j m c h1 h2;exact ⟨e1,e2,e3,e4.by hg hr⟩⟩
theorem CvIn.grew {w w':World} {V:List CV} {L:List Cl} (h:CvIn w V L) (g:Grew w w'):CvIn w' V L:=h.by (g.grownBy none) fun r e=>by cases e
theorem CvIn.snoc {w:World} {V:List CV} {L:List Cl} (h:CvIn w V L) {m:CV} {c:Cl} (h1:m.name=c.name) (h2:m.gd=c.gd) (h3:m.len=c.items.length) (h4:ItsK w m.a c.items):CvIn w (V++[m]) (L++[c]):=by
 refine ⟨by rw [List.length_append,List.length_append,h.1];rfl,fun j m' c' e1 e2=>?_⟩;by_cases hj:j<L.length
 · rw [List.getElem?_append_left (by have:=h.1;omega)] at e1
   rw [List.getElem?_append_left hj] at e2;exact h.2 j m' c' e1 e2
 · have hj0:j - L.length=0:=by
    have:=(List.getElem?_eq_some_iff.1 e2).1;simp at this;omega
   rw [List.getElem?_append_right (by have:=h.1;omega),show j - V.length=0 by have:=h.1;omega] at e1;rw [List.getElem?_append_right (by omega),hj0] at e2;simp at e1 e2;subst e1;subst e2;exact ⟨h1,h2,h3,h4⟩
theorem OwnCs.row {w:World} {base:Nat} {a0:Option Addr} {k0:Nat} {V:List CV} (h:OwnCs w base a0 k0 V):∀ r,(Value.slice a0 V.length k0).ownBlock=some r→base≤r∧∃ cs fz,w.heap[r]? = some (.cells cs 28 fz):=by
 intro r hr;refine ⟨ownsRow_above h r hr, ?_⟩;rcases h.2 with ⟨h1,_⟩ | ⟨g,cap,cur,h1,h2,h3,_⟩
 · rw [h1] at hr
   simp [Value.ownBlock] at hr
 · rw [h1] at hr
   simp [Value.ownBlock] at hr;subst hr;exact ⟨cur,_,h3⟩
def OwnC (w:World) (base:Nat) (a0:Option Addr) (k0:Nat) (L:List Cl):Prop:=∃ V,OwnCs w base a0 k0 V∧CvIn w V L
theorem OwnC.nil (w:World) (base:Nat):OwnC w base none 0 []:=⟨[],OwnCs.nil w base,CvIn.nil w⟩
theorem OwnC.grew {w w':World} {base:Nat} {a0:Option Addr} {k0:Nat} {L:List Cl} (h:OwnC w base a0 k0 L) (g:Grew w w'):OwnC w' base a0 k0 L:=by
 obtain ⟨V,h1,h2⟩:=h;exact ⟨V,h1.grew g,h2.grew g⟩
theorem OwnC.net {w:World} {base:Nat} {a0:Option Addr} {k0:Nat} {L:List Cl} (h:OwnC w base a0 k0 L):Net w a0 L∧L.length≤k0:=by
 obtain ⟨V,h,hV⟩:=h;have hlen:=hV.1;rcases h.2 with ⟨h1,h2⟩ | ⟨g,cap,cur,h1,h2,h3,h4⟩
 · have:L=[]:=List.eq_nil_of_length_eq_zero (by omega)
   subst this;exact ⟨.inl rfl,Nat.zero_le _⟩
 · injection h1 with e1 e2 e3
   subst e1;subst e3;refine ⟨.inr ⟨g,0,rfl,(Array.getElem?_eq_some_iff.1 h3).1,fun i c hc=>?_⟩,by omega⟩;have hi:i<V.length:=by rw [hlen];exact (List.getElem?_eq_some_iff.1 hc).1
   obtain ⟨m,hm⟩:∃ m,V[i]? = some m:=⟨V[i],List.getElem?_eq_getElem hi⟩;obtain ⟨e1,e2,e3,e4⟩:=hV.2 i m c hm hc;have key:∀ j,j<3→w.cell? ⟨g,0+i*3+j,none⟩=(cvC m)[j]? := fun j hj=>by
    rw [Nat.zero_add];rw [World.ownsRow.cellAt h (i*3+j) (by omega)];exact cvCells_at V i m hm j hj
   refine ⟨by rw [← e1];exact key 0 (by decide),by rw [← e2];exact key 1 (by decide),m.a,m.k,by rw [← e3];exact key 2 (by decide),e4.1⟩
end Go.Proofs.YtchdmecjhaanfaaGreatDoor
