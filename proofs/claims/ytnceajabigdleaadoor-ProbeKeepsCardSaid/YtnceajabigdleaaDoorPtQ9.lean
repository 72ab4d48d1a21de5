/- Layer 9: a test that came in: what lies in memory. No condition. -/
import Derived.Test.YtnceajabigdleaaDoorPtQ3
import Derived.Test.YtnceajabigdleaaDoorPtS4
import Derived.Test.YtnceajabigdleaaDoorPtH5
import Derived.OpenShut
import Derived.Deep.Slices
import Derived.Deep.Strs
import Derived.Test.YtnceajabigdleaaDoorPtQ7
import Derived.Test.YtnceajabigdleaaDoorPtQ94
import Derived.Test.YtnceajabigdleaaDoorPtQ988
namespace Go.Proofs.Qm
open Go Go.Pt Go.ChangeShapes Go.WideShapes Go.ChangeAt Go.RowKit Go.Deep
section
variable {H:Type} {enc:TypeId × Value→H} {w:World} {base:Nat}
theorem cellsBool:Tryd.prog.cellsOf 4=1:=by kernel_rfl
theorem cellsBls:Tryd.prog.cellsOf 23=1:=by kernel_rfl
theorem cellsIntT:Tryd.prog.cellsOf 3=1:=by kernel_rfl
theorem open_turn {fuel:Nat} {a:Option Addr} {len cap:Nat} {x:DataW H × List MemPlace} (h:DataW.trod enc Tryd.prog w 0 (fun _=>true) true fuel 23 [.slice a len cap]=some x) :
  len≤9223372036854775807∧∃ l,TurnAt w a len l:=by
 rcases open_slice1 Tryd.underlying23 cellsBool h with ⟨hcs,_⟩ | ⟨a,len',cap',m,n,V,D,Pl,hcs,_,hl,hm,hmm,_,hx⟩
 · simp at hcs
   obtain ⟨_,rfl,_⟩:=hcs;exact ⟨by omega,[],rfl,.inl rfl⟩
 simp at hcs;obtain ⟨rfl,rfl,rfl⟩:=hcs;simp only [if_true] at hmm;subst hmm;have hmax:maxLen=9223372036854775807:=by decide
 refine ⟨by omega, ?_⟩;by_cases h0:len=0
 · exact ⟨[],h0,.inl rfl⟩
 have each:∀ i,i<len→∃ z:Bool,w.cell? (a.add i)=some (.bool z):=fun i hi=>by
  obtain ⟨h1,h2⟩:=hx i (by omega);obtain ⟨z,e,_⟩:=DataW.trod_bool Tryd.underlying4 h2;simp at e;exact ⟨z,e ▸ h1⟩
 obtain ⟨b,off,spot⟩:=a;have hspot:spot=none:=by
  obtain ⟨z,h1⟩:=each 0 (by omega)
  simpa [Addr.add] using World.cell?_spot h1
 subst hspot;have hb:b<w.heap.size:=by
  obtain ⟨z,h1⟩:=each 0 (by omega)
  simpa [Addr.add] using World.block_lt_of_cell? w _ h1
 have ad:∀ i,((⟨b,off,none⟩:Addr).add i)=⟨b,off+i,none⟩:=fun i=>by
  unfold Addr.add;by_cases h1:i=0
  · simp [h1]
  · simp [h1]
 have build:∀ n,n≤len→∃ l:List Bool,l.length=n∧BlsAt w b off l:=by
  intro n
  induction n with
  | zero=>intro _;exact ⟨[],rfl,fun i z hz=>by simp at hz⟩
  | succ n ih =>
    intro hn;obtain ⟨l,hl1,hl2⟩:=ih (by omega);obtain ⟨z,c0⟩:=each n (by omega);refine ⟨l++[z],by simp [hl1],fun i y hy=>?_⟩;by_cases hi:i<l.length
    · rw [List.getElem?_append_left hi] at hy
      exact hl2 i y hy
    · have hin:i=n:=by
       have:=(List.getElem?_eq_some_iff.1 hy).1;simp at this;omega
      subst hin;rw [List.getElem?_append_right (by omega),hl1,Nat.sub_self] at hy;obtain rfl:=Option.some.inj hy;rw [ad] at c0;exact c0
 obtain ⟨l,h1,h2⟩:=build len (Nat.le_refl _);exact ⟨l,h1.symm,.inr ⟨b,off,rfl,hb,h2⟩⟩
def OnCells (w:World) (a:Option Addr):Prop:=∀ x,a=some x→∃ cs e fz,w.heap[x.block]? = some (.cells cs e fz)
theorem on_cells {P:Program} {r:Reach} {t e:TypeId} {a:Option Addr} {len cap:Nat} (ht:P.underlying t=some (.slice e)) (h:Cell.okWide P w r base t (.slice a len cap)):OnCells w a:=by
 rintro x rfl;simp only [Cell.okWide,Cell.ok,ht] at h;obtain ⟨_,_,h3⟩:=h;obtain ⟨_,_,row,cells,hs,_⟩:=h3;unfold World.shape? at hs;split at hs
 · rename_i cs el fz hh
   exact ⟨cs,el,fz,hh⟩
 · cases hs
end
open Go Go.Pt Go.ChangeShapes Go.WideShapes Go.ChangeAt Go.RowKit Go.Deep
section
variable {H:Type} {enc:TypeId × Value→H} {w:World} {base:Nat}
theorem open_sl {P:Program} {t e:TypeId} {v:Value} (ht:P.underlying t=some (.slice e)) (hv:Value.okWide P w .any base t v):∃ (a:Option Addr) (len cap:Nat),v=.slice a len cap∧OnCells w a:=by
 obtain ⟨a,len,cap,rfl⟩:=okWide_slice ht hv;refine ⟨a,len,cap,rfl,on_cells (len:=len) (cap:=cap) (base:=base) (r:=.any) ht ?_⟩;unfold Value.okWide at hv
 simpa only [ht] using hv
end
open Go Go.Pt Go.ChangeShapes Go.WideShapes Go.ChangeAt Go.RowKit Go.Deep
section
variable {H:Type} {enc:TypeId × Value→H} {w:World} {base:Nat}
theorem on_cells_read {fuel:Nat} {a:Option Addr} {len cap:Nat} {x:DataW H × List MemPlace} (h:DataW.trod enc Tryd.prog w 0 (fun _=>true) true fuel 23 [.slice a len cap]=some x) :
  OnCells w a∨((∃ x,a=some x)∧len=0∧cap=0):=by
 rcases open_slice1 Tryd.underlying23 cellsBool h with ⟨hcs,_⟩ | ⟨a,len',cap',m,n,V,D,Pl,hcs,_,hl,hm,hmm,_,hx⟩
 · simp at hcs
   obtain ⟨rfl,_,_⟩:=hcs;exact .inl fun x hx=>by cases hx
 simp at hcs;obtain ⟨rfl,rfl,rfl⟩:=hcs;simp only [if_true] at hmm;rw [hmm] at hx;clear hmm;by_cases h0:cap=0
 · exact .inr ⟨⟨a,rfl⟩,by omega,h0⟩
 · refine .inl fun x hx'=>?_
   obtain rfl:=Option.some.inj hx';obtain ⟨h1,_⟩:=hx 0 (by omega);have h1:w.cell? (a.add 0)=_:=h1;have e:a.add 0=a:=by simp [Addr.add]
   rw [e] at h1;simp only [World.cell?] at h1;split at h1
   · rename_i cs el fz hh
     exact ⟨cs,el,fz,hh⟩
   · cases h1
end
open Go Go.Pt Go.ChangeShapes Go.WideShapes Go.ChangeAt Go.RowKit Go.Deep
section
variable {H:Type} {enc:TypeId × Value→H} {w:World} {base:Nat}
theorem cellsAsk:Tryd.prog.cellsOf 95=2:=by kernel_rfl
set_option maxRecDepth 100000 in
theorem trod_aq {fuel:Nat} {cs:List Value} {x:DataW H × List MemPlace} (h:DataW.trod enc Tryd.prog w 0 (fun _=>true) true fuel 95 cs=some x) :
  ∃ z:Tq,cs=[.slice z.t.a z.t.len z.t.cap,.int .i64 z.t.i]∧z.t.len≤9223372036854775807∧TurnAt w z.t.a z.t.len z.b∧(OnCells w z.t.a∨((∃ x,z.t.a=some x)∧z.t.len=0∧z.t.cap=0)):=by
 obtain ⟨y0,y1,n,_,hlen,h0,h1⟩:=trod_struct2 Tryd.underlying95 h;rw [cellsAsk] at hlen;obtain ⟨v0,v1,rfl⟩:∃ v0 v1,cs=[v0,v1]:=by
  match cs,hlen with
  | [x,y],_=>exact ⟨x,y,rfl⟩
 simp only [cellsBls,cellsIntT] at h0 h1;obtain ⟨k1,e1,_⟩:=DataW.trod_int Tryd.underlying3 h1;simp at e1;subst e1;have h0:DataW.trod enc Tryd.prog w 0 (fun _=>true) true n 23 [v0]=some y0:=by simpa using h0
 obtain ⟨a,len,cap,rfl⟩:∃ a len cap,v0=.slice a len cap:=by
  rcases open_slice1 Tryd.underlying23 cellsBool h0 with ⟨hcs,_⟩ | ⟨a,len',cap',m,n,V,D,Pl,hcs,_⟩
  · simp at hcs;exact ⟨_,_,_,hcs⟩
  · simp at hcs;exact ⟨_,_,_,hcs⟩
 obtain ⟨hl,l,hT⟩:=open_turn h0;exact ⟨⟨⟨a,len,cap,k1,0⟩,l⟩,rfl,hl,hT,on_cells_read h0⟩
theorem open_aqs' {fuel:Nat} {a:Option Addr} {len cap:Nat} {x:DataW H × List MemPlace} (h:DataW.trod enc Tryd.prog w 0 (fun _=>true) true fuel 41 [.slice a len cap]=some x) :
  len≤9223372036854775807∧∃ l:List Tq,len=l.length∧AqAt w a l∧∀ z∈l,OnCells w z.t.a∨((∃ x,z.t.a=some x)∧z.t.len=0∧z.t.cap=0):=by
 rcases open_slice Tryd.underlying41 h with ⟨hcs,_⟩ | ⟨a,len',cap',m,n,D,Pl,hcs,_,hl,hm,hmm,_,hx⟩
 · simp at hcs
   obtain ⟨_,rfl,_⟩:=hcs;exact ⟨by omega,[],rfl,(fun i z hz=>by cases hz),fun z hz=>by cases hz⟩
 simp at hcs;obtain ⟨rfl,rfl,rfl⟩:=hcs;simp only [if_true] at hmm;subst hmm;rw [cellsAsk] at hx;have hmax:maxLen=9223372036854775807:=by decide
 refine ⟨by omega, ?_⟩;by_cases h0:len=0
 · exact ⟨[],h0,(fun i z hz=>by cases hz),fun z hz=>by cases hz⟩
 have each:∀ i,i<len→∃ z:Tq,(w.cell? ((a.add (i*2)).add 0)=some (.slice z.t.a z.t.len z.t.cap)∧w.cell? ((a.add (i*2)).add 1)=some (.int .i64 z.t.i))∧z.t.len≤9223372036854775807∧TurnAt w z.t.a z.t.len z.b∧(OnCells w z.t.a∨((∃ x,z.t.a=some x)∧z.t.len=0∧z.t.cap=0)):=fun i hi=>by
  obtain ⟨cs',h1,h2⟩:=hx i (by omega);obtain ⟨z,rfl,h4,h5,h6⟩:=trod_aq h2;obtain ⟨_,_,h3⟩:=World.cells?_some h1;exact ⟨z,⟨h3 0 (by decide),h3 1 (by decide)⟩,h4,h5,h6⟩
 obtain ⟨b,off,spot⟩:=a;have hspot:spot=none:=by
  obtain ⟨z,⟨h1,_⟩,_⟩:=each 0 (by omega)
  simpa [Addr.add] using World.cell?_spot h1
 subst hspot;have hb:b<w.heap.size:=by
  obtain ⟨z,⟨h1,_⟩,_⟩:=each 0 (by omega)
  simpa [Addr.add] using World.block_lt_of_cell? w _ h1
 have build:∀ n,n≤len→∃ l:List Tq,l.length=n∧AqAt w (some ⟨b,off,none⟩) l∧∀ z∈l,OnCells w z.t.a∨((∃ x,z.t.a=some x)∧z.t.len=0∧z.t.cap=0):=by
  intro n
  induction n with
  | zero=>intro _;exact ⟨[],rfl,(fun i z hz=>by cases hz),fun z hz=>by cases hz⟩
  | succ n ih =>
    intro hn;obtain ⟨l,hl1,hl2,hl3⟩:=ih (by omega);obtain ⟨z,⟨c0,c1⟩,k4,k5,k6⟩:=each n (by omega);refine ⟨l++[z],by simp [hl1],fun i y hy=>?_,fun y hy=>?_⟩
    · by_cases hi:i<l.length
      · rw [List.getElem?_append_left hi] at hy
        exact hl2 i y hy
      · have hin:i=n:=by
         have:=(List.getElem?_eq_some_iff.1 hy).1;simp at this;omega
        subst hin;rw [List.getElem?_append_right (by omega),hl1,Nat.sub_self] at hy;obtain rfl:=Option.some.inj hy;have ad:∀ j,((⟨b,off,none⟩:Addr).add (i*2)).add j=⟨b,off+i*2+j,none⟩:=fun j=>by
         unfold Addr.add;by_cases h1:i*2=0
         · rw [if_pos h1]
           by_cases h2:j=0
           · simp [h1,h2]
           · simp [h1,h2]
         · rw [if_neg h1]
           by_cases h2:j=0
           · simp [h2]
           · simp [h2]
        rw [ad] at c0 c1;exact ⟨b,off,rfl,hb,⟨c0,c1⟩,k4,k5⟩
    · rcases List.mem_append.1 hy with hy | hy
      · exact hl3 y hy
      · obtain rfl:=List.mem_singleton.1 hy
        exact k6
 obtain ⟨l,hl1,hl2,hl3⟩:=build len (Nat.le_refl _);exact ⟨l,hl1.symm,hl2,hl3⟩
set_option maxRecDepth 100000 in
theorem open_aqs {v:Value} {d:DataW H} {p:List MemPlace} (hv:Value.okWide Tryd.prog w .any base 41 v) (h:DataW.Trod enc Tryd.prog w 0 (fun _=>true) true 41 v d p) :
  ∃ (a:Option Addr) (cap:Nat) (l:List Tq),v=.slice a l.length cap∧l.length≤9223372036854775807∧AqAt w a l∧OnCells w a∧∀ z∈l,OnCells w z.t.a∨((∃ x,z.t.a=some x)∧z.t.len=0∧z.t.cap=0):=by
 obtain ⟨a,len,cap,rfl,hO⟩:=open_sl Tryd.underlying41 hv;obtain ⟨fuel,hf⟩:=h;obtain ⟨hl,l,rfl,hN,hC⟩:=open_aqs' (a:=a) (len:=len) (cap:=cap) (by simpa [Value.cells] using hf);exact ⟨a,cap,l,rfl,hl,hN,hO,hC⟩
end
end Go.Proofs.Qm
