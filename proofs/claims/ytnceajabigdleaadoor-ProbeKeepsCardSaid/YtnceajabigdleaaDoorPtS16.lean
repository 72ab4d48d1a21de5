/- The worker of the seat: tables$1. No condition. -/
import Derived.Test.YtnceajabigdleaaDoorPtS8
import Derived.Test.YtnceajabigdleaaDoorPtS14
import Derived.Test.YtnceajabigdleaaDoorPtS15
import Derived.Conc.DeferLaws
import Derived.Conc.AppendWalk
namespace Go.Proofs.YtnW
open Go Go.Pt Go.Conc Go.RowKit Go.Conc.Lib Go.ConcR.Gen Go.ConcN.Gen
open Go.ConcN hiding EvL Inv Fin
open Go.ConcR (KK wgBlock WgAt stA smA rd wr Payload Aside2 DC0)
instance:Payload:=⟨22⟩
theorem nm66:(Tryd.f66.name== "runtime.NumGoroutine")=false:=by kernel_rfl
theorem nm65:(Tryd.f65.name== "runtime.NumGoroutine")=false:=by kernel_rfl
noncomputable def body64:Code:=Tryd.f64.body.getD .skip
def call64 (Wg bc kb bn bo:Nat):Deferred:={ target:=.fn (.func 64) #[.pointer (some ⟨Wg,0,none⟩),.pointer (some ⟨bc,0,none⟩),.pointer (some ⟨kb,0,none⟩),.pointer (some ⟨bn,0,none⟩),.pointer (some ⟨bo,0,none⟩)],args:=#[] }
def b64:Frame:=baseD 64
noncomputable def bot:Frame:={ (default:Frame) with fn:=Tryd.prog.funcs.size,defers:=[],mode:=.panicking [goexitEntry] }
def bitsOf (i:Nat):Nat→Bool:=fun j=>i.testBit j
def rowT (n:Nat) (i:Nat) (v:Value) (M:Nat→Prop) (w:World):Prop :=
 ∃ g cap,M g∧v=.slice (some ⟨g,0,none⟩) n cap∧n≤cap∧cap≤maxLen∧w.heap[g]? = some (.cells (zFull (Ghw.thr n (bitsOf i)) cap).toArray 3 (0,0))
structure Cs (c:Cst) (n cnt bn bc bo:Nat):Prop where
 P:c.P=Tryd.prog
 ty:c.ty=109
 num:c.n=2 ^ cnt
 nn:(n=2∧cnt=1)∨(n=4∧cnt=6)
 K:∀ b,c.K b↔b=bn∨b=bc∨b=bo
 Res:c.Res=rowT n
 gl:Tryd.prog.globals.size≤c.C
structure FW (c:Cst) (n cnt bn bc bo kb i:Nat) (w:World):Prop where
 xc:w.heap[bc]? = some (.cells #[.int .i64 cnt] 3)
 xn:w.heap[bn]? = some (.cells #[.int .i64 n] 3)
 xo:w.heap[bo]? = some (.cells #[.slice (some ⟨c.C,0,none⟩) c.n c.n] 73)
 xk:w.heap[kb]? = some (.cells #[.int .i64 i] 3)
 live:WgLive c.ty c.Wg w
 pay:PayAt c.C c.n w
section
variable {c:Cst} {n cnt bn bc bo kb i:Nat} {M:Nat→Prop} {w w':World}
theorem FW.kept (H:Cs c n cnt bn bc bo):c.Kept kb (FW c n cnt bn bc bo kb i):=fun _ _ h1 h2 h3 h =>
 ⟨(h1 bc (.inl ((H.K _).2 (.inr (.inl rfl))))).trans h.xc,(h1 bn (.inl ((H.K _).2 (.inl rfl)))).trans h.xn,(h1 bo (.inl ((H.K _).2 (.inr (.inr rfl))))).trans h.xo,(h1 kb (.inr rfl)).trans h.xk,h2 h.live,h3 h.pay⟩
theorem FW.rely (H:Cs c n cnt bn bc bo) (h:FW c n cnt bn bc bo kb i w) (r:c.RK i kb M w w'):FW c n cnt bn bc bo kb i w':=(FW.kept H).rely h r
theorem FW.cc (h:FW c n cnt bn bc bo kb i w):w.cell? ⟨bc,0,none⟩=some (.int .i64 cnt):=by simp [World.cell?,h.xc]
theorem FW.cn (h:FW c n cnt bn bc bo kb i w):w.cell? ⟨bn,0,none⟩=some (.int .i64 n):=by simp [World.cell?,h.xn]
theorem FW.co (h:FW c n cnt bn bc bo kb i w):w.cell? ⟨bo,0,none⟩=some (.slice (some ⟨c.C,0,none⟩) c.n c.n):=by simp [World.cell?,h.xo]
theorem FW.ck (h:FW c n cnt bn bc bo kb i w):w.cell? ⟨kb,0,none⟩=some (.int .i64 i):=by simp [World.cell?,h.xk]
theorem kc (H:Cs c n cnt bn bc bo):c.Kx kb bc:=.inl ((H.K _).2 (.inr (.inl rfl)))
theorem kn (H:Cs c n cnt bn bc bo):c.Kx kb bn:=.inl ((H.K _).2 (.inl rfl))
theorem ko (H:Cs c n cnt bn bc bo):c.Kx kb bo:=.inl ((H.K _).2 (.inr (.inr rfl)))
theorem kk:c.Kx kb kb:=.inr rfl
structure FO (c:Cst) (n cnt bn bc bo kb i:Nat) (M:Nat→Prop) (w:World):Prop where
 f:FW c n cnt bn bc bo kb i w
 out:c.Out kb M w
theorem FO.rely (H:Cs c n cnt bn bc bo) (h:FO c n cnt bn bc bo kb i M w) (r:c.RK i kb M w w'):FO c n cnt bn bc bo kb i M w':=⟨h.f.rely H r,h.out.size r.size⟩
def setC (i j m:Nat):List Value:=(List.range m).map fun x=>.bool (decide (x<j)&&bitsOf i x)
structure FT (c:Cst) (n cnt bn bc bo kb i bt j:Nat) (M:Nat→Prop) (w:World):Prop where
 f:FW c n cnt bn bc bo kb i w
 t:w.heap[bt]? = some (.cells (setC i j cnt).toArray 4)
 own:M bt
 out:c.Out kb M w
theorem FT.rely (H:Cs c n cnt bn bc bo) {bt j:Nat} (h:FT c n cnt bn bc bo kb i bt j M w) (r:c.RK i kb M w w'):FT c n cnt bn bc bo kb i bt j M w':=⟨h.f.rely H r,(r.own bt h.own).trans h.t,h.own,h.out.size r.size⟩
theorem setC_put (i j m:Nat) (_:j<m):(setC i j m).toArray.setIfInBounds j (.bool (bitsOf i j))=(setC i (j+1) m).toArray:=by
 apply Array.ext';simp only [List.setIfInBounds_toArray];apply List.ext_getElem
 · simp [setC]
 · intro k h1 h2
   simp only [setC,List.getElem_set,List.getElem_map,List.getElem_range];by_cases e:j=k
   · subst e;simp
   · rw [if_neg e]
     have:(k<j+1)=(k<j):=propext ⟨fun h=>by omega,fun h=>by omega⟩;simp only [this]
theorem setC_get (i m j:Nat) (hj:j<m):(setC i m m).toArray[j]? = some (.bool (bitsOf i j)):=by simp [setC,hj]
theorem FT.cellAt {bt j:Nat} (h:FT c n cnt bn bc bo kb i bt j M w) {k:Nat} (hk:k<cnt):w.cell? ⟨bt,k,none⟩=some (.bool (decide (k<j)&&bitsOf i k)):=by
 simp [World.cell?,h.t,setC,hk]
theorem FT.thaw {bt j:Nat} (h:FT c n cnt bn bc bo kb i bt j M w) (k:Nat):w.frozen? ⟨bt,k,none⟩=false:=by simp [World.frozen?,h.t]
theorem FT.ne {bt j:Nat} (h:FT c n cnt bn bc bo kb i bt j M w):bt≠c.C:=fun e=>h.out.C.1 (e ▸ h.own)
theorem FT.put (H:Cs c n cnt bn bc bo) {bt j:Nat} (h:FT c n cnt bn bc bo kb i bt j M w) (hj:j<cnt) {v:Value} (hv:v=.bool (bitsOf i j)):FT c n cnt bn bc bo kb i bt (j+1) M (w.setCell ⟨bt,j,none⟩ v):=by
 subst hv;have hd:=dk_own (c:=c) (i:=i) (kb:=kb) (M:=M) (w:=w) (es:=#[]) (a:=⟨bt,j,none⟩) (v:=.bool (bitsOf i j)) h.own h.ne (by simp);refine ⟨(FW.kept H).guar h.out h.f hd.guar, ?_,h.own,h.out.size (Nat.le_of_eq hd.size.symm)⟩;rw [setCell_eq_setRow w bt j _ 4 (0,0) _ h.t,setRow_heap w bt _ _ 4 _ h.t,setC_put i j cnt hj]
theorem bit_0 (i:Nat):Value.bool ((i:Int) % 2==1)=.bool (bitsOf i 0):=by
 unfold bitsOf;rw [Nat.testBit_eq_decide_div_mod_eq]
 congr 1
 rw [Bool.eq_iff_iff];simp;omega
theorem bit_1 (i:Nat):Value.bool ((i:Int) / 2 % 2==1)=.bool (bitsOf i 1):=by
 unfold bitsOf;rw [Nat.testBit_eq_decide_div_mod_eq]
 congr 1
 rw [Bool.eq_iff_iff];simp;omega
theorem bit_2 (i:Nat):Value.bool ((i:Int) / 4 % 2==1)=.bool (bitsOf i 2):=by
 unfold bitsOf;rw [Nat.testBit_eq_decide_div_mod_eq]
 congr 1
 rw [Bool.eq_iff_iff];simp;omega
theorem bit_3 (i:Nat):Value.bool ((i:Int) / 8 % 2==1)=.bool (bitsOf i 3):=by
 unfold bitsOf;rw [Nat.testBit_eq_decide_div_mod_eq]
 congr 1
 rw [Bool.eq_iff_iff];simp;omega
theorem bit_4 (i:Nat):Value.bool ((i:Int) / 16 % 2==1)=.bool (bitsOf i 4):=by
 unfold bitsOf;rw [Nat.testBit_eq_decide_div_mod_eq]
 congr 1
 rw [Bool.eq_iff_iff];simp;omega
theorem bit_5 (i:Nat):Value.bool ((i:Int) / 32 % 2==1)=.bool (bitsOf i 5):=by
 unfold bitsOf;rw [Nat.testBit_eq_decide_div_mod_eq]
 congr 1
 rw [Bool.eq_iff_iff];simp;omega
theorem info_b:(Tryd.prog.info? 4).map (fun i=>(i.zero,i.size,i.bytes))=some (some (.bool false),1,1):=by kernel_rfl
theorem made (i m:Nat):madeCells (Value.bool false).cells (m*1)=(setC i 0 m).toArray:=by
 apply Array.ext';apply List.ext_getElem
 · simp [setC,madeCells]
 · intro k h1 h2
   simp [setC,madeCells,Value.cells,Nat.mod_one]
theorem run_mk (i m:Nat) (hm:m≤100) (w:World):Sem.run Tryd.prog (Instr.makeSlice 23 (.int .i64 m) (.int .i64 m)) w=.ok (.slice (some ⟨w.heap.size,0,none⟩) m m) (w.alloc (.cells (setC i 0 m).toArray 4)):=by
 obtain ⟨i0,hi,hz0,hz1,hz2⟩:=info_parts info_b;have hr:=run_make (P:=Tryd.prog) w 23 4 i0 (.bool false) Tryd.underlying23 hi hz0 .i64 .i64 m m (by omega) (Int.le_refl _) (by rw [hz2];omega) (by omega);rw [hz1,Int.toNat_natCast,made i m] at hr;exact hr
theorem ev_mk (m:Nat) (hm:m≤100) (w:World) (es:Array Event):(Instr.makeSlice 23 (.int .i64 m) (.int .i64 m)).events Tryd.prog w es=es:=by
 obtain ⟨i0,hi,hz0,hz1,hz2⟩:=info_parts info_b;exact events_make w 23 4 i0 (.bool false) Tryd.underlying23 hi hz0 .i64 .i64 m m (by omega) (Int.le_refl _) (by rw [hz2];omega) (by omega) (by rw [hz2,Int.toNat_natCast];omega) es
theorem born_step (Wg bc kb bn bo:Nat) (w:World):stepG Tryd.prog false (born Tryd.prog (call64 Wg bc kb bn bo)) w =
  .go (G (b64.at ⟨#[.pointer (some ⟨Wg,0,none⟩),.pointer (some ⟨bc,0,none⟩),.pointer (some ⟨kb,0,none⟩),.pointer (some ⟨bn,0,none⟩),.pointer (some ⟨bo,0,none⟩)]++Array.replicate 27 undef,[]⟩ [.code body64]) [bot]) w #[]:=by
 simp [born,call64,stepG,unwind,callDeferred,invoke,callFunc,Tryd.func64,Tryd.f64,seen,GStep.after,G,Frame.enter,Frame.at,b64,baseD,bot,body64]
noncomputable def ops7:Array Oper:=match Tryd.f64.body.getD .skip with
 | .seq _ (.seq _ (.seq _ (.region _ ops _)))=>ops
 | _=>#[]
theorem ready7 (l0 l1 l2 l3 l4 l5 l6 l7 l8 l9:Bool) (j:Nat) (h:j∈Region.ready .any ops7 #[l0,l1,l2,l3,l4,l5,l6,l7,l8,l9]) :
  (j=0∧l0=false)∨(j=1∧l1=false)∨(j=2∧l2=false)∨(j=3∧l3=false)∨(j=4∧l4=false∧l2=true∧l3=true)∨(j=5∧l5=false∧l4=true)∨(j=6∧l6=false∧l5=true)∨(j=7∧l7=false∧l5=true) ∨
  (j=8∧l8=false∧l0=true∧l1=true∧l6=true)∨(j=9∧l9=false∧l4=true∧l6=true∧l8=true):=by
 unfold Region.ready at h;obtain ⟨h1,h2⟩:=List.mem_filter.1 h;have h3:j<10:=List.mem_range.1 h1;obtain rfl | rfl | rfl | rfl | rfl | rfl | rfl | rfl | rfl | rfl:j=0∨j=1∨j=2∨j=3∨j=4∨j=5∨j=6∨j=7∨j=8∨j=9:=by omega
 all_goals
  simp [ops7,Tryd.f64,Region.binds] at h2;simp [h2]
theorem all7 (l0 l1 l2 l3 l4 l5 l6 l7 l8 l9:Bool) (h:Region.ready .any ops7 #[l0,l1,l2,l3,l4,l5,l6,l7,l8,l9]=[]):l4=true∧l9=true:=by
 have key:=fun j (hj:j<10)=>(List.filter_eq_nil_iff.1 h) j (List.mem_range.2 hj)
 have k0:=key 0 (by omega);have k1:=key 1 (by omega);have k2:=key 2 (by omega);have k3:=key 3 (by omega);have k4:=key 4 (by omega);have k5:=key 5 (by omega);have k6:=key 6 (by omega);have k8:=key 8 (by omega);have k9:=key 9 (by omega);clear key;simp [ops7,Tryd.f64,Region.binds] at k0 k1 k2 k3 k4 k5 k6 k8 k9
 simp_all
theorem ints_same {q:Inj} {l:List Int} {k:Nat} {c':Array Value} (h:ARel q (zFull l k).toArray c'):c'=(zFull l k).toArray:=by
 apply Array.ext_getElem?;intro x;cases e:(zFull l k).toArray[x]? with
 | none=>exact h.none e
 | some u =>
   obtain ⟨u',h1,h2⟩:=h.some e;have hu:∃ z:Int,u=.int .i64 z:=by
    have hm:u∈zFull l k:=by
     rw [List.getElem?_toArray] at e;exact List.mem_of_getElem? e
    unfold zFull zCells at hm;rcases List.mem_append.1 hm with hm | hm
    · obtain ⟨z,_,rfl⟩:=List.mem_map.1 hm
      exact ⟨z,rfl⟩
    · exact ⟨0,(List.mem_replicate.1 hm).2⟩
   obtain ⟨z,rfl⟩:=hu;cases h2;exact h1
noncomputable def idInj (bt:Nat):Inj where
 g:=Ghw.prog.globals.size
 ok:=fun c=>CRel Ghw.prog (fun _=>False) c c
 dang:=fun _=>none
 r:=fun a b=>a=bt∧b=bt
 fn:=fun h h'=>h.2.trans h'.2.symm
 inj:=fun h h'=>h.1.trans h'.1.symm
 low:=fun h=>by rw [h.1,h.2]
theorem fnB_crel {Q:Program} {glob:Nat→Bool} {Gl:Nat→Prop} (hg:∀ g,glob g=true→Gl g) {f:Func} {cd:Code} (h:fnB Q glob f=true) (hb:f.body=some cd):CRel Q Gl cd cd:=by
 simp only [fnB,Bool.and_eq_true,hb] at h;exact codeB_ok (fun _ _ h=>h) (fun _ _ h=>h) hg (fun _ h=>of_decide_eq_true h) tyB_ok h.2
theorem bools_rel (q:Inj) (i j m:Nat):ARel q (setC i j m).toArray (setC i j m).toArray:=by
 refine ⟨rfl,fun x a a' h1 h2=>?_⟩;rw [h1] at h2;cases h2;rw [List.getElem?_toArray] at h1;obtain ⟨b,_,rfl⟩:=List.mem_map.1 (List.mem_of_getElem? h1);exact .bool _
theorem tuple2_rel {q:Inj} {r v:Value} (h:VRel q (.tuple #[r,.int .i64 0]) v):∃ r',v=.tuple #[r',.int .i64 0]∧VRel q r r':=by
 cases h with
 | @tuple _ xs h1 h2 =>
   obtain ⟨l⟩:=xs;match l,h1 with
   | [a, b], _ =>
     have e1:=h2 0 _ _ rfl rfl;have e2:=h2 1 _ _ rfl rfl;cases e2;exact ⟨a,rfl,e1⟩
theorem thr_length {n:Nat} (hn:n=2∨n=4) (s:Nat→Bool):(Ghw.thr n s).length=n:=by
 rcases hn with rfl | rfl <;> rfl
theorem row_of {n i:Nat} {q:Inj} {r r':Value} {gw w':World} {M':Nat→Prop} {base:Nat} (hn:n=2∨n=4) (hr:VRel q r r') (ho:OwnL gw base r (Ghw.thr n (bitsOf i))) (hW:WRel q gw w') (hM:∀ b b',q.r b b'→M' b'):rowT n i r' M' w':=by
 have hl:=thr_length hn (bitsOf i);rcases ho with ⟨rfl,h⟩ | ⟨g,cap,rfl,_,h1,h2,h3⟩
 · rw [h] at hl
   simp only [List.length_nil] at hl;omega
 · rw [hl] at h2
   have hne:(Ghw.thr n (bitsOf i)).length≠0:=by omega
   generalize hL:(Ghw.thr n (bitsOf i)).length=Ln at hr hne;cases hr with
   | slice00=>exact absurd rfl hne
   | @slice b b' o s n' c' hb =>
     obtain ⟨o,o',k1,k2,k3⟩:=hW.at_ _ _ hb;rw [h1] at k1;cases k1;cases k3 with
     | cells e fz hc =>
       rw [ints_same hc] at k2;exact ⟨b',cap,hM _ _ hb,by rw [← hL,hl],h2,h3,k2⟩
structure R7 (c:Cst) (n cnt bn bc bo kb i bt:Nat) (l4 l9:Bool) (v:Value) (M:Nat→Prop) (w:World):Prop where
 t:FO c n cnt bn bc bo kb i M w
 s:l4=false→M bt∧w.heap[bt]? = some (.cells (setC i cnt cnt).toArray 4)
 row:l4=true→rowT n i v M w
 has:l9=true→Has c.C i v w
 l94:l9=true→l4=true
theorem rowT.of {n i:Nat} {v:Value} (h:rowT n i v M w) (hb:∀ b,M b→w'.heap[b]? = w.heap[b]?):rowT n i v M w':=by
 obtain ⟨g,cap,h1,h2,h3,h4,h5⟩:=h;exact ⟨g,cap,h1,h2,h3,h4,(hb g h1).trans h5⟩
theorem R7.rely (H:Cs c n cnt bn bc bo) {bt:Nat} {l4 l9:Bool} {v:Value} (h:R7 c n cnt bn bc bo kb i bt l4 l9 v M w) (r:c.RK i kb M w w'):R7 c n cnt bn bc bo kb i bt l4 l9 v M w' :=
 ⟨h.t.rely H r,fun e=>⟨(h.s e).1,(r.own bt (h.s e).1).trans (h.s e).2⟩,fun e=>(h.row e).of r.own,fun e=>r.cell.trans (h.has e),h.l94⟩
theorem R7.cell {bt:Nat} {l4 l9:Bool} {v:Value} (h:R7 c n cnt bn bc bo kb i bt l4 l9 v M w) (hi:i<c.n):∃ u,w.cell? ⟨c.C,i,none⟩=some u∧w.frozen? ⟨c.C,i,none⟩=false:=by
 obtain ⟨cs,h1,h2⟩:=h.t.f.pay;exact ⟨cs[i]'(by rw [h2];exact hi),by simp [World.cell?,h1,h2,hi],by simp [World.frozen?,h1]⟩
theorem R7.store {bt:Nat} {l9:Bool} {v:Value} (hi:i<c.n) (H:Cs c n cnt bn bc bo) (h:R7 c n cnt bn bc bo kb i bt true l9 v M w):R7 c n cnt bn bc bo kb i bt true true v M (w.setCell ⟨c.C,i,none⟩ v):=by
 have hd:=dk_cell (c:=c) (i:=i) (kb:=kb) (M:=M) (w:=w) (es:=#[]) (v:=v) h.t.f.pay (by simp);have hA:=aside_setCell w ⟨c.C,i,none⟩ v;refine ⟨⟨(FW.kept H).guar h.t.out h.t.f hd.guar,h.t.out.size (Nat.le_of_eq hd.size.symm)⟩,fun e=>(by cases e),fun e=>(h.row e).of fun b hb=>hA.block b fun (e:b=c.C)=>h.t.out.C.1 (e ▸ hb),fun _=>?_,fun _=>rfl⟩;obtain ⟨cs,h1,h2⟩:=h.t.f.pay;have h3:(w.setCell ⟨c.C,i,none⟩ v).heap[c.C]? = some (.cells (cs.setIfInBounds i v) Payload.ety):=by
  rw [setCell_eq_setRow w c.C i cs Payload.ety (0,0) _ h1,setRow_heap w c.C _ _ Payload.ety _ h1]
 unfold Has;simp only [World.cell?,h3];simp [h2,hi]
noncomputable def T7 (Wg bc kb bn bo bt C N n m i:Nat) (u6 u8 u9 u10 u11 u12 u13 u14 u15 u16 u17 u18 u19 u20 u21 u22:Value) (l0 l1 l2 l3 l4 l5 l6 l7 l8:Bool) (v:Value):Array Value :=
 #[.pointer (some ⟨Wg,0,none⟩),.pointer (some ⟨bc,0,none⟩),.pointer (some ⟨kb,0,none⟩),.pointer (some ⟨bn,0,none⟩),.pointer (some ⟨bo,0,none⟩),.slice (some ⟨bt,0,none⟩) m m,u6,.int .i64 m,u8,u9,u10,u11,u12,u13,u14,u15,u16,u17,u18,u19,u20,u21,u22,cond l5 (.tuple #[v,.int .i64 0]) undef,cond l0 (.slice (some ⟨C,0,none⟩) N N) undef,cond l1 (.int .i64 i) undef,cond l2 (.int .i64 n) undef,cond l3 (.slice (some ⟨bt,0,none⟩) m m) undef,cond l4 (.tuple #[v,.int .i64 0]) undef,cond l6 v undef,cond l7 (.int .i64 0) undef,cond l8 (.pointer (some ⟨C,i,none⟩)) undef]
noncomputable def inv7 (c:Cst) (n m bn bc bo kb i bt:Nat) (u6 u8 u9 u10 u11 u12 u13 u14 u15 u16 u17 u18 u19 u20 u21 u22:Value) (f:Nat) (L:Array Bool) (a:Act) (M:Nat→Prop) (w:World):Prop :=
 ∃ (l0 l1 l2 l3 l4 l5 l6 l7 l8 l9:Bool) (v:Value),L=#[l0,l1,l2,l3,l4,l5,l6,l7,l8,l9]∧a=⟨T7 c.Wg bc kb bn bo bt c.C c.n n m i u6 u8 u9 u10 u11 u12 u13 u14 u15 u16 u17 u18 u19 u20 u21 u22 l0 l1 l2 l3 l4 l5 l6 l7 l8 v,[dcall 65 #[.pointer (some ⟨c.Wg,0,none⟩)]]⟩ ∧
  f+l0.toNat+l1.toNat+l2.toNat+l3.toNat+l4.toNat+l5.toNat+l6.toNat+l7.toNat+l8.toNat+l9.toNat=10∧(l5=true→l4=true)∧(l6=true→l4=true)∧R7 c n m bn bc bo kb i bt l4 l9 v M w
theorem quitsTail (T:Array Value):QuitsD Tryd.prog 2 0 (G { b64.at ⟨T,[]⟩ [] with mode:=.returning } [bot]):=by
 refine QuitsD.ctl (g':=G bot []) rfl (fun w=>?_) ?_
 · simp [G,stepG,unwind,doReturn,results,Frame.at,b64,baseD,bot,Tryd.func64,Tryd.f64,seen,GStep.after,goexitEntry]
 refine QuitsD.ctl (g':={ G bot [] with status:=.finished }) rfl (fun w=>?_) ⟨rfl,rfl⟩;simp [G,stepG,unwind,bot,goexitEntry,Frame.catches];rfl
theorem through4_call (H:Cs c 4 6 bn bc bo) {bt:Nat} (hO:FO c 4 6 bn bc bo kb i M w) (hM:M bt) (hS:w.heap[bt]? = some (.cells (setC i 6 6).toArray 4)) (b:Frame) {cs:List Frame}
  (K:∀ M' v' w',R7 c 4 6 bn bc bo kb i bt true false v' M' w'→c.Wk i kb M' (G (b.finish (.tuple #[v',.int .i64 0])) cs) w') :
  c.Wk i kb M (G (Frame.enter Tryd.prog 66 #[.int .i64 4,.slice (some ⟨bt,0,none⟩) 6 6] .normal) (b::cs)) w:=by
 have hP:c.P=wf Ghw.prog Tryd.prog.funcs:=H.P.trans rfl;have hlt:bt<w.heap.size:=(Array.getElem?_eq_some_iff.1 hS).1;have hcell:∀ (τ:Nat→Question→Nat) (j:Nat),j<6→(w.retape τ).cell? ⟨bt,j,none⟩=some (.bool (bitsOf i j)):=fun τ j hj=>by
  show w.cell? ⟨bt,j,none⟩=_
  simp only [World.cell?,hS];exact setC_get i 6 j hj
 have e:Frame.enter Tryd.prog 66 #[.int .i64 4,.slice (some ⟨bt,0,none⟩) 6 6] .normal=Frame.enter c.P 66 #[.int .i64 4,.slice (some ⟨bt,0,none⟩) 6 6] .normal:=by rw [H.P]
 rw [e];have hcr:CRel Ghw.prog (fun _=>False) (Tryd.f66.body.getD .skip) (Tryd.f66.body.getD .skip):=fnB_crel (fun _ h=>by cases h) Ghw.ok66 rfl;have hgl:=H.gl;have hC:=hO.out.C.2;refine wk_call (Q:=Ghw.prog) (F:=Tryd.prog.funcs) (Gl:=fun _=>False) (c0:=floorF Ghw.prog.funcs.size) hP Ghw.funs Ghw.self (floor_ok _) (f:=66) (xs:=#[.int .i64 4,.slice (some ⟨bt,0,none⟩) 6 6]) (gw:=w) (Rv:=fun v w'=>∃ r,v=.tuple #[r,.int .i64 0]∧OwnL w' w.heap.size r (Ghw.thr 4 (bitsOf i)))
  (fun v w τ h=>h) (p:=idInj bt) ((ARel.one (.int .i64 4)).push (.slice 0 none 6 6 ⟨rfl,rfl⟩)) ⟨?_, ?_, ?_⟩ rfl rfl (fun _ h=>h.elim) (fun a b h=>h.2 ▸ hM) Ghw.func66 Tryd.func66 rfl rfl rfl rfl hcr hcr (fun τ _=>?_) (FW.kept H) hO.f hO.out ?_
 · rintro a b ⟨rfl,rfl⟩
   exact ⟨_,_,hS,hS,.cells 4 (0,0) (bools_rel _ _ _ _)⟩
 · show Tryd.prog.globals.size≤_
   omega
 · show Tryd.prog.globals.size≤_
   omega
 · refine (Ghw.Through4 bt (bitsOf i) (w.retape τ) hlt (hcell τ)).mono ?_
   rintro e w' ⟨⟨v,rfl,ho⟩,_⟩;exact ⟨_,rfl,v,rfl,ho⟩
 · rintro q M' _ v'' gw' w' hle hv hW hM' ⟨r,rfl,ho⟩ hO' hF'
   obtain ⟨r',rfl,hr⟩:=tuple2_rel hv;refine K M' r' w' ⟨⟨hF',hO'⟩,fun e=>(by cases e),fun _=>row_of (by omega) hr ho hW hM',fun e=>(by cases e),fun e=>(by cases e)⟩
set_option maxRecDepth 100000 in
set_option maxHeartbeats 4000000 in
theorem work4_b (H:Cs c 4 6 bn bc bo) (hi:i<c.n) {bt:Nat} (hT:FT c 4 6 bn bc bo kb i bt 6 M w) (u6 u8 u9 u10 u11 u12 u13 u14 u15 u16 u17 u18 u19 u20 u21 u22:Value) :
  c.Wk i kb M (G (b64.at ⟨#[.pointer (some ⟨c.Wg,0,none⟩),.pointer (some ⟨bc,0,none⟩),.pointer (some ⟨kb,0,none⟩),.pointer (some ⟨bn,0,none⟩),.pointer (some ⟨bo,0,none⟩),.slice (some ⟨bt,0,none⟩) 6 6,u6,.int .i64 6,u8,u9,u10,u11,u12,u13,u14,u15,u16,u17,u18,u19,u20,u21,u22,undef,undef,undef,undef,undef,undef,undef,undef,undef],[dcall 65 #[.pointer (some ⟨c.Wg,0,none⟩)]]⟩ [.code (.region 7 ops7 true)]) [bot]) w:=by
 have hP:=H.P;refine wk_region (by rw [hP];kernel_rfl) fun w₁ h₁ t=>?_
 have hT1:=hT.rely H (w':={ w₁ with drawn:=w₁.drawn+1 }) ⟨h₁.own,h₁.read,h₁.size,h₁.live,h₁.pay,h₁.cell⟩;refine wk_order (inv7 c 4 6 bn bc bo kb i bt u6 u8 u9 u10 u11 u12 u13 u14 u15 u16 u17 u18 u19 u20 u21 u22) ?step ?done ops7.size t _ _ M _ ⟨false,false,false,false,false,false,false,false,false,false,undef,rfl,rfl,rfl,(fun e=>by cases e),(fun e=>by cases e),⟨hT1.f,hT1.out⟩,fun _=>⟨hT1.own,hT1.t⟩,fun e=>(by cases e),fun e=>(by cases e),fun e=>(by cases e)⟩
 case done =>
  rintro f _ _ M w ⟨l0,l1,l2,l3,l4,l5,l6,l7,l8,l9,v,rfl,rfl,hf,_,_,hR⟩ hd;have h49:l4=true∧l9=true:=by
   rcases hd with rfl | hd
   · have:=Bool.toNat_le l0;have:=Bool.toNat_le l1;have:=Bool.toNat_le l2;have:=Bool.toNat_le l3;have:=Bool.toNat_le l5;have:=Bool.toNat_le l6;have:=Bool.toNat_le l7;have:=Bool.toNat_le l8
     cases l4 <;> cases l9 <;> simp only [Bool.toNat_true,Bool.toNat_false] at hf <;> first | exact ⟨rfl,rfl⟩ | (exfalso;omega)
   · exact all7 _ _ _ _ _ _ _ _ _ _ hd
  obtain ⟨rfl,rfl⟩:=h49
  ((first | refine wk_in' hP rfl (fun _ h₁=>?_) | refine Goes.step rfl (fun _ h₁=>?_));replace hR:=(R7.rely H) hR h₁;clear h₁;rw [stepG_region_end];simp only [goes_go];refine ⟨by ((first | refine dk_none ?_ | u_none);intro e he;simp at he), ?_⟩)
  refine wk_stop fun w₂ h₂=>?_
  replace hR:=hR.rely H h₂;clear h₂;refine ⟨v,25,by rw [H.Res];exact hR.row rfl, ?_⟩;have hK:WgLive 109 c.Wg w₂∧Has c.C i v w₂:=⟨by have:=hR.t.f.live;rwa [H.ty] at this,hR.has rfl⟩;rw [hP,H.ty];clear hR hf hi H hT h₁ hT1;simp only [T7]
  ((first | refine wk_in' hP rfl (fun _ h₁=>?_) | refine Goes.step rfl (fun _ h₁=>?_));replace hK:=kn_rely hK h₁;clear h₁;rw [stepG_end];simp only [goes_go];refine ⟨by ((first | refine dk_none ?_ | u_none);intro e he;simp at he), ?_⟩)
  ((first | refine wk_in' hP rfl (fun _ h₁=>?_) | refine Goes.step rfl (fun _ h₁=>?_));replace hK:=kn_rely hK h₁;clear h₁)
  rw [stepG_unwind_enter rfl Tryd.func65 nm65 rfl];simp only [goes_go];refine ⟨by ((first | refine dk_none ?_ | u_none);intro e he;simp at he), ?_⟩
  walk_nrmf Tryd.f65
  have hA:=@doneN _ link Tryd.prog wgLib (fun _ _=>False) (fun _ _=>False) c.Wg c.C c.n 0 (i+1) v;simp only [body_done,doneFn,Option.getD_some] at hA;exact hA rfl (quitsTail _) _ hK
 case step =>
  rintro f _ _ M w j rest ⟨l0,l1,l2,l3,l4,l5,l6,l7,l8,l9,v,rfl,rfl,hf,h5',h6',hR⟩ hj ih;have h5:=hid h5';have h6:=hid h6';clear h5' h6';have hlt:(i:Int)<(c.n:Int):=by omega
  have hi0:(0:Int)≤(i:Int):=by omega
  simp only [ops7,Tryd.f64,Option.getD_some,T7];rcases ready7 _ _ _ _ _ _ _ _ _ _ j hj with ⟨rfl,rfl⟩ | ⟨rfl,rfl⟩ | ⟨rfl,rfl⟩ | ⟨rfl,rfl⟩ | ⟨rfl,rfl,rfl,rfl⟩ | ⟨rfl,rfl,rfl⟩ | ⟨rfl,rfl,rfl⟩ | ⟨rfl,rfl,rfl⟩ | ⟨rfl,rfl,rfl,rfl,rfl⟩ | ⟨rfl,rfl,rfl,rfl,rfl⟩
  · ((first | refine wk_in' hP rfl (fun _ h₁=>?_) | refine Goes.step rfl (fun _ h₁=>?_));replace hR:=(R7.rely H) hR h₁;clear h₁;refine goes_oper_k rfl rfl (by k_ne) (fun K hK=>?_);have:=FW.co hR.t.f;go_simp;refine hK _ _ ⟨dk_read fun e he=>(by (have hm:=mem_listed he;simp [go_sem, *] at hm;try (subst hm;exact (evK_read (ko H))))), ?_⟩;clear hK K)
    exact ih _ _ _ ⟨true,l1,l2,l3,l4,l5,l6,l7,l8,l9,v,rfl,rfl,by simp only [Bool.toNat_true,Bool.toNat_false] at hf ⊢;omega,h5.out,h6.out,hR⟩
  · ((first | refine wk_in' hP rfl (fun _ h₁=>?_) | refine Goes.step rfl (fun _ h₁=>?_));replace hR:=(R7.rely H) hR h₁;clear h₁;refine goes_oper_k rfl rfl (by k_ne) (fun K hK=>?_);have:=FW.ck hR.t.f;go_simp;refine hK _ _ ⟨dk_read fun e he=>(by (have hm:=mem_listed he;simp [go_sem, *] at hm;try (subst hm;exact (evK_read kk)))), ?_⟩;clear hK K)
    exact ih _ _ _ ⟨l0,true,l2,l3,l4,l5,l6,l7,l8,l9,v,rfl,rfl,by simp only [Bool.toNat_true,Bool.toNat_false] at hf ⊢;omega,h5.out,h6.out,hR⟩
  · ((first | refine wk_in' hP rfl (fun _ h₁=>?_) | refine Goes.step rfl (fun _ h₁=>?_));replace hR:=(R7.rely H) hR h₁;clear h₁;refine goes_oper_k rfl rfl (by k_ne) (fun K hK=>?_);have:=FW.cn hR.t.f;go_simp;refine hK _ _ ⟨dk_read fun e he=>(by (have hm:=mem_listed he;simp [go_sem, *] at hm;try (subst hm;exact (evK_read (kn H))))), ?_⟩;clear hK K)
    exact ih _ _ _ ⟨l0,l1,true,l3,l4,l5,l6,l7,l8,l9,v,rfl,rfl,by simp only [Bool.toNat_true,Bool.toNat_false] at hf ⊢;omega,h5.out,h6.out,hR⟩
  · ((first | refine wk_in' hP rfl (fun _ h₁=>?_) | refine Goes.step rfl (fun _ h₁=>?_));replace hR:=(R7.rely H) hR h₁;clear h₁;refine goes_oper_k rfl rfl (by k_ne) (fun K hK=>?_);go_simp;refine hK _ _ ⟨by ((first | refine dk_none ?_ | u_none);intro e he;have hm:=mem_listed he;simp [go_sem, *] at hm), ?_⟩;clear hK K;try w_num)
    exact ih _ _ _ ⟨l0,l1,l2,true,l4,l5,l6,l7,l8,l9,v,rfl,rfl,by simp only [Bool.toNat_true,Bool.toNat_false] at hf ⊢;omega,h5.out,h6.out,hR⟩
  · -- the row is made
    ((first | refine wk_in' hP rfl (fun _ h₁=>?_) | refine Goes.step rfl (fun _ h₁=>?_));replace hR:=(R7.rely H) hR h₁;clear h₁)
    refine goes_enter rfl rfl (by k_ne) rfl Tryd.func66 nm66 rfl ⟨dk_none (by simp), ?_⟩;obtain ⟨hO,hS,_,_,h94⟩:=hR;obtain rfl:l9=false:=by
     cases l9
     · rfl
     · exact absurd (h94 rfl) (by simp)
    obtain rfl:l5=false:=by
     cases l5
     · rfl
     · exact absurd (h5.out rfl) (by simp)
    obtain rfl:l6=false:=by
     cases l6
     · rfl
     · exact absurd (h6.out rfl) (by simp)
    obtain ⟨hM,hS⟩:=hS rfl;simp only [cond_true]
    walk_nrm
    refine through4_call H hO hM hS _ fun M' v' w' hR'=>?_
    rw [Frame.finish_at];exact ih _ _ _ ⟨l0,l1,true,true,true,false,false,l7,l8,false,v',rfl,rfl,by simp only [Bool.toNat_true,Bool.toNat_false] at hf ⊢;omega,fun _=>rfl,fun _=>rfl,hR'⟩
  · ((first | refine wk_in' hP rfl (fun _ h₁=>?_) | refine Goes.step rfl (fun _ h₁=>?_));replace hR:=(R7.rely H) hR h₁;clear h₁;refine goes_oper_k rfl rfl (by k_ne) (fun K hK=>?_);go_simp;refine hK _ _ ⟨by ((first | refine dk_none ?_ | u_none);intro e he;have hm:=mem_listed he;simp [go_sem, *] at hm), ?_⟩;clear hK K;try w_num)
    exact ih _ _ _ ⟨l0,l1,l2,l3,true,true,l6,l7,l8,l9,v,rfl,rfl,by simp only [Bool.toNat_true,Bool.toNat_false] at hf ⊢;omega,fun _=>rfl,fun _=>rfl,hR⟩
  · ((first | refine wk_in' hP rfl (fun _ h₁=>?_) | refine Goes.step rfl (fun _ h₁=>?_));replace hR:=(R7.rely H) hR h₁;clear h₁;refine goes_oper_k rfl rfl (by k_ne) (fun K hK=>?_);go_simp;refine hK _ _ ⟨by ((first | refine dk_none ?_ | u_none);intro e he;have hm:=mem_listed he;simp [go_sem, *] at hm), ?_⟩;clear hK K;try w_num)
    exact ih _ _ _ ⟨l0,l1,l2,l3,l4,true,true,l7,l8,l9,v,rfl,rfl,by simp only [Bool.toNat_true,Bool.toNat_false] at hf ⊢;omega,h5.out,fun _=>h5.out rfl,hR⟩
  · ((first | refine wk_in' hP rfl (fun _ h₁=>?_) | refine Goes.step rfl (fun _ h₁=>?_));replace hR:=(R7.rely H) hR h₁;clear h₁;refine goes_oper_k rfl rfl (by k_ne) (fun K hK=>?_);go_simp;refine hK _ _ ⟨by ((first | refine dk_none ?_ | u_none);intro e he;have hm:=mem_listed he;simp [go_sem, *] at hm), ?_⟩;clear hK K;try w_num)
    exact ih _ _ _ ⟨l0,l1,l2,l3,l4,true,l6,true,l8,l9,v,rfl,rfl,by simp only [Bool.toNat_true,Bool.toNat_false] at hf ⊢;omega,h5.out,h6.out,hR⟩
  · ((first | refine wk_in' hP rfl (fun _ h₁=>?_) | refine Goes.step rfl (fun _ h₁=>?_));replace hR:=(R7.rely H) hR h₁;clear h₁;refine goes_oper_k rfl rfl (by k_ne) (fun K hK=>?_);go_simp;refine hK _ _ ⟨by ((first | refine dk_none ?_ | u_none);intro e he;have hm:=mem_listed he;simp [go_sem, *] at hm), ?_⟩;clear hK K;try w_num)
    exact ih _ _ _ ⟨true,true,l2,l3,l4,l5,true,l7,true,l9,v,rfl,rfl,by simp only [Bool.toNat_true,Bool.toNat_false] at hf ⊢;omega,h5.out,h6.out,hR⟩
  · refine wk_in' hP rfl fun w₂ h₂=>?_
    replace hR:=hR.rely H h₂;clear h₂;have hR2:=hR.store hi H;obtain ⟨u,hst1,hst2⟩:=hR.cell hi;have hp:=hR.t.f.pay;obtain ⟨g,cap,_,rfl,_⟩:=hR.row rfl;refine goes_oper_k rfl rfl (by k_ne) (fun K hK=>?_);go_simp;refine hK _ _ ⟨dk_cell hp (fun e he=>?_), ?_⟩
    · have hm:=mem_listed he
      simp [go_sem,storedEv,hst1,hst2] at hm;try (subst hm;exact evK_cell)
    clear hK K;exact ih _ _ _ ⟨l0,l1,l2,l3,true,l5,true,l7,true,true,_,rfl,rfl,by simp only [Bool.toNat_true,Bool.toNat_false] at hf ⊢;omega,fun _=>rfl,fun _=>rfl,hR2⟩
set_option maxRecDepth 100000 in
set_option maxHeartbeats 4000000 in
theorem work4_a (H:Cs c 4 6 bn bc bo) (hi:i<c.n) (hO:c.Out kb (fun _=>False) w) (hF:FW c 4 6 bn bc bo kb i w):c.Wk i kb (fun _=>False) (born Tryd.prog (call64 c.Wg bc kb bn bo)) w:=by
 have hP:=H.P;have wr1:IntKind.i64.wrap 1=1:=by decide
 have wr2:IntKind.i64.wrap 2=2:=by decide
 have wr3:IntKind.i64.wrap 3=3:=by decide
 have wr4:IntKind.i64.wrap 4=4:=by decide
 have wr5:IntKind.i64.wrap 5=5:=by decide
 have wr6:IntKind.i64.wrap 6=6:=by decide
 refine wk_in' hP rfl fun w₁ h₁=>?_
 rw [born_step];refine ⟨dk_none (by simp), ?_⟩;replace hF:=FO.rely H ⟨hF,hO⟩ h₁;clear h₁ hO;simp only [body64,Tryd.f64,Option.getD_some,List.replicate,Array.replicate]
 ((first | refine wk_in' hP rfl (fun _ h₁=>?_) | refine Goes.step rfl (fun _ h₁=>?_));replace hF:=(FO.rely H) hF h₁;clear h₁;rw [stepG_seq];simp only [goes_go];refine ⟨by ((first | refine dk_none ?_ | u_none);intro e he;simp at he), ?_⟩)
 ((first | refine wk_in' hP rfl (fun _ h₁=>?_) | refine Goes.step rfl (fun _ h₁=>?_));replace hF:=(FO.rely H) hF h₁;clear h₁;rw [stepG_region];simp only [goes_go,List.size_toArray,List.length_cons,List.length_nil,Nat.zero_add,List.range,List.range.loop];refine ⟨by ((first | refine dk_none ?_ | u_none);intro e he;simp at he), ?_⟩)
 ((first | refine wk_in' hP rfl (fun _ h₁=>?_) | refine Goes.step rfl (fun _ h₁=>?_));replace hF:=(FO.rely H) hF h₁;clear h₁;rw [stepG_defer rfl rfl (by k_ne) rfl];simp only [goes_go];refine ⟨by ((first | refine dk_none ?_ | u_none);intro e he;simp at he), ?_⟩;walk_nrm)
 ((first | refine wk_in' hP rfl (fun _ h₁=>?_) | refine Goes.step rfl (fun _ h₁=>?_));replace hF:=(FO.rely H) hF h₁;clear h₁;rw [stepG_region_end];simp only [goes_go];refine ⟨by ((first | refine dk_none ?_ | u_none);intro e he;simp at he), ?_⟩)
 ((first | refine wk_in' hP rfl (fun _ h₁=>?_) | refine Goes.step rfl (fun _ h₁=>?_));replace hF:=(FO.rely H) hF h₁;clear h₁;rw [stepG_seq];simp only [goes_go];refine ⟨by ((first | refine dk_none ?_ | u_none);intro e he;simp at he), ?_⟩)
 ((first | refine wk_in' hP rfl (fun _ h₁=>?_) | refine Goes.step rfl (fun _ h₁=>?_));replace hF:=(FO.rely H) hF h₁;clear h₁;rw [stepG_region];simp only [goes_go,List.size_toArray,List.length_cons,List.length_nil,Nat.reduceAdd,Nat.zero_add,List.range,List.range.loop];refine ⟨by ((first | refine dk_none ?_ | u_none);intro e he;simp at he), ?_⟩)
 ((first | refine wk_in' hP rfl (fun _ h₁=>?_) | refine Goes.step rfl (fun _ h₁=>?_));replace hF:=(FO.rely H) hF h₁;clear h₁;refine goes_oper_k rfl rfl (by k_ne) (fun K hK=>?_);have:=FW.cc hF.f;go_simp;refine hK _ _ ⟨dk_read fun e he=>(by (have hm:=mem_listed he;simp [go_sem, *] at hm;try (subst hm;exact (evK_read (kc H))))), ?_⟩;clear hK K)
 refine wk_new' hP rfl fun w₂ h₂=>?_
 replace hF:=hF.rely H h₂;clear h₂;obtain ⟨hF,hO⟩:=hF;refine goes_oper_k rfl rfl (by k_ne) (fun K hK=>?_);have hme:∀ es,(Instr.makeSlice 23 (.int .i64 6) (.int .i64 6)).events Tryd.prog w₂ es=es:=ev_mk 6 (by omega) w₂;have hmk:Sem.run Tryd.prog (Instr.makeSlice 23 (.int .i64 6) (.int .i64 6)) w₂=.ok (.slice (some ⟨w₂.heap.size,0,none⟩) 6 6) (w₂.alloc (.cells (setC i 0 6).toArray 4)):=run_mk i 6 (by omega) w₂;go_simp;have hes:∀ {es:Array Event},(∀ e∈es,False)→GWk c.C c.n i (c.Kx kb) (fun _=>False) w₂ (w₂.alloc (.cells (setC i 0 6).toArray 4)) es:=fun he=>gwk_alloc hO.C.2 he
 refine hK _ _ ⟨hes ?_, ?_⟩
 · intro e he
   have hm:=mem_listed he;simp [go_sem, *] at hm
 clear hK K hmk hme;have hT:FT c 4 6 bn bc bo kb i w₂.heap.size 0 (Grown (fun _=>False) w₂ (w₂.alloc (.cells (setC i 0 6).toArray 4))) (w₂.alloc (.cells (setC i 0 6).toArray 4)):=⟨(FW.kept H).guar hO hF (hes (es:=#[]) (by simp)),heap_alloc_new w₂ _,.inr ⟨Nat.le_refl _,by simp⟩,hO.grow (by simp)⟩;clear hes;generalize Grown (fun _=>False) w₂ (w₂.alloc (.cells (setC i 0 6).toArray 4))=M at hT ⊢;generalize w₂.heap.size=bt at hT ⊢;generalize w₂.alloc (.cells (setC i 0 6).toArray 4)=w₃ at hT ⊢;clear hF hO
 ((first | refine wk_in' hP rfl (fun _ h₁=>?_) | refine Goes.step rfl (fun _ h₁=>?_));replace hT:=(FT.rely H) hT h₁;clear h₁;refine goes_oper_k rfl rfl (by k_ne) (fun K hK=>?_);go_simp;refine hK _ _ ⟨by ((first | refine dk_none ?_ | u_none);intro e he;have hm:=mem_listed he;simp [go_sem, *] at hm), ?_⟩;clear hK K;try w_num)
 ((first | refine wk_in' hP rfl (fun _ h₁=>?_) | refine Goes.step rfl (fun _ h₁=>?_));replace hT:=(FT.rely H) hT h₁;clear h₁;rw [stepG_region_end];simp only [goes_go];refine ⟨by ((first | refine dk_none ?_ | u_none);intro e he;simp at he), ?_⟩)
 ((first | refine wk_in' hP rfl (fun _ h₁=>?_) | refine Goes.step rfl (fun _ h₁=>?_));replace hT:=(FT.rely H) hT h₁;clear h₁;rw [stepG_seq];simp only [goes_go];refine ⟨by ((first | refine dk_none ?_ | u_none);intro e he;simp at he), ?_⟩)
 ((first | refine wk_in' hP rfl (fun _ h₁=>?_) | refine Goes.step rfl (fun _ h₁=>?_));replace hT:=(FT.rely H) hT h₁;clear h₁;rw [stepG_seq];simp only [goes_go];refine ⟨by ((first | refine dk_none ?_ | u_none);intro e he;simp at he), ?_⟩)
 ((first | refine wk_in' hP rfl (fun _ h₁=>?_) | refine Goes.step rfl (fun _ h₁=>?_));replace hT:=(FT.rely H) hT h₁;clear h₁;rw [stepG_region];simp only [goes_go,List.size_toArray,List.length_cons,List.length_nil,Nat.reduceAdd,Nat.zero_add,List.range,List.range.loop];refine ⟨by ((first | refine dk_none ?_ | u_none);intro e he;simp at he), ?_⟩)
 ((first | refine wk_in' hP rfl (fun _ h₁=>?_) | refine Goes.step rfl (fun _ h₁=>?_));replace hT:=(FT.rely H) hT h₁;clear h₁;refine goes_oper_k rfl rfl (by k_ne) (fun K hK=>?_);go_simp;refine hK _ _ ⟨by ((first | refine dk_none ?_ | u_none);intro e he;have hm:=mem_listed he;simp [go_sem, *] at hm), ?_⟩;clear hK K;try w_num)
 ((first | refine wk_in' hP rfl (fun _ h₁=>?_) | refine Goes.step rfl (fun _ h₁=>?_));replace hT:=(FT.rely H) hT h₁;clear h₁;refine goes_oper_k rfl rfl (by k_ne) (fun K hK=>?_);go_simp;refine hK _ _ ⟨by ((first | refine dk_none ?_ | u_none);intro e he;have hm:=mem_listed he;simp [go_sem, *] at hm), ?_⟩;clear hK K;try w_num)
 ((first | refine wk_in' hP rfl (fun _ h₁=>?_) | refine Goes.step rfl (fun _ h₁=>?_));replace hT:=(FT.rely H) hT h₁;clear h₁;refine goes_oper_k rfl rfl (by k_ne) (fun K hK=>?_);go_simp;refine hK _ _ ⟨by ((first | refine dk_none ?_ | u_none);intro e he;have hm:=mem_listed he;simp [go_sem, *] at hm), ?_⟩;clear hK K;try w_num)
 ((first | refine wk_in' hP rfl (fun _ h₁=>?_) | refine Goes.step rfl (fun _ h₁=>?_));replace hT:=(FT.rely H) hT h₁;clear h₁;rw [stepG_region_end];simp only [goes_go];refine ⟨by ((first | refine dk_none ?_ | u_none);intro e he;simp at he), ?_⟩)
 ((first | refine wk_in' hP rfl (fun _ h₁=>?_) | refine Goes.step rfl (fun _ h₁=>?_));replace hT:=(FT.rely H) hT h₁;clear h₁;rw [stepG_block];simp only [goes_go];refine ⟨by ((first | refine dk_none ?_ | u_none);intro e he;simp at he), ?_⟩)
 ((first | refine wk_in' hP rfl (fun _ h₁=>?_) | refine Goes.step rfl (fun _ h₁=>?_));replace hT:=(FT.rely H) hT h₁;clear h₁;rw [stepG_loop];simp only [goes_go];refine ⟨by ((first | refine dk_none ?_ | u_none);intro e he;simp at he), ?_⟩)
 ((first | refine wk_in' hP rfl (fun _ h₁=>?_) | refine Goes.step rfl (fun _ h₁=>?_));replace hT:=(FT.rely H) hT h₁;clear h₁;rw [stepG_seq];simp only [goes_go];refine ⟨by ((first | refine dk_none ?_ | u_none);intro e he;simp at he), ?_⟩)
 ((first | refine wk_in' hP rfl (fun _ h₁=>?_) | refine Goes.step rfl (fun _ h₁=>?_));replace hT:=(FT.rely H) hT h₁;clear h₁;rw [stepG_region];simp only [goes_go,List.size_toArray,List.length_cons,List.length_nil,Nat.zero_add,List.range,List.range.loop];refine ⟨by ((first | refine dk_none ?_ | u_none);intro e he;simp at he), ?_⟩)
 ((first | refine wk_in' hP rfl (fun _ h₁=>?_) | refine Goes.step rfl (fun _ h₁=>?_));replace hT:=(FT.rely H) hT h₁;clear h₁;refine goes_oper_k rfl rfl (by k_ne) (fun K hK=>?_);go_simp;refine hK _ _ ⟨by ((first | refine dk_none ?_ | u_none);intro e he;have hm:=mem_listed he;simp [go_sem, *] at hm), ?_⟩;clear hK K;try w_num)
 ((first | refine wk_in' hP rfl (fun _ h₁=>?_) | refine Goes.step rfl (fun _ h₁=>?_));replace hT:=(FT.rely H) hT h₁;clear h₁;rw [stepG_region_end];simp only [goes_go];refine ⟨by ((first | refine dk_none ?_ | u_none);intro e he;simp at he), ?_⟩)
 ((first | refine wk_in' hP rfl (fun _ h₁=>?_) | refine Goes.step rfl (fun _ h₁=>?_));replace hT:=(FT.rely H) hT h₁;clear h₁;rw [stepG_seq];simp only [goes_go];refine ⟨by ((first | refine dk_none ?_ | u_none);intro e he;simp at he), ?_⟩)
 ((first | refine wk_in' hP rfl (fun _ h₁=>?_) | refine Goes.step rfl (fun _ h₁=>?_));replace hT:=(FT.rely H) hT h₁;clear h₁;rw [stepG_cond (t:=true) rfl];simp only [goes_go, ↓reduceIte];refine ⟨by ((first | refine dk_none ?_ | u_none);intro e he;simp at he), ?_⟩)
 ((first | refine wk_in' hP rfl (fun _ h₁=>?_) | refine Goes.step rfl (fun _ h₁=>?_));replace hT:=(FT.rely H) hT h₁;clear h₁;rw [stepG_skip];simp only [goes_go];refine ⟨by ((first | refine dk_none ?_ | u_none);intro e he;simp at he), ?_⟩)
 ((first | refine wk_in' hP rfl (fun _ h₁=>?_) | refine Goes.step rfl (fun _ h₁=>?_));replace hT:=(FT.rely H) hT h₁;clear h₁;rw [stepG_seq];simp only [goes_go];refine ⟨by ((first | refine dk_none ?_ | u_none);intro e he;simp at he), ?_⟩)
 ((first | refine wk_in' hP rfl (fun _ h₁=>?_) | refine Goes.step rfl (fun _ h₁=>?_));replace hT:=(FT.rely H) hT h₁;clear h₁;rw [stepG_block];simp only [goes_go];refine ⟨by ((first | refine dk_none ?_ | u_none);intro e he;simp at he), ?_⟩)
 ((first | refine wk_in' hP rfl (fun _ h₁=>?_) | refine Goes.step rfl (fun _ h₁=>?_));replace hT:=(FT.rely H) hT h₁;clear h₁;rw [stepG_seq];simp only [goes_go];refine ⟨by ((first | refine dk_none ?_ | u_none);intro e he;simp at he), ?_⟩)
 ((first | refine wk_in' hP rfl (fun _ h₁=>?_) | refine Goes.step rfl (fun _ h₁=>?_));replace hT:=(FT.rely H) hT h₁;clear h₁;rw [stepG_region];simp only [goes_go,List.size_toArray,List.length_cons,List.length_nil,Nat.reduceAdd,Nat.zero_add,List.range,List.range.loop];refine ⟨by ((first | refine dk_none ?_ | u_none);intro e he;simp at he), ?_⟩)
 ((first | refine wk_in' hP rfl (fun _ h₁=>?_) | refine Goes.step rfl (fun _ h₁=>?_));replace hT:=(FT.rely H) hT h₁;clear h₁;refine goes_oper_k rfl rfl (by k_ne) (fun K hK=>?_);go_simp;refine hK _ _ ⟨by ((first | refine dk_none ?_ | u_none);intro e he;have hm:=mem_listed he;simp [go_sem, *] at hm), ?_⟩;clear hK K;try w_num)
 ((first | refine wk_in' hP rfl (fun _ h₁=>?_) | refine Goes.step rfl (fun _ h₁=>?_));replace hT:=(FT.rely H) hT h₁;clear h₁;refine goes_oper_k rfl rfl (by k_ne) (fun K hK=>?_);go_simp;refine hK _ _ ⟨by ((first | refine dk_none ?_ | u_none);intro e he;have hm:=mem_listed he;simp [go_sem, *] at hm), ?_⟩;clear hK K;try w_num)
 ((first | refine wk_in' hP rfl (fun _ h₁=>?_) | refine Goes.step rfl (fun _ h₁=>?_));replace hT:=(FT.rely H) hT h₁;clear h₁;rw [stepG_region_end];simp only [goes_go];refine ⟨by ((first | refine dk_none ?_ | u_none);intro e he;simp at he), ?_⟩)
 ((first | refine wk_in' hP rfl (fun _ h₁=>?_) | refine Goes.step rfl (fun _ h₁=>?_));replace hT:=(FT.rely H) hT h₁;clear h₁;rw [stepG_region];simp only [goes_go,List.size_toArray,List.length_cons,List.length_nil,Nat.reduceAdd,Nat.zero_add,List.range,List.range.loop];refine ⟨by ((first | refine dk_none ?_ | u_none);intro e he;simp at he), ?_⟩)
 ((first | refine wk_in' hP rfl (fun _ h₁=>?_) | refine Goes.step rfl (fun _ h₁=>?_));replace hT:=(FT.rely H) hT h₁;clear h₁;refine goes_oper_k rfl rfl (by k_ne) (fun K hK=>?_);go_simp;refine hK _ _ ⟨by ((first | refine dk_none ?_ | u_none);intro e he;have hm:=mem_listed he;simp [go_sem, *] at hm), ?_⟩;clear hK K;try w_num)
 ((first | refine wk_in' hP rfl (fun _ h₁=>?_) | refine Goes.step rfl (fun _ h₁=>?_));replace hT:=(FT.rely H) hT h₁;clear h₁;refine goes_oper_k rfl rfl (by k_ne) (fun K hK=>?_);go_simp;refine hK _ _ ⟨by ((first | refine dk_none ?_ | u_none);intro e he;have hm:=mem_listed he;simp [go_sem, *] at hm), ?_⟩;clear hK K;try w_num)
 ((first | refine wk_in' hP rfl (fun _ h₁=>?_) | refine Goes.step rfl (fun _ h₁=>?_));replace hT:=(FT.rely H) hT h₁;clear h₁;refine goes_oper_k rfl rfl (by k_ne) (fun K hK=>?_);have:=FW.ck hT.f;go_simp;refine hK _ _ ⟨dk_read fun e he=>(by (have hm:=mem_listed he;simp [go_sem, *] at hm;try (subst hm;exact (evK_read kk)))), ?_⟩;clear hK K)
 ((first | refine wk_in' hP rfl (fun _ h₁=>?_) | refine Goes.step rfl (fun _ h₁=>?_));replace hT:=(FT.rely H) hT h₁;clear h₁;refine goes_oper_k rfl rfl (by k_ne) (fun K hK=>?_);go_simp;refine hK _ _ ⟨by ((first | refine dk_none ?_ | u_none);intro e he;have hm:=mem_listed he;simp [go_sem, *] at hm), ?_⟩;clear hK K;try w_num)
 ((first | refine wk_in' hP rfl (fun _ h₁=>?_) | refine Goes.step rfl (fun _ h₁=>?_));replace hT:=(FT.rely H) hT h₁;clear h₁;refine goes_oper_k rfl rfl (by k_ne) (fun K hK=>?_);go_simp;refine hK _ _ ⟨by ((first | refine dk_none ?_ | u_none);intro e he;have hm:=mem_listed he;simp [go_sem, *] at hm), ?_⟩;clear hK K;try w_num)
 ((first | refine wk_in' hP rfl (fun _ h₁=>?_) | refine Goes.step rfl (fun _ h₁=>?_));replace hT:=(FT.rely H) hT h₁;clear h₁;refine goes_oper_k rfl rfl (by k_ne) (fun K hK=>?_);go_simp;refine hK _ _ ⟨by ((first | refine dk_none ?_ | u_none);intro e he;have hm:=mem_listed he;simp [go_sem, *] at hm), ?_⟩;clear hK K;try w_num)
 ((first | refine wk_in' hP rfl (fun _ h₁=>?_) | refine Goes.step rfl (fun _ h₁=>?_));replace hT:=(FT.rely H) hT h₁;clear h₁;refine goes_oper_k rfl rfl (by k_ne) (fun K hK=>?_);go_simp;refine hK _ _ ⟨by ((first | refine dk_none ?_ | u_none);intro e he;have hm:=mem_listed he;simp [go_sem, *] at hm), ?_⟩;clear hK K;try w_num)
 ((first | refine wk_in' hP rfl (fun _ h₁=>?_) | refine Goes.step rfl (fun _ h₁=>?_));replace hT:=(FT.rely H) hT h₁;clear h₁;refine goes_oper_k rfl rfl (by k_ne) (fun K hK=>?_);go_simp;refine hK _ _ ⟨by ((first | refine dk_none ?_ | u_none);intro e he;have hm:=mem_listed he;simp [go_sem, *] at hm), ?_⟩;clear hK K;try w_num)
 ((first | refine wk_in' hP rfl (fun _ h₁=>?_) | refine Goes.step rfl (fun _ h₁=>?_));replace hT:=(FT.rely H) hT h₁;clear h₁;have hst1:=(hT).cellAt (k:=0) (by omega);have hst2:=(hT).thaw 0;refine goes_oper_k rfl rfl (by k_ne) (fun K hK=>?_);go_simp;refine hK _ _ ⟨dk_own (hT).own (hT).ne (fun e he=>by (have hm:=mem_listed he;simp [go_sem,storedEv,hst1,hst2] at hm;try (subst hm;exact evK_own (hT).own))), ?_⟩;clear hK K hst1 hst2;replace hT:=(hT).put H (by omega) (bit_0 i))
 ((first | refine wk_in' hP rfl (fun _ h₁=>?_) | refine Goes.step rfl (fun _ h₁=>?_));replace hT:=(FT.rely H) hT h₁;clear h₁;rw [stepG_region_end];simp only [goes_go];refine ⟨by ((first | refine dk_none ?_ | u_none);intro e he;simp at he), ?_⟩)
 ((first | refine wk_in' hP rfl (fun _ h₁=>?_) | refine Goes.step rfl (fun _ h₁=>?_));replace hT:=(FT.rely H) hT h₁;clear h₁;rw [stepG_inBlock];simp only [goes_go];refine ⟨by ((first | refine dk_none ?_ | u_none);intro e he;simp at he), ?_⟩)
 ((first | refine wk_in' hP rfl (fun _ h₁=>?_) | refine Goes.step rfl (fun _ h₁=>?_));replace hT:=(FT.rely H) hT h₁;clear h₁;rw [stepG_region];simp only [goes_go,List.size_toArray,List.length_cons,List.length_nil,Nat.reduceAdd,Nat.zero_add,List.range,List.range.loop];refine ⟨by ((first | refine dk_none ?_ | u_none);intro e he;simp at he), ?_⟩)
 ((first | refine wk_in' hP rfl (fun _ h₁=>?_) | refine Goes.step rfl (fun _ h₁=>?_));replace hT:=(FT.rely H) hT h₁;clear h₁;refine goes_oper_k rfl rfl (by k_ne) (fun K hK=>?_);go_simp;refine hK _ _ ⟨by ((first | refine dk_none ?_ | u_none);intro e he;have hm:=mem_listed he;simp [go_sem, *] at hm), ?_⟩;clear hK K;try w_num)
 ((first | refine wk_in' hP rfl (fun _ h₁=>?_) | refine Goes.step rfl (fun _ h₁=>?_));replace hT:=(FT.rely H) hT h₁;clear h₁;refine goes_oper_k rfl rfl (by k_ne) (fun K hK=>?_);go_simp;refine hK _ _ ⟨by ((first | refine dk_none ?_ | u_none);intro e he;have hm:=mem_listed he;simp [go_sem, *] at hm), ?_⟩;clear hK K;try w_num)
 ((first | refine wk_in' hP rfl (fun _ h₁=>?_) | refine Goes.step rfl (fun _ h₁=>?_));replace hT:=(FT.rely H) hT h₁;clear h₁;rw [stepG_region_end];simp only [goes_go];refine ⟨by ((first | refine dk_none ?_ | u_none);intro e he;simp at he), ?_⟩)
 ((first | refine wk_in' hP rfl (fun _ h₁=>?_) | refine Goes.step rfl (fun _ h₁=>?_));replace hT:=(FT.rely H) hT h₁;clear h₁;rw [stepG_inLoop];simp only [goes_go];refine ⟨by ((first | refine dk_none ?_ | u_none);intro e he;simp at he), ?_⟩)
 ((first | refine wk_in' hP rfl (fun _ h₁=>?_) | refine Goes.step rfl (fun _ h₁=>?_));replace hT:=(FT.rely H) hT h₁;clear h₁;rw [stepG_seq];simp only [goes_go];refine ⟨by ((first | refine dk_none ?_ | u_none);intro e he;simp at he), ?_⟩)
 ((first | refine wk_in' hP rfl (fun _ h₁=>?_) | refine Goes.step rfl (fun _ h₁=>?_));replace hT:=(FT.rely H) hT h₁;clear h₁;rw [stepG_region];simp only [goes_go,List.size_toArray,List.length_cons,List.length_nil,Nat.zero_add,List.range,List.range.loop];refine ⟨by ((first | refine dk_none ?_ | u_none);intro e he;simp at he), ?_⟩)
 ((first | refine wk_in' hP rfl (fun _ h₁=>?_) | refine Goes.step rfl (fun _ h₁=>?_));replace hT:=(FT.rely H) hT h₁;clear h₁;refine goes_oper_k rfl rfl (by k_ne) (fun K hK=>?_);go_simp;refine hK _ _ ⟨by ((first | refine dk_none ?_ | u_none);intro e he;have hm:=mem_listed he;simp [go_sem, *] at hm), ?_⟩;clear hK K;try w_num)
 ((first | refine wk_in' hP rfl (fun _ h₁=>?_) | refine Goes.step rfl (fun _ h₁=>?_));replace hT:=(FT.rely H) hT h₁;clear h₁;rw [stepG_region_end];simp only [goes_go];refine ⟨by ((first | refine dk_none ?_ | u_none);intro e he;simp at he), ?_⟩)
 ((first | refine wk_in' hP rfl (fun _ h₁=>?_) | refine Goes.step rfl (fun _ h₁=>?_));replace hT:=(FT.rely H) hT h₁;clear h₁;rw [stepG_seq];simp only [goes_go];refine ⟨by ((first | refine dk_none ?_ | u_none);intro e he;simp at he), ?_⟩)
 ((first | refine wk_in' hP rfl (fun _ h₁=>?_) | refine Goes.step rfl (fun _ h₁=>?_));replace hT:=(FT.rely H) hT h₁;clear h₁;rw [stepG_cond (t:=true) rfl];simp only [goes_go, ↓reduceIte];refine ⟨by ((first | refine dk_none ?_ | u_none);intro e he;simp at he), ?_⟩)
 ((first | refine wk_in' hP rfl (fun _ h₁=>?_) | refine Goes.step rfl (fun _ h₁=>?_));replace hT:=(FT.rely H) hT h₁;clear h₁;rw [stepG_skip];simp only [goes_go];refine ⟨by ((first | refine dk_none ?_ | u_none);intro e he;simp at he), ?_⟩)
 ((first | refine wk_in' hP rfl (fun _ h₁=>?_) | refine Goes.step rfl (fun _ h₁=>?_));replace hT:=(FT.rely H) hT h₁;clear h₁;rw [stepG_seq];simp only [goes_go];refine ⟨by ((first | refine dk_none ?_ | u_none);intro e he;simp at he), ?_⟩)
 ((first | refine wk_in' hP rfl (fun _ h₁=>?_) | refine Goes.step rfl (fun _ h₁=>?_));replace hT:=(FT.rely H) hT h₁;clear h₁;rw [stepG_block];simp only [goes_go];refine ⟨by ((first | refine dk_none ?_ | u_none);intro e he;simp at he), ?_⟩)
 ((first | refine wk_in' hP rfl (fun _ h₁=>?_) | refine Goes.step rfl (fun _ h₁=>?_));replace hT:=(FT.rely H) hT h₁;clear h₁;rw [stepG_seq];simp only [goes_go];refine ⟨by ((first | refine dk_none ?_ | u_none);intro e he;simp at he), ?_⟩)
 ((first | refine wk_in' hP rfl (fun _ h₁=>?_) | refine Goes.step rfl (fun _ h₁=>?_));replace hT:=(FT.rely H) hT h₁;clear h₁;rw [stepG_region];simp only [goes_go,List.size_toArray,List.length_cons,List.length_nil,Nat.reduceAdd,Nat.zero_add,List.range,List.range.loop];refine ⟨by ((first | refine dk_none ?_ | u_none);intro e he;simp at he), ?_⟩)
 ((first | refine wk_in' hP rfl (fun _ h₁=>?_) | refine Goes.step rfl (fun _ h₁=>?_));replace hT:=(FT.rely H) hT h₁;clear h₁;refine goes_oper_k rfl rfl (by k_ne) (fun K hK=>?_);go_simp;refine hK _ _ ⟨by ((first | refine dk_none ?_ | u_none);intro e he;have hm:=mem_listed he;simp [go_sem, *] at hm), ?_⟩;clear hK K;try w_num)
 ((first | refine wk_in' hP rfl (fun _ h₁=>?_) | refine Goes.step rfl (fun _ h₁=>?_));replace hT:=(FT.rely H) hT h₁;clear h₁;refine goes_oper_k rfl rfl (by k_ne) (fun K hK=>?_);go_simp;refine hK _ _ ⟨by ((first | refine dk_none ?_ | u_none);intro e he;have hm:=mem_listed he;simp [go_sem, *] at hm), ?_⟩;clear hK K;try w_num)
 ((first | refine wk_in' hP rfl (fun _ h₁=>?_) | refine Goes.step rfl (fun _ h₁=>?_));replace hT:=(FT.rely H) hT h₁;clear h₁;rw [stepG_region_end];simp only [goes_go];refine ⟨by ((first | refine dk_none ?_ | u_none);intro e he;simp at he), ?_⟩)
 ((first | refine wk_in' hP rfl (fun _ h₁=>?_) | refine Goes.step rfl (fun _ h₁=>?_));replace hT:=(FT.rely H) hT h₁;clear h₁;rw [stepG_region];simp only [goes_go,List.size_toArray,List.length_cons,List.length_nil,Nat.reduceAdd,Nat.zero_add,List.range,List.range.loop];refine ⟨by ((first | refine dk_none ?_ | u_none);intro e he;simp at he), ?_⟩)
 ((first | refine wk_in' hP rfl (fun _ h₁=>?_) | refine Goes.step rfl (fun _ h₁=>?_));replace hT:=(FT.rely H) hT h₁;clear h₁;refine goes_oper_k rfl rfl (by k_ne) (fun K hK=>?_);go_simp;refine hK _ _ ⟨by ((first | refine dk_none ?_ | u_none);intro e he;have hm:=mem_listed he;simp [go_sem, *] at hm), ?_⟩;clear hK K;try w_num)
 ((first | refine wk_in' hP rfl (fun _ h₁=>?_) | refine Goes.step rfl (fun _ h₁=>?_));replace hT:=(FT.rely H) hT h₁;clear h₁;refine goes_oper_k rfl rfl (by k_ne) (fun K hK=>?_);go_simp;refine hK _ _ ⟨by ((first | refine dk_none ?_ | u_none);intro e he;have hm:=mem_listed he;simp [go_sem, *] at hm), ?_⟩;clear hK K;try w_num)
 ((first | refine wk_in' hP rfl (fun _ h₁=>?_) | refine Goes.step rfl (fun _ h₁=>?_));replace hT:=(FT.rely H) hT h₁;clear h₁;refine goes_oper_k rfl rfl (by k_ne) (fun K hK=>?_);have:=FW.ck hT.f;go_simp;refine hK _ _ ⟨dk_read fun e he=>(by (have hm:=mem_listed he;simp [go_sem, *] at hm;try (subst hm;exact (evK_read kk)))), ?_⟩;clear hK K)
 ((first | refine wk_in' hP rfl (fun _ h₁=>?_) | refine Goes.step rfl (fun _ h₁=>?_));replace hT:=(FT.rely H) hT h₁;clear h₁;refine goes_oper_k rfl rfl (by k_ne) (fun K hK=>?_);go_simp;refine hK _ _ ⟨by ((first | refine dk_none ?_ | u_none);intro e he;have hm:=mem_listed he;simp [go_sem, *] at hm), ?_⟩;clear hK K;try w_num)
 ((first | refine wk_in' hP rfl (fun _ h₁=>?_) | refine Goes.step rfl (fun _ h₁=>?_));replace hT:=(FT.rely H) hT h₁;clear h₁;refine goes_oper_k rfl rfl (by k_ne) (fun K hK=>?_);go_simp;refine hK _ _ ⟨by ((first | refine dk_none ?_ | u_none);intro e he;have hm:=mem_listed he;simp [go_sem, *] at hm), ?_⟩;clear hK K;try w_num)
 ((first | refine wk_in' hP rfl (fun _ h₁=>?_) | refine Goes.step rfl (fun _ h₁=>?_));replace hT:=(FT.rely H) hT h₁;clear h₁;refine goes_oper_k rfl rfl (by k_ne) (fun K hK=>?_);go_simp;refine hK _ _ ⟨by ((first | refine dk_none ?_ | u_none);intro e he;have hm:=mem_listed he;simp [go_sem, *] at hm), ?_⟩;clear hK K;try w_num)
 ((first | refine wk_in' hP rfl (fun _ h₁=>?_) | refine Goes.step rfl (fun _ h₁=>?_));replace hT:=(FT.rely H) hT h₁;clear h₁;refine goes_oper_k rfl rfl (by k_ne) (fun K hK=>?_);go_simp;refine hK _ _ ⟨by ((first | refine dk_none ?_ | u_none);intro e he;have hm:=mem_listed he;simp [go_sem, *] at hm), ?_⟩;clear hK K;try w_num)
 ((first | refine wk_in' hP rfl (fun _ h₁=>?_) | refine Goes.step rfl (fun _ h₁=>?_));replace hT:=(FT.rely H) hT h₁;clear h₁;refine goes_oper_k rfl rfl (by k_ne) (fun K hK=>?_);go_simp;refine hK _ _ ⟨by ((first | refine dk_none ?_ | u_none);intro e he;have hm:=mem_listed he;simp [go_sem, *] at hm), ?_⟩;clear hK K;try w_num)
 ((first | refine wk_in' hP rfl (fun _ h₁=>?_) | refine Goes.step rfl (fun _ h₁=>?_));replace hT:=(FT.rely H) hT h₁;clear h₁;have hst1:=(hT).cellAt (k:=1) (by omega);have hst2:=(hT).thaw 1;refine goes_oper_k rfl rfl (by k_ne) (fun K hK=>?_);go_simp;refine hK _ _ ⟨dk_own (hT).own (hT).ne (fun e he=>by (have hm:=mem_listed he;simp [go_sem,storedEv,hst1,hst2] at hm;try (subst hm;exact evK_own (hT).own))), ?_⟩;clear hK K hst1 hst2;replace hT:=(hT).put H (by omega) (bit_1 i))
 ((first | refine wk_in' hP rfl (fun _ h₁=>?_) | refine Goes.step rfl (fun _ h₁=>?_));replace hT:=(FT.rely H) hT h₁;clear h₁;rw [stepG_region_end];simp only [goes_go];refine ⟨by ((first | refine dk_none ?_ | u_none);intro e he;simp at he), ?_⟩)
 ((first | refine wk_in' hP rfl (fun _ h₁=>?_) | refine Goes.step rfl (fun _ h₁=>?_));replace hT:=(FT.rely H) hT h₁;clear h₁;rw [stepG_inBlock];simp only [goes_go];refine ⟨by ((first | refine dk_none ?_ | u_none);intro e he;simp at he), ?_⟩)
 ((first | refine wk_in' hP rfl (fun _ h₁=>?_) | refine Goes.step rfl (fun _ h₁=>?_));replace hT:=(FT.rely H) hT h₁;clear h₁;rw [stepG_region];simp only [goes_go,List.size_toArray,List.length_cons,List.length_nil,Nat.reduceAdd,Nat.zero_add,List.range,List.range.loop];refine ⟨by ((first | refine dk_none ?_ | u_none);intro e he;simp at he), ?_⟩)
 ((first | refine wk_in' hP rfl (fun _ h₁=>?_) | refine Goes.step rfl (fun _ h₁=>?_));replace hT:=(FT.rely H) hT h₁;clear h₁;refine goes_oper_k rfl rfl (by k_ne) (fun K hK=>?_);go_simp;refine hK _ _ ⟨by ((first | refine dk_none ?_ | u_none);intro e he;have hm:=mem_listed he;simp [go_sem, *] at hm), ?_⟩;clear hK K;try w_num)
 ((first | refine wk_in' hP rfl (fun _ h₁=>?_) | refine Goes.step rfl (fun _ h₁=>?_));replace hT:=(FT.rely H) hT h₁;clear h₁;refine goes_oper_k rfl rfl (by k_ne) (fun K hK=>?_);go_simp;refine hK _ _ ⟨by ((first | refine dk_none ?_ | u_none);intro e he;have hm:=mem_listed he;simp [go_sem, *] at hm), ?_⟩;clear hK K;try w_num)
 ((first | refine wk_in' hP rfl (fun _ h₁=>?_) | refine Goes.step rfl (fun _ h₁=>?_));replace hT:=(FT.rely H) hT h₁;clear h₁;rw [stepG_region_end];simp only [goes_go];refine ⟨by ((first | refine dk_none ?_ | u_none);intro e he;simp at he), ?_⟩)
 ((first | refine wk_in' hP rfl (fun _ h₁=>?_) | refine Goes.step rfl (fun _ h₁=>?_));replace hT:=(FT.rely H) hT h₁;clear h₁;rw [stepG_inLoop];simp only [goes_go];refine ⟨by ((first | refine dk_none ?_ | u_none);intro e he;simp at he), ?_⟩)
 ((first | refine wk_in' hP rfl (fun _ h₁=>?_) | refine Goes.step rfl (fun _ h₁=>?_));replace hT:=(FT.rely H) hT h₁;clear h₁;rw [stepG_seq];simp only [goes_go];refine ⟨by ((first | refine dk_none ?_ | u_none);intro e he;simp at he), ?_⟩)
 ((first | refine wk_in' hP rfl (fun _ h₁=>?_) | refine Goes.step rfl (fun _ h₁=>?_));replace hT:=(FT.rely H) hT h₁;clear h₁;rw [stepG_region];simp only [goes_go,List.size_toArray,List.length_cons,List.length_nil,Nat.zero_add,List.range,List.range.loop];refine ⟨by ((first | refine dk_none ?_ | u_none);intro e he;simp at he), ?_⟩)
 ((first | refine wk_in' hP rfl (fun _ h₁=>?_) | refine Goes.step rfl (fun _ h₁=>?_));replace hT:=(FT.rely H) hT h₁;clear h₁;refine goes_oper_k rfl rfl (by k_ne) (fun K hK=>?_);go_simp;refine hK _ _ ⟨by ((first | refine dk_none ?_ | u_none);intro e he;have hm:=mem_listed he;simp [go_sem, *] at hm), ?_⟩;clear hK K;try w_num)
 ((first | refine wk_in' hP rfl (fun _ h₁=>?_) | refine Goes.step rfl (fun _ h₁=>?_));replace hT:=(FT.rely H) hT h₁;clear h₁;rw [stepG_region_end];simp only [goes_go];refine ⟨by ((first | refine dk_none ?_ | u_none);intro e he;simp at he), ?_⟩)
 ((first | refine wk_in' hP rfl (fun _ h₁=>?_) | refine Goes.step rfl (fun _ h₁=>?_));replace hT:=(FT.rely H) hT h₁;clear h₁;rw [stepG_seq];simp only [goes_go];refine ⟨by ((first | refine dk_none ?_ | u_none);intro e he;simp at he), ?_⟩)
 ((first | refine wk_in' hP rfl (fun _ h₁=>?_) | refine Goes.step rfl (fun _ h₁=>?_));replace hT:=(FT.rely H) hT h₁;clear h₁;rw [stepG_cond (t:=true) rfl];simp only [goes_go, ↓reduceIte];refine ⟨by ((first | refine dk_none ?_ | u_none);intro e he;simp at he), ?_⟩)
 ((first | refine wk_in' hP rfl (fun _ h₁=>?_) | refine Goes.step rfl (fun _ h₁=>?_));replace hT:=(FT.rely H) hT h₁;clear h₁;rw [stepG_skip];simp only [goes_go];refine ⟨by ((first | refine dk_none ?_ | u_none);intro e he;simp at he), ?_⟩)
 ((first | refine wk_in' hP rfl (fun _ h₁=>?_) | refine Goes.step rfl (fun _ h₁=>?_));replace hT:=(FT.rely H) hT h₁;clear h₁;rw [stepG_seq];simp only [goes_go];refine ⟨by ((first | refine dk_none ?_ | u_none);intro e he;simp at he), ?_⟩)
 ((first | refine wk_in' hP rfl (fun _ h₁=>?_) | refine Goes.step rfl (fun _ h₁=>?_));replace hT:=(FT.rely H) hT h₁;clear h₁;rw [stepG_block];simp only [goes_go];refine ⟨by ((first | refine dk_none ?_ | u_none);intro e he;simp at he), ?_⟩)
 ((first | refine wk_in' hP rfl (fun _ h₁=>?_) | refine Goes.step rfl (fun _ h₁=>?_));replace hT:=(FT.rely H) hT h₁;clear h₁;rw [stepG_seq];simp only [goes_go];refine ⟨by ((first | refine dk_none ?_ | u_none);intro e he;simp at he), ?_⟩)
 ((first | refine wk_in' hP rfl (fun _ h₁=>?_) | refine Goes.step rfl (fun _ h₁=>?_));replace hT:=(FT.rely H) hT h₁;clear h₁;rw [stepG_region];simp only [goes_go,List.size_toArray,List.length_cons,List.length_nil,Nat.reduceAdd,Nat.zero_add,List.range,List.range.loop];refine ⟨by ((first | refine dk_none ?_ | u_none);intro e he;simp at he), ?_⟩)
 ((first | refine wk_in' hP rfl (fun _ h₁=>?_) | refine Goes.step rfl (fun _ h₁=>?_));replace hT:=(FT.rely H) hT h₁;clear h₁;refine goes_oper_k rfl rfl (by k_ne) (fun K hK=>?_);go_simp;refine hK _ _ ⟨by ((first | refine dk_none ?_ | u_none);intro e he;have hm:=mem_listed he;simp [go_sem, *] at hm), ?_⟩;clear hK K;try w_num)
 ((first | refine wk_in' hP rfl (fun _ h₁=>?_) | refine Goes.step rfl (fun _ h₁=>?_));replace hT:=(FT.rely H) hT h₁;clear h₁;refine goes_oper_k rfl rfl (by k_ne) (fun K hK=>?_);go_simp;refine hK _ _ ⟨by ((first | refine dk_none ?_ | u_none);intro e he;have hm:=mem_listed he;simp [go_sem, *] at hm), ?_⟩;clear hK K;try w_num)
 ((first | refine wk_in' hP rfl (fun _ h₁=>?_) | refine Goes.step rfl (fun _ h₁=>?_));replace hT:=(FT.rely H) hT h₁;clear h₁;rw [stepG_region_end];simp only [goes_go];refine ⟨by ((first | refine dk_none ?_ | u_none);intro e he;simp at he), ?_⟩)
 ((first | refine wk_in' hP rfl (fun _ h₁=>?_) | refine Goes.step rfl (fun _ h₁=>?_));replace hT:=(FT.rely H) hT h₁;clear h₁;rw [stepG_region];simp only [goes_go,List.size_toArray,List.length_cons,List.length_nil,Nat.reduceAdd,Nat.zero_add,List.range,List.range.loop];refine ⟨by ((first | refine dk_none ?_ | u_none);intro e he;simp at he), ?_⟩)
 ((first | refine wk_in' hP rfl (fun _ h₁=>?_) | refine Goes.step rfl (fun _ h₁=>?_));replace hT:=(FT.rely H) hT h₁;clear h₁;refine goes_oper_k rfl rfl (by k_ne) (fun K hK=>?_);go_simp;refine hK _ _ ⟨by ((first | refine dk_none ?_ | u_none);intro e he;have hm:=mem_listed he;simp [go_sem, *] at hm), ?_⟩;clear hK K;try w_num)
 ((first | refine wk_in' hP rfl (fun _ h₁=>?_) | refine Goes.step rfl (fun _ h₁=>?_));replace hT:=(FT.rely H) hT h₁;clear h₁;refine goes_oper_k rfl rfl (by k_ne) (fun K hK=>?_);go_simp;refine hK _ _ ⟨by ((first | refine dk_none ?_ | u_none);intro e he;have hm:=mem_listed he;simp [go_sem, *] at hm), ?_⟩;clear hK K;try w_num)
 ((first | refine wk_in' hP rfl (fun _ h₁=>?_) | refine Goes.step rfl (fun _ h₁=>?_));replace hT:=(FT.rely H) hT h₁;clear h₁;refine goes_oper_k rfl rfl (by k_ne) (fun K hK=>?_);have:=FW.ck hT.f;go_simp;refine hK _ _ ⟨dk_read fun e he=>(by (have hm:=mem_listed he;simp [go_sem, *] at hm;try (subst hm;exact (evK_read kk)))), ?_⟩;clear hK K)
 ((first | refine wk_in' hP rfl (fun _ h₁=>?_) | refine Goes.step rfl (fun _ h₁=>?_));replace hT:=(FT.rely H) hT h₁;clear h₁;refine goes_oper_k rfl rfl (by k_ne) (fun K hK=>?_);go_simp;refine hK _ _ ⟨by ((first | refine dk_none ?_ | u_none);intro e he;have hm:=mem_listed he;simp [go_sem, *] at hm), ?_⟩;clear hK K;try w_num)
 ((first | refine wk_in' hP rfl (fun _ h₁=>?_) | refine Goes.step rfl (fun _ h₁=>?_));replace hT:=(FT.rely H) hT h₁;clear h₁;refine goes_oper_k rfl rfl (by k_ne) (fun K hK=>?_);go_simp;refine hK _ _ ⟨by ((first | refine dk_none ?_ | u_none);intro e he;have hm:=mem_listed he;simp [go_sem, *] at hm), ?_⟩;clear hK K;try w_num)
 ((first | refine wk_in' hP rfl (fun _ h₁=>?_) | refine Goes.step rfl (fun _ h₁=>?_));replace hT:=(FT.rely H) hT h₁;clear h₁;refine goes_oper_k rfl rfl (by k_ne) (fun K hK=>?_);go_simp;refine hK _ _ ⟨by ((first | refine dk_none ?_ | u_none);intro e he;have hm:=mem_listed he;simp [go_sem, *] at hm), ?_⟩;clear hK K;try w_num)
 ((first | refine wk_in' hP rfl (fun _ h₁=>?_) | refine Goes.step rfl (fun _ h₁=>?_));replace hT:=(FT.rely H) hT h₁;clear h₁;refine goes_oper_k rfl rfl (by k_ne) (fun K hK=>?_);go_simp;refine hK _ _ ⟨by ((first | refine dk_none ?_ | u_none);intro e he;have hm:=mem_listed he;simp [go_sem, *] at hm), ?_⟩;clear hK K;try w_num)
 ((first | refine wk_in' hP rfl (fun _ h₁=>?_) | refine Goes.step rfl (fun _ h₁=>?_));replace hT:=(FT.rely H) hT h₁;clear h₁;refine goes_oper_k rfl rfl (by k_ne) (fun K hK=>?_);go_simp;refine hK _ _ ⟨by ((first | refine dk_none ?_ | u_none);intro e he;have hm:=mem_listed he;simp [go_sem, *] at hm), ?_⟩;clear hK K;try w_num)
 ((first | refine wk_in' hP rfl (fun _ h₁=>?_) | refine Goes.step rfl (fun _ h₁=>?_));replace hT:=(FT.rely H) hT h₁;clear h₁;have hst1:=(hT).cellAt (k:=2) (by omega);have hst2:=(hT).thaw 2;refine goes_oper_k rfl rfl (by k_ne) (fun K hK=>?_);go_simp;refine hK _ _ ⟨dk_own (hT).own (hT).ne (fun e he=>by (have hm:=mem_listed he;simp [go_sem,storedEv,hst1,hst2] at hm;try (subst hm;exact evK_own (hT).own))), ?_⟩;clear hK K hst1 hst2;replace hT:=(hT).put H (by omega) (bit_2 i))
 ((first | refine wk_in' hP rfl (fun _ h₁=>?_) | refine Goes.step rfl (fun _ h₁=>?_));replace hT:=(FT.rely H) hT h₁;clear h₁;rw [stepG_region_end];simp only [goes_go];refine ⟨by ((first | refine dk_none ?_ | u_none);intro e he;simp at he), ?_⟩)
 ((first | refine wk_in' hP rfl (fun _ h₁=>?_) | refine Goes.step rfl (fun _ h₁=>?_));replace hT:=(FT.rely H) hT h₁;clear h₁;rw [stepG_inBlock];simp only [goes_go];refine ⟨by ((first | refine dk_none ?_ | u_none);intro e he;simp at he), ?_⟩)
 ((first | refine wk_in' hP rfl (fun _ h₁=>?_) | refine Goes.step rfl (fun _ h₁=>?_));replace hT:=(FT.rely H) hT h₁;clear h₁;rw [stepG_region];simp only [goes_go,List.size_toArray,List.length_cons,List.length_nil,Nat.reduceAdd,Nat.zero_add,List.range,List.range.loop];refine ⟨by ((first | refine dk_none ?_ | u_none);intro e he;simp at he), ?_⟩)
 ((first | refine wk_in' hP rfl (fun _ h₁=>?_) | refine Goes.step rfl (fun _ h₁=>?_));replace hT:=(FT.rely H) hT h₁;clear h₁;refine goes_oper_k rfl rfl (by k_ne) (fun K hK=>?_);go_simp;refine hK _ _ ⟨by ((first | refine dk_none ?_ | u_none);intro e he;have hm:=mem_listed he;simp [go_sem, *] at hm), ?_⟩;clear hK K;try w_num)
 ((first | refine wk_in' hP rfl (fun _ h₁=>?_) | refine Goes.step rfl (fun _ h₁=>?_));replace hT:=(FT.rely H) hT h₁;clear h₁;refine goes_oper_k rfl rfl (by k_ne) (fun K hK=>?_);go_simp;refine hK _ _ ⟨by ((first | refine dk_none ?_ | u_none);intro e he;have hm:=mem_listed he;simp [go_sem, *] at hm), ?_⟩;clear hK K;try w_num)
 ((first | refine wk_in' hP rfl (fun _ h₁=>?_) | refine Goes.step rfl (fun _ h₁=>?_));replace hT:=(FT.rely H) hT h₁;clear h₁;rw [stepG_region_end];simp only [goes_go];refine ⟨by ((first | refine dk_none ?_ | u_none);intro e he;simp at he), ?_⟩)
 ((first | refine wk_in' hP rfl (fun _ h₁=>?_) | refine Goes.step rfl (fun _ h₁=>?_));replace hT:=(FT.rely H) hT h₁;clear h₁;rw [stepG_inLoop];simp only [goes_go];refine ⟨by ((first | refine dk_none ?_ | u_none);intro e he;simp at he), ?_⟩)
 ((first | refine wk_in' hP rfl (fun _ h₁=>?_) | refine Goes.step rfl (fun _ h₁=>?_));replace hT:=(FT.rely H) hT h₁;clear h₁;rw [stepG_seq];simp only [goes_go];refine ⟨by ((first | refine dk_none ?_ | u_none);intro e he;simp at he), ?_⟩)
 ((first | refine wk_in' hP rfl (fun _ h₁=>?_) | refine Goes.step rfl (fun _ h₁=>?_));replace hT:=(FT.rely H) hT h₁;clear h₁;rw [stepG_region];simp only [goes_go,List.size_toArray,List.length_cons,List.length_nil,Nat.zero_add,List.range,List.range.loop];refine ⟨by ((first | refine dk_none ?_ | u_none);intro e he;simp at he), ?_⟩)
 ((first | refine wk_in' hP rfl (fun _ h₁=>?_) | refine Goes.step rfl (fun _ h₁=>?_));replace hT:=(FT.rely H) hT h₁;clear h₁;refine goes_oper_k rfl rfl (by k_ne) (fun K hK=>?_);go_simp;refine hK _ _ ⟨by ((first | refine dk_none ?_ | u_none);intro e he;have hm:=mem_listed he;simp [go_sem, *] at hm), ?_⟩;clear hK K;try w_num)
 ((first | refine wk_in' hP rfl (fun _ h₁=>?_) | refine Goes.step rfl (fun _ h₁=>?_));replace hT:=(FT.rely H) hT h₁;clear h₁;rw [stepG_region_end];simp only [goes_go];refine ⟨by ((first | refine dk_none ?_ | u_none);intro e he;simp at he), ?_⟩)
 ((first | refine wk_in' hP rfl (fun _ h₁=>?_) | refine Goes.step rfl (fun _ h₁=>?_));replace hT:=(FT.rely H) hT h₁;clear h₁;rw [stepG_seq];simp only [goes_go];refine ⟨by ((first | refine dk_none ?_ | u_none);intro e he;simp at he), ?_⟩)
 ((first | refine wk_in' hP rfl (fun _ h₁=>?_) | refine Goes.step rfl (fun _ h₁=>?_));replace hT:=(FT.rely H) hT h₁;clear h₁;rw [stepG_cond (t:=true) rfl];simp only [goes_go, ↓reduceIte];refine ⟨by ((first | refine dk_none ?_ | u_none);intro e he;simp at he), ?_⟩)
 ((first | refine wk_in' hP rfl (fun _ h₁=>?_) | refine Goes.step rfl (fun _ h₁=>?_));replace hT:=(FT.rely H) hT h₁;clear h₁;rw [stepG_skip];simp only [goes_go];refine ⟨by ((first | refine dk_none ?_ | u_none);intro e he;simp at he), ?_⟩)
 ((first | refine wk_in' hP rfl (fun _ h₁=>?_) | refine Goes.step rfl (fun _ h₁=>?_));replace hT:=(FT.rely H) hT h₁;clear h₁;rw [stepG_seq];simp only [goes_go];refine ⟨by ((first | refine dk_none ?_ | u_none);intro e he;simp at he), ?_⟩)
 ((first | refine wk_in' hP rfl (fun _ h₁=>?_) | refine Goes.step rfl (fun _ h₁=>?_));replace hT:=(FT.rely H) hT h₁;clear h₁;rw [stepG_block];simp only [goes_go];refine ⟨by ((first | refine dk_none ?_ | u_none);intro e he;simp at he), ?_⟩)
 ((first | refine wk_in' hP rfl (fun _ h₁=>?_) | refine Goes.step rfl (fun _ h₁=>?_));replace hT:=(FT.rely H) hT h₁;clear h₁;rw [stepG_seq];simp only [goes_go];refine ⟨by ((first | refine dk_none ?_ | u_none);intro e he;simp at he), ?_⟩)
 ((first | refine wk_in' hP rfl (fun _ h₁=>?_) | refine Goes.step rfl (fun _ h₁=>?_));replace hT:=(FT.rely H) hT h₁;clear h₁;rw [stepG_region];simp only [goes_go,List.size_toArray,List.length_cons,List.length_nil,Nat.reduceAdd,Nat.zero_add,List.range,List.range.loop];refine ⟨by ((first | refine dk_none ?_ | u_none);intro e he;simp at he), ?_⟩)
 ((first | refine wk_in' hP rfl (fun _ h₁=>?_) | refine Goes.step rfl (fun _ h₁=>?_));replace hT:=(FT.rely H) hT h₁;clear h₁;refine goes_oper_k rfl rfl (by k_ne) (fun K hK=>?_);go_simp;refine hK _ _ ⟨by ((first | refine dk_none ?_ | u_none);intro e he;have hm:=mem_listed he;simp [go_sem, *] at hm), ?_⟩;clear hK K;try w_num)
 ((first | refine wk_in' hP rfl (fun _ h₁=>?_) | refine Goes.step rfl (fun _ h₁=>?_));replace hT:=(FT.rely H) hT h₁;clear h₁;refine goes_oper_k rfl rfl (by k_ne) (fun K hK=>?_);go_simp;refine hK _ _ ⟨by ((first | refine dk_none ?_ | u_none);intro e he;have hm:=mem_listed he;simp [go_sem, *] at hm), ?_⟩;clear hK K;try w_num)
 ((first | refine wk_in' hP rfl (fun _ h₁=>?_) | refine Goes.step rfl (fun _ h₁=>?_));replace hT:=(FT.rely H) hT h₁;clear h₁;rw [stepG_region_end];simp only [goes_go];refine ⟨by ((first | refine dk_none ?_ | u_none);intro e he;simp at he), ?_⟩)
 ((first | refine wk_in' hP rfl (fun _ h₁=>?_) | refine Goes.step rfl (fun _ h₁=>?_));replace hT:=(FT.rely H) hT h₁;clear h₁;rw [stepG_region];simp only [goes_go,List.size_toArray,List.length_cons,List.length_nil,Nat.reduceAdd,Nat.zero_add,List.range,List.range.loop];refine ⟨by ((first | refine dk_none ?_ | u_none);intro e he;simp at he), ?_⟩)
 ((first | refine wk_in' hP rfl (fun _ h₁=>?_) | refine Goes.step rfl (fun _ h₁=>?_));replace hT:=(FT.rely H) hT h₁;clear h₁;refine goes_oper_k rfl rfl (by k_ne) (fun K hK=>?_);go_simp;refine hK _ _ ⟨by ((first | refine dk_none ?_ | u_none);intro e he;have hm:=mem_listed he;simp [go_sem, *] at hm), ?_⟩;clear hK K;try w_num)
 ((first | refine wk_in' hP rfl (fun _ h₁=>?_) | refine Goes.step rfl (fun _ h₁=>?_));replace hT:=(FT.rely H) hT h₁;clear h₁;refine goes_oper_k rfl rfl (by k_ne) (fun K hK=>?_);go_simp;refine hK _ _ ⟨by ((first | refine dk_none ?_ | u_none);intro e he;have hm:=mem_listed he;simp [go_sem, *] at hm), ?_⟩;clear hK K;try w_num)
 ((first | refine wk_in' hP rfl (fun _ h₁=>?_) | refine Goes.step rfl (fun _ h₁=>?_));replace hT:=(FT.rely H) hT h₁;clear h₁;refine goes_oper_k rfl rfl (by k_ne) (fun K hK=>?_);have:=FW.ck hT.f;go_simp;refine hK _ _ ⟨dk_read fun e he=>(by (have hm:=mem_listed he;simp [go_sem, *] at hm;try (subst hm;exact (evK_read kk)))), ?_⟩;clear hK K)
 ((first | refine wk_in' hP rfl (fun _ h₁=>?_) | refine Goes.step rfl (fun _ h₁=>?_));replace hT:=(FT.rely H) hT h₁;clear h₁;refine goes_oper_k rfl rfl (by k_ne) (fun K hK=>?_);go_simp;refine hK _ _ ⟨by ((first | refine dk_none ?_ | u_none);intro e he;have hm:=mem_listed he;simp [go_sem, *] at hm), ?_⟩;clear hK K;try w_num)
 ((first | refine wk_in' hP rfl (fun _ h₁=>?_) | refine Goes.step rfl (fun _ h₁=>?_));replace hT:=(FT.rely H) hT h₁;clear h₁;refine goes_oper_k rfl rfl (by k_ne) (fun K hK=>?_);go_simp;refine hK _ _ ⟨by ((first | refine dk_none ?_ | u_none);intro e he;have hm:=mem_listed he;simp [go_sem, *] at hm), ?_⟩;clear hK K;try w_num)
 ((first | refine wk_in' hP rfl (fun _ h₁=>?_) | refine Goes.step rfl (fun _ h₁=>?_));replace hT:=(FT.rely H) hT h₁;clear h₁;refine goes_oper_k rfl rfl (by k_ne) (fun K hK=>?_);go_simp;refine hK _ _ ⟨by ((first | refine dk_none ?_ | u_none);intro e he;have hm:=mem_listed he;simp [go_sem, *] at hm), ?_⟩;clear hK K;try w_num)
 ((first | refine wk_in' hP rfl (fun _ h₁=>?_) | refine Goes.step rfl (fun _ h₁=>?_));replace hT:=(FT.rely H) hT h₁;clear h₁;refine goes_oper_k rfl rfl (by k_ne) (fun K hK=>?_);go_simp;refine hK _ _ ⟨by ((first | refine dk_none ?_ | u_none);intro e he;have hm:=mem_listed he;simp [go_sem, *] at hm), ?_⟩;clear hK K;try w_num)
 ((first | refine wk_in' hP rfl (fun _ h₁=>?_) | refine Goes.step rfl (fun _ h₁=>?_));replace hT:=(FT.rely H) hT h₁;clear h₁;refine goes_oper_k rfl rfl (by k_ne) (fun K hK=>?_);go_simp;refine hK _ _ ⟨by ((first | refine dk_none ?_ | u_none);intro e he;have hm:=mem_listed he;simp [go_sem, *] at hm), ?_⟩;clear hK K;try w_num)
 ((first | refine wk_in' hP rfl (fun _ h₁=>?_) | refine Goes.step rfl (fun _ h₁=>?_));replace hT:=(FT.rely H) hT h₁;clear h₁;have hst1:=(hT).cellAt (k:=3) (by omega);have hst2:=(hT).thaw 3;refine goes_oper_k rfl rfl (by k_ne) (fun K hK=>?_);go_simp;refine hK _ _ ⟨dk_own (hT).own (hT).ne (fun e he=>by (have hm:=mem_listed he;simp [go_sem,storedEv,hst1,hst2] at hm;try (subst hm;exact evK_own (hT).own))), ?_⟩;clear hK K hst1 hst2;replace hT:=(hT).put H (by omega) (bit_3 i))
 ((first | refine wk_in' hP rfl (fun _ h₁=>?_) | refine Goes.step rfl (fun _ h₁=>?_));replace hT:=(FT.rely H) hT h₁;clear h₁;rw [stepG_region_end];simp only [goes_go];refine ⟨by ((first | refine dk_none ?_ | u_none);intro e he;simp at he), ?_⟩)
 ((first | refine wk_in' hP rfl (fun _ h₁=>?_) | refine Goes.step rfl (fun _ h₁=>?_));replace hT:=(FT.rely H) hT h₁;clear h₁;rw [stepG_inBlock];simp only [goes_go];refine ⟨by ((first | refine dk_none ?_ | u_none);intro e he;simp at he), ?_⟩)
 ((first | refine wk_in' hP rfl (fun _ h₁=>?_) | refine Goes.step rfl (fun _ h₁=>?_));replace hT:=(FT.rely H) hT h₁;clear h₁;rw [stepG_region];simp only [goes_go,List.size_toArray,List.length_cons,List.length_nil,Nat.reduceAdd,Nat.zero_add,List.range,List.range.loop];refine ⟨by ((first | refine dk_none ?_ | u_none);intro e he;simp at he), ?_⟩)
 ((first | refine wk_in' hP rfl (fun _ h₁=>?_) | refine Goes.step rfl (fun _ h₁=>?_));replace hT:=(FT.rely H) hT h₁;clear h₁;refine goes_oper_k rfl rfl (by k_ne) (fun K hK=>?_);go_simp;refine hK _ _ ⟨by ((first | refine dk_none ?_ | u_none);intro e he;have hm:=mem_listed he;simp [go_sem, *] at hm), ?_⟩;clear hK K;try w_num)
 ((first | refine wk_in' hP rfl (fun _ h₁=>?_) | refine Goes.step rfl (fun _ h₁=>?_));replace hT:=(FT.rely H) hT h₁;clear h₁;refine goes_oper_k rfl rfl (by k_ne) (fun K hK=>?_);go_simp;refine hK _ _ ⟨by ((first | refine dk_none ?_ | u_none);intro e he;have hm:=mem_listed he;simp [go_sem, *] at hm), ?_⟩;clear hK K;try w_num)
 ((first | refine wk_in' hP rfl (fun _ h₁=>?_) | refine Goes.step rfl (fun _ h₁=>?_));replace hT:=(FT.rely H) hT h₁;clear h₁;rw [stepG_region_end];simp only [goes_go];refine ⟨by ((first | refine dk_none ?_ | u_none);intro e he;simp at he), ?_⟩)
 ((first | refine wk_in' hP rfl (fun _ h₁=>?_) | refine Goes.step rfl (fun _ h₁=>?_));replace hT:=(FT.rely H) hT h₁;clear h₁;rw [stepG_inLoop];simp only [goes_go];refine ⟨by ((first | refine dk_none ?_ | u_none);intro e he;simp at he), ?_⟩)
 ((first | refine wk_in' hP rfl (fun _ h₁=>?_) | refine Goes.step rfl (fun _ h₁=>?_));replace hT:=(FT.rely H) hT h₁;clear h₁;rw [stepG_seq];simp only [goes_go];refine ⟨by ((first | refine dk_none ?_ | u_none);intro e he;simp at he), ?_⟩)
 ((first | refine wk_in' hP rfl (fun _ h₁=>?_) | refine Goes.step rfl (fun _ h₁=>?_));replace hT:=(FT.rely H) hT h₁;clear h₁;rw [stepG_region];simp only [goes_go,List.size_toArray,List.length_cons,List.length_nil,Nat.zero_add,List.range,List.range.loop];refine ⟨by ((first | refine dk_none ?_ | u_none);intro e he;simp at he), ?_⟩)
 ((first | refine wk_in' hP rfl (fun _ h₁=>?_) | refine Goes.step rfl (fun _ h₁=>?_));replace hT:=(FT.rely H) hT h₁;clear h₁;refine goes_oper_k rfl rfl (by k_ne) (fun K hK=>?_);go_simp;refine hK _ _ ⟨by ((first | refine dk_none ?_ | u_none);intro e he;have hm:=mem_listed he;simp [go_sem, *] at hm), ?_⟩;clear hK K;try w_num)
 ((first | refine wk_in' hP rfl (fun _ h₁=>?_) | refine Goes.step rfl (fun _ h₁=>?_));replace hT:=(FT.rely H) hT h₁;clear h₁;rw [stepG_region_end];simp only [goes_go];refine ⟨by ((first | refine dk_none ?_ | u_none);intro e he;simp at he), ?_⟩)
 ((first | refine wk_in' hP rfl (fun _ h₁=>?_) | refine Goes.step rfl (fun _ h₁=>?_));replace hT:=(FT.rely H) hT h₁;clear h₁;rw [stepG_seq];simp only [goes_go];refine ⟨by ((first | refine dk_none ?_ | u_none);intro e he;simp at he), ?_⟩)
 ((first | refine wk_in' hP rfl (fun _ h₁=>?_) | refine Goes.step rfl (fun _ h₁=>?_));replace hT:=(FT.rely H) hT h₁;clear h₁;rw [stepG_cond (t:=true) rfl];simp only [goes_go, ↓reduceIte];refine ⟨by ((first | refine dk_none ?_ | u_none);intro e he;simp at he), ?_⟩)
 ((first | refine wk_in' hP rfl (fun _ h₁=>?_) | refine Goes.step rfl (fun _ h₁=>?_));replace hT:=(FT.rely H) hT h₁;clear h₁;rw [stepG_skip];simp only [goes_go];refine ⟨by ((first | refine dk_none ?_ | u_none);intro e he;simp at he), ?_⟩)
 ((first | refine wk_in' hP rfl (fun _ h₁=>?_) | refine Goes.step rfl (fun _ h₁=>?_));replace hT:=(FT.rely H) hT h₁;clear h₁;rw [stepG_seq];simp only [goes_go];refine ⟨by ((first | refine dk_none ?_ | u_none);intro e he;simp at he), ?_⟩)
 ((first | refine wk_in' hP rfl (fun _ h₁=>?_) | refine Goes.step rfl (fun _ h₁=>?_));replace hT:=(FT.rely H) hT h₁;clear h₁;rw [stepG_block];simp only [goes_go];refine ⟨by ((first | refine dk_none ?_ | u_none);intro e he;simp at he), ?_⟩)
 ((first | refine wk_in' hP rfl (fun _ h₁=>?_) | refine Goes.step rfl (fun _ h₁=>?_));replace hT:=(FT.rely H) hT h₁;clear h₁;rw [stepG_seq];simp only [goes_go];refine ⟨by ((first | refine dk_none ?_ | u_none);intro e he;simp at he), ?_⟩)
 ((first | refine wk_in' hP rfl (fun _ h₁=>?_) | refine Goes.step rfl (fun _ h₁=>?_));replace hT:=(FT.rely H) hT h₁;clear h₁;rw [stepG_region];simp only [goes_go,List.size_toArray,List.length_cons,List.length_nil,Nat.reduceAdd,Nat.zero_add,List.range,List.range.loop];refine ⟨by ((first | refine dk_none ?_ | u_none);intro e he;simp at he), ?_⟩)
 ((first | refine wk_in' hP rfl (fun _ h₁=>?_) | refine Goes.step rfl (fun _ h₁=>?_));replace hT:=(FT.rely H) hT h₁;clear h₁;refine goes_oper_k rfl rfl (by k_ne) (fun K hK=>?_);go_simp;refine hK _ _ ⟨by ((first | refine dk_none ?_ | u_none);intro e he;have hm:=mem_listed he;simp [go_sem, *] at hm), ?_⟩;clear hK K;try w_num)
 ((first | refine wk_in' hP rfl (fun _ h₁=>?_) | refine Goes.step rfl (fun _ h₁=>?_));replace hT:=(FT.rely H) hT h₁;clear h₁;refine goes_oper_k rfl rfl (by k_ne) (fun K hK=>?_);go_simp;refine hK _ _ ⟨by ((first | refine dk_none ?_ | u_none);intro e he;have hm:=mem_listed he;simp [go_sem, *] at hm), ?_⟩;clear hK K;try w_num)
 ((first | refine wk_in' hP rfl (fun _ h₁=>?_) | refine Goes.step rfl (fun _ h₁=>?_));replace hT:=(FT.rely H) hT h₁;clear h₁;rw [stepG_region_end];simp only [goes_go];refine ⟨by ((first | refine dk_none ?_ | u_none);intro e he;simp at he), ?_⟩)
 ((first | refine wk_in' hP rfl (fun _ h₁=>?_) | refine Goes.step rfl (fun _ h₁=>?_));replace hT:=(FT.rely H) hT h₁;clear h₁;rw [stepG_region];simp only [goes_go,List.size_toArray,List.length_cons,List.length_nil,Nat.reduceAdd,Nat.zero_add,List.range,List.range.loop];refine ⟨by ((first | refine dk_none ?_ | u_none);intro e he;simp at he), ?_⟩)
 ((first | refine wk_in' hP rfl (fun _ h₁=>?_) | refine Goes.step rfl (fun _ h₁=>?_));replace hT:=(FT.rely H) hT h₁;clear h₁;refine goes_oper_k rfl rfl (by k_ne) (fun K hK=>?_);go_simp;refine hK _ _ ⟨by ((first | refine dk_none ?_ | u_none);intro e he;have hm:=mem_listed he;simp [go_sem, *] at hm), ?_⟩;clear hK K;try w_num)
 ((first | refine wk_in' hP rfl (fun _ h₁=>?_) | refine Goes.step rfl (fun _ h₁=>?_));replace hT:=(FT.rely H) hT h₁;clear h₁;refine goes_oper_k rfl rfl (by k_ne) (fun K hK=>?_);go_simp;refine hK _ _ ⟨by ((first | refine dk_none ?_ | u_none);intro e he;have hm:=mem_listed he;simp [go_sem, *] at hm), ?_⟩;clear hK K;try w_num)
 ((first | refine wk_in' hP rfl (fun _ h₁=>?_) | refine Goes.step rfl (fun _ h₁=>?_));replace hT:=(FT.rely H) hT h₁;clear h₁;refine goes_oper_k rfl rfl (by k_ne) (fun K hK=>?_);have:=FW.ck hT.f;go_simp;refine hK _ _ ⟨dk_read fun e he=>(by (have hm:=mem_listed he;simp [go_sem, *] at hm;try (subst hm;exact (evK_read kk)))), ?_⟩;clear hK K)
 ((first | refine wk_in' hP rfl (fun _ h₁=>?_) | refine Goes.step rfl (fun _ h₁=>?_));replace hT:=(FT.rely H) hT h₁;clear h₁;refine goes_oper_k rfl rfl (by k_ne) (fun K hK=>?_);go_simp;refine hK _ _ ⟨by ((first | refine dk_none ?_ | u_none);intro e he;have hm:=mem_listed he;simp [go_sem, *] at hm), ?_⟩;clear hK K;try w_num)
 ((first | refine wk_in' hP rfl (fun _ h₁=>?_) | refine Goes.step rfl (fun _ h₁=>?_));replace hT:=(FT.rely H) hT h₁;clear h₁;refine goes_oper_k rfl rfl (by k_ne) (fun K hK=>?_);go_simp;refine hK _ _ ⟨by ((first | refine dk_none ?_ | u_none);intro e he;have hm:=mem_listed he;simp [go_sem, *] at hm), ?_⟩;clear hK K;try w_num)
 ((first | refine wk_in' hP rfl (fun _ h₁=>?_) | refine Goes.step rfl (fun _ h₁=>?_));replace hT:=(FT.rely H) hT h₁;clear h₁;refine goes_oper_k rfl rfl (by k_ne) (fun K hK=>?_);go_simp;refine hK _ _ ⟨by ((first | refine dk_none ?_ | u_none);intro e he;have hm:=mem_listed he;simp [go_sem, *] at hm), ?_⟩;clear hK K;try w_num)
 ((first | refine wk_in' hP rfl (fun _ h₁=>?_) | refine Goes.step rfl (fun _ h₁=>?_));replace hT:=(FT.rely H) hT h₁;clear h₁;refine goes_oper_k rfl rfl (by k_ne) (fun K hK=>?_);go_simp;refine hK _ _ ⟨by ((first | refine dk_none ?_ | u_none);intro e he;have hm:=mem_listed he;simp [go_sem, *] at hm), ?_⟩;clear hK K;try w_num)
 ((first | refine wk_in' hP rfl (fun _ h₁=>?_) | refine Goes.step rfl (fun _ h₁=>?_));replace hT:=(FT.rely H) hT h₁;clear h₁;refine goes_oper_k rfl rfl (by k_ne) (fun K hK=>?_);go_simp;refine hK _ _ ⟨by ((first | refine dk_none ?_ | u_none);intro e he;have hm:=mem_listed he;simp [go_sem, *] at hm), ?_⟩;clear hK K;try w_num)
 ((first | refine wk_in' hP rfl (fun _ h₁=>?_) | refine Goes.step rfl (fun _ h₁=>?_));replace hT:=(FT.rely H) hT h₁;clear h₁;have hst1:=(hT).cellAt (k:=4) (by omega);have hst2:=(hT).thaw 4;refine goes_oper_k rfl rfl (by k_ne) (fun K hK=>?_);go_simp;refine hK _ _ ⟨dk_own (hT).own (hT).ne (fun e he=>by (have hm:=mem_listed he;simp [go_sem,storedEv,hst1,hst2] at hm;try (subst hm;exact evK_own (hT).own))), ?_⟩;clear hK K hst1 hst2;replace hT:=(hT).put H (by omega) (bit_4 i))
 ((first | refine wk_in' hP rfl (fun _ h₁=>?_) | refine Goes.step rfl (fun _ h₁=>?_));replace hT:=(FT.rely H) hT h₁;clear h₁;rw [stepG_region_end];simp only [goes_go];refine ⟨by ((first | refine dk_none ?_ | u_none);intro e he;simp at he), ?_⟩)
 ((first | refine wk_in' hP rfl (fun _ h₁=>?_) | refine Goes.step rfl (fun _ h₁=>?_));replace hT:=(FT.rely H) hT h₁;clear h₁;rw [stepG_inBlock];simp only [goes_go];refine ⟨by ((first | refine dk_none ?_ | u_none);intro e he;simp at he), ?_⟩)
 ((first | refine wk_in' hP rfl (fun _ h₁=>?_) | refine Goes.step rfl (fun _ h₁=>?_));replace hT:=(FT.rely H) hT h₁;clear h₁;rw [stepG_region];simp only [goes_go,List.size_toArray,List.length_cons,List.length_nil,Nat.reduceAdd,Nat.zero_add,List.range,List.range.loop];refine ⟨by ((first | refine dk_none ?_ | u_none);intro e he;simp at he), ?_⟩)
 ((first | refine wk_in' hP rfl (fun _ h₁=>?_) | refine Goes.step rfl (fun _ h₁=>?_));replace hT:=(FT.rely H) hT h₁;clear h₁;refine goes_oper_k rfl rfl (by k_ne) (fun K hK=>?_);go_simp;refine hK _ _ ⟨by ((first | refine dk_none ?_ | u_none);intro e he;have hm:=mem_listed he;simp [go_sem, *] at hm), ?_⟩;clear hK K;try w_num)
 ((first | refine wk_in' hP rfl (fun _ h₁=>?_) | refine Goes.step rfl (fun _ h₁=>?_));replace hT:=(FT.rely H) hT h₁;clear h₁;refine goes_oper_k rfl rfl (by k_ne) (fun K hK=>?_);go_simp;refine hK _ _ ⟨by ((first | refine dk_none ?_ | u_none);intro e he;have hm:=mem_listed he;simp [go_sem, *] at hm), ?_⟩;clear hK K;try w_num)
 ((first | refine wk_in' hP rfl (fun _ h₁=>?_) | refine Goes.step rfl (fun _ h₁=>?_));replace hT:=(FT.rely H) hT h₁;clear h₁;rw [stepG_region_end];simp only [goes_go];refine ⟨by ((first | refine dk_none ?_ | u_none);intro e he;simp at he), ?_⟩)
 ((first | refine wk_in' hP rfl (fun _ h₁=>?_) | refine Goes.step rfl (fun _ h₁=>?_));replace hT:=(FT.rely H) hT h₁;clear h₁;rw [stepG_inLoop];simp only [goes_go];refine ⟨by ((first | refine dk_none ?_ | u_none);intro e he;simp at he), ?_⟩)
 ((first | refine wk_in' hP rfl (fun _ h₁=>?_) | refine Goes.step rfl (fun _ h₁=>?_));replace hT:=(FT.rely H) hT h₁;clear h₁;rw [stepG_seq];simp only [goes_go];refine ⟨by ((first | refine dk_none ?_ | u_none);intro e he;simp at he), ?_⟩)
 ((first | refine wk_in' hP rfl (fun _ h₁=>?_) | refine Goes.step rfl (fun _ h₁=>?_));replace hT:=(FT.rely H) hT h₁;clear h₁;rw [stepG_region];simp only [goes_go,List.size_toArray,List.length_cons,List.length_nil,Nat.zero_add,List.range,List.range.loop];refine ⟨by ((first | refine dk_none ?_ | u_none);intro e he;simp at he), ?_⟩)
 ((first | refine wk_in' hP rfl (fun _ h₁=>?_) | refine Goes.step rfl (fun _ h₁=>?_));replace hT:=(FT.rely H) hT h₁;clear h₁;refine goes_oper_k rfl rfl (by k_ne) (fun K hK=>?_);go_simp;refine hK _ _ ⟨by ((first | refine dk_none ?_ | u_none);intro e he;have hm:=mem_listed he;simp [go_sem, *] at hm), ?_⟩;clear hK K;try w_num)
 ((first | refine wk_in' hP rfl (fun _ h₁=>?_) | refine Goes.step rfl (fun _ h₁=>?_));replace hT:=(FT.rely H) hT h₁;clear h₁;rw [stepG_region_end];simp only [goes_go];refine ⟨by ((first | refine dk_none ?_ | u_none);intro e he;simp at he), ?_⟩)
 ((first | refine wk_in' hP rfl (fun _ h₁=>?_) | refine Goes.step rfl (fun _ h₁=>?_));replace hT:=(FT.rely H) hT h₁;clear h₁;rw [stepG_seq];simp only [goes_go];refine ⟨by ((first | refine dk_none ?_ | u_none);intro e he;simp at he), ?_⟩)
 ((first | refine wk_in' hP rfl (fun _ h₁=>?_) | refine Goes.step rfl (fun _ h₁=>?_));replace hT:=(FT.rely H) hT h₁;clear h₁;rw [stepG_cond (t:=true) rfl];simp only [goes_go, ↓reduceIte];refine ⟨by ((first | refine dk_none ?_ | u_none);intro e he;simp at he), ?_⟩)
 ((first | refine wk_in' hP rfl (fun _ h₁=>?_) | refine Goes.step rfl (fun _ h₁=>?_));replace hT:=(FT.rely H) hT h₁;clear h₁;rw [stepG_skip];simp only [goes_go];refine ⟨by ((first | refine dk_none ?_ | u_none);intro e he;simp at he), ?_⟩)
 ((first | refine wk_in' hP rfl (fun _ h₁=>?_) | refine Goes.step rfl (fun _ h₁=>?_));replace hT:=(FT.rely H) hT h₁;clear h₁;rw [stepG_seq];simp only [goes_go];refine ⟨by ((first | refine dk_none ?_ | u_none);intro e he;simp at he), ?_⟩)
 ((first | refine wk_in' hP rfl (fun _ h₁=>?_) | refine Goes.step rfl (fun _ h₁=>?_));replace hT:=(FT.rely H) hT h₁;clear h₁;rw [stepG_block];simp only [goes_go];refine ⟨by ((first | refine dk_none ?_ | u_none);intro e he;simp at he), ?_⟩)
 ((first | refine wk_in' hP rfl (fun _ h₁=>?_) | refine Goes.step rfl (fun _ h₁=>?_));replace hT:=(FT.rely H) hT h₁;clear h₁;rw [stepG_seq];simp only [goes_go];refine ⟨by ((first | refine dk_none ?_ | u_none);intro e he;simp at he), ?_⟩)
 ((first | refine wk_in' hP rfl (fun _ h₁=>?_) | refine Goes.step rfl (fun _ h₁=>?_));replace hT:=(FT.rely H) hT h₁;clear h₁;rw [stepG_region];simp only [goes_go,List.size_toArray,List.length_cons,List.length_nil,Nat.reduceAdd,Nat.zero_add,List.range,List.range.loop];refine ⟨by ((first | refine dk_none ?_ | u_none);intro e he;simp at he), ?_⟩)
 ((first | refine wk_in' hP rfl (fun _ h₁=>?_) | refine Goes.step rfl (fun _ h₁=>?_));replace hT:=(FT.rely H) hT h₁;clear h₁;refine goes_oper_k rfl rfl (by k_ne) (fun K hK=>?_);go_simp;refine hK _ _ ⟨by ((first | refine dk_none ?_ | u_none);intro e he;have hm:=mem_listed he;simp [go_sem, *] at hm), ?_⟩;clear hK K;try w_num)
 ((first | refine wk_in' hP rfl (fun _ h₁=>?_) | refine Goes.step rfl (fun _ h₁=>?_));replace hT:=(FT.rely H) hT h₁;clear h₁;refine goes_oper_k rfl rfl (by k_ne) (fun K hK=>?_);go_simp;refine hK _ _ ⟨by ((first | refine dk_none ?_ | u_none);intro e he;have hm:=mem_listed he;simp [go_sem, *] at hm), ?_⟩;clear hK K;try w_num)
 ((first | refine wk_in' hP rfl (fun _ h₁=>?_) | refine Goes.step rfl (fun _ h₁=>?_));replace hT:=(FT.rely H) hT h₁;clear h₁;rw [stepG_region_end];simp only [goes_go];refine ⟨by ((first | refine dk_none ?_ | u_none);intro e he;simp at he), ?_⟩)
 ((first | refine wk_in' hP rfl (fun _ h₁=>?_) | refine Goes.step rfl (fun _ h₁=>?_));replace hT:=(FT.rely H) hT h₁;clear h₁;rw [stepG_region];simp only [goes_go,List.size_toArray,List.length_cons,List.length_nil,Nat.reduceAdd,Nat.zero_add,List.range,List.range.loop];refine ⟨by ((first | refine dk_none ?_ | u_none);intro e he;simp at he), ?_⟩)
 ((first | refine wk_in' hP rfl (fun _ h₁=>?_) | refine Goes.step rfl (fun _ h₁=>?_));replace hT:=(FT.rely H) hT h₁;clear h₁;refine goes_oper_k rfl rfl (by k_ne) (fun K hK=>?_);go_simp;refine hK _ _ ⟨by ((first | refine dk_none ?_ | u_none);intro e he;have hm:=mem_listed he;simp [go_sem, *] at hm), ?_⟩;clear hK K;try w_num)
 ((first | refine wk_in' hP rfl (fun _ h₁=>?_) | refine Goes.step rfl (fun _ h₁=>?_));replace hT:=(FT.rely H) hT h₁;clear h₁;refine goes_oper_k rfl rfl (by k_ne) (fun K hK=>?_);go_simp;refine hK _ _ ⟨by ((first | refine dk_none ?_ | u_none);intro e he;have hm:=mem_listed he;simp [go_sem, *] at hm), ?_⟩;clear hK K;try w_num)
 ((first | refine wk_in' hP rfl (fun _ h₁=>?_) | refine Goes.step rfl (fun _ h₁=>?_));replace hT:=(FT.rely H) hT h₁;clear h₁;refine goes_oper_k rfl rfl (by k_ne) (fun K hK=>?_);have:=FW.ck hT.f;go_simp;refine hK _ _ ⟨dk_read fun e he=>(by (have hm:=mem_listed he;simp [go_sem, *] at hm;try (subst hm;exact (evK_read kk)))), ?_⟩;clear hK K)
 ((first | refine wk_in' hP rfl (fun _ h₁=>?_) | refine Goes.step rfl (fun _ h₁=>?_));replace hT:=(FT.rely H) hT h₁;clear h₁;refine goes_oper_k rfl rfl (by k_ne) (fun K hK=>?_);go_simp;refine hK _ _ ⟨by ((first | refine dk_none ?_ | u_none);intro e he;have hm:=mem_listed he;simp [go_sem, *] at hm), ?_⟩;clear hK K;try w_num)
 ((first | refine wk_in' hP rfl (fun _ h₁=>?_) | refine Goes.step rfl (fun _ h₁=>?_));replace hT:=(FT.rely H) hT h₁;clear h₁;refine goes_oper_k rfl rfl (by k_ne) (fun K hK=>?_);go_simp;refine hK _ _ ⟨by ((first | refine dk_none ?_ | u_none);intro e he;have hm:=mem_listed he;simp [go_sem, *] at hm), ?_⟩;clear hK K;try w_num)
 ((first | refine wk_in' hP rfl (fun _ h₁=>?_) | refine Goes.step rfl (fun _ h₁=>?_));replace hT:=(FT.rely H) hT h₁;clear h₁;refine goes_oper_k rfl rfl (by k_ne) (fun K hK=>?_);go_simp;refine hK _ _ ⟨by ((first | refine dk_none ?_ | u_none);intro e he;have hm:=mem_listed he;simp [go_sem, *] at hm), ?_⟩;clear hK K;try w_num)
 ((first | refine wk_in' hP rfl (fun _ h₁=>?_) | refine Goes.step rfl (fun _ h₁=>?_));replace hT:=(FT.rely H) hT h₁;clear h₁;refine goes_oper_k rfl rfl (by k_ne) (fun K hK=>?_);go_simp;refine hK _ _ ⟨by ((first | refine dk_none ?_ | u_none);intro e he;have hm:=mem_listed he;simp [go_sem, *] at hm), ?_⟩;clear hK K;try w_num)
 ((first | refine wk_in' hP rfl (fun _ h₁=>?_) | refine Goes.step rfl (fun _ h₁=>?_));replace hT:=(FT.rely H) hT h₁;clear h₁;refine goes_oper_k rfl rfl (by k_ne) (fun K hK=>?_);go_simp;refine hK _ _ ⟨by ((first | refine dk_none ?_ | u_none);intro e he;have hm:=mem_listed he;simp [go_sem, *] at hm), ?_⟩;clear hK K;try w_num)
 ((first | refine wk_in' hP rfl (fun _ h₁=>?_) | refine Goes.step rfl (fun _ h₁=>?_));replace hT:=(FT.rely H) hT h₁;clear h₁;have hst1:=(hT).cellAt (k:=5) (by omega);have hst2:=(hT).thaw 5;refine goes_oper_k rfl rfl (by k_ne) (fun K hK=>?_);go_simp;refine hK _ _ ⟨dk_own (hT).own (hT).ne (fun e he=>by (have hm:=mem_listed he;simp [go_sem,storedEv,hst1,hst2] at hm;try (subst hm;exact evK_own (hT).own))), ?_⟩;clear hK K hst1 hst2;replace hT:=(hT).put H (by omega) (bit_5 i))
 ((first | refine wk_in' hP rfl (fun _ h₁=>?_) | refine Goes.step rfl (fun _ h₁=>?_));replace hT:=(FT.rely H) hT h₁;clear h₁;rw [stepG_region_end];simp only [goes_go];refine ⟨by ((first | refine dk_none ?_ | u_none);intro e he;simp at he), ?_⟩)
 ((first | refine wk_in' hP rfl (fun _ h₁=>?_) | refine Goes.step rfl (fun _ h₁=>?_));replace hT:=(FT.rely H) hT h₁;clear h₁;rw [stepG_inBlock];simp only [goes_go];refine ⟨by ((first | refine dk_none ?_ | u_none);intro e he;simp at he), ?_⟩)
 ((first | refine wk_in' hP rfl (fun _ h₁=>?_) | refine Goes.step rfl (fun _ h₁=>?_));replace hT:=(FT.rely H) hT h₁;clear h₁;rw [stepG_region];simp only [goes_go,List.size_toArray,List.length_cons,List.length_nil,Nat.reduceAdd,Nat.zero_add,List.range,List.range.loop];refine ⟨by ((first | refine dk_none ?_ | u_none);intro e he;simp at he), ?_⟩)
 ((first | refine wk_in' hP rfl (fun _ h₁=>?_) | refine Goes.step rfl (fun _ h₁=>?_));replace hT:=(FT.rely H) hT h₁;clear h₁;refine goes_oper_k rfl rfl (by k_ne) (fun K hK=>?_);go_simp;refine hK _ _ ⟨by ((first | refine dk_none ?_ | u_none);intro e he;have hm:=mem_listed he;simp [go_sem, *] at hm), ?_⟩;clear hK K;try w_num)
 ((first | refine wk_in' hP rfl (fun _ h₁=>?_) | refine Goes.step rfl (fun _ h₁=>?_));replace hT:=(FT.rely H) hT h₁;clear h₁;refine goes_oper_k rfl rfl (by k_ne) (fun K hK=>?_);go_simp;refine hK _ _ ⟨by ((first | refine dk_none ?_ | u_none);intro e he;have hm:=mem_listed he;simp [go_sem, *] at hm), ?_⟩;clear hK K;try w_num)
 ((first | refine wk_in' hP rfl (fun _ h₁=>?_) | refine Goes.step rfl (fun _ h₁=>?_));replace hT:=(FT.rely H) hT h₁;clear h₁;rw [stepG_region_end];simp only [goes_go];refine ⟨by ((first | refine dk_none ?_ | u_none);intro e he;simp at he), ?_⟩)
 ((first | refine wk_in' hP rfl (fun _ h₁=>?_) | refine Goes.step rfl (fun _ h₁=>?_));replace hT:=(FT.rely H) hT h₁;clear h₁;rw [stepG_inLoop];simp only [goes_go];refine ⟨by ((first | refine dk_none ?_ | u_none);intro e he;simp at he), ?_⟩)
 ((first | refine wk_in' hP rfl (fun _ h₁=>?_) | refine Goes.step rfl (fun _ h₁=>?_));replace hT:=(FT.rely H) hT h₁;clear h₁;rw [stepG_seq];simp only [goes_go];refine ⟨by ((first | refine dk_none ?_ | u_none);intro e he;simp at he), ?_⟩)
 ((first | refine wk_in' hP rfl (fun _ h₁=>?_) | refine Goes.step rfl (fun _ h₁=>?_));replace hT:=(FT.rely H) hT h₁;clear h₁;rw [stepG_region];simp only [goes_go,List.size_toArray,List.length_cons,List.length_nil,Nat.zero_add,List.range,List.range.loop];refine ⟨by ((first | refine dk_none ?_ | u_none);intro e he;simp at he), ?_⟩)
 ((first | refine wk_in' hP rfl (fun _ h₁=>?_) | refine Goes.step rfl (fun _ h₁=>?_));replace hT:=(FT.rely H) hT h₁;clear h₁;refine goes_oper_k rfl rfl (by k_ne) (fun K hK=>?_);go_simp;refine hK _ _ ⟨by ((first | refine dk_none ?_ | u_none);intro e he;have hm:=mem_listed he;simp [go_sem, *] at hm), ?_⟩;clear hK K;try w_num)
 ((first | refine wk_in' hP rfl (fun _ h₁=>?_) | refine Goes.step rfl (fun _ h₁=>?_));replace hT:=(FT.rely H) hT h₁;clear h₁;rw [stepG_region_end];simp only [goes_go];refine ⟨by ((first | refine dk_none ?_ | u_none);intro e he;simp at he), ?_⟩)
 ((first | refine wk_in' hP rfl (fun _ h₁=>?_) | refine Goes.step rfl (fun _ h₁=>?_));replace hT:=(FT.rely H) hT h₁;clear h₁;rw [stepG_seq];simp only [goes_go];refine ⟨by ((first | refine dk_none ?_ | u_none);intro e he;simp at he), ?_⟩)
 ((first | refine wk_in' hP rfl (fun _ h₁=>?_) | refine Goes.step rfl (fun _ h₁=>?_));replace hT:=(FT.rely H) hT h₁;clear h₁;rw [stepG_cond (t:=false) rfl];simp only [goes_go,Bool.false_eq_true, ↓reduceIte];refine ⟨by ((first | refine dk_none ?_ | u_none);intro e he;simp at he), ?_⟩)
 ((first | refine wk_in' hP rfl (fun _ h₁=>?_) | refine Goes.step rfl (fun _ h₁=>?_));replace hT:=(FT.rely H) hT h₁;clear h₁;refine goes_exit rfl ?_;refine ⟨by ((first | refine dk_none ?_ | u_none);intro e he;simp at he), ?_⟩)
 exact work4_b H hi hT _ _ _ _ _ _ _ _ _ _ _ _ _ _ _ _
theorem through2_call (H:Cs c 2 1 bn bc bo) {bt:Nat} (hO:FO c 2 1 bn bc bo kb i M w) (hM:M bt) (hS:w.heap[bt]? = some (.cells (setC i 1 1).toArray 4)) (b:Frame) {cs:List Frame}
  (K:∀ M' v' w',R7 c 2 1 bn bc bo kb i bt true false v' M' w'→c.Wk i kb M' (G (b.finish (.tuple #[v',.int .i64 0])) cs) w') :
  c.Wk i kb M (G (Frame.enter Tryd.prog 66 #[.int .i64 2,.slice (some ⟨bt,0,none⟩) 1 1] .normal) (b::cs)) w:=by
 have hP:c.P=wf Ghw.prog Tryd.prog.funcs:=H.P.trans rfl;have hlt:bt<w.heap.size:=(Array.getElem?_eq_some_iff.1 hS).1;have hcell:∀ (τ:Nat→Question→Nat) (j:Nat),j<1→(w.retape τ).cell? ⟨bt,j,none⟩=some (.bool (bitsOf i j)):=fun τ j hj=>by
  show w.cell? ⟨bt,j,none⟩=_
  simp only [World.cell?,hS];exact setC_get i 1 j hj
 have e:Frame.enter Tryd.prog 66 #[.int .i64 2,.slice (some ⟨bt,0,none⟩) 1 1] .normal=Frame.enter c.P 66 #[.int .i64 2,.slice (some ⟨bt,0,none⟩) 1 1] .normal:=by rw [H.P]
 rw [e];have hcr:CRel Ghw.prog (fun _=>False) (Tryd.f66.body.getD .skip) (Tryd.f66.body.getD .skip):=fnB_crel (fun _ h=>by cases h) Ghw.ok66 rfl;have hgl:=H.gl;have hC:=hO.out.C.2;refine wk_call (Q:=Ghw.prog) (F:=Tryd.prog.funcs) (Gl:=fun _=>False) (c0:=floorF Ghw.prog.funcs.size) hP Ghw.funs Ghw.self (floor_ok _) (f:=66) (xs:=#[.int .i64 2,.slice (some ⟨bt,0,none⟩) 1 1]) (gw:=w) (Rv:=fun v w'=>∃ r,v=.tuple #[r,.int .i64 0]∧OwnL w' w.heap.size r (Ghw.thr 2 (bitsOf i)))
  (fun v w τ h=>h) (p:=idInj bt) ((ARel.one (.int .i64 2)).push (.slice 0 none 1 1 ⟨rfl,rfl⟩)) ⟨?_, ?_, ?_⟩ rfl rfl (fun _ h=>h.elim) (fun a b h=>h.2 ▸ hM) Ghw.func66 Tryd.func66 rfl rfl rfl rfl hcr hcr (fun τ _=>?_) (FW.kept H) hO.f hO.out ?_
 · rintro a b ⟨rfl,rfl⟩
   exact ⟨_,_,hS,hS,.cells 4 (0,0) (bools_rel _ _ _ _)⟩
 · show Tryd.prog.globals.size≤_
   omega
 · show Tryd.prog.globals.size≤_
   omega
 · refine (Ghw.Through2 bt (bitsOf i) (w.retape τ) hlt (hcell τ)).mono ?_
   rintro e w' ⟨⟨v,rfl,ho⟩,_⟩;exact ⟨_,rfl,v,rfl,ho⟩
 · rintro q M' _ v'' gw' w' hle hv hW hM' ⟨r,rfl,ho⟩ hO' hF'
   obtain ⟨r',rfl,hr⟩:=tuple2_rel hv;refine K M' r' w' ⟨⟨hF',hO'⟩,fun e=>(by cases e),fun _=>row_of (by omega) hr ho hW hM',fun e=>(by cases e),fun e=>(by cases e)⟩
set_option maxRecDepth 100000 in
set_option maxHeartbeats 4000000 in
theorem work2_b (H:Cs c 2 1 bn bc bo) (hi:i<c.n) {bt:Nat} (hT:FT c 2 1 bn bc bo kb i bt 1 M w) (u6 u8 u9 u10 u11 u12 u13 u14 u15 u16 u17 u18 u19 u20 u21 u22:Value) :
  c.Wk i kb M (G (b64.at ⟨#[.pointer (some ⟨c.Wg,0,none⟩),.pointer (some ⟨bc,0,none⟩),.pointer (some ⟨kb,0,none⟩),.pointer (some ⟨bn,0,none⟩),.pointer (some ⟨bo,0,none⟩),.slice (some ⟨bt,0,none⟩) 1 1,u6,.int .i64 1,u8,u9,u10,u11,u12,u13,u14,u15,u16,u17,u18,u19,u20,u21,u22,undef,undef,undef,undef,undef,undef,undef,undef,undef],[dcall 65 #[.pointer (some ⟨c.Wg,0,none⟩)]]⟩ [.code (.region 7 ops7 true)]) [bot]) w:=by
 have hP:=H.P;refine wk_region (by rw [hP];kernel_rfl) fun w₁ h₁ t=>?_
 have hT1:=hT.rely H (w':={ w₁ with drawn:=w₁.drawn+1 }) ⟨h₁.own,h₁.read,h₁.size,h₁.live,h₁.pay,h₁.cell⟩;refine wk_order (inv7 c 2 1 bn bc bo kb i bt u6 u8 u9 u10 u11 u12 u13 u14 u15 u16 u17 u18 u19 u20 u21 u22) ?step ?done ops7.size t _ _ M _ ⟨false,false,false,false,false,false,false,false,false,false,undef,rfl,rfl,rfl,(fun e=>by cases e),(fun e=>by cases e),⟨hT1.f,hT1.out⟩,fun _=>⟨hT1.own,hT1.t⟩,fun e=>(by cases e),fun e=>(by cases e),fun e=>(by cases e)⟩
 case done =>
  rintro f _ _ M w ⟨l0,l1,l2,l3,l4,l5,l6,l7,l8,l9,v,rfl,rfl,hf,_,_,hR⟩ hd;have h49:l4=true∧l9=true:=by
   rcases hd with rfl | hd
   · have:=Bool.toNat_le l0;have:=Bool.toNat_le l1;have:=Bool.toNat_le l2;have:=Bool.toNat_le l3;have:=Bool.toNat_le l5;have:=Bool.toNat_le l6;have:=Bool.toNat_le l7;have:=Bool.toNat_le l8
     cases l4 <;> cases l9 <;> simp only [Bool.toNat_true,Bool.toNat_false] at hf <;> first | exact ⟨rfl,rfl⟩ | (exfalso;omega)
   · exact all7 _ _ _ _ _ _ _ _ _ _ hd
  obtain ⟨rfl,rfl⟩:=h49
  ((first | refine wk_in' hP rfl (fun _ h₁=>?_) | refine Goes.step rfl (fun _ h₁=>?_));replace hR:=(R7.rely H) hR h₁;clear h₁;rw [stepG_region_end];simp only [goes_go];refine ⟨by ((first | refine dk_none ?_ | u_none);intro e he;simp at he), ?_⟩)
  refine wk_stop fun w₂ h₂=>?_
  replace hR:=hR.rely H h₂;clear h₂;refine ⟨v,25,by rw [H.Res];exact hR.row rfl, ?_⟩;have hK:WgLive 109 c.Wg w₂∧Has c.C i v w₂:=⟨by have:=hR.t.f.live;rwa [H.ty] at this,hR.has rfl⟩;rw [hP,H.ty];clear hR hf hi H hT h₁ hT1;simp only [T7]
  ((first | refine wk_in' hP rfl (fun _ h₁=>?_) | refine Goes.step rfl (fun _ h₁=>?_));replace hK:=kn_rely hK h₁;clear h₁;rw [stepG_end];simp only [goes_go];refine ⟨by ((first | refine dk_none ?_ | u_none);intro e he;simp at he), ?_⟩)
  ((first | refine wk_in' hP rfl (fun _ h₁=>?_) | refine Goes.step rfl (fun _ h₁=>?_));replace hK:=kn_rely hK h₁;clear h₁)
  rw [stepG_unwind_enter rfl Tryd.func65 nm65 rfl];simp only [goes_go];refine ⟨by ((first | refine dk_none ?_ | u_none);intro e he;simp at he), ?_⟩
  walk_nrmf Tryd.f65
  have hA:=@doneN _ link Tryd.prog wgLib (fun _ _=>False) (fun _ _=>False) c.Wg c.C c.n 0 (i+1) v;simp only [body_done,doneFn,Option.getD_some] at hA;exact hA rfl (quitsTail _) _ hK
 case step =>
  rintro f _ _ M w j rest ⟨l0,l1,l2,l3,l4,l5,l6,l7,l8,l9,v,rfl,rfl,hf,h5',h6',hR⟩ hj ih;have h5:=hid h5';have h6:=hid h6';clear h5' h6';have hlt:(i:Int)<(c.n:Int):=by omega
  have hi0:(0:Int)≤(i:Int):=by omega
  simp only [ops7,Tryd.f64,Option.getD_some,T7];rcases ready7 _ _ _ _ _ _ _ _ _ _ j hj with ⟨rfl,rfl⟩ | ⟨rfl,rfl⟩ | ⟨rfl,rfl⟩ | ⟨rfl,rfl⟩ | ⟨rfl,rfl,rfl,rfl⟩ | ⟨rfl,rfl,rfl⟩ | ⟨rfl,rfl,rfl⟩ | ⟨rfl,rfl,rfl⟩ | ⟨rfl,rfl,rfl,rfl,rfl⟩ | ⟨rfl,rfl,rfl,rfl,rfl⟩
  · ((first | refine wk_in' hP rfl (fun _ h₁=>?_) | refine Goes.step rfl (fun _ h₁=>?_));replace hR:=(R7.rely H) hR h₁;clear h₁;refine goes_oper_k rfl rfl (by k_ne) (fun K hK=>?_);have:=FW.co hR.t.f;go_simp;refine hK _ _ ⟨dk_read fun e he=>(by (have hm:=mem_listed he;simp [go_sem, *] at hm;try (subst hm;exact (evK_read (ko H))))), ?_⟩;clear hK K)
    exact ih _ _ _ ⟨true,l1,l2,l3,l4,l5,l6,l7,l8,l9,v,rfl,rfl,by simp only [Bool.toNat_true,Bool.toNat_false] at hf ⊢;omega,h5.out,h6.out,hR⟩
  · ((first | refine wk_in' hP rfl (fun _ h₁=>?_) | refine Goes.step rfl (fun _ h₁=>?_));replace hR:=(R7.rely H) hR h₁;clear h₁;refine goes_oper_k rfl rfl (by k_ne) (fun K hK=>?_);have:=FW.ck hR.t.f;go_simp;refine hK _ _ ⟨dk_read fun e he=>(by (have hm:=mem_listed he;simp [go_sem, *] at hm;try (subst hm;exact (evK_read kk)))), ?_⟩;clear hK K)
    exact ih _ _ _ ⟨l0,true,l2,l3,l4,l5,l6,l7,l8,l9,v,rfl,rfl,by simp only [Bool.toNat_true,Bool.toNat_false] at hf ⊢;omega,h5.out,h6.out,hR⟩
  · ((first | refine wk_in' hP rfl (fun _ h₁=>?_) | refine Goes.step rfl (fun _ h₁=>?_));replace hR:=(R7.rely H) hR h₁;clear h₁;refine goes_oper_k rfl rfl (by k_ne) (fun K hK=>?_);have:=FW.cn hR.t.f;go_simp;refine hK _ _ ⟨dk_read fun e he=>(by (have hm:=mem_listed he;simp [go_sem, *] at hm;try (subst hm;exact (evK_read (kn H))))), ?_⟩;clear hK K)
    exact ih _ _ _ ⟨l0,l1,true,l3,l4,l5,l6,l7,l8,l9,v,rfl,rfl,by simp only [Bool.toNat_true,Bool.toNat_false] at hf ⊢;omega,h5.out,h6.out,hR⟩
  · ((first | refine wk_in' hP rfl (fun _ h₁=>?_) | refine Goes.step rfl (fun _ h₁=>?_));replace hR:=(R7.rely H) hR h₁;clear h₁;refine goes_oper_k rfl rfl (by k_ne) (fun K hK=>?_);go_simp;refine hK _ _ ⟨by ((first | refine dk_none ?_ | u_none);intro e he;have hm:=mem_listed he;simp [go_sem, *] at hm), ?_⟩;clear hK K;try w_num)
    exact ih _ _ _ ⟨l0,l1,l2,true,l4,l5,l6,l7,l8,l9,v,rfl,rfl,by simp only [Bool.toNat_true,Bool.toNat_false] at hf ⊢;omega,h5.out,h6.out,hR⟩
  · -- the row is made
    ((first | refine wk_in' hP rfl (fun _ h₁=>?_) | refine Goes.step rfl (fun _ h₁=>?_));replace hR:=(R7.rely H) hR h₁;clear h₁)
    refine goes_enter rfl rfl (by k_ne) rfl Tryd.func66 nm66 rfl ⟨dk_none (by simp), ?_⟩;obtain ⟨hO,hS,_,_,h94⟩:=hR;obtain rfl:l9=false:=by
     cases l9
     · rfl
     · exact absurd (h94 rfl) (by simp)
    obtain rfl:l5=false:=by
     cases l5
     · rfl
     · exact absurd (h5.out rfl) (by simp)
    obtain rfl:l6=false:=by
     cases l6
     · rfl
     · exact absurd (h6.out rfl) (by simp)
    obtain ⟨hM,hS⟩:=hS rfl;simp only [cond_true]
    walk_nrm
    refine through2_call H hO hM hS _ fun M' v' w' hR'=>?_
    rw [Frame.finish_at];exact ih _ _ _ ⟨l0,l1,true,true,true,false,false,l7,l8,false,v',rfl,rfl,by simp only [Bool.toNat_true,Bool.toNat_false] at hf ⊢;omega,fun _=>rfl,fun _=>rfl,hR'⟩
  · ((first | refine wk_in' hP rfl (fun _ h₁=>?_) | refine Goes.step rfl (fun _ h₁=>?_));replace hR:=(R7.rely H) hR h₁;clear h₁;refine goes_oper_k rfl rfl (by k_ne) (fun K hK=>?_);go_simp;refine hK _ _ ⟨by ((first | refine dk_none ?_ | u_none);intro e he;have hm:=mem_listed he;simp [go_sem, *] at hm), ?_⟩;clear hK K;try w_num)
    exact ih _ _ _ ⟨l0,l1,l2,l3,true,true,l6,l7,l8,l9,v,rfl,rfl,by simp only [Bool.toNat_true,Bool.toNat_false] at hf ⊢;omega,fun _=>rfl,fun _=>rfl,hR⟩
  · ((first | refine wk_in' hP rfl (fun _ h₁=>?_) | refine Goes.step rfl (fun _ h₁=>?_));replace hR:=(R7.rely H) hR h₁;clear h₁;refine goes_oper_k rfl rfl (by k_ne) (fun K hK=>?_);go_simp;refine hK _ _ ⟨by ((first | refine dk_none ?_ | u_none);intro e he;have hm:=mem_listed he;simp [go_sem, *] at hm), ?_⟩;clear hK K;try w_num)
    exact ih _ _ _ ⟨l0,l1,l2,l3,l4,true,true,l7,l8,l9,v,rfl,rfl,by simp only [Bool.toNat_true,Bool.toNat_false] at hf ⊢;omega,h5.out,fun _=>h5.out rfl,hR⟩
  · ((first | refine wk_in' hP rfl (fun _ h₁=>?_) | refine Goes.step rfl (fun _ h₁=>?_));replace hR:=(R7.rely H) hR h₁;clear h₁;refine goes_oper_k rfl rfl (by k_ne) (fun K hK=>?_);go_simp;refine hK _ _ ⟨by ((first | refine dk_none ?_ | u_none);intro e he;have hm:=mem_listed he;simp [go_sem, *] at hm), ?_⟩;clear hK K;try w_num)
    exact ih _ _ _ ⟨l0,l1,l2,l3,l4,true,l6,true,l8,l9,v,rfl,rfl,by simp only [Bool.toNat_true,Bool.toNat_false] at hf ⊢;omega,h5.out,h6.out,hR⟩
  · ((first | refine wk_in' hP rfl (fun _ h₁=>?_) | refine Goes.step rfl (fun _ h₁=>?_));replace hR:=(R7.rely H) hR h₁;clear h₁;refine goes_oper_k rfl rfl (by k_ne) (fun K hK=>?_);go_simp;refine hK _ _ ⟨by ((first | refine dk_none ?_ | u_none);intro e he;have hm:=mem_listed he;simp [go_sem, *] at hm), ?_⟩;clear hK K;try w_num)
    exact ih _ _ _ ⟨true,true,l2,l3,l4,l5,true,l7,true,l9,v,rfl,rfl,by simp only [Bool.toNat_true,Bool.toNat_false] at hf ⊢;omega,h5.out,h6.out,hR⟩
  · refine wk_in' hP rfl fun w₂ h₂=>?_
    replace hR:=hR.rely H h₂;clear h₂;have hR2:=hR.store hi H;obtain ⟨u,hst1,hst2⟩:=hR.cell hi;have hp:=hR.t.f.pay;obtain ⟨g,cap,_,rfl,_⟩:=hR.row rfl;refine goes_oper_k rfl rfl (by k_ne) (fun K hK=>?_);go_simp;refine hK _ _ ⟨dk_cell hp (fun e he=>?_), ?_⟩
    · have hm:=mem_listed he
      simp [go_sem,storedEv,hst1,hst2] at hm;try (subst hm;exact evK_cell)
    clear hK K;exact ih _ _ _ ⟨l0,l1,l2,l3,true,l5,true,l7,true,true,_,rfl,rfl,by simp only [Bool.toNat_true,Bool.toNat_false] at hf ⊢;omega,fun _=>rfl,fun _=>rfl,hR2⟩
set_option maxRecDepth 100000 in
set_option maxHeartbeats 4000000 in
theorem work2_a (H:Cs c 2 1 bn bc bo) (hi:i<c.n) (hO:c.Out kb (fun _=>False) w) (hF:FW c 2 1 bn bc bo kb i w):c.Wk i kb (fun _=>False) (born Tryd.prog (call64 c.Wg bc kb bn bo)) w:=by
 have hP:=H.P;have wr1:IntKind.i64.wrap 1=1:=by decide
 have wr2:IntKind.i64.wrap 2=2:=by decide
 have wr3:IntKind.i64.wrap 3=3:=by decide
 have wr4:IntKind.i64.wrap 4=4:=by decide
 have wr5:IntKind.i64.wrap 5=5:=by decide
 have wr6:IntKind.i64.wrap 6=6:=by decide
 refine wk_in' hP rfl fun w₁ h₁=>?_
 rw [born_step];refine ⟨dk_none (by simp), ?_⟩;replace hF:=FO.rely H ⟨hF,hO⟩ h₁;clear h₁ hO;simp only [body64,Tryd.f64,Option.getD_some,List.replicate,Array.replicate]
 ((first | refine wk_in' hP rfl (fun _ h₁=>?_) | refine Goes.step rfl (fun _ h₁=>?_));replace hF:=(FO.rely H) hF h₁;clear h₁;rw [stepG_seq];simp only [goes_go];refine ⟨by ((first | refine dk_none ?_ | u_none);intro e he;simp at he), ?_⟩)
 ((first | refine wk_in' hP rfl (fun _ h₁=>?_) | refine Goes.step rfl (fun _ h₁=>?_));replace hF:=(FO.rely H) hF h₁;clear h₁;rw [stepG_region];simp only [goes_go,List.size_toArray,List.length_cons,List.length_nil,Nat.zero_add,List.range,List.range.loop];refine ⟨by ((first | refine dk_none ?_ | u_none);intro e he;simp at he), ?_⟩)
 ((first | refine wk_in' hP rfl (fun _ h₁=>?_) | refine Goes.step rfl (fun _ h₁=>?_));replace hF:=(FO.rely H) hF h₁;clear h₁;rw [stepG_defer rfl rfl (by k_ne) rfl];simp only [goes_go];refine ⟨by ((first | refine dk_none ?_ | u_none);intro e he;simp at he), ?_⟩;walk_nrm)
 ((first | refine wk_in' hP rfl (fun _ h₁=>?_) | refine Goes.step rfl (fun _ h₁=>?_));replace hF:=(FO.rely H) hF h₁;clear h₁;rw [stepG_region_end];simp only [goes_go];refine ⟨by ((first | refine dk_none ?_ | u_none);intro e he;simp at he), ?_⟩)
 ((first | refine wk_in' hP rfl (fun _ h₁=>?_) | refine Goes.step rfl (fun _ h₁=>?_));replace hF:=(FO.rely H) hF h₁;clear h₁;rw [stepG_seq];simp only [goes_go];refine ⟨by ((first | refine dk_none ?_ | u_none);intro e he;simp at he), ?_⟩)
 ((first | refine wk_in' hP rfl (fun _ h₁=>?_) | refine Goes.step rfl (fun _ h₁=>?_));replace hF:=(FO.rely H) hF h₁;clear h₁;rw [stepG_region];simp only [goes_go,List.size_toArray,List.length_cons,List.length_nil,Nat.reduceAdd,Nat.zero_add,List.range,List.range.loop];refine ⟨by ((first | refine dk_none ?_ | u_none);intro e he;simp at he), ?_⟩)
 ((first | refine wk_in' hP rfl (fun _ h₁=>?_) | refine Goes.step rfl (fun _ h₁=>?_));replace hF:=(FO.rely H) hF h₁;clear h₁;refine goes_oper_k rfl rfl (by k_ne) (fun K hK=>?_);have:=FW.cc hF.f;go_simp;refine hK _ _ ⟨dk_read fun e he=>(by (have hm:=mem_listed he;simp [go_sem, *] at hm;try (subst hm;exact (evK_read (kc H))))), ?_⟩;clear hK K)
 refine wk_new' hP rfl fun w₂ h₂=>?_
 replace hF:=hF.rely H h₂;clear h₂;obtain ⟨hF,hO⟩:=hF;refine goes_oper_k rfl rfl (by k_ne) (fun K hK=>?_);have hme:∀ es,(Instr.makeSlice 23 (.int .i64 1) (.int .i64 1)).events Tryd.prog w₂ es=es:=ev_mk 1 (by omega) w₂;have hmk:Sem.run Tryd.prog (Instr.makeSlice 23 (.int .i64 1) (.int .i64 1)) w₂=.ok (.slice (some ⟨w₂.heap.size,0,none⟩) 1 1) (w₂.alloc (.cells (setC i 0 1).toArray 4)):=run_mk i 1 (by omega) w₂;go_simp;have hes:∀ {es:Array Event},(∀ e∈es,False)→GWk c.C c.n i (c.Kx kb) (fun _=>False) w₂ (w₂.alloc (.cells (setC i 0 1).toArray 4)) es:=fun he=>gwk_alloc hO.C.2 he
 refine hK _ _ ⟨hes ?_, ?_⟩
 · intro e he
   have hm:=mem_listed he;simp [go_sem, *] at hm
 clear hK K hmk hme;have hT:FT c 2 1 bn bc bo kb i w₂.heap.size 0 (Grown (fun _=>False) w₂ (w₂.alloc (.cells (setC i 0 1).toArray 4))) (w₂.alloc (.cells (setC i 0 1).toArray 4)):=⟨(FW.kept H).guar hO hF (hes (es:=#[]) (by simp)),heap_alloc_new w₂ _,.inr ⟨Nat.le_refl _,by simp⟩,hO.grow (by simp)⟩;clear hes;generalize Grown (fun _=>False) w₂ (w₂.alloc (.cells (setC i 0 1).toArray 4))=M at hT ⊢;generalize w₂.heap.size=bt at hT ⊢;generalize w₂.alloc (.cells (setC i 0 1).toArray 4)=w₃ at hT ⊢;clear hF hO
 ((first | refine wk_in' hP rfl (fun _ h₁=>?_) | refine Goes.step rfl (fun _ h₁=>?_));replace hT:=(FT.rely H) hT h₁;clear h₁;refine goes_oper_k rfl rfl (by k_ne) (fun K hK=>?_);go_simp;refine hK _ _ ⟨by ((first | refine dk_none ?_ | u_none);intro e he;have hm:=mem_listed he;simp [go_sem, *] at hm), ?_⟩;clear hK K;try w_num)
 ((first | refine wk_in' hP rfl (fun _ h₁=>?_) | refine Goes.step rfl (fun _ h₁=>?_));replace hT:=(FT.rely H) hT h₁;clear h₁;rw [stepG_region_end];simp only [goes_go];refine ⟨by ((first | refine dk_none ?_ | u_none);intro e he;simp at he), ?_⟩)
 ((first | refine wk_in' hP rfl (fun _ h₁=>?_) | refine Goes.step rfl (fun _ h₁=>?_));replace hT:=(FT.rely H) hT h₁;clear h₁;rw [stepG_seq];simp only [goes_go];refine ⟨by ((first | refine dk_none ?_ | u_none);intro e he;simp at he), ?_⟩)
 ((first | refine wk_in' hP rfl (fun _ h₁=>?_) | refine Goes.step rfl (fun _ h₁=>?_));replace hT:=(FT.rely H) hT h₁;clear h₁;rw [stepG_seq];simp only [goes_go];refine ⟨by ((first | refine dk_none ?_ | u_none);intro e he;simp at he), ?_⟩)
 ((first | refine wk_in' hP rfl (fun _ h₁=>?_) | refine Goes.step rfl (fun _ h₁=>?_));replace hT:=(FT.rely H) hT h₁;clear h₁;rw [stepG_region];simp only [goes_go,List.size_toArray,List.length_cons,List.length_nil,Nat.reduceAdd,Nat.zero_add,List.range,List.range.loop];refine ⟨by ((first | refine dk_none ?_ | u_none);intro e he;simp at he), ?_⟩)
 ((first | refine wk_in' hP rfl (fun _ h₁=>?_) | refine Goes.step rfl (fun _ h₁=>?_));replace hT:=(FT.rely H) hT h₁;clear h₁;refine goes_oper_k rfl rfl (by k_ne) (fun K hK=>?_);go_simp;refine hK _ _ ⟨by ((first | refine dk_none ?_ | u_none);intro e he;have hm:=mem_listed he;simp [go_sem, *] at hm), ?_⟩;clear hK K;try w_num)
 ((first | refine wk_in' hP rfl (fun _ h₁=>?_) | refine Goes.step rfl (fun _ h₁=>?_));replace hT:=(FT.rely H) hT h₁;clear h₁;refine goes_oper_k rfl rfl (by k_ne) (fun K hK=>?_);go_simp;refine hK _ _ ⟨by ((first | refine dk_none ?_ | u_none);intro e he;have hm:=mem_listed he;simp [go_sem, *] at hm), ?_⟩;clear hK K;try w_num)
 ((first | refine wk_in' hP rfl (fun _ h₁=>?_) | refine Goes.step rfl (fun _ h₁=>?_));replace hT:=(FT.rely H) hT h₁;clear h₁;refine goes_oper_k rfl rfl (by k_ne) (fun K hK=>?_);go_simp;refine hK _ _ ⟨by ((first | refine dk_none ?_ | u_none);intro e he;have hm:=mem_listed he;simp [go_sem, *] at hm), ?_⟩;clear hK K;try w_num)
 ((first | refine wk_in' hP rfl (fun _ h₁=>?_) | refine Goes.step rfl (fun _ h₁=>?_));replace hT:=(FT.rely H) hT h₁;clear h₁;rw [stepG_region_end];simp only [goes_go];refine ⟨by ((first | refine dk_none ?_ | u_none);intro e he;simp at he), ?_⟩)
 ((first | refine wk_in' hP rfl (fun _ h₁=>?_) | refine Goes.step rfl (fun _ h₁=>?_));replace hT:=(FT.rely H) hT h₁;clear h₁;rw [stepG_block];simp only [goes_go];refine ⟨by ((first | refine dk_none ?_ | u_none);intro e he;simp at he), ?_⟩)
 ((first | refine wk_in' hP rfl (fun _ h₁=>?_) | refine Goes.step rfl (fun _ h₁=>?_));replace hT:=(FT.rely H) hT h₁;clear h₁;rw [stepG_loop];simp only [goes_go];refine ⟨by ((first | refine dk_none ?_ | u_none);intro e he;simp at he), ?_⟩)
 ((first | refine wk_in' hP rfl (fun _ h₁=>?_) | refine Goes.step rfl (fun _ h₁=>?_));replace hT:=(FT.rely H) hT h₁;clear h₁;rw [stepG_seq];simp only [goes_go];refine ⟨by ((first | refine dk_none ?_ | u_none);intro e he;simp at he), ?_⟩)
 ((first | refine wk_in' hP rfl (fun _ h₁=>?_) | refine Goes.step rfl (fun _ h₁=>?_));replace hT:=(FT.rely H) hT h₁;clear h₁;rw [stepG_region];simp only [goes_go,List.size_toArray,List.length_cons,List.length_nil,Nat.zero_add,List.range,List.range.loop];refine ⟨by ((first | refine dk_none ?_ | u_none);intro e he;simp at he), ?_⟩)
 ((first | refine wk_in' hP rfl (fun _ h₁=>?_) | refine Goes.step rfl (fun _ h₁=>?_));replace hT:=(FT.rely H) hT h₁;clear h₁;refine goes_oper_k rfl rfl (by k_ne) (fun K hK=>?_);go_simp;refine hK _ _ ⟨by ((first | refine dk_none ?_ | u_none);intro e he;have hm:=mem_listed he;simp [go_sem, *] at hm), ?_⟩;clear hK K;try w_num)
 ((first | refine wk_in' hP rfl (fun _ h₁=>?_) | refine Goes.step rfl (fun _ h₁=>?_));replace hT:=(FT.rely H) hT h₁;clear h₁;rw [stepG_region_end];simp only [goes_go];refine ⟨by ((first | refine dk_none ?_ | u_none);intro e he;simp at he), ?_⟩)
 ((first | refine wk_in' hP rfl (fun _ h₁=>?_) | refine Goes.step rfl (fun _ h₁=>?_));replace hT:=(FT.rely H) hT h₁;clear h₁;rw [stepG_seq];simp only [goes_go];refine ⟨by ((first | refine dk_none ?_ | u_none);intro e he;simp at he), ?_⟩)
 ((first | refine wk_in' hP rfl (fun _ h₁=>?_) | refine Goes.step rfl (fun _ h₁=>?_));replace hT:=(FT.rely H) hT h₁;clear h₁;rw [stepG_cond (t:=true) rfl];simp only [goes_go, ↓reduceIte];refine ⟨by ((first | refine dk_none ?_ | u_none);intro e he;simp at he), ?_⟩)
 ((first | refine wk_in' hP rfl (fun _ h₁=>?_) | refine Goes.step rfl (fun _ h₁=>?_));replace hT:=(FT.rely H) hT h₁;clear h₁;rw [stepG_skip];simp only [goes_go];refine ⟨by ((first | refine dk_none ?_ | u_none);intro e he;simp at he), ?_⟩)
 ((first | refine wk_in' hP rfl (fun _ h₁=>?_) | refine Goes.step rfl (fun _ h₁=>?_));replace hT:=(FT.rely H) hT h₁;clear h₁;rw [stepG_seq];simp only [goes_go];refine ⟨by ((first | refine dk_none ?_ | u_none);intro e he;simp at he), ?_⟩)
 ((first | refine wk_in' hP rfl (fun _ h₁=>?_) | refine Goes.step rfl (fun _ h₁=>?_));replace hT:=(FT.rely H) hT h₁;clear h₁;rw [stepG_block];simp only [goes_go];refine ⟨by ((first | refine dk_none ?_ | u_none);intro e he;simp at he), ?_⟩)
 ((first | refine wk_in' hP rfl (fun _ h₁=>?_) | refine Goes.step rfl (fun _ h₁=>?_));replace hT:=(FT.rely H) hT h₁;clear h₁;rw [stepG_seq];simp only [goes_go];refine ⟨by ((first | refine dk_none ?_ | u_none);intro e he;simp at he), ?_⟩)
 ((first | refine wk_in' hP rfl (fun _ h₁=>?_) | refine Goes.step rfl (fun _ h₁=>?_));replace hT:=(FT.rely H) hT h₁;clear h₁;rw [stepG_region];simp only [goes_go,List.size_toArray,List.length_cons,List.length_nil,Nat.reduceAdd,Nat.zero_add,List.range,List.range.loop];refine ⟨by ((first | refine dk_none ?_ | u_none);intro e he;simp at he), ?_⟩)
 ((first | refine wk_in' hP rfl (fun _ h₁=>?_) | refine Goes.step rfl (fun _ h₁=>?_));replace hT:=(FT.rely H) hT h₁;clear h₁;refine goes_oper_k rfl rfl (by k_ne) (fun K hK=>?_);go_simp;refine hK _ _ ⟨by ((first | refine dk_none ?_ | u_none);intro e he;have hm:=mem_listed he;simp [go_sem, *] at hm), ?_⟩;clear hK K;try w_num)
 ((first | refine wk_in' hP rfl (fun _ h₁=>?_) | refine Goes.step rfl (fun _ h₁=>?_));replace hT:=(FT.rely H) hT h₁;clear h₁;refine goes_oper_k rfl rfl (by k_ne) (fun K hK=>?_);go_simp;refine hK _ _ ⟨by ((first | refine dk_none ?_ | u_none);intro e he;have hm:=mem_listed he;simp [go_sem, *] at hm), ?_⟩;clear hK K;try w_num)
 ((first | refine wk_in' hP rfl (fun _ h₁=>?_) | refine Goes.step rfl (fun _ h₁=>?_));replace hT:=(FT.rely H) hT h₁;clear h₁;rw [stepG_region_end];simp only [goes_go];refine ⟨by ((first | refine dk_none ?_ | u_none);intro e he;simp at he), ?_⟩)
 ((first | refine wk_in' hP rfl (fun _ h₁=>?_) | refine Goes.step rfl (fun _ h₁=>?_));replace hT:=(FT.rely H) hT h₁;clear h₁;rw [stepG_region];simp only [goes_go,List.size_toArray,List.length_cons,List.length_nil,Nat.reduceAdd,Nat.zero_add,List.range,List.range.loop];refine ⟨by ((first | refine dk_none ?_ | u_none);intro e he;simp at he), ?_⟩)
 ((first | refine wk_in' hP rfl (fun _ h₁=>?_) | refine Goes.step rfl (fun _ h₁=>?_));replace hT:=(FT.rely H) hT h₁;clear h₁;refine goes_oper_k rfl rfl (by k_ne) (fun K hK=>?_);go_simp;refine hK _ _ ⟨by ((first | refine dk_none ?_ | u_none);intro e he;have hm:=mem_listed he;simp [go_sem, *] at hm), ?_⟩;clear hK K;try w_num)
 ((first | refine wk_in' hP rfl (fun _ h₁=>?_) | refine Goes.step rfl (fun _ h₁=>?_));replace hT:=(FT.rely H) hT h₁;clear h₁;refine goes_oper_k rfl rfl (by k_ne) (fun K hK=>?_);go_simp;refine hK _ _ ⟨by ((first | refine dk_none ?_ | u_none);intro e he;have hm:=mem_listed he;simp [go_sem, *] at hm), ?_⟩;clear hK K;try w_num)
 ((first | refine wk_in' hP rfl (fun _ h₁=>?_) | refine Goes.step rfl (fun _ h₁=>?_));replace hT:=(FT.rely H) hT h₁;clear h₁;refine goes_oper_k rfl rfl (by k_ne) (fun K hK=>?_);have:=FW.ck hT.f;go_simp;refine hK _ _ ⟨dk_read fun e he=>(by (have hm:=mem_listed he;simp [go_sem, *] at hm;try (subst hm;exact (evK_read kk)))), ?_⟩;clear hK K)
 ((first | refine wk_in' hP rfl (fun _ h₁=>?_) | refine Goes.step rfl (fun _ h₁=>?_));replace hT:=(FT.rely H) hT h₁;clear h₁;refine goes_oper_k rfl rfl (by k_ne) (fun K hK=>?_);go_simp;refine hK _ _ ⟨by ((first | refine dk_none ?_ | u_none);intro e he;have hm:=mem_listed he;simp [go_sem, *] at hm), ?_⟩;clear hK K;try w_num)
 ((first | refine wk_in' hP rfl (fun _ h₁=>?_) | refine Goes.step rfl (fun _ h₁=>?_));replace hT:=(FT.rely H) hT h₁;clear h₁;refine goes_oper_k rfl rfl (by k_ne) (fun K hK=>?_);go_simp;refine hK _ _ ⟨by ((first | refine dk_none ?_ | u_none);intro e he;have hm:=mem_listed he;simp [go_sem, *] at hm), ?_⟩;clear hK K;try w_num)
 ((first | refine wk_in' hP rfl (fun _ h₁=>?_) | refine Goes.step rfl (fun _ h₁=>?_));replace hT:=(FT.rely H) hT h₁;clear h₁;refine goes_oper_k rfl rfl (by k_ne) (fun K hK=>?_);go_simp;refine hK _ _ ⟨by ((first | refine dk_none ?_ | u_none);intro e he;have hm:=mem_listed he;simp [go_sem, *] at hm), ?_⟩;clear hK K;try w_num)
 ((first | refine wk_in' hP rfl (fun _ h₁=>?_) | refine Goes.step rfl (fun _ h₁=>?_));replace hT:=(FT.rely H) hT h₁;clear h₁;refine goes_oper_k rfl rfl (by k_ne) (fun K hK=>?_);go_simp;refine hK _ _ ⟨by ((first | refine dk_none ?_ | u_none);intro e he;have hm:=mem_listed he;simp [go_sem, *] at hm), ?_⟩;clear hK K;try w_num)
 ((first | refine wk_in' hP rfl (fun _ h₁=>?_) | refine Goes.step rfl (fun _ h₁=>?_));replace hT:=(FT.rely H) hT h₁;clear h₁;refine goes_oper_k rfl rfl (by k_ne) (fun K hK=>?_);go_simp;refine hK _ _ ⟨by ((first | refine dk_none ?_ | u_none);intro e he;have hm:=mem_listed he;simp [go_sem, *] at hm), ?_⟩;clear hK K;try w_num)
 ((first | refine wk_in' hP rfl (fun _ h₁=>?_) | refine Goes.step rfl (fun _ h₁=>?_));replace hT:=(FT.rely H) hT h₁;clear h₁;have hst1:=(hT).cellAt (k:=0) (by omega);have hst2:=(hT).thaw 0;refine goes_oper_k rfl rfl (by k_ne) (fun K hK=>?_);go_simp;refine hK _ _ ⟨dk_own (hT).own (hT).ne (fun e he=>by (have hm:=mem_listed he;simp [go_sem,storedEv,hst1,hst2] at hm;try (subst hm;exact evK_own (hT).own))), ?_⟩;clear hK K hst1 hst2;replace hT:=(hT).put H (by omega) (bit_0 i))
 ((first | refine wk_in' hP rfl (fun _ h₁=>?_) | refine Goes.step rfl (fun _ h₁=>?_));replace hT:=(FT.rely H) hT h₁;clear h₁;rw [stepG_region_end];simp only [goes_go];refine ⟨by ((first | refine dk_none ?_ | u_none);intro e he;simp at he), ?_⟩)
 ((first | refine wk_in' hP rfl (fun _ h₁=>?_) | refine Goes.step rfl (fun _ h₁=>?_));replace hT:=(FT.rely H) hT h₁;clear h₁;rw [stepG_inBlock];simp only [goes_go];refine ⟨by ((first | refine dk_none ?_ | u_none);intro e he;simp at he), ?_⟩)
 ((first | refine wk_in' hP rfl (fun _ h₁=>?_) | refine Goes.step rfl (fun _ h₁=>?_));replace hT:=(FT.rely H) hT h₁;clear h₁;rw [stepG_region];simp only [goes_go,List.size_toArray,List.length_cons,List.length_nil,Nat.reduceAdd,Nat.zero_add,List.range,List.range.loop];refine ⟨by ((first | refine dk_none ?_ | u_none);intro e he;simp at he), ?_⟩)
 ((first | refine wk_in' hP rfl (fun _ h₁=>?_) | refine Goes.step rfl (fun _ h₁=>?_));replace hT:=(FT.rely H) hT h₁;clear h₁;refine goes_oper_k rfl rfl (by k_ne) (fun K hK=>?_);go_simp;refine hK _ _ ⟨by ((first | refine dk_none ?_ | u_none);intro e he;have hm:=mem_listed he;simp [go_sem, *] at hm), ?_⟩;clear hK K;try w_num)
 ((first | refine wk_in' hP rfl (fun _ h₁=>?_) | refine Goes.step rfl (fun _ h₁=>?_));replace hT:=(FT.rely H) hT h₁;clear h₁;refine goes_oper_k rfl rfl (by k_ne) (fun K hK=>?_);go_simp;refine hK _ _ ⟨by ((first | refine dk_none ?_ | u_none);intro e he;have hm:=mem_listed he;simp [go_sem, *] at hm), ?_⟩;clear hK K;try w_num)
 ((first | refine wk_in' hP rfl (fun _ h₁=>?_) | refine Goes.step rfl (fun _ h₁=>?_));replace hT:=(FT.rely H) hT h₁;clear h₁;rw [stepG_region_end];simp only [goes_go];refine ⟨by ((first | refine dk_none ?_ | u_none);intro e he;simp at he), ?_⟩)
 ((first | refine wk_in' hP rfl (fun _ h₁=>?_) | refine Goes.step rfl (fun _ h₁=>?_));replace hT:=(FT.rely H) hT h₁;clear h₁;rw [stepG_inLoop];simp only [goes_go];refine ⟨by ((first | refine dk_none ?_ | u_none);intro e he;simp at he), ?_⟩)
 ((first | refine wk_in' hP rfl (fun _ h₁=>?_) | refine Goes.step rfl (fun _ h₁=>?_));replace hT:=(FT.rely H) hT h₁;clear h₁;rw [stepG_seq];simp only [goes_go];refine ⟨by ((first | refine dk_none ?_ | u_none);intro e he;simp at he), ?_⟩)
 ((first | refine wk_in' hP rfl (fun _ h₁=>?_) | refine Goes.step rfl (fun _ h₁=>?_));replace hT:=(FT.rely H) hT h₁;clear h₁;rw [stepG_region];simp only [goes_go,List.size_toArray,List.length_cons,List.length_nil,Nat.zero_add,List.range,List.range.loop];refine ⟨by ((first | refine dk_none ?_ | u_none);intro e he;simp at he), ?_⟩)
 ((first | refine wk_in' hP rfl (fun _ h₁=>?_) | refine Goes.step rfl (fun _ h₁=>?_));replace hT:=(FT.rely H) hT h₁;clear h₁;refine goes_oper_k rfl rfl (by k_ne) (fun K hK=>?_);go_simp;refine hK _ _ ⟨by ((first | refine dk_none ?_ | u_none);intro e he;have hm:=mem_listed he;simp [go_sem, *] at hm), ?_⟩;clear hK K;try w_num)
 ((first | refine wk_in' hP rfl (fun _ h₁=>?_) | refine Goes.step rfl (fun _ h₁=>?_));replace hT:=(FT.rely H) hT h₁;clear h₁;rw [stepG_region_end];simp only [goes_go];refine ⟨by ((first | refine dk_none ?_ | u_none);intro e he;simp at he), ?_⟩)
 ((first | refine wk_in' hP rfl (fun _ h₁=>?_) | refine Goes.step rfl (fun _ h₁=>?_));replace hT:=(FT.rely H) hT h₁;clear h₁;rw [stepG_seq];simp only [goes_go];refine ⟨by ((first | refine dk_none ?_ | u_none);intro e he;simp at he), ?_⟩)
 ((first | refine wk_in' hP rfl (fun _ h₁=>?_) | refine Goes.step rfl (fun _ h₁=>?_));replace hT:=(FT.rely H) hT h₁;clear h₁;rw [stepG_cond (t:=false) rfl];simp only [goes_go,Bool.false_eq_true, ↓reduceIte];refine ⟨by ((first | refine dk_none ?_ | u_none);intro e he;simp at he), ?_⟩)
 ((first | refine wk_in' hP rfl (fun _ h₁=>?_) | refine Goes.step rfl (fun _ h₁=>?_));replace hT:=(FT.rely H) hT h₁;clear h₁;refine goes_exit rfl ?_;refine ⟨by ((first | refine dk_none ?_ | u_none);intro e he;simp at he), ?_⟩)
 exact work2_b H hi hT _ _ _ _ _ _ _ _ _ _ _ _ _ _ _ _
end
end Go.Proofs.YtnW
