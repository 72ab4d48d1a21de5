/- The words of walks through sync.WaitGroup among goroutines that make memory. No condition; any program that holds the library. -/
import Derived.Test.YtnceajabigdleaaDoorPtS6
import Derived.Conc.WgGenN3
import Derived.Conc.CompanyDraw
import Derived.Test.YtnceajabigdleaaDoorPtS4
namespace Go.Pt
open Go Go.Conc Go.RowKit Go.Conc.Lib Go.ConcR.Gen Go.ConcN.Gen
open Go.ConcN hiding EvL Inv Fin
open Go.ConcR (KK wgBlock WgAt stA smA rd wr Payload Aside2 DC0)
variable {L:WgLink}
theorem ds_none {c:Cst} {cur:Option Nat} {w:World} {es:Array Event} (h:∀ e∈es,False):c.DS cur w w es:=⟨rfl,rfl,rfl,rfl,fun _ _=>rfl,fun e he=>(h e he).elim⟩
theorem Cst.RS.of_wg {c:Cst} {cur:Option Nat} {w w':World} (h:Aside c.Wg w w') (hl:WgLive c.ty c.Wg w') (hc:∀ b,cur=some b→b≠c.Wg):c.RS cur w w' :=
 ⟨h.tape,h.os,h.output,Nat.le_of_eq h.size.symm,fun b hb=>h.block b (by rcases hb with hb | hb;exact hb.2.2;exact hc b hb),fun _=>hl⟩
theorem z_rely {c:Cst} {cur:Option Nat} {F:World→Prop} (hF2:∀ w w',c.RS cur w w'→F w→F w') {w w₁:World} (h:F w∧WgLive c.ty c.Wg w) (r:c.RS cur w w₁):F w₁∧WgLive c.ty c.Wg w₁:=⟨hF2 _ _ r h.1,r.live h.2⟩
theorem evS_read {c:Cst} {cur:Option Nat} (a:Addr) (h:a.block=c.Wg):c.EvS cur ⟨.mark (.read a),false,true⟩:=by
 refine ⟨fun x hx=>?_,by simp,by simp,by simp⟩;simp only [MemAct.ofEvent,MemAct.touch?,Option.some.injEq] at hx;subst hx;exact .inl ⟨h,by simp⟩
theorem evS_write {c:Cst} {cur:Option Nat} (a:Addr) (h:a.block=c.Wg):c.EvS cur ⟨.mark (.write a),false,true⟩:=by
 refine ⟨fun x hx=>?_,by simp,by simp,by simp⟩;simp only [MemAct.ofEvent,MemAct.touch?,Option.some.injEq] at hx;subst hx;exact .inl ⟨h,by simp⟩
open Go Go.Conc Go.RowKit Go.Conc.Lib Go.ConcR.Gen Go.ConcN.Gen
open Go.ConcN hiding EvL Inv Fin
open Go.ConcR (KK wgBlock WgAt stA smA rd wr Payload Aside2 DC0)
@[go_sem] theorem events_store_bool (P:Program) (w:World) (es:Array Event) (a:Addr) (m:Go.Mode) (b:Bool):(store a (.bool b) m).events P w es=storedEv P w es a (.bool b) m:=events_store P w es a _ m rfl
@[go_sem] theorem events_store_slice (P:Program) (w:World) (es:Array Event) (a:Addr) (m:Go.Mode) (x:Option Addr) (n c:Nat):(store a (.slice x n c) m).events P w es=storedEv P w es a (.slice x n c) m:=events_store P w es a _ m rfl
def Cst.Wk [Payload] (c:Cst) (i kb:Nat) (M:Nat→Prop) (g:Goroutine) (w:World):Prop:=∃ T,c.Work i kb T M g w
abbrev Cst.RK [Payload] (c:Cst) (i kb:Nat) (M:Nat→Prop):World→World→Prop:=RWk c.ty c.Wg c.C c.n i (c.Kx kb) M
structure Cst.DK [Payload] (c:Cst) (i kb:Nat) (M:Nat→Prop) (w w':World) (es:Array Event):Prop where
 size:w'.heap.size=w.heap.size
 guar:GWk c.C c.n i (c.Kx kb) M w w' es
section
variable {c:Cst} {i kb:Nat} {M:Nat→Prop} {g:Goroutine} {w w':World} {es:Array Event}
theorem grown_same (h:w'.heap.size=w.heap.size):Grown M w w'=M:=by
 funext b
 refine propext ⟨fun x=>?_,.inl⟩;rcases x with x | ⟨h1,h2⟩
 · exact x
 · omega
theorem wk_in [Payload] (hs:g.status=.running) (h:∀ w₁,c.RK i kb M w w₁→(stepG c.P false g w₁).goes fun g' w' es=>c.DK i kb M w₁ w' es∧c.Wk i kb M g' w'):c.Wk i kb M g w:=by
 refine GoT.mk fun w₁ hr=>.inr ⟨hs, ?_⟩
 obtain ⟨g₁,w₂,es,hgo,hd,T,hT⟩:=goes_elim (h w₁ hr);refine ⟨g₁,w₂,es,hgo,hd.guar,T, ?_⟩;rw [grown_same hd.size];exact hT
theorem wk_new [Payload] (hs:g.status=.running) (h:∀ w₁,c.RK i kb M w w₁→(stepG c.P false g w₁).goes fun g' w' es=>GWk c.C c.n i (c.Kx kb) M w₁ w' es∧c.Wk i kb (Grown M w₁ w') g' w'):c.Wk i kb M g w:=by
 refine GoT.mk fun w₁ hr=>.inr ⟨hs, ?_⟩
 obtain ⟨g₁,w₂,es,hgo,hd,T,hT⟩:=goes_elim (h w₁ hr);exact ⟨g₁,w₂,es,hgo,hd,T,hT⟩
theorem wk_in' [Payload] {P:Program} (hP:c.P=P) (hs:g.status=.running) (h:∀ w₁,c.RK i kb M w w₁→(stepG P false g w₁).goes fun g' w' es=>c.DK i kb M w₁ w' es∧c.Wk i kb M g' w'):c.Wk i kb M g w:=wk_in hs (by rw [hP];exact h)
theorem wk_new' [Payload] {P:Program} (hP:c.P=P) (hs:g.status=.running) (h:∀ w₁,c.RK i kb M w w₁→(stepG P false g w₁).goes fun g' w' es=>GWk c.C c.n i (c.Kx kb) M w₁ w' es∧c.Wk i kb (Grown M w₁ w') g' w'):c.Wk i kb M g w:=wk_new hs (by rw [hP];exact h)
theorem gwk_alloc [Payload] {o:Obj} (hC:c.C<w.heap.size) (he:∀ e∈es,False):GWk c.C c.n i (c.Kx kb) M w (w.alloc o) es:=by
 have hold:∀ b,b<w.heap.size→(w.alloc o).heap[b]? = w.heap[b]? := fun b hb=>by
  show (w.heap.push o)[b]? = _
  rw [Array.getElem?_push_lt hb,← Array.getElem?_eq_getElem]
 exact ⟨by simp,rfl,rfl,rfl,fun b hb _ _=>hold b hb,fun ⟨cs,h1,h2⟩=>⟨cs,(hold _ hC).trans h1,h2⟩,fun i' _=>cell_of_block (hold _ hC) i',fun e h=>(he e h).elim⟩
theorem wk_stop [Payload] (h:∀ w₁,c.RK i kb M w w₁→c.StopW i M g w₁):c.Wk i kb M g w:=GoT.stop h
theorem dk_none [Payload] (h:∀ e∈es,False):c.DK i kb M w w es:=⟨rfl,Nat.le_refl _,rfl,rfl,rfl,fun _ _ _ _=>rfl,id,fun _ _=>rfl,fun e he=>(h e he).elim⟩
theorem dk_read [Payload] (h:∀ e∈es,EvK c.C i (c.Kx kb) M e):c.DK i kb M w w es:=⟨rfl,Nat.le_refl _,rfl,rfl,rfl,fun _ _ _ _=>rfl,id,fun _ _=>rfl,fun e he=>by rw [grown_same rfl];exact h e he⟩
theorem evK_read {C:Nat} {K:Nat→Prop} {a:Addr} (h:K a.block):EvK C i K M ⟨.cell a,false,false⟩:=by
 refine ⟨fun x hx=>?_,by simp,by simp,by simp⟩;simp only [MemAct.ofEvent,MemAct.touch?,Option.some.injEq] at hx;subst hx;exact .inr (.inr ⟨h,rfl⟩)
theorem evK_own {C:Nat} {K:Nat→Prop} {a:Addr} {b:Bool} (h:M a.block):EvK C i K M ⟨.cell a,b,false⟩:=by
 refine ⟨fun x hx=>?_,by simp,by simp,by simp⟩;simp only [MemAct.ofEvent,MemAct.touch?,Option.some.injEq] at hx;subst hx;exact .inl h
theorem evK_cell {C:Nat} {K:Nat→Prop} {b:Bool}:EvK C i K M ⟨.cell ⟨C,i,none⟩,b,false⟩:=by
 refine ⟨fun x hx=>?_,by simp,by simp,by simp⟩;simp only [MemAct.ofEvent,MemAct.touch?,Option.some.injEq] at hx;subst hx;exact .inr (.inl ⟨_,rfl,rfl,rfl⟩)
theorem dk_own [Payload] {a:Addr} {v:Value} (h:M a.block) (hC:a.block≠c.C) (he:∀ e∈es,EvK c.C i (c.Kx kb) M e):c.DK i kb M w (w.setCell a v) es:=by
 have hA:=aside_setCell w a v;refine ⟨hA.size,Nat.le_of_eq hA.size.symm,hA.tape,hA.os,hA.output,fun b _ hb _=>hA.block b fun e=>hb (e ▸ h),fun ⟨cs,h1,h2⟩=>⟨cs,(hA.block c.C (Ne.symm hC)).trans h1,h2⟩,fun i' _=>cell_of_block (hA.block c.C (Ne.symm hC)) i',fun e h'=>by rw [grown_same hA.size];exact he e h'⟩
theorem dk_cell [Payload] {v:Value} (hp:PayAt c.C c.n w) (he:∀ e∈es,EvK c.C i (c.Kx kb) M e):c.DK i kb M w (w.setCell ⟨c.C,i,none⟩ v) es:=by
 have hA:=aside_setCell w ⟨c.C,i,none⟩ v;obtain ⟨cs,h1,h2⟩:=hp;have h3:(w.setCell ⟨c.C,i,none⟩ v).heap[c.C]? = some (.cells (cs.setIfInBounds i v) Payload.ety):=by
  rw [setCell_eq_setRow w c.C i cs Payload.ety (0,0) _ h1,setRow_heap w c.C _ _ Payload.ety _ h1]
 refine ⟨hA.size,Nat.le_of_eq hA.size.symm,hA.tape,hA.os,hA.output,fun b _ _ hb=>hA.block b hb,fun _=>⟨_,h3,by simpa using h2⟩,fun i' hi'=>?_,fun e h'=>by rw [grown_same hA.size];exact he e h'⟩;simp only [World.cell?,h3,h1];simp [Array.getElem?_setIfInBounds_ne (Ne.symm hi')]
theorem goes_enter {P:Program} {main:Bool} {b:Frame} {a:Act} {k:List Item} {cs:List Frame} {w:World} {ops:Array Oper} {i:Nat} {rest:List Nat} {o:Oper} {K:Goroutine→World→Array Event→Prop} {f:FuncId} {fn:Func} {c:Code} {args:Array Operand} {ats:Array TypeId}
  (ho:ops[i]? = some o) (hw:Region.wanted o (yielded ops a.tmps)=true) (hk:b.kind≠.early) (hop:o.op=.call { callee:=.value (.func f),args,argTypes:=ats })
  (hf:P.funcs[f]? = some fn) (hname:(fn.name== "runtime.NumGoroutine")=false) (hb:fn.body=some c)
  (h:K (G (Frame.enter P f (args.map a.eval) .normal) (b.at a (.inRegion ops (i::rest)::k)::cs)) w #[]) :
  (stepG P main (G (b.at a (.inRegion ops (i::rest)::k)) cs) w).goes K:=by
 refine goes_call ho hw hk hop hf hname hb ?_;rw [← enter_at _ hf hb];exact h
theorem wk_order [Payload] {b:Frame} {cs:List Frame} {k:List Item} {ops:Array Oper} (Inv:Nat→Array Bool→Act→(Nat→Prop)→World→Prop)
  (step:∀ f L a M w j rest,Inv (f+1) L a M w→j∈Region.ready .any ops L→(∀ a' M' w',Inv f (L.setIfInBounds j true) a' M' w'→c.Wk i kb M' (G (b.at a' (.inRegion ops rest::k)) cs) w')→c.Wk i kb M (G (b.at a (.inRegion ops (j::rest)::k)) cs) w)
  (done:∀ f L a M w,Inv f L a M w→(f=0∨Region.ready .any ops L=[])→c.Wk i kb M (G (b.at a (.inRegion ops []::k)) cs) w) :
  ∀ (f t:Nat) (L:Array Bool) (a:Act) (M:Nat→Prop) (w:World),Inv f L a M w→c.Wk i kb M (G (b.at a (.inRegion ops (Region.linearise.go .any ops f t L [])::k)) cs) w:=by
 intro f
 induction f with
 | zero=>intro t L a M w h;exact done 0 L a M w h (.inl rfl)
 | succ f ih =>
   intro t L a M w h;simp only [Region.linearise.go];change c.Wk i kb M (G (b.at a (.inRegion ops (match (Region.ready .any ops L)[t % (Region.ready .any ops L).length]? with
    | some j=>Region.linearise.go .any ops f (t / (Region.ready .any ops L).length) (L.setIfInBounds j true) [j]
    | none=>[].reverse)::k)) cs) w
   cases hj:(Region.ready .any ops L)[t % (Region.ready .any ops L).length]? with
   | none =>
     have hnil:Region.ready .any ops L=[]:=by
      cases hr:Region.ready .any ops L with
      | nil=>rfl
      | cons x xs =>
        rw [hr] at hj;have hlt:t % (x::xs).length<(x::xs).length:=Nat.mod_lt _ (by simp);simp at hj;simp at hlt;omega
     exact done _ L a M w h (.inr hnil)
   | some j =>
     simp only [];rw [linearise_go_acc,List.reverse_singleton,List.singleton_append];exact step f L a M w j _ h (List.mem_of_getElem? hj) fun a' M' w' h'=>ih _ _ a' M' w' h'
theorem wk_region [Payload] {b:Frame} {cs:List Frame} {k:List Item} {ops:Array Oper} {id:Nat} {a:Act} (hm:c.P.follows .mixedOrders=true)
  (h:∀ w₁,c.RK i kb M w w₁→∀ t,c.Wk i kb M (G (b.at a (.inRegion ops (Region.linearise.go .any ops ops.size t (Array.replicate ops.size false) [])::k)) cs) { w₁ with drawn:=w₁.drawn+1 }):c.Wk i kb M (G (b.at a (.code (.region id ops true)::k)) cs) w:=by
 refine wk_in rfl fun w₁ h₁=>?_
 rw [stepG_region_draw];simp only [goes_go,Region.schedule,hm,Bool.true_or,if_true];exact ⟨⟨rfl,Nat.le_refl _,rfl,rfl,rfl,fun _ _ _ _=>rfl,(fun h=>h),fun _ _=>rfl,by simp⟩,h w₁ h₁ _⟩
end
open Go Go.Conc
section
variable {Q:Program} {F:Array Func} {G:Nat→Prop} {c0:Frame} {Rely:(Nat→Prop)→World→World→Prop} {Guar:(Nat→Prop)→World→World→Array Event→Prop} {Stop:(Nat→Prop)→Goroutine→World→Prop}
theorem call_among (Sf:Funs Q F G (fun _=>False)) (Ss:Funs Q Q.funcs G (fun _=>False)) (hfl:Floor Q c0) {f:FuncId} {xs xs':Array Value} {gw w:World} {Rv:Value→World→Prop} (hRv:∀ v w τ,Rv v w→Rv v (w.retape τ)) {p:Inj} {M:Nat→Prop} {b:Frame} {cs:List Frame} {main:Bool}
  (hRely:∀ M w w₁,Rely M w w₁→(∀ b,M b→w₁.heap[b]? = w.heap[b]?)∧w.heap.size≤w₁.heap.size) (refl:∀ M w,Rely M w w)
  (hGuar:∀ (M:Nat→Prop) (w w':World) (es:Array Event) (p q:Inj),Fr p q w w'→(∀ b b',p.r b b'→M b')→(∀ e∈es,EvIn q e)→(∀ b b',q.r b b'→Grown M w w' b')→Guar M w w' es)
  (hx:ARel p xs xs') (hW:WRel p gw w) (hg:p.g=Q.globals.size) (hok:p.ok=fun c=>CRel Q G c c) (hG:∀ g,G g→p.r g g) (hM:∀ b b',p.r b b'→M b')
  {fn fn':Func} {c c':Code} (h1:Q.funcs[f]? = some fn) (h2:F[f]? = some fn') (h3:fn.body=some c) (h4:fn'.body=some c') (h5:fn'.ntmps=fn.ntmps) (h6:fn'.results=fn.results) (h7:CRel Q G c c') (h8:CRel Q G c c)
  (H:∀ τ,Agree gw τ→Calls Q f xs (gw.retape τ) fun e w'=>∃ v,e=.returned v∧Rv v w')
  (K:∀ (q:Inj) (M':Nat→Prop) (v v':Value) (gw' w':World),p.le q→VRel q v v'→WRel q gw' w'→(∀ b b',q.r b b'→M' b')→Rv v gw'→∃ T,GoT (wf Q F) main Rely Guar Stop T M' (Conc.G (b.finish v') cs) w') :
  ∃ T,GoT (wf Q F) main Rely Guar Stop T M (Conc.G (Frame.enter (wf Q F) f xs' .normal) (b::cs)) w:=by
 have hfr:FRel Q F G p [] (Frame.enter Q f xs .normal) (Frame.enter (wf Q F) f xs' .normal):=FRel.enter h1 h2 h5 h6 h3 h4 h7 hx;have hfs:FRel Q Q.funcs G p [] (Frame.enter Q f xs .normal) (Frame.enter Q f xs' .normal):=FRel.enter (F:=Q.funcs) h1 h1 rfl rfl h3 h3 h8 hx;have hsur:=sur_of_calls Ss hfl hRv ⟨p,w,_,_,.base hfs rfl,hW,hg,hok,hG⟩ H;obtain ⟨T,hT⟩:=go_of_sur (main:=main) (cs0:=b::cs) (D:=[]) Sf hfl (stopAt_ok _ _) hRely hGuar hsur (p0:=p) (.base hfr rfl) hW hg hok hG hM (Inj.le_refl _);refine GoT.seq (fun M1 g1 w1 hL=>?_) refl T hT;obtain ⟨q,fr,fr',gw1,rfl,hle,hf,hW1,hM1,hr0,_,hm,hd,hfn,v,⟨_,_,_,gn,hfn',hres⟩,hRvv⟩:=hL.ex;refine GoT.mk fun w₁ hr=>.inr ⟨rfl, ?_⟩
 have hW2:WRel q gw1 w₁:=by
  obtain ⟨k1,k2⟩:=hRely _ _ _ hr;refine ⟨fun a a' ha=>?_,hW1.g1,Nat.le_trans hW1.g2 k2⟩;rw [k1 a' (hM1 a a' ha)];exact hW1.at_ a a' ha
 have hret:=results_retape hf hW2 hres (follow gw1 w₁);obtain ⟨fn1,rn,hg1,hg2,hg3⟩:=hf.func hr0;obtain rfl:fn1=gn:=Option.some.inj (hg1.symm.trans hfn');obtain ⟨p2,v2,w2,new,hR⟩:=(s_results (Q:=Q) (F:=F) fn1 rn hg3 hf.tmps).run (w:=w₁) _ _ #[] (hW2.of_heap (gw₁:=gw1.retape (follow gw1 w₁)) (w₁:=w₁) rfl rfl) (follow_ta gw1 w₁) hret;have hmode':fr'.mode=.returning:=by
  have:=hf.mode;rw [hm] at this;cases h:fr'.mode <;> rw [h] at this <;> first | rfl | cases this
 have hdef':fr'.defers=[]:=by
  obtain ⟨ms,k1,k2⟩:=hf.defers;rw [hd] at k1;cases k1;exact k2
 have hrunr:=hR.run;have hg2':(wf Q F).funcs[fr'.fn]? = some rn:=by rw [← hf.fn];exact hg2
 have hend:stepG (wf Q F) main (Conc.G fr' (b::cs)) w₁=.go (Conc.G (b.finish v2) cs) w2 (seen (wf Q F) fr'.fn new):=by
  have n1:fr'.mode≠.run:=by rw [hmode'];simp
  rw [step_unwind n1];have hrr:(results rn fr'.tmps).runT (wf Q F) w₁ #[]=(.ok v2 w2,new):=by simpa using hrunr
  simp [-Sem.runT_eq,unwind,hdef',hmode',hg2',hrr,GStep.after,doReturn,hf.kind',Conc.G]
 have hgrow:∀ a a',p2.r a a'→Grown M1 w₁ w2 a':=by
  intro a a' ha;rcases hR.fr.fresh a a' ha with h | h
  · exact .inl (hM1 a a' h)
  · exact .inr ⟨h,(hR.wrel.lt ha).2⟩
 exact ⟨_,w2,_,hend,hGuar M1 w₁ w2 _ q p2 hR.fr hM1 (fun e he=>hR.ev e (Conc.mem_seen he)) hgrow,K p2 _ v v2 _ w2 (Inj.le_trans hle hR.le) hR.rel hR.wrel hgrow (hRv _ _ _ hRvv)⟩
end
theorem GoT.weaken {P:Program} {main:Bool} {Rely:(Nat→Prop)→World→World→Prop} {Guar Guar':(Nat→Prop)→World→World→Array Event→Prop} {Stop Stop':(Nat→Prop)→Goroutine→World→Prop} (J:(Nat→Prop)→World→Prop)
  (h1:∀ M w w₁,J M w→Rely M w w₁→J M w₁) (h2:∀ M w w' es,J M w→Guar M w w' es→Guar' M w w' es∧J (Grown M w w') w') (h3:∀ M g w,J M w→Stop M g w→Stop' M g w) :
  ∀ (T:Tr) {M:Nat→Prop} {g:Goroutine} {w:World},J M w→GoT P main Rely Guar Stop T M g w→GoT P main Rely Guar' Stop' T M g w:=by
 intro T
 induction T with
 | nd ι f ih =>
   intro M g w hJ hg w₁ hr;have hJ1:=h1 _ _ _ hJ hr;rcases hg w₁ hr with hs | ⟨k1,i,g',w',es,k2,k3,k4⟩
   · exact .inl (h3 _ _ _ hJ1 hs)
   · obtain ⟨k5,k6⟩:=h2 _ _ _ _ hJ1 k3
     exact .inr ⟨k1,i,g',w',es,k2,k5,ih i k6 k4⟩
open Go Go.Conc
open Go.ConcN hiding EvL Inv Fin
open Go.ConcR (KK wgBlock WgAt stA smA rd wr Payload Aside2 DC0)
structure Cst.Out (c:Cst) (kb:Nat) (M:Nat→Prop) (w:World):Prop where
 kx:∀ b,c.Kx kb b→¬ M b∧b<w.heap.size∧b≠c.C
 C:¬ M c.C∧c.C<w.heap.size
 W:¬ M c.Wg∧c.Wg<w.heap.size∧c.Wg≠c.C
section
variable {c:Cst} {i kb:Nat} {M:Nat→Prop} {g:Goroutine} {w w':World} {es:Array Event}
theorem Cst.Out.grow (h:c.Out kb M w) (hs:w.heap.size≤w'.heap.size):c.Out kb (Grown M w w') w' :=
 ⟨fun b hb => ⟨fun e => e.elim (h.kx b hb).1 fun e => by have := (h.kx b hb).2.1; omega, Nat.lt_of_lt_of_le (h.kx b hb).2.1 hs, (h.kx b hb).2.2⟩, ⟨fun e => e.elim h.C.1 fun e => by have := h.C.2; omega, Nat.lt_of_lt_of_le h.C.2 hs⟩,
  ⟨fun e=>e.elim h.W.1 fun e=>by have:=h.W.2.1;omega,Nat.lt_of_lt_of_le h.W.2.1 hs,h.W.2.2⟩⟩
theorem Cst.Out.size (h:c.Out kb M w) (hs:w.heap.size≤w'.heap.size):c.Out kb M w' :=
 ⟨fun b hb=>⟨(h.kx b hb).1,Nat.lt_of_lt_of_le (h.kx b hb).2.1 hs,(h.kx b hb).2.2⟩,⟨h.C.1,Nat.lt_of_lt_of_le h.C.2 hs⟩,⟨h.W.1,Nat.lt_of_lt_of_le h.W.2.1 hs,h.W.2.2⟩⟩
def Cst.Kept [Payload] (c:Cst) (kb:Nat) (Fw:World→Prop):Prop:=∀ w w':World,(∀ b,c.Kx kb b→w'.heap[b]? = w.heap[b]?)→(WgLive c.ty c.Wg w→WgLive c.ty c.Wg w')→(PayAt c.C c.n w→PayAt c.C c.n w')→Fw w→Fw w'
theorem Cst.Kept.rely [Payload] {Fw:World→Prop} (h:c.Kept kb Fw) (hf:Fw w) (r:c.RK i kb M w w'):Fw w':=h w w' r.read r.live r.pay hf
theorem Cst.Kept.guar [Payload] {Fw:World→Prop} (h:c.Kept kb Fw) (ho:c.Out kb M w) (hf:Fw w) (r:GWk c.C c.n i (c.Kx kb) M w w' es):Fw w' :=
 h w w' (fun b hb=>r.block b (ho.kx b hb).2.1 (ho.kx b hb).1 (ho.kx b hb).2.2) (fun ⟨s1,s2,hl⟩=>⟨s1,s2,hl.of_block (r.block c.Wg ho.W.2.1 ho.W.1 ho.W.2.2)⟩) r.pay hf
theorem wk_call [Payload] {Q:Program} {F:Array Func} {Gl:Nat→Prop} {c0:Frame} (hP:c.P=wf Q F) (Sf:Funs Q F Gl (fun _=>False)) (Ss:Funs Q Q.funcs Gl (fun _=>False)) (hfl:Floor Q c0) {f:FuncId} {xs xs':Array Value} {gw:World} {Rv:Value→World→Prop} (hRv:∀ v w τ,Rv v w→Rv v (w.retape τ)) {p:Inj} {b:Frame} {cs:List Frame}
  (hx:ARel p xs xs') (hW:WRel p gw w) (hg:p.g=Q.globals.size) (hok:p.ok=fun c=>CRel Q Gl c c) (hG:∀ g,Gl g→p.r g g) (hM:∀ b b',p.r b b'→M b')
  {fn fn':Func} {cd cd':Code} (h1:Q.funcs[f]? = some fn) (h2:F[f]? = some fn') (h3:fn.body=some cd) (h4:fn'.body=some cd') (h5:fn'.ntmps=fn.ntmps) (h6:fn'.results=fn.results) (h7:CRel Q Gl cd cd') (h8:CRel Q Gl cd cd)
  (H:∀ τ,Agree gw τ→Calls Q f xs (gw.retape τ) fun e w'=>∃ v,e=.returned v∧Rv v w') {Fw:World→Prop} (hK:c.Kept kb Fw) (hF:Fw w) (hO:c.Out kb M w)
  (K:∀ (q:Inj) (M':Nat→Prop) (v v':Value) (gw' w':World),p.le q→VRel q v v'→WRel q gw' w'→(∀ b b',q.r b b'→M' b')→Rv v gw'→c.Out kb M' w'→Fw w'→c.Wk i kb M' (Conc.G (b.finish v') cs) w') :
  c.Wk i kb M (Conc.G (Frame.enter c.P f xs' .normal) (b::cs)) w:=by
 unfold Cst.Wk Cst.Work;rw [hP]
 let J:(Nat→Prop)→World→Prop:=fun M w=>c.Out kb M w∧Fw w
 have hRel:∀ (M:Nat→Prop) (w w₁:World),c.RK i kb M w w₁→(∀ b,M b→w₁.heap[b]? = w.heap[b]?)∧w.heap.size≤w₁.heap.size:=fun M w w₁ h=>⟨h.own,h.size⟩
 have hcont:∀ (q:Inj) (M':Nat→Prop) (v v':Value) (gw' w' w₁:World),p.le q→VRel q v v'→WRel q gw' w'→(∀ b b',q.r b b'→M' b')→Rv v gw'→c.RK i kb M' w' w₁→c.Out kb M' w₁→Fw w₁→c.Wk i kb M' (Conc.G (b.finish v') cs) w₁:=fun q M' v v' gw' w' w₁ k1 k2 k3 k4 k5 hr hO' hF'=>by
  refine K q M' v v' gw' w₁ k1 k2 ⟨fun a a' ha=>?_,k3.g1,Nat.le_trans k3.g2 hr.size⟩ k4 k5 hO' hF';rw [hr.own a' (k4 a a' ha)];exact k3.at_ a a' ha
 obtain ⟨T,hT⟩:=call_among (Rely:=fun M=>c.RK i kb M) (Guar:=fun M w w' es=>¬ M c.C→c.C<w.heap.size→GWk c.C c.n i (c.Kx kb) M w w' es) (Stop:=fun M g w=>c.Out kb M w→Fw w→c.Wk i kb M g w) (M:=M) (main:=false) (b:=b) (cs:=cs) Sf Ss hfl hRv hRel (fun M w=>RWk.refl w)
  (fun M w w' es p q hFr hpM hev hq hC hC2=>⟨hFr.size,hFr.tape,hFr.os,hFr.output,fun b hb hm _=>hFr.old b hb fun a ha=>hm (hpM a b ha),fun ⟨cs,k1,k2⟩=>⟨cs,(hFr.old c.C ((Array.getElem?_eq_some_iff.1 k1).1) fun a ha=>hC (hpM a _ ha)).trans k1,k2⟩,
    fun i' _=>cell_of_block (hFr.old c.C hC2 fun a ha=>hC (hpM a _ ha)) i',
    fun e he=>by
     rcases hev e he with ⟨a,b,k1,k2⟩ | ⟨r,b,k1,k2,k3⟩ | k1
     · refine ⟨fun x hx=>?_,by rw [k1];simp,by rw [k1];simp,fun a=>by rw [k1];simp⟩
       obtain ⟨loc,wr,sy⟩:=e;simp only at k1;subst k1;simp only [MemAct.ofEvent,MemAct.touch?,Option.some.injEq] at hx;subst hx;exact .inl (hq b a.block k2)
     · refine ⟨fun x hx=>?_,by rw [k1];simp,by rw [k1];simp,fun a=>by rw [k1];simp⟩
       obtain ⟨loc,wr,sy⟩:=e;simp only at k1 k2;subst k1 k2;simp only [MemAct.ofEvent,MemAct.touch?,Option.some.injEq] at hx;subst hx;exact .inl (hq b r k3)
     · refine ⟨fun x hx=>?_,by rw [k1];simp,by rw [k1];simp,fun a=>by rw [k1];simp⟩
       obtain ⟨loc,wr,sy⟩:=e;simp only at k1;subst k1;simp [MemAct.ofEvent,MemAct.touch?] at hx⟩)
  hx hW hg hok hG hM h1 h2 h3 h4 h5 h6 h7 h8 H (fun q M' v v' gw' w' k1 k2 k3 k4 k5=>GoT.stop fun w₁ hr hO' hF'=>hcont q M' v v' gw' w' w₁ k1 k2 k3 k4 k5 hr hO' hF')
 have hT2:=GoT.weaken (Guar':=GWk c.C c.n i (c.Kx kb)) (Stop':=fun M g w=>c.Wk i kb M g w) J (fun M w w₁ ⟨k1,k2⟩ hr=>⟨k1.size hr.size,hK.rely k2 hr⟩) (fun M w w' es ⟨k1,k2⟩ hg=>⟨hg k1.C.1 k1.C.2,k1.grow (hg k1.C.1 k1.C.2).size,hK.guar k1 k2 (hg k1.C.1 k1.C.2)⟩) (fun M g w ⟨k1,k2⟩ hs=>hs k1 k2) T ⟨hO,hF⟩ hT;refine GoT.seq (fun M g w hs=>?_) (fun M w=>RWk.refl w) T hT2;unfold Cst.Wk Cst.Work at hs;rw [hP] at hs;exact hs
end
end Go.Pt
