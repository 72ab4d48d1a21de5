/- Many goroutines that make memory, started by one, beside goroutines that only leave: a worker's turn, wherever it stands. No condition; no program in sight. -/
import Derived.Test.YtnceajabigdleaaDoorPtS5
namespace Go.Pt
open Go Go.Conc
open Go.ConcN hiding EvL Inv Fin
open Go.ConcR (KK wgBlock WgAt stA smA rd wr Payload Aside2 DC0 Bk g_of_ofEvents bk_of_mute ofEvent_loc_mark ofEvent_cell)
theorem okW_sh {S:Nat→Prop} {Wg k:Nat} {Own Rd Own' Rd':Nat→Loc→Prop} {op:MemOp} (h:OkW (ShN Wg) Own Rd k op) (h1:∀ l,Own k l→Own' k l) (h2:∀ l,Rd k l→Rd' k l):OkW (ShW S Wg) Own' Rd' k op :=
 ⟨h.1,fun x hx=>(h.2 x hx).imp (fun ⟨a,b⟩=>⟨shW_shN a,b⟩) fun h=>h.imp (h1 _) fun ⟨a,b⟩=>⟨h2 _ a,b⟩⟩
theorem bk_touch {Wg:Nat} {e:Event} (h:Bk Wg e) {x:Touch} (hx:(MemAct.ofEvent e).touch? = some x):ShN Wg x.loc∧x.kind=.atomic:=by
 rcases h with h1 | h1 | ⟨a,wr',rfl,ha⟩
 · rw [ofEvent_loc_mark h1] at hx;cases hx
 · rw [ofEvent_loc_mark h1] at hx;cases hx
 · simp only [ofEvent_cell,MemAct.touch?,Option.some.injEq] at hx
   subst hx;exact ⟨⟨a,rfl,ha⟩,rfl⟩
theorem bk_low {Wg B:Nat} (hW:Wg<B) {e:Event} (h:Bk Wg e) {x:Touch} (hx:(MemAct.ofEvent e).touch? = some x):InB (·<B) x.loc:=by
 obtain ⟨⟨a,ha,hb⟩,_⟩:=bk_touch h hx;rw [ha];show a.block<B
 omega
theorem RelK.book {Wg tB:Nat} {t:Trace} {k r d:Nat} (h:RelK Wg tB t k r) (hdk:Deaf t k=d) (fn:FuncId) (pos:String) {es:Array Event} (hes:∀ e∈es,Bk Wg e)
  (hd:∀ j e,es[j]? = some e→(MemAct.ofEvent e).touch? = none∨0<deafBehind d (es.extract 0 j)):RelK Wg tB (t++MemOp.ofEvents k fn pos es) k r:=by
 refine ⟨h.late,h.rel.book hdk fn pos hes hd,fun x a hx hgx ha=>?_⟩;obtain ⟨op,ho,hoa⟩:=touch_of ha;rcases getElem?_append_cases ho with ⟨hlt,ho'⟩ | ⟨_,hou⟩
 · exact h.behind x a hx (by rw [← hgx,g?_old hlt]) (by rw [← ha,touchAt_old hlt])
 · obtain ⟨e,he,rfl⟩:=Go.Conc.mem_ofEvents hou
   exact bk_touch (hes e he) hoa
section
variable {c:Cst} {Anch Ret:Goroutine→World→Prop} {q:Nat→Nat} {gs:Array Goroutine} {w:World} {sl:Option (Nat × Nat)} {j i:Nat} {D:Nat→WX} {tag:CTag} {cur:Option Nat} {f0 d0:Nat} {a:Goroutine} {t:Trace} {st sm:Int}
theorem workTurn [Payload] (H:c.Ok) (hAr:∀ g w,Anch g w→g.status=.running) (ha:gs[0]? = some a) (hss:c.SS Anch Ret tag cur j f0 d0 a w) (hpc:c.PC q j gs w t D d0 cur) (hwg:WgAt c.ty c.Wg w st sm) (hmode:Go.ConcN.Mode j (dD D) tag st sm) (hi:i<j)
  {g g':Goroutine} {w':World} {es:Array Event} {ι:Type} {f:ι→Tr} {i0:ι} (hg:gs[c.L0+i]? = some g) (hd:(D i).d=⟨7,0,0⟩) (hT:(D i).T=some (.nd ι f)) (hgo:stepG c.P false g w=.go g' w' es) (hG:GWk c.C c.n i (c.Kx (D i).kb) (D i).M w w' es)
  (hW:c.Work i (D i).kb (f i0) (Grown (D i).M w w') g' w') :
  ∃ m₁ ops μ',runT c.P (crowd gs w sl) (c.L0+i)=(.next m₁,ops)∧Mu.lt μ' (c.mu q j D tag f0)∧c.Inv Anch Ret μ' m₁ (t++ops):=by
 have hB:=hpc.geo.hB;have hWl:=hpc.geo.hW;have hCl:=hpc.geo.hC;have hMW:¬ (D i).M c.Wg:=fun h=>by have:=hpc.geo.M i hi _ h;omega
 refine workerTurn H hAr ha hss hpc hi hg hgo (x':=⟨⟨7,0,0⟩,some (f i0),Grown (D i).M w w',(D i).kb,(D i).v⟩) (Chg.of_work hG (by omega) hMW hpc.geo.hCW (fun _ h=>h) rfl) rfl (fun b hb=>.inl hb) (fun b hb=>hb) (.work hW) (fun op hop=>?_) (fun e he=>(hG.ev e he).2.2.2 _)
  (by rw [hd];exact deafBehind_idle (fun e he=>⟨(hG.ev e he).2.1,(hG.ev e he).2.2.1⟩) 0) (fun h=>absurd h (by simp)) (fun h=>absurd h (by simp)) (fun e he x hx=>?_) (hwg.of_block (hG.block c.Wg (by omega) hMW (Ne.symm hpc.geo.hCW)))
  (fun tag' ht _=>Go.ConcN.Mode.retag ?_ ht) (.inr ⟨by rw [hd],.inl (by rw [hT];exact .kid i0)⟩)
 · obtain ⟨e,he,rfl⟩:=Go.Conc.mem_ofEvents hop
   refine ⟨rfl,fun x hx=>?_⟩;rcases (hG.ev e he).1 x hx with h1 | h1 | ⟨h1,h2⟩
   · exact .inr (.inl ⟨i,rfl,hi,.inl (by rw [upx_same];exact h1)⟩)
   · exact .inr (.inl ⟨i,rfl,hi,.inr h1⟩)
   · exact .inr (.inr ⟨⟨i,rfl,hi,h1⟩,h2⟩)
 · have hs:=hG.size
   rcases (hG.ev e he).1 x hx with h1 | ⟨b,hb1,hb2,_⟩ | ⟨h1,_⟩
   · refine h1.mono fun b hb=>?_
     rcases hb with hb | hb
     · have:=hpc.geo.M i hi b hb;omega
     · exact hb.2
   · rw [hb1]
     show b.block<_
     omega
   · refine h1.mono fun b hb=>?_
     rcases hb with hb | rfl
     · have:=hpc.geo.hK b hb;omega
     · have:=hpc.geo.kb i hi;omega
 · have:=hmode.same (i:=i) 0 0
   simp only [dD,hd] at this ⊢;exact this
set_option maxHeartbeats 1600000 in
theorem lateTurn [Payload] (H:c.Ok) (hAr:∀ g w,Anch g w→g.status=.running) (ha:gs[0]? = some a) (hss:c.SS Anch Ret tag cur j f0 d0 a w) (hpc:c.PC q j gs w t D d0 cur) (hwg:WgAt c.ty c.Wg w st sm) (hmode:Go.ConcN.Mode j (dD D) tag st sm) (hi:i<j)
  {g:Goroutine} (hg:gs[c.L0+i]? = some g) (hrun:g.status=.running) {s m dd:Nat} {v:Value} (hst:(D i).d.stage=s) (hde:(D i).d.deaf=dd) (hT:((D i).T=none∧(D i).d.fuel=m)∨∃ T,(D i).T=some T) (hs:c.WS i v s m dd g w) (hres:c.Res i v (D i).M w) (hhas:s≤6→Has c.C i v w) :
  ∃ m₁ ops μ',runT c.P (crowd gs w sl) (c.L0+i)=(.next m₁,ops)∧Mu.lt μ' (c.mu q j D tag f0)∧c.Inv Anch Ret μ' m₁ (t++ops):=by
 have hst':(dD D i).stage=s:=hst;have hb:=hss.bound;have hn:=H.n;have hVj:=Vc_le j (dD D);have hCW:=hpc.geo.hCW;have hWs:c.Wg<w.heap.size:=by have:=hpc.geo.hB;have:=hpc.geo.hW;omega
 have hdk:Deaf t (c.L0+i)=dd:=by rw [hpc.deafW i hi,hde]
 have lt_of:∀ {s' m' dd':Nat},((s'<s∧cnt ⟨s',m',dd'⟩≤cnt (D i).d)∨(s'=s∧m'+1=m)) →
  (s'<(D i).d.stage∧cnt ⟨s',m',dd'⟩≤cnt (D i).d)∨(s'=(D i).d.stage∧(TrLt none (D i).T∨(none=(D i).T∧m'+1=(D i).d.fuel))):=by
  intro s' m' dd' h;rcases h with h | ⟨h1,h2⟩
  · exact .inl (by rw [hst];exact h)
  · refine .inr ⟨by rw [hst];exact h1, ?_⟩
    rcases hT with ⟨h3,h4⟩ | ⟨T,h3⟩
    · exact .inr ⟨h3.symm,by rw [h4];exact h2⟩
    · exact .inl (by rw [h3];exact .bot)
 have bookG:∀ {g':Goroutine} {w':World} {es:Array Event} {s' m' dd':Nat} {st' sm':Int},stepG c.P false g w=.go g' w' es→Aside c.Wg w w'→WgAt c.ty c.Wg w' st' sm'→(∀ e∈es,Bk c.Wg e) →
  (∀ jx e,es[jx]? = some e→(MemAct.ofEvent e).touch? = none∨0<deafBehind dd (es.extract 0 jx))→c.WS i v s' m' dd' g' w'→deafBehind dd es=dd'→s≤6 →
  (∀ tag',(tag'=tag∨(tag=.blk∧tag'=.w3))→(mayWake c.P g=true→g'.status=.running→tag'≠.blk)→Go.ConcN.Mode j (upd (dD D) i ⟨s',m',dd'⟩) tag' st' sm')→((s'<s∧cnt ⟨s',m',dd'⟩≤cnt (D i).d)∨(s'=s∧m'+1=m)) →
  ∃ m₁ ops μ',runT c.P (crowd gs w sl) (c.L0+i)=(.next m₁,ops)∧Mu.lt μ' (c.mu q j D tag f0)∧c.Inv Anch Ret μ' m₁ (t++ops):=by
  intro g' w' es s' m' dd' st' sm' hgo hAs hwg' hbk hd hs' hdd h6 hmode' hlt;refine workerTurn H hAr ha hss hpc hi hg hgo (x':=⟨⟨s',m',dd'⟩,none,(D i).M,(D i).kb,v⟩) (Chg.of_wg hAs ⟨_,_,hwg'⟩ hCW) rfl (fun _ h=>h) (fun _ h=>.inl h)
   (.late hs' (H.res _ _ _ _ _ (fun b hb=>hAs.block b (fun e=>by have:=hpc.geo.M i hi b hb;have:=hpc.geo.hW;omega)) hres))
   (fun op hop=>okW_sh (okW_of_Bk (Own:=fun _ _=>False) (Rd:=fun _ _=>False) hbk op hop) (fun _ h=>h.elim) (fun _ h=>h.elim)) (norel_of_Bk hbk) (by rw [hde];exact hdd)
   (fun _=>let ⟨r,hr⟩:=hpc.rel i hi (by omega);⟨r,hr.book hdk _ _ hbk hd⟩) (fun _=>(cell_of_block (hAs.block c.C hCW) i).trans (hhas h6)) (fun e he x hx=>bk_low (by rw [hAs.size];exact hWs) (hbk e he) hx) hwg' hmode' (lt_of hlt)
 have book:∀ {g':Goroutine} {w':World} {es:Array Event} {s' m' dd':Nat} {st' sm':Int},stepG c.P false g w=.go g' w' es→Aside c.Wg w w'→WgAt c.ty c.Wg w' st' sm'→(∀ e∈es,Bk c.Wg e) →
  (∀ jx e,es[jx]? = some e→(MemAct.ofEvent e).touch? = none∨0<deafBehind dd (es.extract 0 jx))→c.WS i v s' m' dd' g' w'→deafBehind dd es=dd'→s≤6 →
  Go.ConcN.Mode j (upd (dD D) i ⟨s',m',dd'⟩) tag st' sm'→((s'<s∧cnt ⟨s',m',dd'⟩≤cnt (D i).d)∨(s'=s∧m'+1=m)) →
  ∃ m₁ ops μ',runT c.P (crowd gs w sl) (c.L0+i)=(.next m₁,ops)∧Mu.lt μ' (c.mu q j D tag f0)∧c.Inv Anch Ret μ' m₁ (t++ops) :=
  fun hgo hAs hwg' hbk hd hs' hdd h6 hmode' hlt=>bookG hgo hAs hwg' hbk hd hs' hdd h6 (fun _ ht _=>hmode'.retag ht) hlt
 have idle:∀ {g':Goroutine} {m':Nat},stepG c.P false g w=.go g' w #[]→c.WS i v s m' dd g' w→m'+1=m→s≤6 →
  ∃ m₁ ops μ',runT c.P (crowd gs w sl) (c.L0+i)=(.next m₁,ops)∧Mu.lt μ' (c.mu q j D tag f0)∧c.Inv Anch Ret μ' m₁ (t++ops):=by
  intro g' m' hgo hs' hm h6;exact book hgo (.refl c.Wg w) hwg (by simp) (by simp) hs' rfl h6 (by have:=hmode.same (i:=i) m' dd;rwa [hst'] at this) (.inr ⟨rfl,hm⟩)
 have bk0:∀ e∈#[Go.ConcR.mk .disable],Bk c.Wg e:=by intro e he;simp at he;subst he;exact .inl rfl
 cases hs with
 | r0 h =>
   rcases Goes.cases h with hstop | ⟨m',rfl,hstep⟩
   · obtain ⟨_,hh,g',hgo,m₂,hk⟩:=hstop w (RW.refl w)
     have hh:Has c.C i v w:=hh;refine workerTurn H hAr ha hss hpc hi hg hgo (x':=⟨⟨6,m₂,0⟩,none,(D i).M,(D i).kb,v⟩) (Chg.refl w) rfl (fun _ h=>h) (fun _ h=>.inl h) (.late (.k1 hk) hres)
      (fun op hop=>okW_sh (okW_none (Own:=fun _ _=>False) (Rd:=fun _ _=>False) (by intro e he;simp at he;subst he;rfl) op hop) (fun _ h=>h.elim) (fun _ h=>h.elim)) (by intro e he;simp at he;subst he;simp [Go.ConcR.mk]) (by rw [hde];rfl)
      (fun _=>⟨t.size,hpc.tB,RelBy.new hdk _ _,fun x b hx hgx hxa=>?_⟩) (fun _=>hh) (by intro e he x hx;simp at he;subst he;cases hx) hwg
      (fun _ ht _=>(hmode.counted hi (by omega) (.inl rfl) _ _).retag ht) (lt_of (s':=6) (m':=m₂) (dd':=0) (.inl ⟨by omega,by simp [cnt,hst]⟩))
     obtain ⟨op,ho,_⟩:=touch_of hxa;have:=lt_size_of_getElem? ho;have e1:(MemOp.ofEvents (c.L0+i) g.frame.fn g.frame.place #[Go.ConcR.mk (.releaseMerge (stA c.Wg))]).size=1:=by rw [ofEvents_eq];simp
     simp only [Array.size_append,e1] at this;omega
   · obtain ⟨g',w',es,hgo,⟨hac,hev⟩,hg'⟩:=hstep w (RW.refl w)
     simp only [Nat.add_sub_cancel] at hac;refine workerTurn H hAr ha hss hpc hi hg hgo (x':=⟨⟨7,m',0⟩,none,(D i).M,(D i).kb,v⟩) (Chg.of_cell hac hCW rfl) rfl (fun _ h=>h) (fun _ h=>.inl h)
      (.late (.r0 hg') (H.res _ _ _ _ _ (fun b hb=>hac.block b (fun e=>by have:=hpc.geo.M i hi b hb;have:=hpc.geo.hC;omega)) hres))
      (fun op hop=>?_) (fun e he=>(hev e he).2.2.2) (by rw [hde];exact deafBehind_idle (fun e he=>⟨(hev e he).2.1,(hev e he).2.2.1⟩) 0) (fun h=>absurd h (by simp)) (fun h=>absurd h (by simp)) (fun e he x hx=>?_)
      (hwg.of_block (hac.block c.Wg (Ne.symm hCW))) (fun _ ht _=>Go.ConcN.Mode.retag (by have:=hmode.same (i:=i) m' 0;rwa [hst'] at this) ht) (lt_of (.inr ⟨rfl,rfl⟩))
     · obtain ⟨e,he,rfl⟩:=Go.Conc.mem_ofEvents hop
       refine ⟨rfl,fun x hx=>?_⟩;rcases ((hev e he).1 0 "").2 x hx with ⟨h1,h2⟩ | h1 | ⟨h1,_⟩
       · exact .inl ⟨shW_shN h1,h2⟩
       · exact h1.elim
       · exact h1.elim
     · rcases ((hev e he).1 0 "").2 x hx with ⟨⟨b,hb1,hb2⟩,_⟩ | h1 | ⟨h1,_⟩
       · rw [hb1]
         show b.block<_
         rw [hac.size];omega
       · exact h1.elim
       · exact h1.elim
 | k1 h =>
   rcases Goes.cases h with hstop | ⟨m',rfl,hstep⟩
   · obtain ⟨_,g',hgo,m₂,hk⟩:=hstop w (RW.refl w)
     exact book hgo (.refl c.Wg w) hwg bk0 (by intro jx e he;exact .inl (by have:=Array.mem_of_getElem? he;simp at this;subst this;rfl)) (.d1 hk) rfl (by omega)
      (hmode.counted hi (by omega) (.inr rfl) _ _) (.inl ⟨by omega,by simp [cnt,hst]⟩)
   · obtain ⟨g',w',es,hgo,⟨rfl,rfl⟩,hg'⟩:=hstep w (RW.refl w)
     exact idle hgo (.k1 hg') rfl (by omega)
 | d1 h =>
   rcases Goes.cases h with hstop | ⟨m',rfl,hstep⟩
   · obtain ⟨_,hall⟩:=hstop w (RW.refl w)
     have hc1:cnt (dD D i)=1:=by simp [cnt,hst']
     have hV1:1≤Vc j (dD D):=by have:=le_sumTo (f:=fun x=>cnt (dD D x)) hi;simp only [Vc];omega
     have bk2:∀ e∈#[rd (stA c.Wg),wr (stA c.Wg)],Bk c.Wg e:=by intro e he;simp at he;rcases he with rfl | rfl <;> exact bk_cell _ _ rfl
     have df2:∀ jx e,(#[rd (stA c.Wg),wr (stA c.Wg)]:Array Event)[jx]? = some e→(MemAct.ofEvent e).touch? = none∨0<deafBehind 1 ((#[rd (stA c.Wg),wr (stA c.Wg)]:Array Event).extract 0 jx):=by
      intro jx e he;match jx,he with
      | 0,_=>exact .inr (by simp [deafBehind])
      | 1,_=>exact .inr (by simp [deafBehind,rd])
      | jx+2,he=>simp at he
     have hq0:∀ q,cnt (⟨1,q,1⟩:WD)=0:=fun _=>rfl
     have opq:∀ q,OpenSt j (dD D)→OpenSt j (upd (dD D) i ⟨1,q,1⟩):=fun q h a ha=>by
      by_cases e:a=i
      · subst e;rw [upd_same];simp
      · rw [upd_ne _ _ e];exact h a ha
     cases hmode with
     | opn h1 h2 h3 =>
       obtain ⟨u,hu⟩:∃ u,Vc j (dD D)+pend tag=u+1:=⟨Vc j (dD D)+pend tag - 1,by omega⟩;rw [hu] at hwg;have hw1:WgAt c.ty c.Wg w (((u:Nat)+1)*KK+((0:Nat):Int)) 0:=by simpa using hwg
       obtain ⟨g',hgo,_,hq⟩:=hall u 0 (by omega) (by omega) hw1;obtain ⟨q',hq⟩:=hq (by omega);have hv':Vc j (upd (dD D) i ⟨1,q',1⟩)+pend tag=u:=by have:=Vc_upd (dD D) (⟨1,q',1⟩:WD) hi;have:=hq0 q';omega
       refine book hgo (aside_setCell w (stA c.Wg) _) (hwg.setSt _) bk2 df2 (.quit hq) rfl (by omega) ?_ (.inl ⟨by omega,by simp [cnt]⟩);have e:((u:Nat):Int)*KK+((0:Nat):Int)=((Vc j (upd (dD D) i ⟨1,q',1⟩)+pend tag:Nat):Int)*KK:=by rw [hv'];simp
       rw [e];exact .opn h1 (opq q' h2) (fun vs ev=>by have:=h3 vs ev;omega)
     | reg h1 h2 h3 =>
       obtain ⟨u,hu⟩:∃ u,Vc j (dD D)=u+1:=⟨Vc j (dD D) - 1,by omega⟩;rw [hu] at hwg;have hw1:WgAt c.ty c.Wg w (((u:Nat)+1)*KK+((1:Nat):Int)) 0:=by simpa using hwg
       obtain ⟨g',hgo,hl,hq⟩:=hall u 1 (by omega) (by omega) hw1;by_cases hu0:u=0
       · subst hu0
         obtain ⟨m₂,hk⟩:=hl ⟨rfl,rfl⟩;refine book hgo (aside_setCell w (stA c.Wg) _) (hwg.setSt _) bk2 df2 (.d2 hk) rfl (by omega) ?_ (.inl ⟨by omega,by simp [cnt]⟩);have hoth:∀ a,a<j→a≠i→(dD D a).stage=1:=fun a ha e=>by
          have c0:=others_uncounted hi hu hc1 a ha e;have:=h2 a ha;simp only [cnt] at c0;split at c0 <;> omega
         have:=Go.ConcN.Mode.last (j:=j) (D:=upd (dD D) i ⟨4,m₂,1⟩) (tag:=tag) i h1 hi (by rw [upd_same];simp) (fun a ha e=>by rw [upd_ne _ _ e];exact hoth a ha e);rw [upd_same] at this
         simpa using this
       · obtain ⟨q',hq⟩:=hq (by omega)
         have hv':Vc j (upd (dD D) i ⟨1,q',1⟩)=u:=by have:=Vc_upd (dD D) (⟨1,q',1⟩:WD) hi;have:=hq0 q';omega
         refine book hgo (aside_setCell w (stA c.Wg) _) (hwg.setSt _) bk2 df2 (.quit hq) rfl (by omega) ?_ (.inl ⟨by omega,by simp [cnt]⟩);have e:((u:Nat):Int)*KK+((1:Nat):Int)=((Vc j (upd (dD D) i ⟨1,q',1⟩):Nat):Int)*KK+1:=by rw [hv'];simp
         rw [e];exact .reg h1 (opq q' h2) (by omega)
     | last L _ h2 h3 h4 =>
       by_cases e:i=L
       · subst e;omega
       · have:=h4 i hi e;omega
     | sema h2=>have:=h2 i hi;omega
     | fin _ h2=>have:=h2 i hi;omega
   · obtain ⟨g',w',es,hgo,⟨rfl,rfl⟩,hg'⟩:=hstep w (RW.refl w)
     exact idle hgo (.d1 hg') rfl (by omega)
 | d2 h =>
   rcases Goes.cases h with hstop | ⟨m',rfl,hstep⟩
   · obtain ⟨_,hx⟩:=hstop w (RW.refl w)
     obtain ⟨hW3,hoth,rfl,rfl⟩:=hmode.isLast hi (by omega);simp only [hst'] at hwg;obtain ⟨g',hgo,m₂,hk⟩:=hx (by simpa using hwg);refine book hgo (.refl c.Wg w) hwg (by intro e he;simp at he;subst he;exact bk_cell _ _ rfl) (by intro jx e he;match jx,he with | 0,_=>exact .inr (by simp [deafBehind]) | jx+1,he=>simp at he) (.d3 hk) rfl (by omega) ?_ (.inl ⟨by omega,by simp [cnt]⟩);have:=Go.ConcN.Mode.last (j:=j) (D:=upd (dD D) i ⟨3,m₂,1⟩) (tag:=tag) i hW3 hi (by rw [upd_same];simp) (fun a ha e=>by rw [upd_ne _ _ e];exact hoth a ha e);rw [upd_same] at this
     simpa using this
   · obtain ⟨g',w',es,hgo,⟨rfl,rfl⟩,hg'⟩:=hstep w (RW.refl w)
     exact idle hgo (.d2 hg') rfl (by omega)
 | d3 h =>
   rcases Goes.cases h with hstop | ⟨m',rfl,hstep⟩
   · obtain ⟨_,hx⟩:=hstop w (RW.refl w)
     obtain ⟨hW3,hoth,rfl,rfl⟩:=hmode.isLast hi (by omega);simp only [hst'] at hwg;obtain ⟨g',hgo,m₂,hk⟩:=hx (by simpa using hwg);refine book hgo (aside_setCell w (stA c.Wg) _) (hwg.setSt 0) (by intro e he;simp at he;subst he;exact bk_cell _ _ rfl) (by intro jx e he;match jx,he with | 0,_=>exact .inr (by simp [deafBehind]) | jx+1,he=>simp at he) (.d4 hk) rfl (by omega) ?_ (.inl ⟨by omega,by simp [cnt]⟩);have:=Go.ConcN.Mode.last (j:=j) (D:=upd (dD D) i ⟨2,m₂,1⟩) (tag:=tag) i hW3 hi (by rw [upd_same];simp) (fun a ha e=>by rw [upd_ne _ _ e];exact hoth a ha e);rw [upd_same] at this
     simpa using this
   · obtain ⟨g',w',es,hgo,⟨rfl,rfl⟩,hg'⟩:=hstep w (RW.refl w)
     exact idle hgo (.d3 hg') rfl (by omega)
 | d4 h =>
   rcases Goes.cases h with hstop | ⟨m',rfl,hstep⟩
   · obtain ⟨_,hmw,hx⟩:=hstop w (RW.refl w)
     obtain ⟨hW3,hoth,rfl,rfl⟩:=hmode.isLast hi (by omega);simp only [hst'] at hwg;obtain ⟨g',hgo,q',hq⟩:=hx (by simpa using hwg);have hrun':g'.status=.running:=by
      cases q' with
      | zero=>exact absurd hq.2 (by decide)
      | succ q'=>exact hq.elim (fun x=>absurd x.2 (by decide)) (fun x=>x.1)
     refine bookG hgo (aside_setCell w (smA c.Wg) _) (hwg.setSm 1) (es:=semEvents (smA c.Wg)) ?_ ?_ (.quit hq) (by simp [deafBehind,semEvents]) (by omega) ?_ (.inl ⟨by omega,by simp [cnt]⟩)
     · intro e he
       simp [semEvents] at he;rcases he with rfl | rfl | rfl | rfl
       · exact .inl rfl
       · exact bk_cell _ _ rfl
       · exact bk_cell _ _ rfl
       · exact .inr (.inl rfl)
     · intro jx e he
       match jx,he with
       | 0,he=>simp [semEvents] at he;subst he;exact .inl rfl
       | 1,_=>exact .inr (by simp [deafBehind,semEvents])
       | 2,_=>exact .inr (by simp [deafBehind,semEvents])
       | 3,he=>simp [semEvents] at he;subst he;exact .inl rfl
       | jx+4,he=>simp [semEvents] at he
     · intro tag' ht hw
       have hnb:=hw hmw hrun';have e3:tag'=.w3:=by
        rcases ht with rfl | ⟨_,rfl⟩
        · cases tag' <;> first | rfl | exact hW3.elim | exact absurd rfl hnb
        · rfl
       subst e3;simp only [if_true];exact .sema fun a ha=>by
        by_cases e:a=i
        · subst e;rw [upd_same]
        · rw [upd_ne _ _ e];exact hoth a ha e
   · obtain ⟨g',w',es,hgo,⟨rfl,rfl⟩,hg'⟩:=hstep w (RW.refl w)
     exact idle hgo (.d4 hg') rfl (by omega)
 | quit h =>
   cases m with
   | zero=>rw [h.1] at hrun;cases hrun
   | succ q' =>
     rcases h with ⟨hf,_⟩ | ⟨_,g',es,hmute,hstep,hq⟩
     · rw [hf] at hrun;cases hrun
     · have hbk:∀ e∈es,Bk c.Wg e:=fun e he=>bk_of_mute (hmute e he)
       have hno:∀ jx e,es[jx]? = some e→(MemAct.ofEvent e).touch? = none∨0<deafBehind dd (es.extract 0 jx):=fun jx e he=>.inl (touch_mute (hmute e (Array.mem_of_getElem? he)))
       exact book (hstep w) (.refl c.Wg w) hwg hbk hno (.quit hq) rfl (by omega) (by have:=hmode.same (i:=i) q' (deafBehind dd es);rwa [hst'] at this) (.inr ⟨rfl,rfl⟩)
theorem wkTurn [Payload] (H:c.Ok) (hAr:∀ g w,Anch g w→g.status=.running) (ha:gs[0]? = some a) (hss:c.SS Anch Ret tag cur j f0 d0 a w) (hpc:c.PC q j gs w t D d0 cur) (hwg:WgAt c.ty c.Wg w st sm) (hmode:Go.ConcN.Mode j (dD D) tag st sm) (hi:i<j)
  {g:Goroutine} (hg:gs[c.L0+i]? = some g) (hrun:g.status=.running) :
  ∃ m₁ ops μ',runT c.P (crowd gs w sl) (c.L0+i)=(.next m₁,ops)∧Mu.lt μ' (c.mu q j D tag f0)∧c.Inv Anch Ret μ' m₁ (t++ops):=by
 obtain ⟨g₁,hg₁,hs⟩:=hpc.wk i hi;obtain rfl:g=g₁:=by rw [hg] at hg₁;exact Option.some.inj hg₁
 generalize hx:D i=x at hs;cases hs with
 | @work T M kb v _ _ h =>
   cases T with
   | nd ι f =>
     rcases h w (RWk.refl w) with ⟨v',m,hres,hgoes⟩ | ⟨_,i0,g',w',es,hgo,hG,hT⟩
     · exact lateTurn H hAr ha hss hpc hwg hmode hi hg hrun (s:=7) (m:=m) (dd:=0) (by rw [hx]) (by rw [hx]) (.inr ⟨_,by rw [hx]⟩) (.r0 hgoes) (by rw [hx];exact hres) (fun h=>absurd h (by simp))
     · exact workTurn H hAr ha hss hpc hwg hmode hi hg (by rw [hx]) (by rw [hx]) hgo (by rw [hx];exact hG) (by rw [hx];exact hT)
 | @late s m d M kb v _ _ h hres =>
   exact lateTurn H hAr ha hss hpc hwg hmode hi hg hrun (by rw [hx]) (by rw [hx]) (.inl ⟨by rw [hx],by rw [hx]⟩) h (by rw [hx];exact hres) (fun h6=>by have:=hpc.has i hi (by rw [hx];exact h6);rw [hx] at this;exact this)
end
open Go Go.Conc
open Go.ConcN hiding EvL Inv Fin
open Go.ConcR (KK wgBlock WgAt stA smA rd wr Payload Aside2 DC0 Bk g_of_ofEvents bk_of_mute ofEvent_loc_mark ofEvent_cell ofEvent_mk)
section
variable {c:Cst} {Anch Ret:Goroutine→World→Prop} {q:Nat→Nat} {gs:Array Goroutine} {w w':World} {sl:Option (Nat × Nat)} {j i:Nat} {D:Nat→WX} {tag tag':CTag} {cur cur':Option Nat} {f0 f' d0:Nat} {a a':Goroutine} {t:Trace} {st sm st' sm':Int} {es:Array Event}
theorem Cst.PC.see [Payload] (h:c.PC q j gs w t D d0 cur) {b:Nat} (hb:c.See cur b):b<w.heap.size∧b≠c.C∧b≠c.Wg∧¬ c.S b∧∀ i,i<j→¬ (D i).M b:=by
 have h1:=h.geo.hB;have h2:=h.geo.hC;have h3:=h.geo.hW;rcases hb with ⟨k1,k2,k3,k4⟩ | hb
 · exact ⟨by omega,k2,k3,k4,fun i hi hm=>by have:=h.geo.M i hi b hm;omega⟩
 · obtain ⟨k1,k2,k3⟩:=h.cur b hb
   exact ⟨k2,by omega,by omega,fun hs=>by have:=h.geo.hS b hs;omega,fun i hi=>(k3 i hi).1⟩
theorem ok0_of_EvS [Payload] (h:c.PC q j gs w t D d0 cur) {fn:FuncId} {pos:String} (hev:∀ e∈es,c.EvS cur e):∀ op∈MemOp.ofEvents 0 fn pos es,Ok0 (ShW c.S c.Wg) (OwnF c.C c.L0 j D) (RdF c.L0 j c.K D) (c.L0+j - 1) op:=by
 intro op hop;obtain ⟨e,he,rfl⟩:=Go.Conc.mem_ofEvents hop;refine ⟨rfl,fun x hx=>?_⟩;rcases (hev e he).1 x hx with ⟨h1,h2⟩ | ⟨h1,h2⟩
 · exact .inl ⟨h1.mono fun b hb=>.inr hb,h2⟩
 · obtain ⟨b,hb,hbl⟩:=h1.get
   obtain ⟨s1,s2,s3,s4,s5⟩:=h.see hb;refine .inr ⟨fun hs=>?_,fun k _ _=>?_,fun hw k _ _=>?_⟩
   · rcases hbl _ hs with hs | rfl
     · exact s4 hs
     · exact s3 rfl
   · rintro ⟨i,_,hi,hm | ⟨ad,had,hac,_⟩⟩
     · exact s5 i hi (hbl _ hm)
     · exact s2 (hbl (fun z=>z=c.C) (by rw [had];exact hac))
   · rintro ⟨i,_,hi,hr⟩
     have hcb:=hbl _ (h2 hw);obtain ⟨k1,k2,k3⟩:=h.cur b hcb;rcases hbl _ hr with hr | hr
     · have:=h.geo.hK b hr;omega
     · exact (k3 i hi).2 hr
theorem starterTurn [Payload] (H:c.Ok) (ha:gs[0]? = some a) (hpc:c.PC q j gs w t D d0 cur) (hgo:stepG c.P true a w=.go a' w' es) {X:Nat→Prop} (hch:Chg c.ty c.Wg c.C c.n X (fun _=>False) w w') (hX:∀ b,X b→cur=some b)
  (hok:∀ op∈MemOp.ofEvents 0 a.frame.fn a.frame.place es,Ok0 (ShW c.S c.Wg) (OwnF c.C c.L0 j D) (RdF c.L0 j c.K D) (c.L0+j - 1) op) (hnr:∀ e∈es,e.loc≠.mark (.release (stA c.Wg)))
  (hlow:∀ e∈es,∀ x,(MemAct.ofEvent e).touch? = some x→InB (·<w'.heap.size) x.loc) (hcur:∀ b,cur'=some b→cur=some b∨(w.heap.size≤b∧b<w'.heap.size))
  (hss':c.SS Anch Ret tag' cur' j f' (deafBehind d0 es) a' w') (hwg:WgAt c.ty c.Wg w' st' sm') (hmode:Go.ConcN.Mode j (dD D) tag' st' sm')
  (hlt:phi c.n (Vc j (dD D)) tag'<phi c.n (Vc j (dD D)) tag∨(phi c.n (Vc j (dD D)) tag'=phi c.n (Vc j (dD D)) tag∧f'<f0)) :
  ∃ m₁ ops μ',runT c.P (crowd gs w sl) 0=(.next m₁,ops)∧Mu.lt μ' (c.mu q j D tag f0)∧c.Inv Anch Ret μ' m₁ (t++ops):=by
 have hL:=H.L0;have hrun:=runT_crowd_go (P:=c.P) (sl:=sl) (i:=0) ha (show stepG c.P (0==0) a w=_ from hgo);refine ⟨_,_,c.mu q j D tag' f',hrun, ?_,_,w',sl,q,j,D,tag',cur',f',deafBehind d0 es,a',st',sm',rfl,get_map_set_same _ _ _ (by rw [hpc.size];omega),hss',hpc.starter H hch hX hok hnr hlow hcur,hwg,hmode,rfl⟩;unfold Cst.mu;rcases hlt with h | ⟨h1,h2⟩
 · exact Mu.lt1 (by omega)
 · rw [h1];exact Mu.lt3 (by omega)
theorem idleS [Payload] (H:c.Ok) (ha:gs[0]? = some a) (hpc:c.PC q j gs w t D d0 cur) (hwg:WgAt c.ty c.Wg w st sm) (hmode:Go.ConcN.Mode j (dD D) tag st sm) (hgo:stepG c.P true a w=.go a' w' es) (hD:c.DS cur w w' es) (hss':c.SS Anch Ret tag cur j f' d0 a' w') (hf:f'<f0) :
  ∃ m₁ ops μ',runT c.P (crowd gs w sl) 0=(.next m₁,ops)∧Mu.lt μ' (c.mu q j D tag f0)∧c.Inv Anch Ret μ' m₁ (t++ops):=by
 have h1:=hpc.geo.hB;have h2:=hpc.geo.hC;have h3:=hpc.geo.hW;have hcb:∀ b,b<c.B1→cur≠some b:=fun b hb e=>by have:=hpc.cur b e;omega
 have hdf:deafBehind d0 es=d0:=deafBehind_idle (fun e he=>⟨(hD.ev e he).2.1,(hD.ev e he).2.2.1⟩) d0;obtain ⟨cs,hc1,hc2⟩:=hpc.pay;refine starterTurn H ha hpc hgo (X:=fun b=>cur=some b) ⟨Nat.le_of_eq hD.size.symm,hD.tape,hD.os,hD.output,fun b _ hb _ _=>hD.block b hb,fun ⟨s1,s2,hl⟩=>⟨s1,s2,hl.of_block (hD.block _ (hcb _ h3))⟩,fun ⟨cs,e1,e2⟩=>⟨cs,(hD.block _ (hcb _ h2)).trans e1,e2⟩,fun i _=>cell_of_block (hD.block _ (hcb _ h2)) i⟩
  (fun _ h=>h) (ok0_of_EvS hpc hD.ev) (fun e he=>(hD.ev e he).2.2.2 _) (fun e he x hx=>?_) (fun b hb=>.inl hb) (by rw [hdf];exact hss') (hwg.of_block (hD.block _ (hcb _ h3))) hmode (.inr ⟨rfl,hf⟩)
 rcases (hD.ev e he).1 x hx with ⟨k1,_⟩ | ⟨k1,_⟩
 · refine k1.mono fun b hb=>?_
   rw [hD.size,hb];omega
 · refine k1.mono fun b hb=>?_
   rw [hD.size];exact (hpc.see hb).1
theorem bookS [Payload] (H:c.Ok) (ha:gs[0]? = some a) (hpc:c.PC q j gs w t D d0 cur) (hgo:stepG c.P true a w=.go a' w' es) (hAs:Aside c.Wg w w') (hwg':WgAt c.ty c.Wg w' st' sm') (hbk:∀ e∈es,Bk c.Wg e) (hss':c.SS Anch Ret tag' cur' j f' (deafBehind d0 es) a' w') (hcur:∀ b,cur'=some b→cur=some b)
  (hmode':Go.ConcN.Mode j (dD D) tag' st' sm') (hlt:phi c.n (Vc j (dD D)) tag'<phi c.n (Vc j (dD D)) tag∨(phi c.n (Vc j (dD D)) tag'=phi c.n (Vc j (dD D)) tag∧f'<f0)) :
  ∃ m₁ ops μ',runT c.P (crowd gs w sl) 0=(.next m₁,ops)∧Mu.lt μ' (c.mu q j D tag f0)∧c.Inv Anch Ret μ' m₁ (t++ops):=by
 have h1:=hpc.geo.hB;have h3:=hpc.geo.hW;refine starterTurn H ha hpc hgo (X:=fun _=>False) (Chg.of_wg hAs ⟨_,_,hwg'⟩ hpc.geo.hCW) (fun _ h=>h.elim) (fun op hop=>?_) (norel_of_Bk hbk) (fun e he x hx=>bk_low (by rw [hAs.size];omega) (hbk e he) hx) (fun b hb=>.inl (hcur b hb)) hss' hwg' hmode' hlt;obtain ⟨e,he,rfl⟩:=Go.Conc.mem_ofEvents hop;refine ⟨rfl,fun x hx=>?_⟩;obtain ⟨k1,k2⟩:=bk_touch (hbk e he) hx;exact .inl ⟨shW_shN k1,by rw [k2];simp⟩
structure Cst.DoneAt [Payload] (c:Cst) (Ret:Goroutine→World→Prop) (gs:Array Goroutine) (a:Goroutine) (w:World) (t:Trace) (q:Nat→Nat):Prop where
 bes:Bes c.P (fun b=>c.S b∨b=c.Wg) gs a w t q
 ret:Ret a w
 pay:PayAt c.C c.n w
 rows:∃ (V:Nat→Value) (M:Nat→Nat→Prop),(∀ i,i<c.n→Has c.C i (V i) w∧c.Res i (V i) (M i) w∧∀ b,M i b→c.B1≤b∧b<w.heap.size)∧∀ i i',i<c.n→i'<c.n→i≠i'→∀ b,M i b→¬ M i' b
 size:c.B1≤w.heap.size
 keep:∀ b,b<c.B1→b≠c.C→b≠c.Wg→w.heap[b]? = c.wB.heap[b]?
 tape:w.tape=c.wB.tape
 os:w.os=c.wB.os
 output:w.output=c.wB.output
def Cst.Done [Payload] (c:Cst) (Ret:Goroutine→World→Prop) (m:Machine) (t:Trace):Prop:=∃ gs a w sl q,m=crowd gs w sl∧c.DoneAt Ret gs a w t q
theorem acqTurn [Payload] (H:c.Ok) (ha:gs[0]? = some a) (hpc:c.PC q c.n gs w t D 0 none) (hq:AllQuit c.n (dD D)) (hgo:stepG c.P true a w=.go a' w #[Go.ConcR.mk (.acquire (stA c.Wg))]) (hret:Ret a' w) :
  ∃ m₁ ops,runT c.P (crowd gs w sl) 0=(.next m₁,ops)∧c.Done Ret m₁ (t++ops):=by
 have hL:=H.L0;have hrun:=runT_crowd_go (P:=c.P) (sl:=sl) (i:=0) ha (show stepG c.P (0==0) a w=_ from hgo);have hpc':=hpc.starter (a:=a) (a':=a') H (cur':=none) (X:=fun _=>False) (Chg.refl w) (fun _ h=>h.elim) (fn:=a.frame.fn) (pos:=a.frame.place) (es:=#[Go.ConcR.mk (.acquire (stA c.Wg))]) (fun op hop=>(by
  obtain ⟨e,he,rfl⟩:=Go.Conc.mem_ofEvents hop;rw [Array.mem_singleton] at he;subst he;exact ⟨rfl,fun x hx=>by cases hx⟩)) (by intro e he;simp at he;subst he;simp [Go.ConcR.mk]) (by intro e he x hx;simp at he;subst he;cases hx) (fun b hb=>.inl hb)
 have e1:MemOp.ofEvents 0 a.frame.fn a.frame.place #[Go.ConcR.mk (.acquire (stA c.Wg))]=#[{ g:=0,fn:=a.frame.fn,pos:=a.frame.place,act:=.mark (.acquire (stA c.Wg)) }]:=by rw [ofEvents_eq];simp [ofEvent_mk]
 have hd0:deafBehind 0 #[Go.ConcR.mk (.acquire (stA c.Wg))]=0:=rfl;rw [hd0] at hpc';rw [e1] at hpc' hrun;generalize ht':t++#[({ g:=0,fn:=a.frame.fn,pos:=a.frame.place,act:=.mark (.acquire (stA c.Wg)) }:MemOp)]=t' at hpc';have hy:t'[t.size]? = some { g:=0,fn:=a.frame.fn,pos:=a.frame.place,act:=.mark (.acquire (stA c.Wg)) }:=by rw [← ht'];simp
 have hheard:t'.heard t.size:=⟨0,by simp [Trace.g?,hy],by rw [← ht',deaf_old (Nat.le_refl _)];exact hpc.deaf0⟩;have hsz':t'.size=t.size+1:=by rw [← ht'];simp
 have hedge:∀ i,i<c.n→∃ r,RelK c.Wg c.tB t' (c.L0+i) r∧HappensBefore t' r t.size:=by
  intro i hi;obtain ⟨r,hr⟩:=hpc.rel i hi (by have:(dD D i).stage=1:=hq i hi;simp only [dD] at this;omega);have hlt:r<t.size:=lt_of_act? hr.rel.act;have hr':RelK c.Wg c.tB t' (c.L0+i) r:=by
   rw [← ht'];exact hr.app (g:=0) (by intro op hop;simp at hop;rw [hop]) (by omega)
  exact ⟨r,hr',.single (.inr ⟨.marked hlt (.inr hr'.rel.act) (act?_of hy) (fun k hk1 _=>hpc'.norel k (by have:=hr.late;omega)),hr'.rel.heard,hheard⟩)⟩
 have hquit:∀ i,i<c.n→∀ g w,c.WkS i (D i) g w→QuitsD c.P (D i).d.fuel (D i).d.deaf g∧c.Res i (D i).v (D i).M w:=by
  intro i hi g w hs;have h1:(D i).d.stage=1:=hq i hi;generalize D i=x at hs h1;cases hs with
  | work _=>simp at h1
  | late h hv=>exact ⟨WSit.quits h h1,hv⟩
 refine ⟨_,_,hrun,_,a',w,sl,fun k=>if k<c.L0 then q k else (D (k - c.L0)).d.fuel,rfl, ?_⟩;rw [ht'];refine ⟨⟨get_map_set_same _ _ _ (by rw [hpc.size];omega),⟨fun k g hk hg=>?_,fun k hk=>?_⟩,hpc'.ct.nr,fun x b hx=>?_,fun x g hg hne hc=>?_,hpc'.deaf0,hpc'.ct.quiet,fun b hb=>?_,fun x op hx=>?_,hpc'.seen⟩,hret,hpc'.pay,⟨fun i=>(D i).v,fun i=>(D i).M,fun i hi=>?_,fun i i' hi hi' e=>hpc'.geo.MM i i' hi hi' e⟩,hpc'.geo.hB,hpc'.keep,hpc'.tape,hpc'.os,hpc'.output⟩
 · by_cases hkl:k<c.L0
   · simp only [if_pos hkl]
     exact hpc'.old k g hk hkl hg
   · simp only [if_neg hkl]
     have hlt:=(Array.getElem?_eq_some_iff.1 hg).1;rw [hpc'.size] at hlt;obtain ⟨i,rfl⟩:∃ i,k=c.L0+i:=⟨k - c.L0,by omega⟩;obtain ⟨g',hg',hs⟩:=hpc'.wk i (by omega);rw [hg] at hg';cases hg';rw [hpc'.deafW i (by omega),Nat.add_sub_cancel_left];exact (hquit i (by omega) _ _ hs).1
 · rw [hpc'.size] at hk
   exact Deaf_absent fun b op hb e=>by have:=hpc'.ct.gs b op hb;omega
 · rcases hpc'.known x b hx with h1 | h1 | ⟨g,hg,hgl⟩
   · exact .inl h1
   · exact .inr h1
   · obtain ⟨op,ho,rfl⟩:=Option.map_eq_some_iff.1 hg
     have hle:=hpc'.ct.gs x op ho;obtain ⟨r,hr,hrq⟩:=hedge (op.g - c.L0) (by omega);have eg:c.L0+(op.g - c.L0)=op.g:=by omega
     rw [eg] at hr;rcases Nat.lt_or_ge r x with hlt | hge
     · obtain ⟨k1,k2⟩:=hr.behind x b hlt hg hx
       exact .inr ⟨shW_shN k1,k2⟩
     · refine .inl ⟨t.size,_,hy,rfl,.inr ?_⟩
       rcases Nat.lt_or_ge x r with hlt | hge'
       · exact .trans (.single (.inl ⟨hlt,op.g,hg,hr.rel.g⟩)) hrq
       · obtain rfl:x=r:=by omega
         exact hrq
 · rcases Nat.lt_or_ge g c.L0 with hlt | hge
   · exact hpc'.over x g hg hne hlt hc
   · obtain ⟨op,ho,rfl⟩:=Option.map_eq_some_iff.1 hg
     have hle:=hpc'.ct.gs x op ho;obtain ⟨r,hr,hrq⟩:=hedge (op.g - c.L0) (by omega);have eg:c.L0+(op.g - c.L0)=op.g:=by omega
     rw [eg] at hr;have hle':x≤r:=Nat.le_of_not_lt fun hlt=>hr.rel.after x hlt hg hc
     refine ⟨t.size,by simp [Trace.g?,hy], ?_⟩;rcases Nat.lt_or_ge x r with hlt | hge'
     · exact .trans (.single (.inl ⟨hlt,op.g,hg,hr.rel.g⟩)) hrq
     · obtain rfl:x=r:=by omega
       exact hrq
 · have h1:=hpc'.geo.hB
   have h3:=hpc'.geo.hW;rcases hb with hb | rfl
   · have:=hpc'.geo.hS b hb;omega
   · omega
 · have:=hpc'.ct.gs x op hx
   rw [hpc'.size];omega
 · obtain ⟨g,_,hs⟩:=hpc'.wk i hi
   have h1:(D i).d.stage=1:=hq i hi;exact ⟨hpc'.has i hi (by omega),(hquit i hi _ _ hs).2,fun b hb=>hpc'.geo.M i hi b hb⟩
end
open Go Go.Conc
open Go.ConcN hiding EvL Inv Fin
open Go.ConcR (KK wgBlock WgAt stA smA rd wr Payload Aside2 DC0 Bk g_of_ofEvents bk_of_mute ofEvent_loc_mark ofEvent_cell ofEvent_mk)
section
variable {c:Cst} {Anch Ret:Goroutine→World→Prop} {q:Nat→Nat} {gs:Array Goroutine} {w w':World} {sl:Option (Nat × Nat)} {j i:Nat} {D:Nat→WX} {tag tag':CTag} {cur cur':Option Nat} {f0 f' d0:Nat} {a a':Goroutine} {t:Trace} {st sm st' sm':Int} {es:Array Event}
theorem Mu.le1 {μ' μ:Mu} (h:Mu.lt μ' μ):μ'.1≤μ.1:=by
 obtain ⟨a,b⟩:=μ;obtain ⟨a',b'⟩:=μ';rcases Prod.lex_def.1 h with h | ⟨h,_⟩
 · exact Nat.le_of_lt h
 · exact Nat.le_of_eq h
theorem Mu.of1 {μ' μ:Mu} (h:μ'.1<μ.1):Mu.lt μ' μ:=Prod.Lex.left _ _ h
set_option maxHeartbeats 1600000 in
theorem w1Turn [Payload] (H:c.Ok) (ha:gs[0]? = some a) (hpc:c.PC q c.n gs w t D 1 none) (hwg:WgAt c.ty c.Wg w st sm) (hmode:Go.ConcN.Mode c.n (dD D) .w1 st sm) (h:Goes c.P true (c.RS none) (c.DS none) (c.W1 Anch Ret) f0 a w) :
  ∃ m₁ ops μ',runT c.P (crowd gs w sl) 0=(.next m₁,ops)∧Mu.lt μ' (c.mu q c.n D .w1 f0)∧c.Inv Anch Ret μ' m₁ (t++ops):=by
 have hn:=H.n;rcases Goes.cases h with hstop | ⟨m',rfl,hstep⟩
 · obtain ⟨_,hall⟩:=hstop w (.refl w)
   obtain ⟨ho,rfl,rfl,_⟩:=hmode.open_inv trivial;have hV:=Vc_le c.n (dD D);obtain ⟨a',hgo,h0,hne⟩:=hall (Vc c.n (dD D)) (by omega) (by simpa [pend] using hwg);by_cases hv:Vc c.n (dD D)=0
   · obtain ⟨m₂,hk⟩:=h0 hv
     refine bookS H ha hpc hgo (.refl c.Wg w) hwg bk_rd (tag':=.ke) (.ke hk) (fun _ h=>h) ?_ (.inl (by simp only [phi];omega));have e:((Vc c.n (dD D)+pend .w1:Nat):Int)*KK=0:=by rw [hv];simp [pend]
     rw [e];exact .fin trivial (allQuit_of ho hv)
   · obtain ⟨m₂,hk⟩:=hne hv
     exact bookS H ha hpc hgo (.refl c.Wg w) hwg bk_rd (tag':=.w2 (Vc c.n (dD D))) (.w2 hk) (fun _ h=>h) (hmode.reopen trivial trivial rfl (fun vs e=>by cases e;omega)) (.inl (by simp only [phi];omega))
 · obtain ⟨a',w',es,hgo,hD,hg'⟩:=hstep w (.refl w)
   exact idleS H ha hpc hwg hmode hgo hD (.w1 hg') (by omega)
set_option maxHeartbeats 3200000 in
theorem ssTurn [Payload] (H:c.Ok) (hAn:∀ g w,Anch g w→c.Seg none (c.W1 Anch Ret) g w) (ha:gs[0]? = some a) (hss:c.SS Anch Ret tag cur j f0 d0 a w) (hpc:c.PC q j gs w t D d0 cur) (hwg:WgAt c.ty c.Wg w st sm) (hmode:Go.ConcN.Mode j (dD D) tag st sm) (hrun:a.status=.running) :
  (∃ m₁ ops,runT c.P (crowd gs w sl) 0=(.next m₁,ops)∧c.Done Ret m₁ (t++ops))∨∃ m₁ ops μ',runT c.P (crowd gs w sl) 0=(.next m₁,ops)∧Mu.lt μ' (c.mu q j D tag f0)∧c.Inv Anch Ret μ' m₁ (t++ops):=by
 have hVj:=Vc_le j (dD D);have hn:=H.n;have hL:=H.L0;cases hss with
 | al hr h =>
   rename_i r
   rcases Goes.cases h with hstop | ⟨m',rfl,hstep⟩
   · obtain ⟨_,a',o,hgo,m₂,hk⟩:=hstop w (.refl w)
     have h1:=hpc.geo.hB;have h2:=hpc.geo.hC;have h3:=hpc.geo.hW;have hold:∀ b,b<w.heap.size→(w.heap.push o)[b]? = w.heap[b]? := fun b hb=>by rw [Array.getElem?_push_lt hb,← Array.getElem?_eq_getElem]
     refine .inr (starterTurn H ha hpc hgo (cur':=some w.heap.size) (X:=fun _=>False) ⟨by simp,rfl,rfl,rfl,fun b hb _ _ _=>hold b hb,fun ⟨s1,s2,hl⟩=>⟨s1,s2,hl.of_block (hold _ (by omega))⟩,fun ⟨cs,e1,e2⟩=>⟨cs,(hold _ (by omega)).trans e1,e2⟩,fun i _=>cell_of_block (hold _ (by omega)) i⟩
      (fun _ h=>h.elim) (by simp [ofEvents_eq]) (by simp) (by simp) (fun b hb=>.inr (by cases hb;simp)) (.skd hr hk) (hwg.of_block (hold _ (by omega))) (hmode.reopen trivial trivial rfl (by simp)) (.inl (by simp only [phi];omega)))
   · obtain ⟨a',w',es,hgo,hD,hg'⟩:=hstep w (.refl w)
     exact .inr (idleS H ha hpc hwg hmode hgo hD (.al hr hg') (by omega))
 | skd hr h =>
   rcases Goes.cases h with hstop | ⟨m',rfl,hstep⟩
   · obtain ⟨_,a',hgo,m₂,hk⟩:=hstop w (.refl w)
     exact .inr (bookS H ha hpc hgo (.refl c.Wg w) hwg bk_dis (.sa1 hr hk) (fun _ h=>h) (hmode.reopen trivial trivial rfl (by simp)) (.inl (by simp only [phi];omega)))
   · obtain ⟨a',w',es,hgo,hD,hg'⟩:=hstep w (.refl w)
     exact .inr (idleS H ha hpc hwg hmode hgo hD (.skd hr hg') (by omega))
 | sa1 hr h =>
   rename_i r kb
   rcases Goes.cases h with hstop | ⟨m',rfl,hstep⟩
   · obtain ⟨_,hall⟩:=hstop w (.refl w)
     obtain ⟨ho,rfl,rfl,_⟩:=hmode.open_inv trivial;obtain ⟨a',hgo,m₂,hk⟩:=hall (Vc (c.n - (r+1)) (dD D)) (by omega) (by simpa [pend] using hwg);refine .inr (bookS H ha hpc hgo (aside_setCell w (stA c.Wg) _) (hwg.setSt _) bk_rw (.ske hr hk) (fun _ h=>h) ?_ (.inl (by simp only [phi];omega)));have e:(((Vc (c.n - (r+1)) (dD D):Nat):Int)+1)*KK=((Vc (c.n - (r+1)) (dD D)+pend (.sp r 3):Nat):Int)*KK:=by simp [pend]
     rw [e];exact .opn trivial ho (by simp)
   · obtain ⟨a',w',es,hgo,hD,hg'⟩:=hstep w (.refl w)
     exact .inr (idleS H ha hpc hwg hmode hgo hD (.sa1 hr hg') (by omega))
 | ske hr h =>
   rcases Goes.cases h with hstop | ⟨m',rfl,hstep⟩
   · obtain ⟨_,a',hgo,m₂,hk⟩:=hstop w (.refl w)
     exact .inr (bookS H ha hpc hgo (.refl c.Wg w) hwg bk_en (.sgo hr hk) (fun _ h=>h) (hmode.reopen trivial trivial rfl (by simp)) (.inl (by simp only [phi];omega)))
   · obtain ⟨a',w',es,hgo,hD,hg'⟩:=hstep w (.refl w)
     exact .inr (idleS H ha hpc hwg hmode hgo hD (.ske hr hg') (by omega))
 | sgo hr h =>
   rename_i r kb
   rcases Goes.cases h with hstop | ⟨m',rfl,hstep⟩
   · obtain ⟨_,a',child,hsp,hwk0,hnext⟩:=hstop w (.refl w)
     obtain ⟨T,hwk⟩:=hwk0 hpc.pay;obtain ⟨ho,rfl,rfl,_⟩:=hmode.open_inv trivial;have hrun':=runT_crowd_spawn (P:=c.P) (sl:=sl) (i:=0) ha (by simpa using hsp);rw [hpc.size] at hrun';have hpc':=hpc.spawn H (a':=a') (x:={ g:=0,fn:=a.frame.fn,pos:=a.frame.place,act:=.go (c.L0+(c.n - (r+1))) }) (y:={ g:=c.L0+(c.n - (r+1)),fn:=child.frame.fn,pos:=a.frame.place,act:=.start }) ⟨rfl,rfl⟩ ⟨rfl,rfl⟩ hwk;have hops:(MemOp.ofEvents 0 a.frame.fn a.frame.place (#[]:Array Event))=#[]:=by simp [MemOp.ofEvents]
     rw [hops] at hrun';have eD:∀ x:WX,dD (upx D (c.n - (r+1)) x)=upd (dD D) (c.n - (r+1)) x.d:=fun x=>upx_d D _ x
     have eV:Vc (c.n - (r+1)+1) (upd (dD D) (c.n - (r+1)) ⟨7,0,0⟩)=Vc (c.n - (r+1)) (dD D)+1:=by
      simp only [Vc,sumTo,upd_same];rw [sumTo_upd_out (dD D) _ cnt (Nat.le_refl _)];rfl
     have eS:Ssum (c.n - (r+1)+1) (upd (dD D) (c.n - (r+1)) ⟨7,0,0⟩)=Ssum (c.n - (r+1)) (dD D)+7:=by
      simp only [Ssum,sumTo,upd_same];rw [sumTo_upd_out (dD D) _ WD.stage (Nat.le_refl _)]
     have ho':OpenSt (c.n - (r+1)+1) (upd (dD D) (c.n - (r+1)) ⟨7,0,0⟩):=fun i hi=>by
      by_cases e:i=c.n - (r+1)
      · subst e;rw [upd_same];simp
      · rw [upd_ne _ _ e];exact ho i (by omega)
     have ha':((gs.setIfInBounds 0 a').push child)[0]? = some a':=by
      have h0:0<gs.size:=by rw [hpc.size];omega
      rw [Array.getElem?_push_lt (by simpa using h0),← Array.getElem?_eq_getElem];simp [h0]
     have ej:c.n - (r+1)+1=c.n - r:=by omega
     rw [ej] at hpc' eV eS ho';have est:∀ tag',pend tag'=0→((Vc (c.n - (r+1)) (dD D)+pend (.sp r 2):Nat):Int)*KK=((Vc (c.n - r) (upd (dD D) (c.n - (r+1)) ⟨7,0,0⟩)+pend tag':Nat):Int)*KK:=fun tag' hp=>by rw [eV,hp];simp [pend]
     cases r with
     | zero =>
       obtain ⟨m₃,hk⟩:=hnext;try simp only [Nat.sub_zero] at hpc'
       try simp only [Nat.sub_zero] at eV
       try simp only [Nat.sub_zero] at eS
       try simp only [Nat.sub_zero] at ho'
       try simp only [Nat.sub_zero] at est
       refine .inr ⟨_,_,c.mu q c.n (upx D (c.n - (0+1)) ⟨⟨7,0,0⟩,some T,fun _=>False,kb,.tuple #[]⟩) .kd m₃,hrun', ?_,_,w,sl,q,c.n,_,.kd,none,m₃,0,a',_,_,rfl,ha',.kd hk,hpc',hwg, ?_,rfl⟩
       · refine Mu.of1 ?_
         simp only [Cst.mu,eD,eS,phi];omega
       · rw [eD,est .kd rfl]
         exact .opn trivial ho' (by simp)
     | succ r' =>
       obtain ⟨m₃,hk⟩:=hnext;refine .inr ⟨_,_,c.mu q (c.n - (r'+1)) (upx D (c.n - (r'+1+1)) ⟨⟨7,0,0⟩,some T,fun _=>False,kb,.tuple #[]⟩) (.sp r' 6) m₃,hrun', ?_,_,w,sl,q,c.n - (r'+1),_,.sp r' 6,none,m₃,0,a',_,_,rfl,ha',.al (by omega) hk,hpc',hwg, ?_,rfl⟩
       · refine Mu.of1 ?_
         simp only [Cst.mu,eD,eS,phi];omega
       · rw [eD,est (.sp r' 6) rfl]
         exact .opn trivial ho' (by simp)
   · obtain ⟨a',w',es,hgo,hD,hg'⟩:=hstep w (.refl w)
     exact .inr (idleS H ha hpc hwg hmode hgo hD (.sgo hr hg') (by omega))
 | kd h =>
   rcases Goes.cases h with hstop | ⟨m',rfl,hstep⟩
   · obtain ⟨_,a',hgo,m₂,hk⟩:=hstop w (.refl w)
     exact .inr (bookS H ha hpc hgo (.refl c.Wg w) hwg bk_dis (.anch hk) (fun _ h=>h) (hmode.reopen trivial trivial rfl (by simp)) (.inl (by simp only [phi];omega)))
   · obtain ⟨a',w',es,hgo,hD,hg'⟩:=hstep w (.refl w)
     exact .inr (idleS H ha hpc hwg hmode hgo hD (.kd hg') (by omega))
 | anch h =>
   rcases Goes.cases h with hstop | ⟨m',rfl,hstep⟩
   · obtain ⟨m₂,hk⟩:=hAn a w (hstop w (.refl w))
     obtain ⟨m₁,ops,μ',h1,h2,h3⟩:=w1Turn (sl:=sl) H ha hpc hwg (hmode.reopen trivial trivial rfl (by simp)) hk;refine .inr ⟨m₁,ops,μ',h1,Mu.of1 ?_,h3⟩;have:=Mu.le1 h2;simp only [Cst.mu,phi] at this ⊢;omega
   · obtain ⟨a',w',es,hgo,hD,hg'⟩:=hstep w (.refl w)
     exact .inr (idleS H ha hpc hwg hmode hgo hD (.anch hg') (by omega))
 | w1 h=>exact .inr (w1Turn H ha hpc hwg hmode h)
 | w2 h =>
   rename_i vs
   rcases Goes.cases h with hstop | ⟨m',rfl,hstep⟩
   · obtain ⟨_,hall⟩:=hstop w (.refl w)
     obtain ⟨ho,rfl,rfl,hw2⟩:=hmode.open_inv trivial;obtain ⟨hle,h1⟩:=hw2 vs rfl;obtain ⟨hhit,hmiss⟩:=hall (Vc c.n (dD D)) (by omega) (by simpa [pend] using hwg);by_cases e:Vc c.n (dD D)=vs
     · obtain ⟨a',hgo,m₂,hk⟩:=hhit e
       exact .inr (bookS H ha hpc hgo (aside_setCell w (stA c.Wg) _) (hwg.setSt _) bk_rw (.w3 hk) (fun _ h=>h) (.reg trivial ho (by omega)) (.inl (by simp only [phi];omega)))
     · obtain ⟨a',hgo,m₂,hk⟩:=hmiss e
       exact .inr (bookS H ha hpc hgo (.refl c.Wg w) hwg bk_rd (.anch hk) (fun _ h=>h) (hmode.reopen trivial trivial rfl (by simp)) (.inl (by simp only [phi];omega)))
   · obtain ⟨a',w',es,hgo,hD,hg'⟩:=hstep w (.refl w)
     exact .inr (idleS H ha hpc hwg hmode hgo hD (.w2 hg') (by omega))
 | w3 h =>
   rcases Goes.cases h with hstop | ⟨m',rfl,hstep⟩
   · obtain ⟨_,hoff,hblk,htake⟩:=hstop w (.refl w)
     cases hmode with
     | opn h1 _ _=>exact h1.elim
     | reg h1 h2 h3=>exact .inr (bookS H ha hpc (hblk ⟨_,hwg⟩) (.refl c.Wg w) hwg (by simp) (.blk hstop) (fun _ h=>h) (.reg trivial h2 h3) (.inr ⟨rfl,by omega⟩))
     | last L h1 h2 h3 h4=>exact .inr (bookS H ha hpc (hblk ⟨_,hwg⟩) (.refl c.Wg w) hwg (by simp) (.blk hstop) (fun _ h=>h) (.last L trivial h2 h3 h4) (.inr ⟨rfl,by omega⟩))
     | sema h2 =>
       obtain ⟨a',hgo,m₂,hk⟩:=htake hwg;exact .inr (bookS H ha hpc hgo (aside_setCell w (smA c.Wg) _) (hwg.setSm 0) bk_sem (.w4 hk) (fun _ h=>h) (.fin trivial h2) (.inl (by simp only [phi];omega)))
     | fin h1 _=>exact h1.elim
   · obtain ⟨a',w',es,hgo,hD,hg'⟩:=hstep w (.refl w)
     exact .inr (idleS H ha hpc hwg hmode hgo hD (.w3 hg') (by omega))
 | blk h=>simp at hrun
 | w4 h =>
   rcases Goes.cases h with hstop | ⟨m',rfl,hstep⟩
   · obtain ⟨_,hx⟩:=hstop w (.refl w)
     obtain ⟨hq,rfl,rfl⟩:=hmode.fin_inv trivial;obtain ⟨a',hgo,m₂,hk⟩:=hx hwg;exact .inr (bookS H ha hpc hgo (.refl c.Wg w) hwg bk_rd (.ke hk) (fun _ h=>h) (.fin trivial hq) (.inl (by simp only [phi];omega)))
   · obtain ⟨a',w',es,hgo,hD,hg'⟩:=hstep w (.refl w)
     exact .inr (idleS H ha hpc hwg hmode hgo hD (.w4 hg') (by omega))
 | ke h =>
   rcases Goes.cases h with hstop | ⟨m',rfl,hstep⟩
   · obtain ⟨_,a',hgo,m₂,hk⟩:=hstop w (.refl w)
     obtain ⟨hq,rfl,rfl⟩:=hmode.fin_inv trivial;exact .inr (bookS H ha hpc hgo (.refl c.Wg w) hwg bk_en (.acq hk) (fun _ h=>h) (.fin trivial hq) (.inl (by simp only [phi];omega)))
   · obtain ⟨a',w',es,hgo,hD,hg'⟩:=hstep w (.refl w)
     exact .inr (idleS H ha hpc hwg hmode hgo hD (.ke hg') (by omega))
 | acq h =>
   rcases Goes.cases h with hstop | ⟨m',rfl,hstep⟩
   · obtain ⟨_,a',hgo,hk⟩:=hstop w (.refl w)
     obtain ⟨hq,rfl,rfl⟩:=hmode.fin_inv trivial;exact .inl (acqTurn H ha hpc hq hgo hk)
   · obtain ⟨a',w',es,hgo,hD,hg'⟩:=hstep w (.refl w)
     exact .inr (idleS H ha hpc hwg hmode hgo hD (.acq hg') (by omega))
theorem slipTurn [Payload] (H:c.Ok) (hAr:∀ g w,Anch g w→g.status=.running) (ha:gs[0]? = some a) (hss:c.SS Anch Ret tag cur j f0 d0 a w) (hpc:c.PC q j gs w t D d0 cur) (hwg:WgAt c.ty c.Wg w st sm) (hmode:Go.ConcN.Mode j (dD D) tag st sm)
  {k:Nat} (hk0:0<k) (hk:k<c.L0) {g:Goroutine} (hg:gs[k]? = some g) (hrun:g.status=.running) :
  ∃ m₁ ops μ',runT c.P (crowd gs w sl) k=(.next m₁,ops)∧Mu.lt μ' (c.mu q j D tag f0)∧c.Inv Anch Ret μ' m₁ (t++ops):=by
 have hq:=hpc.old k g hk0 hk hg;cases hqk:q k with
 | zero=>rw [hqk] at hq;rw [hq.1] at hrun;cases hrun
 | succ m =>
   rw [hqk] at hq;rcases hq with ⟨hf,_⟩ | ⟨_,g',es,hm,hstp,hq'⟩
   · rw [hf] at hrun;cases hrun
   obtain ⟨tag',f',hss',hf',htag,hwk⟩:=hss.wokenBy hAr (.refl w) g g';have hrunT:=runT_crowd_go (P:=c.P) (sl:=sl) (i:=k) hg (by rw [show (k==0)=false by simp;omega];exact hstp w);refine ⟨_,_,c.mu (upd q k m) j D tag' f',hrunT, ?_,_,w,sl,upd q k m,j,D,tag',cur,f',d0,woken c.P g g' w a,st,sm,rfl,by rw [get_map_set _ _ _ _ (by omega),ha];rfl,hss',hpc.slip H hk0 hk hm hq',hwg,hmode.retag htag,rfl⟩;unfold Cst.mu;rw [phi_retag c.n _ htag];refine Mu.lt3 ?_;have e1:sumTo c.L0 (upd q k m)+(m+1)=sumTo c.L0 q+m:=by
    have:=sumTo_upd q m id hk
    simpa [hqk] using this
   omega
theorem running_someone [Payload] (hAr:∀ g w,Anch g w→g.status=.running) (ha:gs[0]? = some a) (hss:c.SS Anch Ret tag cur j f0 d0 a w) (hpc:c.PC q j gs w t D d0 cur) (hmode:Go.ConcN.Mode j (dD D) tag st sm):∃ (i:Nat) (g:Goroutine),gs[i]? = some g∧g.status=.running:=by
 rcases hss.status hAr with ⟨hs,_⟩ | ⟨_,rfl⟩
 · exact ⟨0,a,ha,hs⟩
 · cases hmode with
   | opn h1 _ _=>exact h1.elim
   | reg _ _ h3 =>
     obtain ⟨i,hi,h5⟩:=exists_counted h3;obtain ⟨g,hg,hs⟩:=hpc.wk i hi;exact ⟨c.L0+i,g,hg,hs.running7 (by simp only [dD] at h5;omega)⟩
   | last L _ h2 h3 _ =>
     obtain ⟨g,hg,hs⟩:=hpc.wk L h2;exact ⟨c.L0+L,g,hg,hs.running7 (by simp only [dD] at h3;omega)⟩
   | fin h1 _=>exact h1.elim
theorem phase_run [Payload] (H:c.Ok) (hAr:∀ g w,Anch g w→g.status=.running) (hAn:∀ g w,Anch g w→c.Seg none (c.W1 Anch Ret) g w) {μ:Mu} {m:Machine} (h:c.Inv Anch Ret μ m t):Reach c.P (c.Done Ret) m t:=by
 refine reach_of_inv Mu.wf (c.Inv Anch Ret) (c.Done Ret) (fun μ m t hI=>?_) μ m t h;obtain ⟨gs,w,sl,q,j,D,tag,cur,f0,d0,a,st,sm,rfl,ha,hss,hpc,hwg,hmode,rfl⟩:=hI;have hL:=H.L0;have haw:∀ g∈gs,awake g:=by
  intro g hg tm;obtain ⟨i,hi⟩:=Array.mem_iff_getElem?.1 hg;have hlt:=(Array.getElem?_eq_some_iff.1 hi).1;rw [hpc.size] at hlt;rcases Nat.eq_zero_or_pos i with rfl | hpos
  · rw [ha] at hi;cases hi
    rcases hss.status hAr with ⟨hs,_⟩ | ⟨hs,_⟩ <;> rw [hs] <;> simp
  · rcases Nat.lt_or_ge i c.L0 with h1 | h1
    · rcases (hpc.old i g hpos h1 hi).status with h | h <;> rw [h] <;> simp
    · obtain ⟨g',hg',hs⟩:=hpc.wk (i - c.L0) (by omega)
      rw [show c.L0+(i - c.L0)=i by omega,hi] at hg';cases hg';rcases hs.status with h | h <;> rw [h] <;> simp
 obtain ⟨i,g,d,sl',hg,hrun,hstep⟩:=crowd_pick (P:=c.P) (w:=w) (sl:=sl) haw (running_someone hAr ha hss hpc hmode);have hss':=hss.rely (w':=w.at d) ⟨rfl,rfl,rfl,Nat.le_refl _,fun _ _=>rfl,id⟩;have hpc':=hpc.at H d;have hwg':WgAt c.ty c.Wg (w.at d) st sm:=hwg;have hlt:=(Array.getElem?_eq_some_iff.1 hg).1;rw [hpc.size] at hlt;rcases Nat.eq_zero_or_pos i with rfl | hpos
 · rw [ha] at hg;cases hg
   rcases ssTurn (sl:=sl') H hAn ha hss' hpc' hwg' hmode hrun with ⟨m₁,ops,h1,h2⟩ | ⟨m₁,ops,μ',h1,h2,h3⟩
   · exact .inl (Reach.step (hstep.trans h1) ⟨0,m₁,_,rfl,h2⟩)
   · exact .inr ⟨m₁,ops,μ',hstep.trans h1,h2,h3⟩
 · rcases Nat.lt_or_ge i c.L0 with h1 | h1
   · obtain ⟨m₁,ops,μ',k1,k2,k3⟩:=slipTurn (sl:=sl') H hAr ha hss' hpc' hwg' hmode hpos h1 hg hrun
     exact .inr ⟨m₁,ops,μ',hstep.trans k1,k2,k3⟩
   · obtain ⟨i',rfl⟩:∃ i',i=c.L0+i':=⟨i - c.L0,by omega⟩
     obtain ⟨m₁,ops,μ',k1,k2,k3⟩:=wkTurn (sl:=sl') H hAr ha hss' hpc' hwg' hmode (by omega) hg hrun;exact .inr ⟨m₁,ops,μ',hstep.trans k1,k2,k3⟩
end
open Go Go.Conc
open Go.ConcN hiding EvL Inv Fin
open Go.ConcR (KK wgBlock WgAt stA smA rd wr Payload Aside2 DC0 Bk g_of_ofEvents bk_of_mute ofEvent_loc_mark ofEvent_cell ofEvent_mk)
theorem phase_begin [Payload] {c:Cst} {Anch Ret:Goroutine→World→Prop} {gs:Array Goroutine} {a:Goroutine} {w:World} {t:Trace} {q:Nat→Nat} (sl:Option (Nat × Nat)) (hn:0<c.n) (hB:Bes c.P c.S gs a w t q) (hL0:c.L0=gs.size) (htB:c.tB=t.size) (hwB:c.wB=w) (hB1:c.B1=w.heap.size)
  (hW:c.Wg<c.B1) (hfresh:∀ op∈t,∀ x,op.act.touch? = some x→¬ InB (·=c.Wg) x.loc) (hS:∀ b,c.S b→b≠c.C∧b≠c.Wg∧¬ c.K b) (hK:∀ b,c.K b→b<c.B1∧b≠c.C∧b≠c.Wg) (hC:c.C<c.B1) (hCW:c.C≠c.Wg)
  (hpay:PayAt c.C c.n w) (hwg:WgAt c.ty c.Wg w 0 0) (hsp:c.Spw (c.Fin Anch) c.n a w):∃ μ,c.Inv Anch Ret μ (crowd gs w sl) t:=by
 have hpos:0<gs.size:=(Array.getElem?_eq_some_iff.1 hB.zero).1;have hpc:c.PC q 0 gs w t (fun _=>⟨⟨0,0,0⟩,none,fun _=>False,0,.tuple #[]⟩) 0 none:=by
  refine ⟨by rw [hL0];rfl,fun i g h0 hi hg=>hB.old.old i g h0 hg,fun i hi=>by omega,⟨fun i op x hi hx hs=>?_,fun k h1 h2 l ⟨i,_,hi,_⟩=>by omega,fun k h1 h2 l ⟨i,_,hi,_⟩=>by omega,fun l hs _=>?_,fun l hs _=>PermW.of ?_,hB.clean,fun i op hi=>?_⟩,
   fun i hi=>?_,by rw [htB];exact Nat.le_refl _,hB.hears,fun i hi=>by omega,fun i hi=>by omega,fun i hi=>by omega,hpay,fun x b hx=>(hB.known x b hx).imp id fun h=>.inl ⟨h.1.mono fun _ hb=>.inl hb,h.2⟩,fun i g hg hne _ hc=>hB.over i g hg hne hc,hB.seen,
   ⟨fun b hb=>⟨by rw [hB1];exact hB.low b hb,hS b hb⟩,hK,hC,hW,hCW,by rw [hB1];exact Nat.le_refl _,fun i hi=>by omega,fun i hi=>by omega,fun i i' hi=>by omega,fun i i' hi=>by omega⟩,fun b hb=>(by cases hb),fun b _ _ _=>by rw [hwB],by rw [hwB],by rw [hwB],by rw [hwB]⟩
  · obtain ⟨b,hb,hbl⟩:=InB.get hs
    rcases hb with hb | rfl
    · exact hB.quiet i op x hi hx (InB.at_ hs hbl hb)
    · exact absurd (InB.at_ (S':=(·=c.Wg)) hs hbl rfl) (hfresh op (Array.mem_of_getElem? hi) x hx)
  · intro i b hb hbl
    rcases hB.known i b hb with h1 | ⟨h1,_⟩
    · exact h1
    · exact absurd (hbl ▸ h1.mono fun _ hb=>.inl hb) hs
  · intro i b hb hbl
    rcases hB.known i b hb with h1 | ⟨h1,_⟩
    · exact h1
    · exact absurd (hbl ▸ h1.mono fun _ hb=>.inl hb) hs
  · have:=hB.gsz i op hi
    rw [hL0];omega
  · intro e
    have:=lt_of_act? e;omega
 obtain ⟨r,hr⟩:∃ r,c.n=r+1:=⟨c.n - 1,by omega⟩;rw [hr] at hsp;obtain ⟨m,hk⟩:=hsp;have hss:c.SS Anch Ret (.sp r 6) none (c.n - (r+1)) m 0 a w:=.al (by omega) hk;rw [show c.n - (r+1)=0 by omega] at hss;have hmode:Go.ConcN.Mode 0 (dD fun _=>(⟨⟨0,0,0⟩,none,fun _=>False,0,.tuple #[]⟩:WX)) (.sp r 6) 0 0:=by
  have:=Go.ConcN.Mode.opn (j:=0) (D:=dD fun _=>(⟨⟨0,0,0⟩,none,fun _=>False,0,.tuple #[]⟩:WX)) (tag:=.sp r 6) trivial (fun i hi=>by omega) (by simp)
  simpa [Vc,sumTo,pend] using this
 exact ⟨_,gs,w,sl,q,0,_,.sp r 6,none,m,0,a,0,0,rfl,hB.zero,hss,hpc,hwg,hmode,rfl⟩
theorem call_beside {Q:Program} {F:Array Func} {G:Nat→Prop} {c0:Frame} (Sf:Funs Q F G (fun _=>False)) (Ss:Funs Q Q.funcs G (fun _=>False)) (hfl:Floor Q c0) {f:FuncId} {xs xs':Array Value} {gw w:World} {Rv:Value→World→Prop} (hRv:∀ v w τ,Rv v w→Rv v (w.retape τ)) {p:Inj} {S:Nat→Prop} {gs:Array Goroutine} {t:Trace} {q:Nat→Nat} (sl:Option (Nat × Nat)) {b:Frame} {cs:List Frame}
  (hx:ARel p xs xs') (hH:Here Q G p S gw w) {fn fn':Func} {c c':Code} (h1:Q.funcs[f]? = some fn) (h2:F[f]? = some fn') (h3:fn.body=some c) (h4:fn'.body=some c') (h5:fn'.ntmps=fn.ntmps) (h6:fn'.results=fn.results) (h7:CRel Q G c c') (h8:CRel Q G c c)
  (hB:Bes (wf Q F) S gs (Conc.G (Frame.enter (wf Q F) f xs' .normal) (b::cs)) w t q) (H:∀ τ,Agree gw τ→Calls Q f xs (gw.retape τ) fun e w'=>∃ v,e=.returned v∧Rv v w') :
  ∃ N p' v v' gw' w' S' gs' t' q' sl',runNT (wf Q F) N (crowd gs w sl) t=(.next (crowd gs' w' sl'),t')∧p.le p'∧VRel p' v v'∧Here Q G p' S' gw' w'∧Keep p p' w w'∧(∀ b,S' b→S b∨w.heap.size≤b)∧Rv v gw'∧Bes (wf Q F) S' gs' (Conc.G (b.finish v') cs) w' t' q':=by
 have hfr:FRel Q F G p [] (Frame.enter Q f xs .normal) (Frame.enter (wf Q F) f xs' .normal):=FRel.enter h1 h2 h5 h6 h3 h4 h7 hx;have hfs:FRel Q Q.funcs G p [] (Frame.enter Q f xs .normal) (Frame.enter Q f xs' .normal):=FRel.enter (F:=Q.funcs) h1 h1 rfl rfl h3 h3 h8 hx;have hsur:=sur_of_calls Ss hfl hRv ⟨p,w,_,_,.base hfs rfl,hH.wrel,hH.g,hH.ok,hH.glob⟩ H;obtain ⟨N,m',t1,hrun,S1,gs1,fr',w1,sl1,q1,p1,fr,gw1,rfl,hB1,hf,hH1,hle,hK,hSS,hm,hd,hr0,hfn,v,⟨_,_,_,gn,hfn',hres⟩,hRvv⟩:=main_of_sur (p0:=p) (S0:=S) (w0:=w) (cs0:=b::cs) (D:=[]) Sf hfl (Rp:=Hands Q f Rv) (fun fr gw h=>h.2.imp fun _ x=>x.1) (fun _ _ _ _ _ hf=>hf.elim) hsur 0 _ _ _ rfl p _ (b::cs) w S gs t q sl (.base hfr rfl) hH (Inj.le_refl _) (Keep.refl _ _) (fun _ h=>.inl h) hB;obtain ⟨N2,gs2,d,d',sl2,sl3,t2,q2,hrun2,hturn,hB2,_⟩:=own_turn _ gs1 _ w1 sl1 t1 q1 (Nat.le_refl _) hB1 rfl;have hret:=results_retape hf hH1.wrel hres (follow gw1 (w1.at d'));obtain ⟨fn1,rn,hg1,hg2,hg3⟩:=hf.func hr0;obtain rfl:fn1=gn:=Option.some.inj (hg1.symm.trans hfn');obtain ⟨p2,v2,w2,new,hR⟩:=(s_results (Q:=Q) (F:=F) fn1 rn hg3 hf.tmps).run (w:=w1.at d') _ _ #[] (hH1.wrel.of_heap (gw₁:=gw1.retape (follow gw1 (w1.at d'))) (w₁:=w1.at d') rfl rfl) (follow_ta gw1 (w1.at d')) hret;have hmode':fr'.mode=.returning:=by
  have:=hf.mode;rw [hm] at this;cases h:fr'.mode <;> rw [h] at this <;> first | rfl | cases this
 have hdef':fr'.defers=[]:=by
  obtain ⟨ms,h1,h2⟩:=hf.defers;rw [hd] at h1;cases h1;exact h2
 have hrunr:=hR.run;have hg2':(wf Q F).funcs[fr'.fn]? = some rn:=by rw [← hf.fn];exact hg2
 have hend:stepG (wf Q F) true (Conc.G fr' (b::cs)) (w1.at d')=.go (Conc.G (b.finish v2) cs) w2 (seen (wf Q F) fr'.fn new):=by
  have n1:fr'.mode≠.run:=by rw [hmode'];simp
  rw [step_unwind n1];have hrr:(results rn fr'.tmps).runT (wf Q F) (w1.at d') #[]=(.ok v2 w2,new):=by simpa using hrunr
  simp [-Sem.runT_eq,unwind,hdef',hmode',hg2',hrr,GStep.after,doReturn,hf.kind',Conc.G]
 have hcl:Clear p2 S1:=fun b b' hb' hSb=>by
  rcases hR.fr.fresh b b' hb' with h | h
  · exact hH1.clear b b' h hSb
  · exact absurd (hB1.low b' hSb) (Nat.not_lt.2 h)
 obtain ⟨gs3,t3,hrun3,hB3,_⟩:=hB2.own (sl:=sl3) hend hR.fr.size (fun e he=>evIn_evO (hR.ev e (Conc.mem_seen he)) hcl hR.wrel);refine ⟨N+(N2+1),p2,v,v2,_,w2,S1,gs3,t2++t3,q2,sl3, ?_,Inj.le_trans hle hR.le,hR.rel,⟨hR.wrel,hR.le.g.trans hH1.g,hR.le.ok.trans hH1.ok,fun g hg=>hR.le.r _ _ (hH1.glob g hg),hcl⟩,(hK.at_ d').trans (Keep.of_fr hR.fr),hSS,hRv _ _ _ hRvv,hB3⟩;rw [runNT_add,hrun];show runNT _ (N2+1) _ _=_
 rw [runNT_add,hrun2];simp only [runNT,hturn,hrun3]
end Go.Pt
