/- Two runs of one program whose memory lies in other blocks: a run that has begun to unwind never comes back; what comes to its end on every tape comes there step by step, whatever the tape answers. No condition; no program in sight. -/
import Derived.Test.YtnceajabigdleaaDoorPtS3
import Derived.Conc.Beside
import Derived.Conc.Fork3
import Derived.Conc.LeavingOf
import Derived.Below
namespace Go.Pt
open Go
section
variable {Q:Program} {F:Array Func} {G:Nat→Prop} {c0:Frame}
inductive Bad (c0:Frame):Frame→List Frame→World→Prop
 | panics {fr:Frame} {cs:List Frame} {gw:World}:Panics c0 fr cs gw→Bad c0 fr cs gw
 | raised (ch:List PanicEntry) (gw:World):Bad c0 (c0.raise ch) [] gw
 | back (v:Value) (gw:World):Bad c0 (c0.finish v) [] gw
def NotP (fr:Frame):Prop:=∀ ch,fr.mode≠.panicking ch
theorem notP_of {fr:Frame} (h:fr.mode=.returning∨fr.mode=.run):NotP fr:=fun ch e=>by rcases h with h | h <;> rw [h] at e <;> cases e
theorem Bad.not_stop {fr:Frame} {cs:List Frame} {gw:World} (h:Bad c0 fr cs gw):¬ (cs=[c0]∧NotP fr):=by
 rintro ⟨h1,h2⟩;cases h with
 | panics h =>
   obtain ⟨ch,hc⟩:=h.mode;exact h2 ch hc
 | raised ch=>cases h1
 | back v=>cases h1
theorem nocatch {P:Program} {fr:Frame} (h:∀ d b r s k,fr.todo≠.call d b r s::k):fr.catches P=false:=by
 unfold Frame.catches;cases hk:fr.todo with
 | nil=>cases P.funcs[fr.fn]? <;> rfl
 | cons i k=>cases P.funcs[fr.fn]? <;> cases i <;> first | rfl | exact absurd hk (h _ _ _ _ _)
theorem Bad.step (hfl:Floor Q c0) {fr:Frame} {cs:List Frame} {gw:World} (h:Bad c0 fr cs gw) :
  (∃ o w1 es,stepG Q true (Conc.G fr cs) gw=.ended o w1 es)∨∃ fr1 cs1 gw1 es,stepG Q true (Conc.G fr cs) gw=.go (Conc.G fr1 cs1) gw1 es∧Bad c0 fr1 cs1 gw1:=by
 cases h with
 | panics h =>
   obtain ⟨⟨chain,hm⟩,q,w,hW,hp⟩:=h;have n1:fr.mode≠.run:=by rw [hm];simp
   rw [step_unwind n1]; have unw : (∃ ds, MarkR q fr.defers ds) → (∀ ds, PStk q c0 { fr with defers := ds } cs → PStk q c0 { fr with defers := ds } cs) → (∀ r ds, fr.defers = { target := .collected r, args := #[] } :: ds → (∃ r', q.r r r') → ∀ q2, q.le q2 → PStk q2 c0 { fr with defers := ds } cs) →
       ((∃ o w1 es,unwind Q true fr cs none gw=.ended o w1 es)∨∃ fr1 cs1 gw1 es,unwind Q true fr cs none gw=.go (Conc.G fr1 cs1) gw1 es∧Bad c0 fr1 cs1 gw1)∨fr.defers=[]:=by
    rintro ⟨ds,hd⟩ _ hput;generalize e1:fr.defers=es at hd;cases hd with
    | nil=>exact .inr rfl
    | @cons r r' ds ds' hr hms =>
      left
      cases hrun:(Instr.takeDeferred r).runT Q gw #[] with
      | mk x es =>
        cases x with
        | halt y w2=>exact .inl ⟨_,_,_,by simp only [unwind,e1,hrun];rfl⟩
        | ok a gw1 =>
          have hT:TA gw (w.retape fun i=>gw.tape (gw.drawn+(i - w.drawn))):=fun i=>by
           show gw.tape (gw.drawn+i)=gw.tape (gw.drawn+(w.drawn+i - w.drawn))
           rw [Nat.add_sub_cancel_left]
          obtain ⟨q2,b,w1,new,hR⟩:=(s_takeDeferred (Q:=Q) (F:=#[]) hr).run (w:=w.retape fun i=>gw.tape (gw.drawn+(i - w.drawn))) _ _ #[] (hW.of_heap rfl rfl) hT hrun;obtain ⟨rfl,rfl⟩:=hR.rel;refine .inr ⟨{ fr with defers:=[]++ds },cs,gw1,seen Q fr.fn es, ?_,.panics ⟨⟨chain,hm⟩,q2,w1,hR.wrel,hput r ds e1 ⟨r',hr⟩ q2 hR.le⟩⟩;simp [-Sem.runT_eq,unwind,e1,hrun,GStep.after,Conc.G]
   cases hp with
   | base h1 h2 =>
     rcases unw h1 (fun _ h=>h) (fun r ds e hr q2 hq2=>.base (by
      obtain ⟨es,he⟩:=h1;rw [e] at he;cases he with
      | cons _ hms=>exact ⟨_,hms.mono hq2⟩) h2) with h | e
     · exact h
     · refine .inr ⟨c0.raise chain,[],gw,#[], ?_,.raised chain gw⟩
       simp [unwind,e,hm,nocatch h2,Conc.G]
   | @up _ c k h1 h2 h3 =>
     rcases unw h1 (fun _ h=>h) (fun r ds e hr q2 hq2=>.up (by
      obtain ⟨es,he⟩:=h1;rw [e] at he;cases he with
      | cons _ hms=>exact ⟨_,hms.mono hq2⟩) h2 (h3.mono hq2)) with h | e
     · exact h
     · refine .inr ⟨c.raise chain,k,gw,#[], ?_,.panics ⟨raise_mode _ _,q,w,hW,h3.raise chain⟩⟩
       simp [unwind,e,hm,nocatch h2,Conc.G]
 | raised ch =>
   left
   obtain ⟨chain,hm⟩:=raise_mode c0 ch;have n1:(c0.raise ch).mode≠.run:=by rw [hm];simp
   rw [step_unwind n1];have e1:(c0.raise ch).defers=[]:=by have:=hfl.defers;unfold Frame.raise;cases c0.mode <;> exact this
   have e2:(c0.raise ch).catches Q=true:=by have:=hfl.catches;unfold Frame.raise;cases c0.mode <;> exact this
   exact ⟨_,_,_,by simp only [unwind,e1,hm,e2,if_true];rfl⟩
 | back v =>
   left
   obtain ⟨h1,row,args,k,h2,h3⟩:=hfl.back v;rw [step_exec h1];exact ⟨_,_,_,by simp only [stepG.exec,h2,h3,Option.elim];rfl⟩
theorem lone_inj {fr fr1:Frame} {cs cs1:List Frame} {w w1:World} (h:lone fr cs w=lone fr1 cs1 w1):fr=fr1∧cs=cs1∧w=w1:=by
 have h1:=congrArg (fun m:Machine=>m.gs) h;have h2:=congrArg (fun m:Machine=>m.world) h;simp only [lone] at h1 h2;have h3:=Array.mk.inj h1;simp at h3;exact ⟨h3.1,h3.2,h2⟩
theorem run_go {fr fr1:Frame} {cs cs1:List Frame} {w w1:World} {es:Array Event} (h:stepG Q true (Conc.G fr cs) w=.go (Conc.G fr1 cs1) w1 es):Go.step Q (lone fr cs w)=.next (lone fr1 cs1 w1) :=
 step_lone_go (by rw [show stepG Q true { frame:=fr,callers:=cs,status:=.running,dying:=none } w=_ from h];rfl)
theorem run_ended {fr:Frame} {cs:List Frame} {w w1:World} {o:Outcome} {es:Array Event} (h:stepG Q true (Conc.G fr cs) w=.ended o w1 es):Go.step Q (lone fr cs w)=.ended o w1 :=
 step_lone_ended (by rw [show stepG Q true { frame:=fr,callers:=cs,status:=.running,dying:=none } w=_ from h];rfl)
theorem Bad.never (hfl:Floor Q c0):∀ (n:Nat) {fr:Frame} {cs:List Frame} {gw:World},Bad c0 fr cs gw→∀ {fr1:Frame} {cs1:List Frame} {gw1:World},runN Q n (lone fr cs gw)=.next (lone fr1 cs1 gw1)→¬ (cs1=[c0]∧NotP fr1):=by
 intro n
 induction n with
 | zero =>
   intro fr cs gw h fr1 cs1 gw1 hr;simp only [runN,Stepped.next.injEq] at hr;obtain ⟨rfl,rfl,rfl⟩:=lone_inj hr;exact h.not_stop
 | succ n ih =>
   intro fr cs gw h fr1 cs1 gw1 hr;rcases h.step hfl with ⟨o,w1,es,hs⟩ | ⟨fr2,cs2,gw2,es,hs,h2⟩
   · simp only [runN,run_ended hs] at hr
     cases hr
   · simp only [runN,run_go hs] at hr
     exact ih h2 hr
def Term (Q:Program) (c0:Frame) (fr:Frame) (cs:List Frame) (w:World):Prop :=
 ∀ n fr1 cs1 w1,runN Q (n+1) (lone fr cs w)=.next (lone fr1 cs1 w1)→¬ (cs1=[c0]∧NotP fr1)
theorem Term.ended {fr:Frame} {cs:List Frame} {w w1:World} {o:Outcome} {es:Array Event} (h:stepG Q true (Conc.G fr cs) w=.ended o w1 es):Term Q c0 fr cs w:=by
 intro n fr1 cs1 w1 hr;simp only [runN,run_ended h] at hr;cases hr
theorem Term.bad (hfl:Floor Q c0) {fr fr2:Frame} {cs cs2:List Frame} {w w2:World} {es:Array Event} (h:stepG Q true (Conc.G fr cs) w=.go (Conc.G fr2 cs2) w2 es) (hb:Bad c0 fr2 cs2 w2):Term Q c0 fr cs w:=by
 intro n fr1 cs1 w1 hr;simp only [runN,run_go h] at hr;exact Bad.never hfl n hb hr
inductive Sur (Q:Program) (Stop:Frame→List Frame→World→Prop):Frame→List Frame→World→Prop
 | stop {fr:Frame} {cs:List Frame} {w:World}:Stop fr cs w→Sur Q Stop fr cs w
 | step {fr:Frame} {cs:List Frame} {w:World} (nf:(Nat→Question→Nat)→Frame × List Frame × World × Array Event) :
  (∀ τ,(∀ i,i<w.drawn→τ i=w.tape i)→stepG Q true (Conc.G fr cs) (w.retape τ)=.go (Conc.G (nf τ).1 (nf τ).2.1) (nf τ).2.2.1 (nf τ).2.2.2) →
  (∀ τ,(∀ i,i<w.drawn→τ i=w.tape i)→Sur Q Stop (nf τ).1 (nf τ).2.1 (nf τ).2.2.1)→Sur Q Stop fr cs w
theorem Sur.step' {Stop:Frame→List Frame→World→Prop} {fr:Frame} {cs:List Frame} {w:World}
  (h:∀ τ,(∀ i,i<w.drawn→τ i=w.tape i)→∃ fr' cs' w' es,stepG Q true (Conc.G fr cs) (w.retape τ)=.go (Conc.G fr' cs') w' es∧Sur Q Stop fr' cs' w'):Sur Q Stop fr cs w:=by
 have h2:∀ τ,∃ x:Frame × List Frame × World × Array Event,(∀ i,i<w.drawn→τ i=w.tape i)→stepG Q true (Conc.G fr cs) (w.retape τ)=.go (Conc.G x.1 x.2.1) x.2.2.1 x.2.2.2∧Sur Q Stop x.1 x.2.1 x.2.2.1:=by
  intro τ;by_cases ht:∀ i,i<w.drawn→τ i=w.tape i
  · obtain ⟨fr',cs',w',es,h1,h2⟩:=h τ ht
    exact ⟨(fr',cs',w',es),fun _=>⟨h1,h2⟩⟩
  · exact ⟨(fr,cs,w,#[]),fun hx=>absurd hx ht⟩
 exact .step (fun τ=>Classical.choose (h2 τ)) (fun τ ht=>(Classical.choose_spec (h2 τ) ht).1) (fun τ ht=>(Classical.choose_spec (h2 τ) ht).2)
def Fit (Q:Program) (G:Nat→Prop) (c0:Frame) (fr:Frame) (cs:List Frame) (w:World):Prop :=
 ∃ p w' fr' cs',Stk Q Q.funcs G p [] c0 [] fr cs fr' cs'∧WRel p w w'∧p.g=Q.globals.size∧p.ok=(fun c=>CRel Q G c c)∧∀ g,G g→p.r g g
theorem Fit.step (S:Funs Q Q.funcs G (fun _=>False)) {fr:Frame} {cs:List Frame} {w:World} (h:Fit Q G c0 fr cs w) (hnl:¬ (cs=[c0]∧fr.mode=.returning∧fr.defers=[])) :
  (∃ o w1 es,stepG Q true (Conc.G fr cs) w=.ended o w1 es)∨(∃ fr1 cs1 w1 es,stepG Q true (Conc.G fr cs) w=.go (Conc.G fr1 cs1) w1 es∧Panics c0 fr1 cs1 w1) ∨
  ∃ fr1 cs1 w1 es,stepG Q true (Conc.G fr cs) w=.go (Conc.G fr1 cs1) w1 es∧Fit Q G c0 fr1 cs1 w1∧w.drawn≤w1.drawn∧w1.tape=w.tape ∧
   ∀ τ,(∀ i,w.drawn≤i→i<w1.drawn→τ i=w.tape i)→stepG Q true (Conc.G fr cs) (w.retape τ)=.go (Conc.G fr1 cs1) (w1.retape τ) es:=by
 obtain ⟨p,w',fr',cs',hS,hW,hg,hok,hG⟩:=h;have hT:TA w (w'.retape fun i=>w.tape (w.drawn+(i - w'.drawn))):=fun i=>by
  show w.tape (w.drawn+i)=w.tape (w.drawn+(w'.drawn+i - w'.drawn))
  rw [Nat.add_sub_cancel_left]
 have:=step_out S hG hg hok hS (w:=w'.retape fun i=>w.tape (w.drawn+(i - w'.drawn))) (hW.of_heap rfl rfl) hT hnl true;cases this with
 | ended h=>exact .inl ⟨_,_,_,h⟩
 | panics h hp=>exact .inr (.inl ⟨_,_,_,_,h,hp⟩)
 | @on q fr1 fr1' cs1 cs1' gw1 w1 es es' h1 h2 hq hst hW1 hT1 hF hev hd ht hre =>
   refine .inr (.inr ⟨fr1,cs1,gw1,es,h1,⟨q,w1,fr1',cs1', ?_,hW1,hq.g.trans hg,hq.ok.trans hok,fun g hg=>hq.r _ _ (hG g hg)⟩,hd,ht,hre⟩);rcases hst with h | ⟨f,_,_,_,_,_,_,hf,_⟩
   · exact h
   · exact hf.elim
theorem Fit.retape {fr:Frame} {cs:List Frame} {w:World} (h:Fit Q G c0 fr cs w) (τ:Nat→Question→Nat):Fit Q G c0 fr cs (w.retape τ):=by
 obtain ⟨p,w',fr',cs',hS,hW,hg,hok,hG⟩:=h;exact ⟨p,w',fr',cs',hS,hW.of_heap rfl rfl,hg,hok,hG⟩
section
variable {Rp:Frame→World→Prop}
def StopAt (c0:Frame) (Rp:Frame→World→Prop) (fr:Frame) (cs:List Frame) (w:World):Prop:=cs=[c0]∧fr.mode=.returning∧fr.defers=[]∧Rp fr w
def StopOk (c0:Frame) (Stop:Frame→List Frame→World→Prop):Prop:=∀ fr cs w,Stop fr cs w→cs=[c0]∧NotP fr
theorem stopAt_ok (c0:Frame) (Rp:Frame→World→Prop):StopOk c0 (StopAt c0 Rp):=fun _ _ _ h=>⟨h.1,notP_of (.inl h.2.1)⟩
theorem Sur.not {fr:Frame} {cs:List Frame} {w:World} {Stop:Frame→List Frame→World→Prop} (h:¬ Sur Q Stop fr cs w):¬ Stop fr cs w∧∃ τ,(∀ i,i<w.drawn→τ i=w.tape i)∧∀ fr' cs' w' es,stepG Q true (Conc.G fr cs) (w.retape τ)=.go (Conc.G fr' cs') w' es→¬ Sur Q Stop fr' cs' w':=by
 refine ⟨fun hs=>h (.stop hs), ?_⟩;apply Classical.byContradiction;intro hno;refine h (Sur.step' fun τ hτ=>?_);apply Classical.byContradiction;intro hn;exact hno ⟨τ,hτ,fun fr' cs' w' es h1 h2=>hn ⟨fr',cs',w',es,h1,h2⟩⟩
end
section
variable {Stop:Frame→List Frame→World→Prop}
theorem Fit.leaves (hfl:Floor Q c0) {fr:Frame} {cs:List Frame} {w:World} (h:Fit Q G c0 fr cs w) (hl:cs=[c0]∧fr.mode=.returning∧fr.defers=[]):Term Q c0 fr cs w:=by
 obtain ⟨p,w',fr',cs',hS,hW,hg,hok,hG⟩:=h;obtain ⟨rfl,hm,hd⟩:=hl;obtain ⟨E,hf,ht⟩:=hS.top;obtain ⟨fn,fn',h1,h2,h3⟩:=hf.func (hf.ret hm);have n1:fr.mode≠.run:=by rw [hm];simp
 cases hr:(results fn fr.tmps).runT Q w #[] with
 | mk x es =>
   cases x with
   | ok v w2 =>
     refine Term.bad hfl (fr2:=c0.finish v) (cs2:=[]) (w2:=w2) (es:=seen Q fr.fn es) ?_ (.back v w2);rw [step_unwind n1];simp [-Sem.runT_eq,unwind,hd,hm,h1,hr,GStep.after,doReturn,hf.kind,Conc.G]
   | halt y w2 =>
     cases y with
     | stuck s=>exact Term.ended (o:=.stuck s (fr.pos Q)) (w1:=w2) (es:=seen Q fr.fn es) (by rw [step_unwind n1];simp [-Sem.runT_eq,unwind,hd,hm,h1,hr,GStep.after])
     | _=>exact Term.ended (o:=.stuck "return: the result variables cannot be read" (fr.pos Q)) (w1:=w2) (es:=seen Q fr.fn es) (by rw [step_unwind n1];simp [-Sem.runT_eq,unwind,hd,hm,h1,hr,GStep.after])
structure Lost (Q:Program) (G:Nat→Prop) (c0:Frame) (Stop:Frame→List Frame→World→Prop) (x:Frame × List Frame × World):Prop where
 fit:Fit Q G c0 x.1 x.2.1 x.2.2
 not:¬ Sur Q Stop x.1 x.2.1 x.2.2
def Agree (w:World) (τ:Nat→Question→Nat):Prop:=∀ i,i<w.drawn→τ i=w.tape i
theorem Lost.adv (S:Funs Q Q.funcs G (fun _=>False)) (hfl:Floor Q c0) {x:Frame × List Frame × World} (h:Lost Q G c0 Stop x) :
  (∃ τ,Agree x.2.2 τ∧Term Q c0 x.1 x.2.1 (x.2.2.retape τ))∨∃ y:Frame × List Frame × World,Lost Q G c0 Stop y∧Agree x.2.2 y.2.2.tape∧x.2.2.drawn≤y.2.2.drawn ∧
    ∀ τ,Agree y.2.2 τ→Go.step Q (lone x.1 x.2.1 (x.2.2.retape τ))=.next (lone y.1 y.2.1 (y.2.2.retape τ)):=by
 obtain ⟨fr,cs,w⟩:=x;obtain ⟨hf,hn⟩:=h;simp only at hf hn ⊢;obtain ⟨hns,τ,hτ,hno⟩:=Sur.not hn;have hf':=hf.retape τ;by_cases hl:cs=[c0]∧fr.mode=.returning∧fr.defers=[]
 · exact .inl ⟨τ,hτ,hf'.leaves hfl hl⟩
 · rcases hf'.step S hl with ⟨o,w1,es,h1⟩ | ⟨fr1,cs1,w1,es,h1,h2⟩ | ⟨fr1,cs1,w1,es,h1,h2,h3,h4,h5⟩
   · exact .inl ⟨τ,hτ,Term.ended h1⟩
   · exact .inl ⟨τ,hτ,Term.bad hfl h1 (.panics h2)⟩
   · refine .inr ⟨(fr1,cs1,w1),⟨h2,hno _ _ _ _ h1⟩, ?_,h3,fun τ' hτ'=>?_⟩
     · simp only [h4];exact hτ
     · exact run_go (h5 τ' (fun i _ h=>by have:=hτ' i h;simp only [h4] at this;exact this))
theorem glue (S:Funs Q Q.funcs G (fun _=>False)) (hfl:Floor Q c0) (hst:StopOk c0 Stop) (hRp:∀ fr cs w τ,Fit Q G c0 fr cs w→Stop fr cs w→Stop fr cs (w.retape τ)) {fr0:Frame} {cs0:List Frame} {w0:World} (hfit:Fit Q G c0 fr0 cs0 w0)
  (H:∀ τ,Agree w0 τ→∃ n fr cs w',runN Q n (lone fr0 cs0 (w0.retape τ))=.next (lone fr cs w')∧Stop fr cs w'):Sur Q Stop fr0 cs0 w0:=by
 apply Classical.byContradiction;intro hno;have hx0:Lost Q G c0 Stop (fr0,cs0,w0):=⟨hfit,hno⟩;have nxt:∀ x:{x // Lost Q G c0 Stop x},∃ o:Option {x // Lost Q G c0 Stop x},(o=none→∃ τ,Agree x.1.2.2 τ∧Term Q c0 x.1.1 x.1.2.1 (x.1.2.2.retape τ)) ∧
  ∀ y,o=some y→Agree x.1.2.2 y.1.2.2.tape∧x.1.2.2.drawn≤y.1.2.2.drawn∧∀ τ,Agree y.1.2.2 τ→Go.step Q (lone x.1.1 x.1.2.1 (x.1.2.2.retape τ))=.next (lone y.1.1 y.1.2.1 (y.1.2.2.retape τ)):=by
  intro x;rcases x.2.adv S hfl with h | ⟨y,hy,h1,h2,h3⟩
  · exact ⟨none,fun _=>h,fun y e=>by cases e⟩
  · exact ⟨some ⟨y,hy⟩,fun e=>(by cases e),fun z e=>(by cases e;exact ⟨h1,h2,h3⟩)⟩
 let adv:=fun x=>Classical.choose (nxt x)
 have advN:∀ x,adv x=none→∃ τ,Agree x.1.2.2 τ∧Term Q c0 x.1.1 x.1.2.1 (x.1.2.2.retape τ):=fun x=>(Classical.choose_spec (nxt x)).1
 have advS:∀ x y,adv x=some y→Agree x.1.2.2 y.1.2.2.tape∧x.1.2.2.drawn≤y.1.2.2.drawn∧∀ τ,Agree y.1.2.2 τ→Go.step Q (lone x.1.1 x.1.2.1 (x.1.2.2.retape τ))=.next (lone y.1.1 y.1.2.1 (y.1.2.2.retape τ)):=fun x y=>(Classical.choose_spec (nxt x)).2 y
 let seq:Nat→Option {x // Lost Q G c0 Stop x}:=fun n=>Nat.rec (some ⟨_,hx0⟩) (fun _ o=>o.bind adv) n
 have seq0:seq 0=some ⟨_,hx0⟩:=rfl;have seqS:∀ n,seq (n+1)=(seq n).bind adv:=fun n=>rfl
 have chain:∀ m n x y,m≤n→seq m=some x→seq n=some y→x.1.2.2.drawn≤y.1.2.2.drawn∧Agree x.1.2.2 y.1.2.2.tape:=by
  intro m n
  induction n with
  | zero =>
    intro x y hmn hx hy;obtain rfl:m=0:=by omega
    rw [hx] at hy;cases hy;exact ⟨Nat.le_refl _,fun i _=>rfl⟩
  | succ n ih =>
    intro x y hmn hx hy;rcases Nat.lt_or_ge m (n+1) with hlt | hge
    · rw [seqS] at hy
      cases hz:seq n with
      | none=>rw [hz] at hy;cases hy
      | some z =>
        rw [hz] at hy;have hy':adv z=some y:=hy;obtain ⟨h1,h2⟩:=ih x z (by omega) hx hz;obtain ⟨h3,h4,_⟩:=advS z y hy';exact ⟨Nat.le_trans h1 h4,fun i hi=>(h3 i (Nat.lt_of_lt_of_le hi h1)).trans (h2 i hi)⟩
    · obtain rfl:m=n+1:=by omega
      rw [hx] at hy;cases hy;exact ⟨Nat.le_refl _,fun i _=>rfl⟩
 have runs:∀ n x τ,seq n=some x→(∀ m y,m≤n→seq m=some y→Agree y.1.2.2 τ)→runN Q n (lone fr0 cs0 (w0.retape τ))=.next (lone x.1.1 x.1.2.1 (x.1.2.2.retape τ)):=by
  intro n
  induction n with
  | zero=>intro x τ hx _;rw [seq0] at hx;cases hx;rfl
  | succ n ih =>
    intro x τ hx hτ;have hx1:=hx;rw [seqS] at hx;cases hz:seq n with
    | none=>rw [hz] at hx;cases hx
    | some z =>
      rw [hz] at hx;have hx':adv z=some x:=hx;have r:=ih z τ hz (fun m y hm hy=>hτ m y (by omega) hy);obtain ⟨_,_,h3⟩:=advS z x hx';rw [runN_add,r];simp only [runN,h3 τ (hτ (n+1) x (Nat.le_refl _) hx1)]
 have away:∀ n x τ fr cs w',seq n=some x→(∀ m y,m≤n→seq m=some y→Agree y.1.2.2 τ)→runN Q n (lone fr0 cs0 (w0.retape τ))=.next (lone fr cs w')→¬ Stop fr cs w':=by
  intro n x τ fr cs w' hx hτ hr hs;rw [runs n x τ hx hτ] at hr;simp only [Stepped.next.injEq] at hr;obtain ⟨rfl,rfl,rfl⟩:=lone_inj hr;have:=hRp _ _ _ x.1.2.2.tape (x.2.fit.retape τ) hs;exact x.2.not (.stop this)
 by_cases hend:∃ n x,seq n=some x∧adv x=none
 · obtain ⟨n,x,hx,hn⟩:=hend
   obtain ⟨τ,hτ,hterm⟩:=advN x hn;have hag:∀ m y,m≤n→seq m=some y→Agree y.1.2.2 τ:=fun m y hm hy i hi=>by
    obtain ⟨h1,h2⟩:=chain m n y x hm hy hx;rw [hτ i (Nat.lt_of_lt_of_le hi h1)];exact h2 i hi
   obtain ⟨n0,fr,cs,w',hr,hs⟩:=H τ (hag 0 _ (Nat.zero_le _) seq0);rcases Nat.lt_or_ge n n0 with hlt | hge
   · obtain ⟨k,rfl⟩:∃ k,n0=n+(k+1):=⟨n0 - n - 1,by omega⟩
     rw [runN_add,runs n x τ hx hag] at hr;exact hterm k fr cs w' hr (hst _ _ _ hs)
   · -- there is a state of that number
     have hex:∀ j,j≤n→∃ y,seq j=some y:=by
      intro j hj;cases hy:seq j with
      | some y=>exact ⟨y,rfl⟩
      | none =>
        exfalso;have:∀ d,seq (j+d)=none:=by
         intro d
         induction d with
         | zero=>exact hy
         | succ d ih=>rw [← Nat.add_assoc,seqS,ih];rfl
        have h2:=this (n - j);rw [show j+(n - j)=n by omega,hx] at h2;cases h2
     obtain ⟨y,hy⟩:=hex n0 hge;exact away n0 y τ fr cs w' hy (fun m z hm hz=>hag m z (by omega) hz) hr hs
 · have hall:∀ n,∃ x,seq n=some x:=by
    intro n
    induction n with
    | zero=>exact ⟨_,seq0⟩
    | succ n ih =>
      obtain ⟨x,hx⟩:=ih;cases ha:adv x with
      | none=>exact absurd ⟨n,x,hx,ha⟩ hend
      | some y=>exact ⟨y,by rw [seqS,hx];exact ha⟩
   haveI:∀ i,Decidable (∃ n x,seq n=some x∧i<x.1.2.2.drawn):=fun i=>Classical.propDecidable _
   let τ:Nat→Question→Nat:=fun i=>if h:∃ n x,seq n=some x∧i<x.1.2.2.drawn then (Classical.choose (Classical.choose_spec h)).1.2.2.tape i else w0.tape i
   have hag:∀ m y,seq m=some y→Agree y.1.2.2 τ:=by
    intro m y hy i hi;have hex:∃ n x,seq n=some x∧i<x.1.2.2.drawn:=⟨m,y,hy,hi⟩;have e:τ i=(Classical.choose (Classical.choose_spec hex)).1.2.2.tape i:=dif_pos hex;rw [e];obtain ⟨hz,hzi⟩:=Classical.choose_spec (Classical.choose_spec hex);rcases Nat.le_total m (Classical.choose hex) with hle | hle
    · exact (chain m _ y _ hle hy hz).2 i hi
    · exact ((chain _ m _ y hle hz hy).2 i hzi).symm
   obtain ⟨n0,fr,cs,w',hr,hs⟩:=H τ (hag 0 _ seq0);obtain ⟨y,hy⟩:=hall n0;exact away n0 y τ fr cs w' hy (fun m z _ hz=>hag m z hz) hr hs
end
end
open Go
section
variable {Q:Program} {F:Array Func} {G:Nat→Prop} {c0:Frame}
def follow (gw w:World):Nat→Question→Nat:=fun i=>if i<gw.drawn then gw.tape i else w.tape (w.drawn+(i - gw.drawn))
theorem follow_agree (gw w:World):Agree gw (follow gw w):=fun i hi=>by simp [follow,hi]
theorem follow_ta (gw w:World):TA (gw.retape (follow gw w)) w:=fun i=>by
 show follow gw w (gw.drawn+i)=w.tape (w.drawn+i)
 unfold follow;rw [if_neg (by omega),Nat.add_sub_cancel_left]
def Hands (Q:Program) (f:FuncId) (Rv:Value→World→Prop) (fr:Frame) (w:World):Prop:=fr.fn=f∧∃ v,fr.leaving Q w (.returned v)∧Rv v w
theorem leave_step {F:Array Func} {p:Inj} {D:List Deferred} {fr fr':Frame} (hf:FRel Q F G p D fr fr') (hm:fr.mode=.returning) (hd:fr.defers=[]) (w:World) :
  (∃ o w1 es,stepG Q true (Conc.G fr [c0]) w=.ended o w1 es)∨∃ v w2 es,stepG Q true (Conc.G fr [c0]) w=.go (Conc.G (c0.finish v) []) w2 es:=by
 obtain ⟨fn,fn',h1,h2,h3⟩:=hf.func (hf.ret hm);have n1:fr.mode≠.run:=by rw [hm];simp
 rw [step_unwind n1];cases hr:(results fn fr.tmps).runT Q w #[] with
 | mk x es =>
   cases x with
   | ok v w2=>exact .inr ⟨v,w2,seen Q fr.fn es,by simp [-Sem.runT_eq,unwind,hd,hm,h1,hr,GStep.after,doReturn,hf.kind,Conc.G]⟩
   | halt y w2 =>
     cases y with
     | stuck s=>exact .inl ⟨.stuck s (fr.pos Q),w2,seen Q fr.fn es,by simp [-Sem.runT_eq,unwind,hd,hm,h1,hr,GStep.after]⟩
     | _=>exact .inl ⟨.stuck "return: the result variables cannot be read" (fr.pos Q),w2,seen Q fr.fn es,by simp [-Sem.runT_eq,unwind,hd,hm,h1,hr,GStep.after]⟩
theorem Bad.not_sur (hfl:Floor Q c0) {Stop:Frame→List Frame→World→Prop} (hst:StopOk c0 Stop) {fr:Frame} {cs:List Frame} {w:World} (h:Sur Q Stop fr cs w):¬ Bad c0 fr cs w:=by
 induction h with
 | stop hs=>exact fun hb=>hb.not_stop (hst _ _ _ hs)
 | @step fr cs w nf h1 h2 ih =>
   intro hb;have hst:=h1 w.tape (fun _ _=>rfl);have e:w.retape w.tape=w:=rfl;rw [e] at hst;rcases hb.step hfl with ⟨o,w1,es,h⟩ | ⟨fr1,cs1,w1,es,h,hb1⟩
   · rw [h] at hst;cases hst
   · rw [h] at hst
     simp only [GStep.go.injEq] at hst;obtain ⟨hg,hw,_⟩:=hst;have h3:=ih w.tape (fun _ _=>rfl);simp only [Conc.G,Goroutine.mk.injEq] at hg;obtain ⟨g1,g2,_⟩:=hg;rw [← g1,← g2,← hw] at h3;exact h3 hb1
theorem sur_of_calls (S:Funs Q Q.funcs G (fun _=>False)) (hfl:Floor Q c0) {f:FuncId} {args:Array Value} {gw:World} {Rv:Value→World→Prop} (hRv:∀ v w τ,Rv v w→Rv v (w.retape τ))
  (hfit:Fit Q G c0 (Frame.enter Q f args .normal) [c0] gw)
  (H:∀ τ,Agree gw τ→Calls Q f args (gw.retape τ) fun e w'=>∃ v,e=.returned v∧Rv v w') :
  Sur Q (StopAt c0 (Hands Q f Rv)) (Frame.enter Q f args .normal) [c0] gw:=by
 refine glue S hfl (stopAt_ok _ _) ?_ hfit fun τ hτ=>?_
 · rintro fr cs w τ hf ⟨k1,k2,k3,h1,v,⟨l1,l2,l3,fn,l4,l5⟩,h3⟩
   refine ⟨k1,k2,k3,h1,v,⟨l1,l2,l3,fn,l4, ?_⟩,hRv v w τ h3⟩;obtain ⟨p,w',fr',cs',hS,hW,hg,hok,hG⟩:=hf;obtain ⟨E,hfr,_⟩:=hS.top;have hr:(results fn fr.tmps).runT Q w #[]=(.ok v w,((results fn fr.tmps).runT Q w #[]).2):=Prod.ext (by rw [Sem.runT_fst];exact l5) rfl;have hT:TA w (w'.retape fun i=>w.tape (w.drawn+(i - w'.drawn))):=fun i=>by
    show w.tape (w.drawn+i)=w.tape (w.drawn+(w'.drawn+i - w'.drawn))
    rw [Nat.add_sub_cancel_left]
   obtain ⟨q,b,w1,new,hR⟩:=(s_results (Q:=Q) (F:=Q.funcs) fn fn rfl hfr.tmps).run (w:=w'.retape fun i=>w.tape (w.drawn+(i - w'.drawn))) _ _ #[] (hW.of_heap rfl rfl) hT hr;have:=hR.retape τ (fun i h1 h2=>absurd h2 (Nat.not_lt.2 h1));rw [← Sem.runT_fst _ _ _ #[],this]
 · obtain ⟨e,w',fr,⟨v,rfl,hv⟩,hcomes,hfn,hl⟩:=H τ hτ [c0]
   obtain ⟨n,hn⟩:Steps Q (lone (Frame.enter Q f args .normal) [c0] (gw.retape τ)) (lone fr [c0] w'):=hcomes;exact ⟨n,fr,[c0],w',hn,rfl,hl.1,hl.2.1,hfn,v,hl,hv⟩
end
inductive Tr:Type 1
 | nd (ι:Type) (f:ι→Tr):Tr
def Grown (M:Nat→Prop) (w w':World):Nat→Prop:=fun b=>M b∨(w.heap.size≤b∧b<w'.heap.size)
def GoT (P:Program) (main:Bool) (Rely:(Nat→Prop)→World→World→Prop) (Guar:(Nat→Prop)→World→World→Array Event→Prop) (Stop:(Nat→Prop)→Goroutine→World→Prop) :
  Tr→(Nat→Prop)→Goroutine→World→Prop
 | .nd ι f,M,g,w=>∀ w₁,Rely M w w₁→Stop M g w₁∨(g.status=.running∧∃ (i:ι) (g':Goroutine) (w':World) (es:Array Event),stepG P main g w₁=.go g' w' es∧Guar M w₁ w' es∧GoT P main Rely Guar Stop (f i) (Grown M w₁ w') g' w')
section
variable {P:Program} {main:Bool} {Rely:(Nat→Prop)→World→World→Prop} {Guar:(Nat→Prop)→World→World→Array Event→Prop} {Stop Stop':(Nat→Prop)→Goroutine→World→Prop}
theorem GoT.rely (tr:∀ M a b c,Rely M a b→Rely M b c→Rely M a c) {T:Tr} {M:Nat→Prop} {g:Goroutine} {w w₁:World} (h:GoT P main Rely Guar Stop T M g w) (hr:Rely M w w₁):GoT P main Rely Guar Stop T M g w₁:=by
 cases T with
 | nd ι f=>exact fun w₂ h₂=>h w₂ (tr _ _ _ _ hr h₂)
theorem GoT.mk {M:Nat→Prop} {g:Goroutine} {w:World} (h:∀ w₁,Rely M w w₁→Stop M g w₁∨(g.status=.running∧∃ (g':Goroutine) (w':World) (es:Array Event),stepG P main g w₁=.go g' w' es∧Guar M w₁ w' es∧∃ T,GoT P main Rely Guar Stop T (Grown M w₁ w') g' w')) :
  ∃ T,GoT P main Rely Guar Stop T M g w:=by
 have ex:∀ w₁:World,∃ T:Tr,Rely M w w₁→Stop M g w₁∨(g.status=.running∧∃ (g':Goroutine) (w':World) (es:Array Event),stepG P main g w₁=.go g' w' es∧Guar M w₁ w' es∧GoT P main Rely Guar Stop T (Grown M w₁ w') g' w'):=by
  intro w₁;by_cases hr:Rely M w w₁
  · rcases h w₁ hr with hs | ⟨h1,g',w',es,h2,h3,T,h4⟩
    · exact ⟨.nd Empty (fun x=>x.elim),fun _=>.inl hs⟩
    · exact ⟨T,fun _=>.inr ⟨h1,g',w',es,h2,h3,h4⟩⟩
  · exact ⟨.nd Empty (fun x=>x.elim),fun hx=>absurd hx hr⟩
 refine ⟨.nd World (fun w₁=>Classical.choose (ex w₁)),fun w₁ hr=>?_⟩;rcases Classical.choose_spec (ex w₁) hr with hs | ⟨h1,g',w',es,h2,h3,h4⟩
 · exact .inl hs
 · exact .inr ⟨h1,w₁,g',w',es,h2,h3,h4⟩
theorem GoT.stop {M:Nat→Prop} {g:Goroutine} {w:World} (h:∀ w₁,Rely M w w₁→Stop M g w₁):∃ T,GoT P main Rely Guar Stop T M g w:=GoT.mk fun w₁ hr=>.inl (h w₁ hr)
theorem GoT.seq (h:∀ M g w,Stop M g w→∃ T,GoT P main Rely Guar Stop' T M g w) (refl:∀ M w,Rely M w w):∀ (T:Tr) {M:Nat→Prop} {g:Goroutine} {w:World},GoT P main Rely Guar Stop T M g w→∃ T,GoT P main Rely Guar Stop' T M g w:=by
 intro T
 induction T with
 | nd ι f ih =>
   intro M g w hg;refine GoT.mk fun w₁ hr=>?_
   rcases hg w₁ hr with hs | ⟨h1,i,g',w',es,h2,h3,h4⟩
   · obtain ⟨T,hT⟩:=h M g w₁ hs
     cases T with
     | nd ι f =>
       rcases hT w₁ (refl _ _) with hs' | ⟨h1,i,g',w',es,h2,h3,h4⟩
       · exact .inl hs'
       · exact .inr ⟨h1,g',w',es,h2,h3,_,h4⟩
   · exact .inr ⟨h1,g',w',es,h2,h3,ih i h4⟩
end
section
variable {Q:Program} {F:Array Func} {G:Nat→Prop} {p:Inj} {D:List Deferred} {c0:Frame} {cs0:List Frame}
structure Landed (Q:Program) (F:Array Func) (G:Nat→Prop) (p:Inj) (D:List Deferred) (c0:Frame) (cs0:List Frame) (Stop:Frame→List Frame→World→Prop) (M:Nat→Prop) (g:Goroutine) (w:World):Prop where
 ex:∃ q fr fr' gw,g=Conc.G fr' cs0∧p.le q∧FRel Q F G q D fr fr'∧WRel q gw w∧(∀ b b',q.r b b'→M b')∧fr.roundOf=none∧Stop fr [c0] gw
theorem go_of_sur (S:Funs Q F G (fun _=>False)) (hfl:Floor Q c0) {Stop:Frame→List Frame→World→Prop} (hst:StopOk c0 Stop) {Rely:(Nat→Prop)→World→World→Prop} {Guar:(Nat→Prop)→World→World→Array Event→Prop} {main:Bool}
  (hRely:∀ M w w₁,Rely M w w₁→(∀ b,M b→w₁.heap[b]? = w.heap[b]?)∧w.heap.size≤w₁.heap.size)
  (hGuar:∀ (M:Nat→Prop) (w w':World) (es:Array Event) (p q:Inj),Fr p q w w'→(∀ b b',p.r b b'→M b')→(∀ e∈es,EvIn q e)→(∀ b b',q.r b b'→Grown M w w' b')→Guar M w w' es)
  {fr:Frame} {cs:List Frame} {gw:World} (h:Sur Q Stop fr cs gw):∀ {p0 p:Inj} {fr':Frame} {cs':List Frame} {w:World} {M:Nat→Prop},Stk Q F G p D c0 cs0 fr cs fr' cs'→WRel p gw w→p.g=Q.globals.size→p.ok=(fun c=>CRel Q G c c)→(∀ g,G g→p.r g g) →
   (∀ b b',p.r b b'→M b')→p0.le p→∃ T,GoT (wf Q F) main Rely Guar (Landed Q F G p0 D c0 cs0 Stop) T M (Conc.G fr' cs') w:=by
 have keep:∀ {p:Inj} {gw w w₁:World} {M:Nat→Prop},WRel p gw w→(∀ b b',p.r b b'→M b')→Rely M w w₁→WRel p gw w₁:=by
  intro p gw w w₁ M hW hM hr;obtain ⟨h1,h2⟩:=hRely _ _ _ hr;refine ⟨fun b b' hb=>?_,hW.g1,Nat.le_trans hW.g2 h2⟩;rw [h1 b' (hM b b' hb)];exact hW.at_ b b' hb
 induction h with
 | stop hs =>
   intro p0 p fr' cs' w M hS hW hg hok hG hM hp0;obtain ⟨rfl,_⟩:=hst _ _ _ hs;refine GoT.stop fun w₁ hr=>?_
   cases hS with
   | base hf hr0=>exact ⟨p,_,fr',_,rfl,hp0,hf,keep hW hM hr,hM,hr0,hs⟩
   | up hf hs=>cases hs
 | @step fr cs gw nf h1 h2 ih =>
   intro p0 p fr' cs' w M hS hW hg hok hG hM hp0;refine GoT.mk fun w₁ hr=>?_
   have hW1:=keep hW hM hr;by_cases hl:cs=[c0]∧fr.mode=.returning∧fr.defers=[]
   · -- the first run would step back to the floor: excluded by its own going on
     exfalso;obtain ⟨rfl,hm,hd⟩:=hl;have hsx:=h1 gw.tape (fun _ _=>rfl);have e:gw.retape gw.tape=gw:=rfl;rw [e] at hsx;have h3:=h2 gw.tape (fun _ _=>rfl);obtain ⟨E,hf,_⟩:=hS.top;rcases leave_step hf hm hd gw with ⟨o,w1,es,h⟩ | ⟨v,w2,es,h⟩
     · rw [h] at hsx;cases hsx
     · rw [h] at hsx
       simp only [GStep.go.injEq,Conc.G,Goroutine.mk.injEq] at hsx;obtain ⟨⟨g1,g2,_⟩,hw,_⟩:=hsx;rw [← g1,← g2] at h3;exact Bad.not_sur hfl hst h3 (.back v _)
   · have hag:=follow_agree gw w₁
     have hsx:=h1 (follow gw w₁) hag;have h3:=h2 (follow gw w₁) hag;have hih:=@ih (follow gw w₁) hag;have hout:=step_out S hG hg hok hS (gw:=gw.retape (follow gw w₁)) (w:=w₁) (hW1.of_heap rfl rfl) (follow_ta gw w₁) hl main;cases hout with
     | ended h=>rw [h] at hsx;cases hsx
     | panics h hp =>
       rw [h] at hsx;simp only [GStep.go.injEq,Conc.G,Goroutine.mk.injEq] at hsx;obtain ⟨⟨g1,g2,_⟩,hw,_⟩:=hsx;rw [← g1,← g2,← hw] at h3;exact (Bad.not_sur hfl hst h3 (.panics hp)).elim
     | @on q fr1 fr1' cs1 cs1' gw1 w1 es es' ha hb hq hst9 hW2 hT2 hF hev hd ht hre =>
       rw [ha] at hsx;simp only [GStep.go.injEq,Conc.G,Goroutine.mk.injEq] at hsx;obtain ⟨⟨g1,g2,_⟩,hw,_⟩:=hsx;have hstk:Stk Q F G q D c0 cs0 fr1 cs1 fr1' cs1':=by
        rcases hst9 with h | ⟨_,_,_,_,_,_,_,hf,_⟩
        · exact h
        · exact hf.elim
       have hgrow:∀ b b',q.r b b'→Grown M w₁ w1 b':=by
        intro b b' hb';rcases hF.fresh b b' hb' with h | h
        · exact .inl (hM b b' h)
        · exact .inr ⟨h,(hW2.lt hb').2⟩
       refine .inr ⟨rfl,Conc.G fr1' cs1',w1,es',hb,hGuar M w₁ w1 es' p q hF hM hev hgrow, ?_⟩;rw [← g1,← g2,← hw] at hih;exact hih hstk hW2 (hq.g.trans hg) (hq.ok.trans hok) (fun g hg=>hq.r _ _ (hG g hg)) hgrow (Inj.le_trans hp0 hq)
end
open Go Go.Conc
open Go.ConcN (sumTo upd sumTo_upd upd_ne upd_same)
def InB (S:Nat→Prop):Loc→Prop
 | .cell a=>S a.block
 | .obj r=>S r
 | _=>False
structure Bes (P:Program) (S:Nat→Prop) (gs:Array Goroutine) (a:Goroutine) (w:World) (t:Trace) (q:Nat→Nat):Prop where
 zero:gs[0]? = some a
 old:Leavers P t gs q
 clean:∀ said,¬ Race said t
 known:∀ i a,touchAt t i=some a→Knows t 0 i∨(InB S a.loc∧a.kind=.atomic)
 over:t.HandedOver
 hears:Deaf t 0=0
 quiet:Quiet (InB S) t
 low:∀ b,S b→b<w.heap.size
 gsz:∀ (i:Nat) (op:MemOp),t[i]? = some op→op.g<gs.size
 seen:∀ op∈t,∀ x,op.act.touch? = some x→InB (·<w.heap.size) x.loc
def EvO (S:Nat→Prop) (B:Nat) (e:Event):Prop:=(∀ x,(MemAct.ofEvent e).touch? = some x→¬ InB S x.loc∧InB (·<B) x.loc)∧e.loc≠.mark .disable∧e.loc≠.mark .enable
theorem InB.mono {S S':Nat→Prop} (h:∀ b,S b→S' b) {l:Loc} (hl:InB S l):InB S' l:=by
 cases l <;> first | exact h _ hl | exact hl
section
variable {P:Program} {S:Nat→Prop}
theorem app_gs {t u:Trace} {n g:Nat} (h:∀ (i:Nat) (op:MemOp),t[i]? = some op→op.g<n) (hu:∀ op∈u,op.g=g) (hg:g<n):∀ (i:Nat) (op:MemOp),(t++u)[i]? = some op→op.g<n:=by
 intro i op hi;rcases getElem?_append_cases hi with ⟨_,h'⟩ | ⟨_,h'⟩
 · exact h i op h'
 · rw [hu op h'];exact hg
theorem Bes.awake {gs:Array Goroutine} {a:Goroutine} {w:World} {t:Trace} {q:Nat→Nat} (hB:Bes P S gs a w t q) (hrun:a.status=.running):∀ g∈gs,awake g:=by
 intro g hg;obtain ⟨i,hi,rfl⟩:=Array.mem_iff_getElem.1 hg;rcases Nat.eq_zero_or_pos i with rfl | hpos
 · have:gs[0]=a:=by simpa [Array.getElem?_eq_getElem hi] using hB.zero
   rw [this];exact awake_of (.inl hrun)
 · exact awake_of ((hB.old.old i _ hpos (Array.getElem?_eq_getElem hi)).status.elim .inl fun x=>.inr (.inr x))
theorem Bes.at_ {gs:Array Goroutine} {a:Goroutine} {w:World} {t:Trace} {q:Nat→Nat} (h:Bes P S gs a w t q) (d:Nat):Bes P S gs a (w.at d) t q:=⟨h.zero,h.old,h.clean,h.known,h.over,h.hears,h.quiet,h.low,h.gsz,h.seen⟩
theorem Bes.slip {gs:Array Goroutine} {a:Goroutine} {w:World} {t:Trace} {q:Nat→Nat} (h:Bes P S gs a w t q) (hrun:a.status=.running) {i k:Nat} (hi0:i≠0) (hlt:i<gs.size) {g g':Goroutine} {es:Array Event} (hm:∀ e∈es,e.mute=true) (hq:QuitsD P k (deafBehind (Deaf t i) es) g') :
  Bes P S ((gs.map (woken P g g' w)).setIfInBounds i g') a w (t++MemOp.ofEvents i g.frame.fn g.frame.place es) (upd q i k):=by
 have hsz:((gs.map (woken P g g' w)).setIfInBounds i g').size=gs.size:=by simp
 have hmem:∀ op∈MemOp.ofEvents i g.frame.fn g.frame.place es,op.g=i:=fun op hop=>by obtain ⟨e,_,rfl⟩:=Go.Conc.mem_ofEvents hop;rfl
 have hno:∀ op∈MemOp.ofEvents i g.frame.fn g.frame.place es,op.act.touch? = none:=fun op hop=>by obtain ⟨e,he,rfl⟩:=Go.Conc.mem_ofEvents hop;exact touch_mute (hm e he)
 refine ⟨?_,⟨fun j x hj hx=>?_,fun j hj=>?_⟩,fun said=>noRace_append (h.clean said) hmem fun j b _ op hop x hx _=>(by rw [hno op hop] at hx;cases hx),fun j b hb=>?_,handedOver_app h.over fun op hop=>.inr (hno op hop),(Deaf_other t (by omega) _ hmem).trans h.hears,
  h.quiet.app (fun op hop x hx _=>by rw [hno op hop] at hx;cases hx),h.low,by rw [hsz];exact app_gs h.gsz hmem hlt,fun op hop x hx=>?_⟩
 · rw [Array.getElem?_setIfInBounds_ne hi0,Array.getElem?_map,h.zero]
   simp [woken_run hrun]
 · by_cases hji:i=j
   · subst hji
     rw [Array.getElem?_setIfInBounds_self_of_lt (by simpa using hlt)] at hx;obtain rfl:=Option.some.inj hx;rw [upd_same,Deaf_own];exact hq
   · rw [Array.getElem?_setIfInBounds_ne hji,Array.getElem?_map] at hx
     obtain ⟨y,hy,rfl⟩:=Option.map_eq_some_iff.1 hx;have hqj:=h.old.old j y hj hy;rw [woken_quitsD hqj,upd_ne q k (Ne.symm hji),Deaf_other t hji _ hmem];exact hqj
 · rw [Deaf_other t (g':=i) (by simp at hj;omega) _ hmem]
   exact h.old.above j (by simpa using hj)
 · obtain ⟨x,hx,hxa⟩:=touch_of hb
   rcases getElem?_append_cases hx with ⟨_,hx'⟩ | ⟨_,hxu⟩
   · exact (h.known j b (by rw [touchAt_of hx'];exact hxa)).imp (·.app _) id
   · rw [hno x hxu] at hxa;cases hxa
 · rcases Array.mem_append.1 hop with h' | h'
   · exact h.seen op h' x hx
   · rw [hno op h'] at hx;cases hx
theorem own_turn:∀ (M:Nat) (gs:Array Goroutine) (a:Goroutine) (w:World) (sl:Option (Nat × Nat)) (t:Trace) (q:Nat→Nat),sumTo gs.size q≤M→Bes P S gs a w t q→a.status=.running →
  ∃ N gs' d d' sl' sl'' t' q',runNT P N (crowd gs w sl) t=(.next (crowd gs' (w.at d) sl'),t')∧stepT P (crowd gs' (w.at d) sl')=runT P (crowd gs' (w.at d') sl'') 0∧Bes P S gs' a (w.at d') t' q'∧gs'.size=gs.size:=by
 intro M
 induction M with
 | zero =>
   intro gs a w sl t q hM hB hrun;obtain ⟨i,g,d,sl',hi,hg,hst⟩:=crowd_pick (P:=P) (w:=w) (sl:=sl) (hB.awake hrun) ⟨0,a,hB.zero,hrun⟩;rcases Nat.eq_zero_or_pos i with rfl | hpos
   · exact ⟨0,gs,w.drawn,d,sl,sl',t,q,rfl,hst,hB.at_ d,rfl⟩
   · exfalso
     have hq:=hB.old.old i g hpos hi;have hlt:i<gs.size:=(Array.getElem?_eq_some_iff.1 hi).1;cases hqi:q i with
     | zero=>rw [hqi] at hq;rw [hq.1] at hg;cases hg
     | succ k =>
       have h1:sumTo gs.size (upd q i 0)+(k+1)=sumTo gs.size q+0:=by
        have:=sumTo_upd q 0 id hlt
        simpa [hqi] using this
       omega
 | succ M ih =>
   intro gs a w sl t q hM hB hrun;obtain ⟨i,g,d,sl',hi,hg,hst⟩:=crowd_pick (P:=P) (w:=w) (sl:=sl) (hB.awake hrun) ⟨0,a,hB.zero,hrun⟩;rcases Nat.eq_zero_or_pos i with rfl | hpos
   · exact ⟨0,gs,w.drawn,d,sl,sl',t,q,rfl,hst,hB.at_ d,rfl⟩
   · have hq:=hB.old.old i g hpos hi
     have hi0:(i==0)=false:=by simp;omega
     have hlt:i<gs.size:=(Array.getElem?_eq_some_iff.1 hi).1;cases hqi:q i with
     | zero=>rw [hqi] at hq;rw [hq.1] at hg;cases hg
     | succ k =>
       rw [hqi] at hq;rcases hq with ⟨hf,_⟩ | ⟨_,g',es,hm,hstp,hq'⟩
       · rw [hf] at hg;cases hg
       have hrunT:=runT_crowd_go (P:=P) (sl:=sl') (i:=i) hi (by rw [hi0];exact hstp (w.at d));have hsz:((gs.map (woken P g g' (w.at d))).setIfInBounds i g').size=gs.size:=by simp
       have hsum:sumTo gs.size (upd q i k)+(k+1)=sumTo gs.size q+k:=by
        have:=sumTo_upd q k id hlt
        simpa [hqi] using this
       obtain ⟨N,gs',d1,d2,sl1,sl2,t',q',hr,hs,hB',hsz'⟩:=ih _ a (w.at d) sl' _ (upd q i k) (by rw [hsz];omega) ((hB.at_ d).slip hrun (by omega) hlt (g:=g) hm hq') hrun;exact ⟨N+1,gs',d1,d2,sl1,sl2,t',q',by simp only [runNT,hst,hrunT];exact hr,hs,hB',hsz'.trans hsz⟩
theorem Bes.own {gs:Array Goroutine} {a a':Goroutine} {w w':World} {t:Trace} {q:Nat→Nat} {sl:Option (Nat × Nat)} {es:Array Event} (h:Bes P S gs a w t q) (hgo:stepG P true a w=.go a' w' es) (hsz:w.heap.size≤w'.heap.size)
  (hev:∀ e∈es,EvO S w'.heap.size e) :
  ∃ gs' t',runT P (crowd gs w sl) 0=(.next (crowd gs' w' sl),t')∧Bes P S gs' a' w' (t++t') q∧gs'.size=gs.size:=by
 have hrunT:=runT_crowd_go (P:=P) (sl:=sl) (i:=0) h.zero (show stepG P (0==0) a w=_ from hgo);have hs2:((gs.map (woken P a a' w')).setIfInBounds 0 a').size=gs.size:=by simp
 have hlt:0<gs.size:=(Array.getElem?_eq_some_iff.1 h.zero).1;have hmem:∀ op∈MemOp.ofEvents 0 a.frame.fn a.frame.place es,op.g=0:=fun op hop=>by obtain ⟨e,_,rfl⟩:=Go.Conc.mem_ofEvents hop;rfl
 have hno:∀ op∈MemOp.ofEvents 0 a.frame.fn a.frame.place es,∀ x,op.act.touch? = some x→¬ InB S x.loc∧InB (·<w'.heap.size) x.loc:=fun op hop x hx=>by obtain ⟨e,he,rfl⟩:=Go.Conc.mem_ofEvents hop;exact (hev e he).1 x hx
 refine ⟨_,_,hrunT,⟨by simp [hlt],⟨fun j x hj hx=>?_,fun j hj=>?_⟩,fun said=>noRace_append (h.clean said) hmem fun i b hb op hop x hx hc=>?_,fun i b hb=>?_,handedOver_app h.over fun op hop=>.inl (hmem op hop), ?_,h.quiet.app (fun op hop x hx hS=>absurd hS (hno op hop x hx).1),
  fun b hb=>Nat.lt_of_lt_of_le (h.low b hb) hsz,by rw [hs2];exact app_gs h.gsz hmem hlt,fun op hop x hx=>?_⟩,hs2⟩
 · have hne:0≠j:=by omega
   rw [Array.getElem?_setIfInBounds_ne hne,Array.getElem?_map] at hx;obtain ⟨y,hy,rfl⟩:=Option.map_eq_some_iff.1 hx;have hq:=h.old.old j y hj hy;rw [woken_quitsD hq,Deaf_other t (by omega) _ hmem];exact hq
 · rw [Deaf_other t (g':=0) (by simp at hj;omega) _ hmem]
   exact h.old.above j (by simpa using hj)
 · rcases h.known i b hb with hk | ⟨hs,_⟩
   · exact hk
   · exact absurd (hc.1 ▸ hs) (hno op hop x hx).1
 · obtain ⟨x,hx,hxa⟩:=touch_of hb
   rcases getElem?_append_cases hx with ⟨_,hx'⟩ | ⟨_,hxu⟩
   · exact (h.known i b (by rw [touchAt_of hx'];exact hxa)).imp (·.app _) id
   · have:=knows_own hx
     rw [hmem x hxu] at this;exact .inl this
 · rw [Deaf_own]
   exact (deafBehind_still (fun e he=>(hev e he).2) _).trans h.hears
 · rcases Array.mem_append.1 hop with h' | h'
   · exact (h.seen op h' x hx).mono fun b hb=>Nat.lt_of_lt_of_le hb hsz
   · exact (hno op h' x hx).2
end
def Clear (p:Inj) (S:Nat→Prop):Prop:=∀ b b',p.r b b'→¬ S b'
theorem evIn_evO {q:Inj} {e:Event} (h:EvIn q e) {S:Nat→Prop} (hc:Clear q S) {gw w:World} (hW:WRel q gw w):EvO S w.heap.size e:=by
 obtain ⟨loc,wr,sy⟩:=e;rcases h with ⟨a,b,h1,h2⟩ | ⟨r,b,h1,hs,h2⟩ | h1
 · simp only at h1
   subst h1;refine ⟨fun x hx=>?_,by simp,by simp⟩;simp only [MemAct.ofEvent,MemAct.touch?,Option.some.injEq] at hx;subst hx;exact ⟨hc b a.block h2,(hW.lt h2).2⟩
 · simp only at h1 hs
   subst h1 hs;refine ⟨fun x hx=>?_,by simp,by simp⟩;simp only [MemAct.ofEvent,MemAct.touch?,Option.some.injEq] at hx;subst hx;exact ⟨hc b r h2,(hW.lt h2).2⟩
 · simp only at h1
   subst h1;exact ⟨fun x hx=>by simp [MemAct.ofEvent,MemAct.touch?] at hx,by simp,by simp⟩
structure Keep (p q:Inj) (w w':World):Prop where
 size:w.heap.size≤w'.heap.size
 old:∀ b',b'<w.heap.size→(∀ b,¬ p.r b b')→w'.heap[b']? = w.heap[b']?
 fresh:∀ b b',q.r b b'→p.r b b'∨w.heap.size≤b'
 tape:w'.tape=w.tape
 os:w'.os=w.os
 output:w'.output=w.output
theorem Keep.refl (p:Inj) (w:World):Keep p p w w:=⟨Nat.le_refl _,fun _ _ _=>rfl,fun _ _ h=>.inl h,rfl,rfl,rfl⟩
theorem Keep.trans {p q s:Inj} {w w' w'':World} (h:Keep p q w w') (h':Keep q s w' w''):Keep p s w w'':=by
 refine ⟨Nat.le_trans h.size h'.size,fun b' h1 h2=>?_,fun b b' hb=>?_,h'.tape.trans h.tape,h'.os.trans h.os,h'.output.trans h.output⟩
 · rw [h'.old b' (Nat.lt_of_lt_of_le h1 h.size) (fun b hb=>(h.fresh b b' hb).elim (h2 b) (fun x=>absurd h1 (Nat.not_lt.2 x)))]
   exact h.old b' h1 h2
 · rcases h'.fresh b b' hb with x | x
   · exact h.fresh b b' x
   · exact .inr (Nat.le_trans h.size x)
theorem Keep.of_fr {p q:Inj} {w w':World} (h:Fr p q w w'):Keep p q w w':=⟨h.size,h.old,h.fresh,h.tape,h.os,h.output⟩
theorem Keep.at_ {p q:Inj} {w w':World} (h:Keep p q w w') (d:Nat):Keep p q w (w'.at d):=⟨h.size,h.old,h.fresh,h.tape,h.os,h.output⟩
structure Here (Q:Program) (G:Nat→Prop) (p:Inj) (S:Nat→Prop) (gw w:World):Prop where
 wrel:WRel p gw w
 g:p.g=Q.globals.size
 ok:p.ok=fun c=>CRel Q G c c
 glob:∀ g,G g→p.r g g
 clear:Clear p S
theorem Here.heap {Q:Program} {G:Nat→Prop} {p:Inj} {S:Nat→Prop} {gw w gw1 w1:World} (h:Here Q G p S gw w) (h1:gw1.heap=gw.heap) (h2:w1.heap=w.heap):Here Q G p S gw1 w1 :=
 ⟨h.wrel.of_heap h1 h2,h.g,h.ok,h.glob,h.clear⟩
def Reach (P:Program) (Fin:Machine→Trace→Prop) (m:Machine) (t:Trace):Prop:=∃ N m' t',runNT P N m t=(.next m',t')∧Fin m' t'
theorem Reach.of {P:Program} {Fin:Machine→Trace→Prop} {N:Nat} {m m1:Machine} {t t1:Trace} (h:runNT P N m t=(.next m1,t1)) (h':Reach P Fin m1 t1):Reach P Fin m t:=by
 obtain ⟨M,m',t',h1,h2⟩:=h';refine ⟨N+M,m',t', ?_,h2⟩;rw [runNT_add,h];exact h1
theorem Reach.step {P:Program} {Fin:Machine→Trace→Prop} {m m1:Machine} {t:Trace} {ops:Array MemOp} (h:stepT P m=(.next m1,ops)) (h':Reach P Fin m1 (t++ops)):Reach P Fin m t:=by
 obtain ⟨M,m',t',h1,h2⟩:=h';refine ⟨M+1,m',t', ?_,h2⟩;simp only [runNT,h];exact h1
def Phase (Q:Program) (F:Array Func) (G:Nat→Prop) (f:FuncId) (xs:Array Value) (gw:World):Prop :=
 ∀ (p:Inj) (xs':Array Value) (w:World) (c':Frame) (k':List Frame) (S:Nat→Prop) (gs:Array Goroutine) (t:Trace) (q:Nat→Nat) (sl:Option (Nat × Nat)),ARel p xs xs'→Here Q G p S gw w →
  Bes (wf Q F) S gs (Conc.G (Frame.enter (wf Q F) f xs' .normal) (c'::k')) w t q →
  ∃ (τ:Nat→Question→Nat) (GP:Value→World→Prop),Agree gw τ∧(Calls Q f xs (gw.retape τ) fun e gw2=>∃ v,e=.returned v∧GP v gw2)∧∀ v gw2,GP v gw2 →
   ∃ N p' v' w2 S' gs' t' q' sl',runNT (wf Q F) N (crowd gs w sl) t=(.next (crowd gs' w2 sl'),t')∧p.le p'∧VRel p' v v'∧Here Q G p' S' gw2 w2∧Keep p p' w w2∧(∀ b,S' b→S b∨w.heap.size≤b)∧Bes (wf Q F) S' gs' (Conc.G (c'.finish v') k') w2 t' q'
section
variable {Q:Program} {F:Array Func} {G:Nat→Prop} {Sp:FuncId→Prop} {D:List Deferred} {c0:Frame} {cs0:List Frame}
def Home (Q:Program) (F:Array Func) (G:Nat→Prop) (D:List Deferred) (_:Frame) (cs0:List Frame) (Rp:Frame→World→Prop) (p0:Inj) (S0:Nat→Prop) (w0:World) (m:Machine) (t:Trace):Prop :=
 ∃ S gs fr' w sl q p fr gw,m=crowd gs w sl∧Bes (wf Q F) S gs (Conc.G fr' cs0) w t q∧FRel Q F G p D fr fr'∧Here Q G p S gw w∧p0.le p∧Keep p0 p w0 w∧(∀ b,S b→S0 b∨w0.heap.size≤b)∧fr.mode=.returning∧fr.defers=[]∧fr.roundOf=none∧Rp fr gw
theorem Bad.runs (hfl:Floor Q c0):∀ (n:Nat) {fr:Frame} {cs:List Frame} {gw:World},Bad c0 fr cs gw→∀ {fr1:Frame} {cs1:List Frame} {gw1:World},runN Q n (lone fr cs gw)=.next (lone fr1 cs1 gw1)→Bad c0 fr1 cs1 gw1:=by
 intro n
 induction n with
 | zero =>
   intro fr cs gw h fr1 cs1 gw1 hr;simp only [runN,Stepped.next.injEq] at hr;obtain ⟨rfl,rfl,rfl⟩:=lone_inj hr;exact h
 | succ n ih =>
   intro fr cs gw h fr1 cs1 gw1 hr;rcases h.step hfl with ⟨o,w1,es,hs⟩ | ⟨fr2,cs2,gw2,es,hs,h2⟩
   · simp only [runN,run_ended hs] at hr
     cases hr
   · simp only [runN,run_go hs] at hr
     exact ih h2 hr
theorem Stk.not_bad {p:Inj} {fr fr':Frame} {cs cs':List Frame} {w:World} (h:Stk Q F G p D c0 cs0 fr cs fr' cs'):¬ Bad c0 fr cs w:=by
 intro hb;obtain ⟨E,hf,_⟩:=h.top;cases hb with
 | panics h =>
   obtain ⟨ch,hc⟩:=h.mode;have:=hf.mode;rw [hc] at this;cases this
 | raised=>cases h
 | back=>cases h
theorem main_of_sur (Sf:Funs Q F G Sp) (hfl:Floor Q c0) {Rp:Frame→World→Prop} (hRp:∀ fr gw,Rp fr gw→∃ v,fr.leaving Q gw (.returned v)) {p0:Inj} {S0:Nat→Prop} {w0:World}
  (hPh:∀ f xs gw c k,Sp f→Sur Q (StopAt c0 Rp) (Frame.enter Q f xs .normal) (c::k) gw→Phase Q F G f xs gw)
  {fr:Frame} {cs:List Frame} {gw:World} (h:Sur Q (StopAt c0 Rp) fr cs gw):∀ n fr1 cs1 gw1,runN Q n (lone fr cs gw)=.next (lone fr1 cs1 gw1) →
   ∀ (p:Inj) (fr':Frame) (cs':List Frame) (w:World) (S:Nat→Prop) (gs:Array Goroutine) (t:Trace) (q:Nat→Nat) (sl:Option (Nat × Nat)),Stk Q F G p D c0 cs0 fr1 cs1 fr' cs'→Here Q G p S gw1 w→p0.le p→Keep p0 p w0 w→(∀ b,S b→S0 b∨w0.heap.size≤b)→Bes (wf Q F) S gs (Conc.G fr' cs') w t q →
    Reach (wf Q F) (Home Q F G D c0 cs0 Rp p0 S0 w0) (crowd gs w sl) t:=by
 induction h with
 | @stop fr cs gw hs =>
   intro n fr1 cs1 gw1 hn p fr' cs' w S gs t q sl hS hH hle hK hSS hB;obtain ⟨rfl,hm,hd,hR⟩:=hs;cases n with
   | zero =>
     simp only [runN,Stepped.next.injEq] at hn;obtain ⟨rfl,rfl,rfl⟩:=lone_inj hn;cases hS with
     | base hf hr0=>exact ⟨0,_,t,rfl,S,gs,fr',w,sl,q,p,_,_,rfl,hB,hf,hH,hle,hK,hSS,hm,hd,hr0,hR⟩
     | up hf hs=>cases hs
   | succ n =>
     exfalso;obtain ⟨v,hv⟩:=hRp _ _ hR;simp only [runN,step_leave_returned hv] at hn;exact hS.not_bad (Bad.runs hfl n (Bad.back v _) hn)
 | @step fr cs gw nf h1 h2 ih =>
   intro n fr1 cs1 gw1 hn p fr' cs' w S gs t q sl hS hH hle hK hSS hB;cases n with
   | succ n =>
     have hst:=h1 gw.tape (fun _ _=>rfl);have e:gw.retape gw.tape=gw:=rfl;rw [e] at hst;simp only [runN,run_go hst] at hn;exact ih gw.tape (fun _ _=>rfl) n fr1 cs1 gw1 hn p fr' cs' w S gs t q sl hS hH hle hK hSS hB
   | zero =>
     simp only [runN,Stepped.next.injEq] at hn;obtain ⟨rfl,rfl,rfl⟩:=lone_inj hn;obtain ⟨N,gs1,d,d',sl1,sl2,t1,q1,hrun,hturn,hB1,_⟩:=own_turn _ gs _ w sl t q (Nat.le_refl _) hB rfl;refine Reach.of hrun ?_;by_cases hl:cs=[c0]∧fr.mode=.returning∧fr.defers=[]
     · exfalso
       obtain ⟨rfl,hm,hd⟩:=hl;have hst:=h1 gw.tape (fun _ _=>rfl);have e:gw.retape gw.tape=gw:=rfl;rw [e] at hst;have h3:=h2 gw.tape (fun _ _=>rfl);obtain ⟨E,hf,_⟩:=hS.top;rcases leave_step hf hm hd gw with ⟨o,w1,es,h⟩ | ⟨v,w2,es,h⟩
       · rw [h] at hst;cases hst
       · rw [h] at hst
         simp only [GStep.go.injEq,Conc.G,Goroutine.mk.injEq] at hst;obtain ⟨⟨g1,g2,_⟩,hw,_⟩:=hst;rw [← g1,← g2] at h3;exact Bad.not_sur hfl (stopAt_ok _ _) h3 (.back v _)
     · have hag:=follow_agree gw (w.at d')
       have hst:=h1 (follow gw (w.at d')) hag;have h3:=h2 (follow gw (w.at d')) hag;have hih:=@ih (follow gw (w.at d')) hag;have hH1:Here Q G p S (gw.retape (follow gw (w.at d'))) (w.at d'):=hH.heap rfl rfl;have hout:=step_out Sf hH.glob hH.g hH.ok hS hH1.wrel (follow_ta gw (w.at d')) hl true;cases hout with
       | ended h=>rw [h] at hst;cases hst
       | panics h hp =>
         rw [h] at hst;simp only [GStep.go.injEq,Conc.G,Goroutine.mk.injEq] at hst;obtain ⟨⟨g1,g2,_⟩,hw,_⟩:=hst;rw [← g1,← g2,← hw] at h3;exact (Bad.not_sur hfl (stopAt_ok _ _) h3 (.panics hp)).elim
       | @on p1 fr1 fr1' cs1 cs1' gw1 w1 es es' ha hb hp1 hst1 hW2 hT2 hF hev hd ht hre =>
         have hst0:=ha.symm.trans hst;simp only [GStep.go.injEq,Conc.G,Goroutine.mk.injEq] at hst0;obtain ⟨⟨g1,g2,_⟩,hw,_⟩:=hst0;rw [← g1,← g2,← hw] at hih h3;have hclear:Clear p1 S:=fun b b' hb' hSb=>by
          rcases hF.fresh b b' hb' with h | h
          · exact hH.clear b b' h hSb
          · exact absurd (hB.low b' hSb) (Nat.not_lt.2 h)
         have hH2:Here Q G p1 S gw1 w1:=⟨hW2,hp1.g.trans hH.g,hp1.ok.trans hH.ok,fun g hg=>hp1.r _ _ (hH.glob g hg),hclear⟩;obtain ⟨gs2,t2,hrunT,hB2,_⟩:=hB1.own (sl:=sl2) hb hF.size (fun e he=>evIn_evO (hev e he) hclear hW2);have hK2:Keep p0 p1 w0 w1:=(hK.at_ d').trans (Keep.of_fr hF);refine Reach.step (hturn.trans hrunT) ?_;rcases hst1 with hstk | ⟨f,xs,xs',c,k,c',k',hf,hx,rfl,rfl,rfl,rfl,hck⟩
         · exact hih 0 fr1 cs1 gw1 rfl p1 fr1' cs1' w1 S gs2 _ q1 sl2 hstk hH2 (Inj.le_trans hle hp1) hK2 hSS hB2
         · obtain ⟨τ,GP,hAg,hC,hgo⟩:=hPh f xs gw1 c k hf h3 p1 xs' w1 c' k' S gs2 _ q1 sl2 hx hH2 hB2
           obtain ⟨e,gw2,frl,⟨v,rfl,hGP⟩,hcomes,hfn,hlv⟩:=hC (c::k);obtain ⟨m,hm⟩:Steps Q _ _:=hcomes;obtain ⟨N2,p2,v2,w2,S2,gs3,t3,q3,sl3,hr3,hp2,hv2,hH3,hK3,hS3,hB3⟩:=hgo v gw2 hGP;refine Reach.of hr3 ?_;have hτ:∀ i,i<gw.drawn→τ i=gw.tape i:=fun i hi=>by
            rw [hAg i (Nat.lt_of_lt_of_le hi hd),ht];exact hag i hi
           have hst2:=h1 τ hτ;have hih2:=@ih τ hτ;have ha2:=hre τ (fun i h1 h2=>by rw [hAg i h2,ht]);have hst2':=ha2.symm.trans hst2;simp only [GStep.go.injEq,Conc.G,Goroutine.mk.injEq] at hst2';obtain ⟨⟨k1,k2,_⟩,k3,_⟩:=hst2';rw [← k1,← k2,← k3] at hih2;refine hih2 (m+1) (c.finish v) k gw2 ?_ p2 (c'.finish v2) k' w2 S2 gs3 t3 q3 sl3 ((hck.mono hp2).finish hv2) hH3 (Inj.le_trans hle (Inj.le_trans hp1 hp2)) (hK2.trans hK3) (fun b hb=>(hS3 b hb).elim (hSS b) fun h=>.inr (Nat.le_trans hK2.size h)) hB3;rw [runN_add,hm];simp [runN,step_leave_returned hlv]
end
open Go Go.Conc
open Go.ConcN (sumTo upd sumTo_upd upd_ne upd_same)
section
variable {Q:Program} {F:Array Func} {G:Nat→Prop} {Sp:FuncId→Prop} {c0:Frame}
theorem results_retape {D:List Deferred} {fr fr':Frame} {fn:Func} {p:Inj} {gw w:World} {v:Value} (hf:FRel Q F G p D fr fr') (hW:WRel p gw w) (hr:(results fn fr.tmps).run Q gw=.ok v gw) (τ:Nat→Question→Nat) :
  (results fn fr.tmps).runT Q (gw.retape τ) #[]=(.ok v (gw.retape τ),((results fn fr.tmps).runT Q gw #[]).2):=by
 have hr':(results fn fr.tmps).runT Q gw #[]=(.ok v gw,((results fn fr.tmps).runT Q gw #[]).2):=Prod.ext (by rw [Sem.runT_fst];exact hr) rfl;have hT:TA gw (w.retape fun i=>gw.tape (gw.drawn+(i - w.drawn))):=fun i=>by
  show gw.tape (gw.drawn+i)=gw.tape (gw.drawn+(w.drawn+i - w.drawn))
  rw [Nat.add_sub_cancel_left]
 obtain ⟨q,b,w1,new,hR⟩:=(s_results (Q:=Q) (F:=F) fn fn rfl hf.tmps).run (w:=w.retape fun i=>gw.tape (gw.drawn+(i - w.drawn))) _ _ #[] (hW.of_heap rfl rfl) hT hr';exact hR.retape τ (fun i h1 h2=>absurd h2 (Nat.not_lt.2 h1))
theorem home_good {f:FuncId} {Rv:Value→World→Prop} {p0:Inj} {S0:Nat→Prop} {w0:World} (noInit:Q.inits.idxOf? f=none) {m:Machine} {t:Trace} (h:Home Q F G [] c0 [] (Hands Q f Rv) p0 S0 w0 m t) :
  ∃ N last o w' t',runNT (wf Q F) (N+1) m t=(.ended o w',t')∧runN (wf Q F) N m=.next last∧step (wf Q F) last=.ended o w' ∧
   Conc.Good (wf Q F) (fun v w'=>∃ q gv gw2,p0.le q∧VRel q gv v∧WRel q gw2 w'∧Keep p0 q w0 w'∧∃ τ gw,gw2=gw.retape τ∧Rv gv gw) last o w' t':=by
 obtain ⟨S,gs,fr',w,sl,q,p,fr,gw,rfl,hB,hf,hH,hle,hK,_,hm,hd,hr0,hfn,v,⟨_,_,_,fn,hfn',hres⟩,hRv⟩:=h;obtain ⟨N,gs1,d,d',sl1,sl2,t1,q1,hrun,hturn,hB1,_⟩:=own_turn _ gs _ w sl t q (Nat.le_refl _) hB rfl;have hret:=results_retape hf hH.wrel hres (follow gw (w.at d'));obtain ⟨gn,rn,hg1,hg2,hg3⟩:=hf.func hr0;obtain rfl:gn=fn:=Option.some.inj (hg1.symm.trans hfn');obtain ⟨p1,b,w1,new,hR⟩:=(s_results (Q:=Q) (F:=F) gn rn hg3 hf.tmps).run (w:=w.at d') _ _ #[] (hH.wrel.of_heap (gw₁:=gw.retape (follow gw (w.at d'))) (w₁:=w.at d') rfl rfl) (follow_ta gw (w.at d')) hret;have hmode':fr'.mode=.returning:=by
  have:=hf.mode;rw [hm] at this;cases h:fr'.mode <;> rw [h] at this <;> first | rfl | cases this
 have hdef':fr'.defers=[]:=by
  obtain ⟨ms,h1,h2⟩:=hf.defers;rw [hd] at h1;cases h1;exact h2
 have hrunr:=hR.run;have hfn2:fr'.fn=f:=by rw [← hf.fn];exact hfn
 have hg2':(wf Q F).funcs[fr'.fn]? = some rn:=by rw [← hf.fn];exact hg2
 have hni:(wf Q F).inits.idxOf? fr'.fn=none:=by rw [hfn2];exact noInit
 have hend:stepG (wf Q F) true (Conc.G fr' []) (w.at d')=.ended (.done b) w1 (seen (wf Q F) fr'.fn new):=by
  have n1:fr'.mode≠.run:=by rw [hmode'];simp
  rw [step_unwind n1];have hrr:(results rn fr'.tmps).runT (wf Q F) (w.at d') #[]=(.ok b w1,new):=by simpa using hrunr
  simp [-Sem.runT_eq,unwind,hdef',hmode',hg2',hrr,GStep.after,doReturn,hf.kind',hni]
 have hrunT:=runT_many_ended (P:=wf Q F) (sl:=sl2) (i:=0) hB1.zero (show stepG (wf Q F) (0==0) (Conc.G fr' []) (w.at d')=_ from hend);have hcl:Clear p1 S:=fun b b' hb' hSb=>by
  rcases hR.fr.fresh b b' hb' with h | h
  · exact hH.clear b b' h hSb
  · exact absurd (hB.low b' hSb) (Nat.not_lt.2 h)
 obtain ⟨_,_,hclean,hover,_⟩:∃ (gs2:Array Goroutine) (t2:Trace),(∀ said,¬ Race said (t1++MemOp.ofEvents 0 (Conc.G fr' []).frame.fn (Conc.G fr' []).frame.place (seen (wf Q F) fr'.fn new)))∧(t1++MemOp.ofEvents 0 (Conc.G fr' []).frame.fn (Conc.G fr' []).frame.place (seen (wf Q F) fr'.fn new)).HandedOver∧True:=by
  have hev:∀ e∈seen (wf Q F) fr'.fn new,EvO S w1.heap.size e:=fun e he=>evIn_evO (hR.ev e (Conc.mem_seen he)) hcl hR.wrel
  have hmem:∀ op∈MemOp.ofEvents 0 (Conc.G fr' []).frame.fn (Conc.G fr' []).frame.place (seen (wf Q F) fr'.fn new),op.g=0:=fun op hop=>by obtain ⟨e,_,rfl⟩:=Go.Conc.mem_ofEvents hop;rfl
  refine ⟨gs1,t1,fun said=>noRace_append (hB1.clean said) hmem fun i b hb op hop x hx hc=>?_,handedOver_app hB1.over fun op hop=>.inl (hmem op hop),trivial⟩;obtain ⟨e,he,rfl⟩:=Go.Conc.mem_ofEvents hop;rcases hB1.known i b hb with hk | ⟨hs,_⟩
  · exact hk
  · exact absurd (hc.1 ▸ hs) ((hev e he).1 x hx).1
 refine ⟨N,crowd gs1 (w.at d) sl1,.done b,w1,t1++MemOp.ofEvents 0 (Conc.G fr' []).frame.fn (Conc.G fr' []).frame.place (seen (wf Q F) fr'.fn new), ?_, ?_, ?_,b,rfl,⟨p1,v,_,Inj.le_trans hle hR.le,hR.rel,hR.wrel,(hK.at_ d').trans (Keep.of_fr hR.fr),_,gw,rfl,hRv⟩,hclean,hover,⟨fun x hx=>?_,rfl⟩,fun j x hx hj=>?_⟩
 · rw [runNT_add,hrun]
   simp only [runNT,hturn,hrunT]
 · rw [← runNT_fst (wf Q F) N _ t,hrun]
 · show (stepT _ _).1=_
   rw [hturn,hrunT]
 · obtain ⟨j,hj⟩:=List.mem_iff_getElem?.1 hx
   rw [List.getElem?_drop] at hj;exact ⟨_,(hB1.old.old (1+j) x (by omega) (by simpa [crowd] using hj)).leaves⟩
 · have hq:=hB1.old.old j x (by omega) hx
   refine ⟨q1 j, ?_⟩;have e:(t1++MemOp.ofEvents 0 (Conc.G fr' []).frame.fn (Conc.G fr' []).frame.place (seen (wf Q F) fr'.fn new)).deaf j (t1++MemOp.ofEvents 0 (Conc.G fr' []).frame.fn (Conc.G fr' []).frame.place (seen (wf Q F) fr'.fn new)).size=Deaf t1 j :=
    Deaf_other t1 (g:=j) (g':=0) (by omega) _ (fun op hop=>by obtain ⟨e,_,rfl⟩:=Go.Conc.mem_ofEvents hop;rfl)
   rw [e];exact hq.hears _
theorem good_of_ghost (Sf:Funs Q F G Sp) (Ss:Funs Q Q.funcs G (fun _=>False)) (hfl:Floor Q c0) {f:FuncId} {gargs args:Array Value} {gW W:World} {Rv:Value→World→Prop} (hRv:∀ v w τ,Rv v w→Rv v (w.retape τ)) {p0:Inj}
  (hargs:ARel p0 gargs args) (hH:Here Q G p0 (fun _=>False) gW W) (noInit:Q.inits.idxOf? f=none) {fn fn':Func} {c c':Code} (h1:Q.funcs[f]? = some fn) (h2:F[f]? = some fn') (h3:fn.body=some c) (h4:fn'.body=some c') (h5:fn'.ntmps=fn.ntmps) (h6:fn'.results=fn.results) (h7:CRel Q G c c') (h8:CRel Q G c c)
  (hPh:∀ g xs gw c k,Sp g→Sur Q (StopAt c0 (Hands Q f Rv)) (Frame.enter Q g xs .normal) (c::k) gw→Phase Q F G g xs gw)
  (H:∀ τ,Agree gW τ→Calls Q f gargs (gW.retape τ) fun e w'=>∃ v,e=.returned v∧Rv v w') :
  ∃ M last o w' t',runNT (wf Q F) (M+1) (solo (Conc.G (Frame.enter (wf Q F) f args .normal) []) W) #[]=(.ended o w',t')∧runN (wf Q F) M (solo (Conc.G (Frame.enter (wf Q F) f args .normal) []) W)=.next last∧step (wf Q F) last=.ended o w' ∧
   Conc.Good (wf Q F) (fun v w'=>∃ q gv gw,p0.le q∧VRel q gv v∧WRel q gw w'∧Keep p0 q W w'∧Rv gv gw) last o w' t':=by
 have hfr:FRel Q F G p0 [] (Frame.enter Q f gargs .normal) (Frame.enter (wf Q F) f args .normal):=FRel.enter h1 h2 h5 h6 h3 h4 h7 hargs;have hfs:FRel Q Q.funcs G p0 [] (Frame.enter Q f gargs .normal) (Frame.enter Q f args .normal):=FRel.enter (F:=Q.funcs) h1 h1 rfl rfl h3 h3 h8 hargs;have hsur:=sur_of_calls Ss hfl hRv ⟨p0,W,_,_,.base hfs rfl,hH.wrel,hH.g,hH.ok,hH.glob⟩ H;have hmain:=main_of_sur (p0:=p0) (S0:=fun _=>False) (w0:=W) (cs0:=[]) (D:=[]) Sf hfl (Rp:=Hands Q f Rv) (fun fr gw h=>h.2.imp fun _ x=>x.1) hPh hsur 0 _ _ _ rfl p0 _ [] W (fun _=>False) #[Conc.G (Frame.enter (wf Q F) f args .normal) []] #[] (fun _=>0) none (.base hfr rfl) hH (Inj.le_refl _) (Keep.refl _ _) (fun _ h=>h.elim)
  ⟨rfl,leavers_one _ _,past_nil.clean,fun i a ha=>by simp [touchAt,Trace.act?] at ha,past_nil.over,past_nil.hears,fun i op x hi=>by simp at hi,fun b hb=>hb.elim,fun i op hi=>by simp at hi,fun op hop=>by simp at hop⟩
 obtain ⟨N,m',t',hrun,hhome⟩:=hmain;obtain ⟨M,last,o,w',t2,e1,e2,e3,hgood⟩:=home_good noInit hhome;have hN:runN (wf Q F) N (crowd #[Conc.G (Frame.enter (wf Q F) f args .normal) []] W none)=.next m':=by rw [← runNT_fst (wf Q F) N _ #[],hrun]
 refine ⟨N+M,last,o,w',t2, ?_, ?_,e3,hgood.mono fun v hv=>?_⟩
 · rw [Nat.add_assoc,solo_eq_crowd,runNT_add,hrun]
   exact e1
 · rw [solo_eq_crowd,runN_add,hN]
   exact e2
 · obtain ⟨q,gv,gw2,h1,h2,h3,h4,τ,gw,rfl,h5⟩:=hv
   exact ⟨q,gv,gw.retape τ,h1,h2,h3,h4,hRv _ _ _ h5⟩
end
open Go Go.Conc Go.RowKit
theorem VRel.exists_n (p:Inj):∀ (n:Nat) (v:Value),SizeOf.sizeOf v≤n→∃ g,VRel p g v:=by
 intro n
 induction n with
 | zero=>intro v hv;exfalso;cases v <;> simp at hv
 | succ n ih =>
   intro v hv;cases v with
   | agg xs =>
     have h:∀ i:Fin xs.size,∃ g,VRel p g (xs[i.1]'i.2):=fun i=>ih _ (by
      have:=Array.sizeOf_getElem xs i.1 i.2;simp at hv;omega)
     refine ⟨.agg (Array.ofFn fun i=>(h i).choose),.agg (by simp) fun i a a' h1 h2=>?_⟩;obtain ⟨hi,rfl⟩:=Array.getElem?_eq_some_iff.1 h2;rw [Array.getElem?_ofFn,dif_pos hi] at h1;obtain rfl:=Option.some.inj h1;exact (h ⟨i,hi⟩).choose_spec
   | tuple xs =>
     have h:∀ i:Fin xs.size,∃ g,VRel p g (xs[i.1]'i.2):=fun i=>ih _ (by
      have:=Array.sizeOf_getElem xs i.1 i.2;simp at hv;omega)
     refine ⟨.tuple (Array.ofFn fun i=>(h i).choose),.tuple (by simp) fun i a a' h1 h2=>?_⟩;obtain ⟨hi,rfl⟩:=Array.getElem?_eq_some_iff.1 h2;rw [Array.getElem?_ofFn,dif_pos hi] at h1;obtain rfl:=Option.some.inj h1;exact (h ⟨i,hi⟩).choose_spec
   | bool b=>exact ⟨_,.bool b⟩
   | int k m=>exact ⟨_,.int k m⟩
   | string s=>exact ⟨_,.string s⟩
   | nilFunc=>exact ⟨_,.nilFunc⟩
   | nilIface=>exact ⟨_,.nilIface⟩
   | _=>exact ⟨_,.veil _ (by simp) (by simp) (by simp)⟩
theorem VRel.exists (p:Inj) (v:Value):∃ g,VRel p g v:=VRel.exists_n p _ v (Nat.le_refl _)
theorem arr_ext {xs ys:Array Value} (hs:xs.size=ys.size) (h:∀ (i:Nat) (a b:Value),xs[i]? = some a→ys[i]? = some b→a=b):xs=ys:=by
 refine Array.ext hs fun i h1 h2=>?_
 exact h i _ _ (Array.getElem?_eq_getElem h1) (Array.getElem?_eq_getElem h2)
theorem VRel.unique {p:Inj} (hd:∀ a x b,p.dang a=some x→¬ p.r a.block b) {g v:Value} (h:VRel p g v):∀ {v':Value},VRel p g v'→v=v':=by
 induction h with
 | bool b=>intro v' h';cases h';rfl
 | int k n=>intro v' h';cases h';rfl
 | string s=>intro v' h';cases h';rfl
 | ptr0=>intro v' h';cases h';rfl
 | ptr o s hb=>intro v' h';cases h' with | ptr _ _ hb'=>rw [p.fn hb hb']
 | slice0 n c=>intro v' h';cases h';rfl
 | slice o s n c hb=>intro v' h';cases h' with | slice _ _ _ _ hb'=>rw [p.fn hb hb'] | slice00 h2=>exact absurd hb (hd _ _ _ h2)
 | slice00 h1=>intro v' h';cases h' with | slice _ _ _ _ hb'=>exact absurd hb' (hd _ _ _ h1) | slice00 h2=>rw [h1] at h2;cases h2;rfl
 | @func f f' xs xs' ys ys' hf h1 h2 h3 h4 ih1 ih2 =>
   intro v' h';cases h' with
   | func hf' k1 k2 k3 k4 =>
     have e1:xs'=_:=arr_ext (h1.symm.trans k1) fun i a b ha hb=>by
      have hi:i<xs.size:=by rw [h1];exact (Array.getElem?_eq_some_iff.1 ha).1
      exact ih1 i _ a (Array.getElem?_eq_getElem hi) ha (k2 i _ b (Array.getElem?_eq_getElem hi) hb)
     have e2:ys'=_:=arr_ext (h3.symm.trans k3) fun i a b ha hb=>by
      have hi:i<ys.size:=by rw [h3];exact (Array.getElem?_eq_some_iff.1 ha).1
      exact ih2 i _ a (Array.getElem?_eq_getElem hi) ha (k4 i _ b (Array.getElem?_eq_getElem hi) hb)
     rw [e1,e2];cases hf with
     | func f=>cases hf';rfl
     | yield hl=>cases hf' with | yield hl'=>rw [p.fn hl hl']
   | veil v _ _ _=>cases hf
 | nilFunc=>intro v' h';cases h';rfl
 | iface t _ ih=>intro v' h';cases h' with | iface _ h2=>rw [ih h2]
 | nilIface=>intro v' h';cases h';rfl
 | @agg xs xs' h1 h2 ih =>
   intro v' h';cases h' with
   | agg k1 k2 =>
     rw [arr_ext (h1.symm.trans k1) fun i a b ha hb=>by
      have hi:i<xs.size:=by rw [h1];exact (Array.getElem?_eq_some_iff.1 ha).1
      exact ih i _ a (Array.getElem?_eq_getElem hi) ha (k2 i _ b (Array.getElem?_eq_getElem hi) hb)]
 | @tuple xs xs' h1 h2 ih =>
   intro v' h';cases h' with
   | tuple k1 k2 =>
     rw [arr_ext (h1.symm.trans k1) fun i a b ha hb=>by
      have hi:i<xs.size:=by rw [h1];exact (Array.getElem?_eq_some_iff.1 ha).1
      exact ih i _ a (Array.getElem?_eq_getElem hi) ha (k2 i _ b (Array.getElem?_eq_getElem hi) hb)]
 | veil v h1 h2 h3 =>
   intro v' h';cases h' with
   | func hf' _ _ _ _=>cases hf'
   | veil v' _ _ _=>rfl
open Classical in
noncomputable def ghostV (p:Inj) (v:Value):Value:=if VRel p v v then v else if h:∃ a x,v=.slice (some x) 0 0∧p.dang a=some x then .slice (some h.choose) 0 0 else (VRel.exists p v).choose
theorem ghostV_rel (p:Inj) (v:Value):VRel p (ghostV p v) v:=by
 unfold ghostV;split
 · assumption
 · split
   · rename_i h
     obtain ⟨x,rfl,h2⟩:=h.choose_spec;exact .slice00 h2
   · exact (VRel.exists p v).choose_spec
theorem ghostV_same {p:Inj} {v:Value} (h:VRel p v v):ghostV p v=v:=by unfold ghostV;rw [if_pos h]
theorem ghostV_none {p:Inj} {x a:Addr} (h:p.dang a=some x):∃ y,ghostV p (.slice (some x) 0 0)=.slice (some y) 0 0:=by
 unfold ghostV;split
 · exact ⟨x,rfl⟩
 · rw [dif_pos ⟨a,x,rfl,h⟩]
   exact ⟨_,rfl⟩
def bareV:Value→Option Addr
 | .slice (some a) 0 0=>some a
 | _=>none
def bareO:Obj→List Addr
 | .cells cs _ _=>cs.toList.filterMap bareV
 | _=>[]
def bareW (W:World):List Addr:=W.heap.toList.flatMap bareO
def cellsInj (Q:Program) (G:Nat→Prop) (W:World):Inj where
 g:=Q.globals.size
 ok:=fun c=>CRel Q G c c
 dang a:=if a.block=W.heap.size then (bareW W)[a.off]? else none
 r a b:=a=b∧∃ cs e fz,W.heap[a]? = some (.cells cs e fz)
 fn:=by rintro a b c ⟨rfl,_⟩ ⟨rfl,_⟩;rfl
 inj:=by rintro a b c ⟨rfl,_⟩ ⟨rfl,_⟩;rfl
 low:=by rintro a b ⟨rfl,_⟩;exact Iff.rfl
theorem bare_dang {Q:Program} {G:Nat→Prop} {W:World} {b i:Nat} {x:Addr} (h:W.cell? ⟨b,i,none⟩=some (.slice (some x) 0 0)):∃ a,(cellsInj Q G W).dang a=some x:=by
 have hm:x∈bareW W:=by
  simp only [World.cell?] at h;split at h
  · rename_i cs e fz h1
    simp only [Option.isSome_none,Bool.false_eq_true,if_false] at h;refine List.mem_flatMap.2 ⟨.cells cs e fz, ?_,List.mem_filterMap.2 ⟨.slice (some x) 0 0, ?_,rfl⟩⟩
    · exact Array.mem_toList_iff.2 (Array.mem_of_getElem? h1)
    · exact Array.mem_toList_iff.2 (Array.mem_of_getElem? h)
  · cases h
 obtain ⟨k,hk⟩:=List.mem_iff_getElem?.1 hm;exact ⟨⟨W.heap.size,k,none⟩,by simp only [cellsInj,if_pos];exact hk⟩
noncomputable def ghostO (p:Inj):Obj→Obj
 | .cells cs e fz=>.cells (cs.map (ghostV p)) e fz
 | o=>o
noncomputable def ghostW (Q:Program) (G:Nat→Prop) (W:World):World:={ W with heap:=(W.heap.map (ghostO (cellsInj Q G W))).push (.map #[] 0) }
section
variable {Q:Program} {F:Array Func} {G:Nat→Prop} {W:World}
theorem ghostW_size:(ghostW Q G W).heap.size=W.heap.size+1:=by simp [ghostW]
theorem ghostW_last:(ghostW Q G W).heap[W.heap.size]? = some (.map #[] 0):=by
 show ((W.heap.map (ghostO (cellsInj Q G W))).push (.map #[] 0))[W.heap.size]? = _
 rw [Array.getElem?_push,if_pos (by simp)]
theorem ghostW_at {b:Nat} {cs:Array Value} {e:TypeId} {fz:Nat × Nat} (h:W.heap[b]? = some (.cells cs e fz)):(ghostW Q G W).heap[b]? = some (.cells (cs.map (ghostV (cellsInj Q G W))) e fz):=by
 have hb:b<W.heap.size:=(Array.getElem?_eq_some_iff.1 h).1;have hne:b≠W.heap.size:=by omega
 simp [ghostW,Array.getElem?_push,hne,Array.getElem?_map,h,ghostO]
theorem ghostW_cell {b i:Nat} {v:Value} (h:W.cell? ⟨b,i,none⟩=some v) (hv:VRel (cellsInj Q G W) v v):(ghostW Q G W).cell? ⟨b,i,none⟩=some v:=by
 simp only [World.cell?] at h;split at h
 · rename_i cs e fz h1
   simp only [Option.isSome_none,Bool.false_eq_true,if_false] at h;simp only [World.cell?,ghostW_at h1,Option.isSome_none,Bool.false_eq_true,if_false];rw [Array.getElem?_map,h];show some (ghostV _ v)=some v
   rw [ghostV_same hv]
 · cases h
theorem ghostW_bare {b i:Nat} {x:Addr} (h:W.cell? ⟨b,i,none⟩=some (.slice (some x) 0 0)):∃ y,(ghostW Q G W).cell? ⟨b,i,none⟩=some (.slice (some y) 0 0):=by
 obtain ⟨a,ha⟩:=bare_dang (Q:=Q) (G:=G) h;obtain ⟨y,hy⟩:=ghostV_none ha;refine ⟨y, ?_⟩;simp only [World.cell?] at h;split at h
 · rename_i cs e fz h1
   simp only [Option.isSome_none,Bool.false_eq_true,if_false] at h;simp only [World.cell?,ghostW_at h1,Option.isSome_none,Bool.false_eq_true,if_false];rw [Array.getElem?_map,h];exact congrArg some hy
 · cases h
theorem row_rel (p:Inj) (cs:Array Value):ARel p (cs.map (ghostV p)) cs:=by
 refine ⟨by simp,fun i a a' h1 h2=>?_⟩;rw [Array.getElem?_map,h2] at h1;obtain rfl:=Option.some.inj h1;exact ghostV_rel p a'
theorem here_start (hg:Q.globals.size≤W.heap.size) (hG:∀ g,G g→∃ cs e fz,W.heap[g]? = some (.cells cs e fz)):Here Q G (cellsInj Q G W) (fun _=>False) (ghostW Q G W) W:=by
 refine ⟨⟨?_,by rw [ghostW_size];exact Nat.le_succ_of_le hg,hg⟩,rfl,rfl,fun g h=>⟨rfl,hG g h⟩,fun _ _ _ h=>h⟩;rintro b _ ⟨rfl,cs,e,fz,h⟩;exact ⟨_,_,ghostW_at h,h,.cells e fz (row_rel _ cs)⟩
theorem kept_below {q:Inj} {gw w':World} (hle:(cellsInj Q G W).le q) (hW:WRel q gw w') (hK:Keep (cellsInj Q G W) q W w') (hgw:∀ b,b<(ghostW Q G W).heap.size→gw.heap[b]? = (ghostW Q G W).heap[b]?):Below W.heap.size W w':=by
 have hd:∀ a x b,q.dang a=some x→¬ q.r a.block b:=fun a x b ha hr=>by
  rw [hle.dg] at ha;simp only [cellsInj] at ha;split at ha
  · rename_i e
    rw [e] at hr;obtain ⟨o,o',h1,_,h3⟩:=hW.at_ _ _ hr;rw [hgw _ (by rw [ghostW_size];exact Nat.lt_succ_self _),ghostW_last] at h1;obtain rfl:=Option.some.inj h1;cases h3
  · cases ha
 refine ⟨hK.os,hK.tape,hK.output,hK.size,fun b hb=>?_⟩;by_cases hc:∃ cs e fz,W.heap[b]? = some (.cells cs e fz)
 · obtain ⟨cs,e,fz,hc⟩:=hc
   obtain ⟨o,o',h1,h2,h3⟩:=hW.at_ b b (hle.r b b ⟨rfl,cs,e,fz,hc⟩);rw [hgw b (by rw [ghostW_size];exact Nat.lt_succ_of_lt hb),ghostW_at hc] at h1;obtain rfl:=Option.some.inj h1;cases h3 with
   | cells _ _ hA =>
     rename_i c'
     have hB:ARel q (cs.map (ghostV (cellsInj Q G W))) cs:=(row_rel _ cs).mono hle;have:c'=cs:=arr_ext (hA.size.symm.trans hB.size) fun i a b' ha hb'=>by
      have hi:i<(cs.map (ghostV (cellsInj Q G W))).size:=by rw [hA.size];exact (Array.getElem?_eq_some_iff.1 ha).1
      exact (hA.get i _ a (Array.getElem?_eq_getElem hi) ha).unique hd (hB.get i _ b' (Array.getElem?_eq_getElem hi) hb')
     rw [h2,hc,this]
 · refine hK.old b hb fun a ⟨h,h2⟩=>?_
   subst h;exact hc h2
end
theorem good_of_start {Q:Program} {F:Array Func} {G:Nat→Prop} {Sp:FuncId→Prop} {c0:Frame} (Sf:Funs Q F G Sp) (Ss:Funs Q Q.funcs G (fun _=>False)) (hfl:Floor Q c0) {f:FuncId} {args:Array Value} {W:World} (hargs:ARel (cellsInj Q G W) args args)
  (hg:Q.globals.size≤W.heap.size) (hG:∀ g,G g→∃ cs e fz,W.heap[g]? = some (.cells cs e fz)) (noInit:Q.inits.idxOf? f=none) {fn fn':Func} {c c':Code} (h1:Q.funcs[f]? = some fn) (h2:F[f]? = some fn') (h3:fn.body=some c) (h4:fn'.body=some c') (h5:fn'.ntmps=fn.ntmps) (h6:fn'.results=fn.results) (h7:CRel Q G c c') (h8:CRel Q G c c)
  (hPh:∀ (Rp:Frame→World→Prop) g xs gw c k,Sp g→Sur Q (StopAt c0 Rp) (Frame.enter Q g xs .normal) (c::k) gw→Phase Q F G g xs gw)
  (H:∀ τ,Calls Q f args ((ghostW Q G W).retape τ) fun e w'=>e=.returned (.bool true)∧∀ b,b<(ghostW Q G W).heap.size→w'.heap[b]? = (ghostW Q G W).heap[b]?) :
  ∃ M last o w' t',runNT (wf Q F) (M+1) (solo (Conc.G (Frame.enter (wf Q F) f args .normal) []) W) #[]=(.ended o w',t')∧runN (wf Q F) M (solo (Conc.G (Frame.enter (wf Q F) f args .normal) []) W)=.next last∧step (wf Q F) last=.ended o w' ∧
   Conc.Good (wf Q F) (fun v w'=>v=.bool true∧Below W.heap.size W w') last o w' t':=by
 obtain ⟨M,last,o,w',t',e1,e2,e3,hgood⟩:=good_of_ghost Sf Ss hfl (Rv:=fun v w=>v=.bool true∧∀ b,b<(ghostW Q G W).heap.size→w.heap[b]? = (ghostW Q G W).heap[b]?) (fun v w τ h=>h) hargs (here_start hg hG) noInit h1 h2 h3 h4 h5 h6 h7 h8 (hPh _) (fun τ _=>(H τ).mono fun e w' h=>⟨_,h.1,rfl,h.2⟩);refine ⟨M,last,o,w',t',e1,e2,e3,hgood.elim fun v x=>?_⟩;obtain ⟨x1,⟨q,gv,gw,k1,k2,k3,k4,rfl,k5⟩,x3⟩:=x;refine ⟨v,x1,⟨?_,kept_below k1 k3 k4 k5⟩,x3⟩;cases k2;rfl
end Go.Pt
