/- A range over a function whose iterator keeps what is left in a block of its own: with a variable of its own for each round, and within a round of another. No condition; no program in sight. -/
import Derived.Test.YtnceajabigdleaaDoorPtQ6
namespace Go.Proofs.Qm
open Go Go.RowKit
attribute [local go_sem] Oper.semAt_some
section
variable {α:Type} {P:Program}
def RunsT (tb:TypeId) (n:Nat) (P:Program) (g:Nat) (lb:Array Value) (bs ks:List Nat) (encs:α→Array Value) (xs:List α) (w0:World):Prop :=
 ∀ (l:Nat) (J:List α→World→Prop) (W:World),(∀ b∈ks,W.heap[b]? = w0.heap[b]?)→Below w0.heap.size w0 W →
  (∀ pre A B b,J pre A→b∈bs→A.grownBy B (some b)→J pre B) →
  (∀ pre x W1,J pre W1→(∃ r,xs=pre++x::r)→(∀ b∈bs,∃ cs fz,W1.heap[b]? = some (.cells cs tb fz))→YieldAt Fence.wide (n - 1) P l (encs x) W1 fun e W'=>e=.returned (.bool true)∧J (pre++[x]) W'∧∀ b∈ks,W'.heap[b]? = W1.heap[b]?) →
  J [] W→CallsIn Fence.wide n P g (#[.func (.yield l) #[] #[]]++lb) W fun e W'=>(∃ v,e=.returned v)∧J xs W'
def SteadyA (B:Nat) (Ax:List α→α→Act→World→Prop):Prop :=
 ∀ pre x a' X Y row,Ax pre x a' X→X.grownBy Y row→(∀ r,row=some r→B≤r∧∃ o:Obj,X.heap[r]? = some o∧o.isCells=false)→Ax pre x a' Y
theorem wpIn_rangeFunc_runO {n:Nat} {g:Operand} {ps:Array Tmp} {assign body:Code} {Q:Exit→Act→World→Prop} {a:Act} {w:World} (h1:1≤n)
  {gf:Nat} {lb:Array Value} (hg:a.eval g=.func (.func gf) #[] lb) (eg:∀ args w,(callFunc gf args).run P w=.ok (.enter gf args) w)
  {bs ks:List Nat} {encs:α→Array Value} {xs:List α} {tb:TypeId} (hseq:RunsT tb (n - 1) P gf lb bs ks encs xs w) (hbs:∀ b∈bs,b<w.heap.size) (hks:∀ b∈ks,b<w.heap.size) (hps:∀ x,(encs x).size=ps.size)
  (I:List α→World→Prop) (hI:Steady w.heap.size bs I) (h0:I [] w) (Ax:List α→α→Act→World→Prop) (hAx:SteadyA w.heap.size Ax)
  (hassign:∀ (l:Nat) (pre:List α) (x:α) (W:World) (K:Act→World→Prop),I pre W→(∃ r,xs=pre++x::r)→(∀ a' W',Grew W W'→Ax pre x a' W'→K a' W') →
    assign.wpIn (Fence.wide.inRound l) (n - 1 - 1) P (Exit.then K (fun _ _ _=>False)) { tmps:=(ps.zip (encs x)).foldl (fun t (p,v)=>t.setIfInBounds p v) a.tmps,defers:=[] } W)
  (hbody:∀ (l:Nat) (pre:List α) (x:α) (a':Act) (W:World),w.heap.size≤l→(∃ r,W.heap[l]? = some (.loop r))→I pre W→Ax pre x a' W→(∃ r,xs=pre++x::r)→(∀ b∈bs,∃ cs fz,W.heap[b]? = some (.cells cs tb fz))→body.wpIn (Fence.wide.inRound l) (n - 1 - 1) P (runPost w.heap.size ks I (pre++[x]) W) a' W)
  (hdone:∀ (D:Nat) (W:World),w.heap.size≤D→I xs W→W.heap[D]? = some (.deferred (some []))→Q .normal { a with defers:={ target:=.collected D,args:=#[] }::a.defers } W) :
  (Code.rangeFunc g ps assign body).wpIn Fence.wide n P Q a w:=by
 refine wpIn_rangeFunc ?_;intro fn hfn;rw [show Fence.wide.round=none from rfl];obtain ⟨rec,hrec⟩:∃ rec:LoopState→Loop,rec=fun st=>{ state:=st,pending:=none,fn,tmps:=a.tmps,params:=ps,assign,body,defers:=w.heap.size }:=⟨_,rfl⟩
 obtain ⟨W1,hW1⟩:∃ W1,(w.alloc (.deferred (some []))).alloc (.loop (rec .ready))=W1:=⟨_,rfl⟩;have hL1:W1.heap[w.heap.size+1]? = some (.loop (rec .ready)):=by
  have:=World.alloc_heap_new (w.alloc (.deferred (some []))) (.loop (rec .ready));rw [World.size_alloc] at this;rw [← hW1];exact this
 have hK1:W1.heap[w.heap.size]? = some (.deferred (some [])):=by
  rw [← hW1];exact (Below.heap_alloc _ _ _ (by simp)).trans (World.alloc_heap_new w _)
 have hgr:w.grownBy W1 none:=by
  rw [← hW1];exact (((Grew.refl w).alloc _).alloc _).grownBy none
 have hI1:I [] W1:=hI _ _ _ none h0 hgr (fun _ e=>by cases e);have hb1:Below w.heap.size w W1:=(Below.refl _ w).grown hgr (Nat.le_refl _) (fun _ e=>by cases e);refine ⟨(w.heap.size+1),[{ target:=.collected w.heap.size,args:=#[] }],W1, { target:=.fn (.func gf) lb,args:=#[.func (.yield (w.heap.size+1)) #[] #[]] },W1,gf,
  #[.func (.yield (w.heap.size+1)) #[] #[]]++lb,W1, ?_, ?_, ?_, ?_,fun _=>h1, ?_⟩
 · rw [← hW1,hrec]
   exact run_enterLoop_outer _ _ _ _ _
 · simp only [resolve,hg]
   simp [go_sem]
 · intro _ _
   trivial
 · simp [invoke,go_sem,eg]
 refine CallsIn.mono (hseq (w.heap.size+1) (fun pre W=>I pre W∧W.heap[(w.heap.size+1)]? = some (.loop (rec .ready))∧W.heap[w.heap.size]? = some (.deferred (some []))) W1 (fun b hb=>hb1.block b (hks b hb)) hb1 ?_ ?_ ⟨hI1,hL1,hK1⟩) ?_
 · rintro pre A B b ⟨hi,hl,hk⟩ hb hg'
   have hlt:=hbs b hb;exact ⟨hI _ _ _ _ hi hg' (fun r e=>by cases e;exact .inl hb),(hg'.block _ (Array.getElem?_eq_some_iff.1 hl).1 (fun e=>by injection e with e;omega)).trans hl,(hg'.block _ (Array.getElem?_eq_some_iff.1 hk).1 (fun e=>by injection e with e;omega)).trans hk⟩
 · rintro pre x W ⟨hi,hl,hk⟩ hr hty
   have hlt:(w.heap.size+1)<W.heap.size:=(Array.getElem?_eq_some_iff.1 hl).1;have hy:=run_yield (P:=P) (args:=encs x) hl (by rw [hrec];exact hps x);rw [hrec] at hy;refine ⟨fn,_,assign,body,hy,roundIn_of_wpIn hfn (hassign _ pre x W _ hi hr ?_)⟩;intro a' Wa hga hax;have put:∀ {V:World} {o o':Obj},V.heap[(w.heap.size+1)]? = some o→o.isCells=false→∀ {p:List α},I p V→I p (V.putObj (w.heap.size+1) o'):=fun {V o o'} ho hc {p} hp =>
    hI _ _ _ _ hp (grownBy_putObj' V (w.heap.size+1) o') (fun r e=>by cases e;exact .inr ⟨by omega,_,ho,hc⟩)
   have hla:=(hga.block _ hlt).trans hl;have hlta:(w.heap.size+1)<Wa.heap.size:=(Array.getElem?_eq_some_iff.1 hla).1;have hia:I pre Wa:=hI _ _ _ none hi (hga.grownBy none) (fun _ e=>by cases e);have hka:=(hga.block _ (by omega)).trans hk;refine ⟨_,run_beginRound hla (by rw [hrec]), ?_⟩;have hl2:(Wa.putObj (w.heap.size+1) (.loop { rec .ready with state:=.busy })).heap[(w.heap.size+1)]? = some (.loop { rec .ready with state:=.busy }):=World.putObj_heap_same hlta;have hk2:(Wa.putObj (w.heap.size+1) (.loop { rec .ready with state:=.busy })).heap[w.heap.size]? = some (.deferred (some [])):=(World.putObj_heap_other (by omega)).trans hka;refine wpIn_mono (hbody _ pre x a' _ (by omega) ⟨_,hl2⟩ (put hla rfl hia) (hAx _ _ _ _ _ _ hax (grownBy_putObj' Wa (w.heap.size+1) _) (fun r e=>by cases e;exact ⟨by omega,_,hla,rfl⟩)) hr (fun b hb=>by
    obtain ⟨cs,fz,h1⟩:=hty b hb;have hb:=hbs b hb;exact ⟨cs,fz,(World.putObj_heap_other (by omega)).trans ((hga.block b (by omega)).trans h1)⟩)) ?_
   rintro e a3 W3 hp;cases e with
   | normal =>
     obtain ⟨hk3,hb3,hi3⟩:=hp;have hl3:=hk3.same _ _ (by omega) hl2 rfl;have he:=run_endRound (P:=P) none hl3;rw [hrec] at he hl3;have hl4:(W3.putObj (w.heap.size+1) (.loop (rec .ready))).heap[(w.heap.size+1)]? = some (.loop (rec .ready)):=World.putObj_heap_same (Array.getElem?_eq_some_iff.1 hl3).1;have hk4:(W3.putObj (w.heap.size+1) (.loop (rec .ready))).heap[w.heap.size]? = some (.deferred (some [])):=(World.putObj_heap_other (by omega)).trans (hk3.same _ _ (Nat.le_refl _) hk2 rfl);refine ⟨_,_,he,rfl,⟨put hl3 rfl hi3, ?_, ?_⟩,fun b hb=>?_⟩
     · rw [hrec] at hl4
       rw [hrec];exact hl4
     · rw [hrec] at hk4
       exact hk4
     · have hb:=hks b hb
       have hne:b≠(w.heap.size+1):=by omega
       have hb3:=hb3 b (by assumption);exact (World.putObj_heap_other (by omega)).trans (hb3.trans ((World.putObj_heap_other (by omega)).trans (hga.block b (by omega))))
   | _=>exact hp.elim
 · rintro e W2 ⟨⟨v,rfl⟩,hi,hl,hk⟩
   have he:=run_endLoop (P:=P) hl (by rw [hrec];simp);rw [hrec] at he;exact ⟨none,_,he,hdone _ _ (Nat.le_refl _) (hI _ _ _ _ hi (grownBy_putObj' W2 (w.heap.size+1) _) (fun r e=>by cases e;exact .inr ⟨by omega,_,hl,rfl⟩)) ((World.putObj_heap_other (by omega)).trans hk)⟩
theorem wpIn_rangeFunc_runN {n:Nat} {g:Operand} {ps:Array Tmp} {assign body:Code} {Q:Exit→Act→World→Prop} {a:Act} {w:World} {l₀:Nat} {r₀:Loop} (hl₀:w.heap[l₀]? = some (.loop r₀)) (h1:1≤n)
  {gf:Nat} {lb:Array Value} (hg:a.eval g=.func (.func gf) #[] lb) (eg:∀ args w,(callFunc gf args).run P w=.ok (.enter gf args) w)
  {bs ks:List Nat} {encs:α→Array Value} {xs:List α} {tb:TypeId} (hseq:RunsT tb (n - 1) P gf lb bs ks encs xs w) (hbs:∀ b∈bs,b<w.heap.size) (hks:∀ b∈ks,b<w.heap.size) (hps:∀ x,(encs x).size=ps.size)
  (I:List α→World→Prop) (hI:Steady w.heap.size bs I) (h0:I [] w) (Ax:List α→α→Act→World→Prop) (hAx:SteadyA w.heap.size Ax)
  (hassign:∀ (l:Nat) (pre:List α) (x:α) (W:World) (K:Act→World→Prop),I pre W→(∃ r,xs=pre++x::r)→(∀ a' W',Grew W W'→Ax pre x a' W'→K a' W') →
    assign.wpIn (Fence.wide.inRound l) (n - 1 - 1) P (Exit.then K (fun _ _ _=>False)) { tmps:=(ps.zip (encs x)).foldl (fun t (p,v)=>t.setIfInBounds p v) a.tmps,defers:=[] } W)
  (hbody:∀ (l:Nat) (pre:List α) (x:α) (a':Act) (W:World),w.heap.size≤l→(∃ r,W.heap[l]? = some (.loop r))→I pre W→Ax pre x a' W→(∃ r,xs=pre++x::r)→(∀ b∈bs,∃ cs fz,W.heap[b]? = some (.cells cs tb fz))→body.wpIn (Fence.wide.inRound l) (n - 1 - 1) P (runPost w.heap.size ks I (pre++[x]) W) a' W)
  (hdone:∀ W:World,I xs W→Q .normal a W) :
  (Code.rangeFunc g ps assign body).wpIn (Fence.wide.inRound l₀) n P Q a w:=by
 refine wpIn_rangeFunc ?_;intro fn hfn;rw [show (Fence.wide.inRound l₀).round=some l₀ from rfl];obtain ⟨rec,hrec⟩:∃ rec:LoopState→Loop,rec=fun st=>{ state:=st,pending:=none,fn,tmps:=a.tmps,params:=ps,assign,body,defers:=r₀.defers }:=⟨_,rfl⟩
 obtain ⟨W1,hW1⟩:∃ W1,w.alloc (.loop (rec .ready))=W1:=⟨_,rfl⟩;have hL1:W1.heap[w.heap.size]? = some (.loop (rec .ready)):=by
  rw [← hW1];exact World.alloc_heap_new w _
 have hgr:w.grownBy W1 none:=by
  rw [← hW1];exact ((Grew.refl w).alloc _).grownBy none
 have hI1:I [] W1:=hI _ _ _ none h0 hgr (fun _ e=>by cases e);have hb1:Below w.heap.size w W1:=(Below.refl _ w).grown hgr (Nat.le_refl _) (fun _ e=>by cases e);refine ⟨w.heap.size,[],W1, { target:=.fn (.func gf) lb,args:=#[.func (.yield w.heap.size) #[] #[]] },W1,gf,
  #[.func (.yield w.heap.size) #[] #[]]++lb,W1, ?_, ?_, ?_, ?_,fun _=>h1, ?_⟩
 · rw [← hW1,hrec]
   exact run_enterLoop_inner hl₀ _ _ _ _ _
 · simp only [resolve,hg]
   simp [go_sem]
 · intro _ _
   trivial
 · simp [invoke,go_sem,eg]
 refine CallsIn.mono (hseq w.heap.size (fun pre W=>I pre W∧W.heap[w.heap.size]? = some (.loop (rec .ready))) W1 (fun b hb=>hb1.block b (hks b hb)) hb1 ?_ ?_ ⟨hI1,hL1⟩) ?_
 · rintro pre A B b ⟨hi,hl⟩ hb hg'
   have hlt:=hbs b hb;exact ⟨hI _ _ _ _ hi hg' (fun r e=>by cases e;exact .inl hb),(hg'.block _ (Array.getElem?_eq_some_iff.1 hl).1 (fun e=>by injection e with e;omega)).trans hl⟩
 · rintro pre x W ⟨hi,hl⟩ hr hty
   have hlt:w.heap.size<W.heap.size:=(Array.getElem?_eq_some_iff.1 hl).1;have hy:=run_yield (P:=P) (args:=encs x) hl (by rw [hrec];exact hps x);rw [hrec] at hy;refine ⟨fn,_,assign,body,hy,roundIn_of_wpIn hfn (hassign _ pre x W _ hi hr ?_)⟩;intro a' Wa hga hax;have put:∀ {V:World} {o o':Obj},V.heap[w.heap.size]? = some o→o.isCells=false→∀ {p:List α},I p V→I p (V.putObj w.heap.size o'):=fun {V o o'} ho hc {p} hp =>
    hI _ _ _ _ hp (grownBy_putObj' V w.heap.size o') (fun r e=>by cases e;exact .inr ⟨by omega,_,ho,hc⟩)
   have hla:=(hga.block _ hlt).trans hl;have hlta:w.heap.size<Wa.heap.size:=(Array.getElem?_eq_some_iff.1 hla).1;have hia:I pre Wa:=hI _ _ _ none hi (hga.grownBy none) (fun _ e=>by cases e);refine ⟨_,run_beginRound hla (by rw [hrec]), ?_⟩;have hl2:(Wa.putObj w.heap.size (.loop { rec .ready with state:=.busy })).heap[w.heap.size]? = some (.loop { rec .ready with state:=.busy }):=World.putObj_heap_same hlta;refine wpIn_mono (hbody _ pre x a' _ (by omega) ⟨_,hl2⟩ (put hla rfl hia) (hAx _ _ _ _ _ _ hax (grownBy_putObj' Wa w.heap.size _) (fun r e=>by cases e;exact ⟨by omega,_,hla,rfl⟩)) hr (fun b hb=>by
    obtain ⟨cs,fz,h1⟩:=hty b hb;have hb:=hbs b hb;exact ⟨cs,fz,(World.putObj_heap_other (by omega)).trans ((hga.block b (by omega)).trans h1)⟩)) ?_
   rintro e a3 W3 hp;cases e with
   | normal =>
     obtain ⟨hk3,hb3,hi3⟩:=hp;have hl3:=hk3.same _ _ (by omega) hl2 rfl;have he:=run_endRound (P:=P) none hl3;rw [hrec] at he hl3;have hl4:(W3.putObj w.heap.size (.loop (rec .ready))).heap[w.heap.size]? = some (.loop (rec .ready)):=World.putObj_heap_same (Array.getElem?_eq_some_iff.1 hl3).1;refine ⟨_,_,he,rfl,⟨put hl3 rfl hi3, ?_⟩,fun b hb=>?_⟩
     · rw [hrec] at hl4
       rw [hrec];exact hl4
     · have hb:=hks b hb
       have hne:b≠w.heap.size:=by omega
       have hb3:=hb3 b (by assumption);exact (World.putObj_heap_other (by omega)).trans (hb3.trans ((World.putObj_heap_other (by omega)).trans (hga.block b (by omega))))
   | _=>exact hp.elim
 · rintro e W2 ⟨⟨v,rfl⟩,hi,hl⟩
   have he:=run_endLoop (P:=P) hl (by rw [hrec];simp);rw [hrec] at he;exact ⟨none,_,he,hdone _ (hI _ _ _ _ hi (grownBy_putObj' W2 w.heap.size _) (fun r e=>by cases e;exact .inr ⟨by omega,_,hl,rfl⟩))⟩
end
open Go Go.Pt Go.RowKit Prb
attribute [local go_sem] Oper.semAt_some
set_option maxRecDepth 100000 in
set_option maxHeartbeats 4000000 in
theorem all_runsT (n:Nat) (hn:1≤n) (bS:Nat) (l:List Nat) (ha:Asc l) (hl:∀ y∈l,y<64) (w:World) (hD:DebAt w) (hx:w.heap[bS]? = some (.cells #[.int .u64 (setS l)] 69 (0,0))) :
  RunsT 69 n prog 71 #[.pointer (some ⟨bS,0,none⟩)] [bS] [bS,0] encX l w:=by
 intro lp J W hbW hW hJ hY h0;have hb0:=(hbW bS (by simp)).trans hx;have hD0:=hD.of_block (hbW 0 (by simp));have h0S:(0:Nat)≠bS:=by
  rintro rfl;have h1:=hD.2 0 0 (by decide);simp [World.cell?,hx] at h1
 clear hbW hW hx hD;refine callsIn_of_wp func71 rfl trivial ?_ rfl;simp only [ntmps71,List.size_toArray,List.length_cons,List.length_nil,Nat.reduceAdd,Nat.reduceSub,Array.replicate_succ,Array.replicate_zero,List.push_toArray,List.append_toArray,List.nil_append,List.cons_append]
 gi_wp2
 gi_loopw [3] (fun _ wr=>∃ (pre r:List Nat),l=pre++r∧Asc r∧(∀ y∈r,y<64)∧wr.heap[bS]? = some (.cells #[.int .u64 (setS r)] 69 (0,0))∧DebAt wr∧J pre wr) (fun _ wr=>leftN bS wr)
 case atStart=>exact ⟨[],l,rfl,ha,hl,hb0,hD0,h0⟩
 case round =>
  obtain ⟨pre,r,hpr,har,hlr,hb,hDr,hJr⟩:=hrel;have hc:wr.cell? ⟨bS,0,none⟩=some (.int .u64 (setS r)):=by simp [World.cell?,hb]
  have hbl:=(Array.getElem?_eq_some_iff.1 hb).1;cases r with
  | nil =>
    have HJR:=hid hJr;have HPR:=hid hpr;rw [show setS []=0 from rfl] at hc;clear hb hJr hpr h0 hb0 hD0 hDr hlr har hl ha hY hJ
    gi_wp2
    go_end0
    refine ⟨⟨_,rfl⟩, ?_⟩;have:=HPR.out;rw [List.append_nil] at this;rw [this];exact HJR.out
  | cons x r =>
    have hS0:((setS (x::r):Int) != 0)=true:=by rw [bne_iff_ne];have:=set_ne (x:=x) (r:=r);omega
    have HT:=hid fun w' (h:DebAt w')=>tz_any har hlr w' h
    have HN:=hid (set_next har hlr);have HP:=hid (show IntKind.u64.wrap ((setS (x::r):Int) - 1)=((setS (x::r) - 1:Nat):Int) by
     have:=setS_lt64 har hlr;have:=set_ne (x:=x) (r:=r);rw [IntKind.wrap_u64];omega)
    have HL:=hid (show setS r<setS (x::r) by have:=Nat.two_pow_pos x;simp only [setS];omega);obtain ⟨fn,tmps,assign,body,hy,hR⟩:=hY pre x wr hJr ⟨r,hpr⟩ (fun b' hb'=>by rw [List.mem_singleton.1 hb'];exact ⟨_,_,hb⟩);simp only [encX] at hy;have HB:=hid hb;have HPR:=hid hpr;have HA:=hid har.2;have HLR:=hid fun y hy=>hlr y (List.mem_cons_of_mem x hy)
    have HD:=hid hDr;have HM:=hid (leftN_eq hb);obtain ⟨S,hS⟩:∃ S,setS (x::r)=S:=⟨_,rfl⟩;obtain ⟨R,hRR⟩:∃ R,setS r=R:=⟨_,rfl⟩;rw [hS] at hc hS0 HT HN HP HL HM HB;rw [hRR] at HN HL;obtain ⟨D,hDD⟩:∃ D,S - 1=D:=⟨_,rfl⟩;rw [hDD] at HN HP;have HRR:=hid hRR;clear hb hJr hpr h0 hb0 hD0 hDr hlr har hl ha hS hRR hY hDD
    gi_wp2
    refine ⟨trivial,(callsIn_wide.2 (HT.out _ HD.out)).mono ?_⟩;rintro e w' ⟨rfl,rfl⟩
    gi_wp2
    refine hR.mono ?_;rintro e W3 ⟨rfl,hJ3,hk3⟩;have hb3:=(hk3 bS (by simp)).trans HB.out;have c3:W3.cell? ⟨bS,0,none⟩=some (.int .u64 S):=by simp [World.cell?,hb3]
    have f3:W3.frozen? ⟨bS,0,none⟩=false:=by simp [World.frozen?,hb3]
    have HD3:=hid (HD.out.of_block (hk3 0 (by simp)));have HB3:=hid hb3;have HJ3:=hid hJ3;have hb3l:=(Array.getElem?_eq_some_iff.1 hb3).1;have hN:=HN.out;have hP:=HP.out;clear hb3 hJ3 hk3 hR hy
    gi_wp2
    have hnew:=box_set (v':=.int .u64 (R:Nat)) HB3.out;go_roundw
    case rel=>exact ⟨pre++[x],r,by rw [HPR.out,List.append_assoc];rfl,HA.out,HLR.out,by rw [HRR.out];exact hnew,HD3.out.of_block (heap_setCell_ne _ h0S _ _),hJ _ _ _ bS HJ3.out (List.mem_singleton.2 rfl) (grownBy_set _ _ _ _)⟩
    case measure=>rw [leftN_eq hnew,HM.out];exact HL.out
end Go.Proofs.Qm
