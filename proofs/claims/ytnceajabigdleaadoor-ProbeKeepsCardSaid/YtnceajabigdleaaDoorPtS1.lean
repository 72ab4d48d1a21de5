/- Two runs of one program whose memory lies in other blocks: what it is for values, for objects, for worlds to be the same but for the blocks' numbers. No condition; no program in sight. -/
import Derived.Calls
import Derived.Conc.Events
import GoSem.Dispatch
import Derived.Laws.Sem
namespace Go.Pt
open Go
structure Inj where
 g:Nat
 ok:Code→Prop
 dang:Addr→Option Addr
 r:Nat→Nat→Prop
 fn:∀ {a b c:Nat},r a b→r a c→b=c
 inj:∀ {a b c:Nat},r a c→r b c→a=b
 low:∀ {a b:Nat},r a b→(a<g↔b<g)
structure Inj.le (p q:Inj):Prop where
 g:q.g=p.g
 ok:q.ok=p.ok
 dg:q.dang=p.dang
 r:∀ a b,p.r a b→q.r a b
theorem Inj.le_refl (p:Inj):p.le p:=⟨rfl,rfl,rfl,fun _ _ h=>h⟩
theorem Inj.le_trans {p q s:Inj} (h:p.le q) (h':q.le s):p.le s:=⟨h'.g.trans h.g,h'.ok.trans h.ok,h'.dg.trans h.dg,fun a b x=>h'.r a b (h.r a b x)⟩
def Inj.ext (p:Inj) (a b:Nat) (ha:∀ c,¬ p.r a c) (hb:∀ c,¬ p.r c b) (hg:a<p.g↔b<p.g):Inj where
 g:=p.g
 ok:=p.ok
 dang:=p.dang
 r x y:=p.r x y∨(x=a∧y=b)
 fn:=by
  rintro x y z (h | ⟨rfl,rfl⟩) (h' | ⟨h1,rfl⟩)
  · exact p.fn h h'
  · subst h1;exact absurd h (ha _)
  · exact absurd h' (ha _)
  · rfl
 inj:=by
  rintro x y z (h | ⟨rfl,rfl⟩) (h' | ⟨rfl,h1⟩)
  · exact p.inj h h'
  · subst h1;exact absurd h (hb _)
  · exact absurd h' (hb _)
  · rfl
 low:=by
  rintro x y (h | ⟨rfl,rfl⟩)
  · exact p.low h
  · exact hg
theorem Inj.le_ext (p:Inj) (a b:Nat) (ha:∀ c,¬ p.r a c) (hb:∀ c,¬ p.r c b) (hg:a<p.g↔b<p.g):p.le (p.ext a b ha hb hg):=⟨rfl,rfl,rfl,fun _ _ h=>.inl h⟩
theorem Inj.ext_new (p:Inj) (a b:Nat) (ha:∀ c,¬ p.r a c) (hb:∀ c,¬ p.r c b) (hg:a<p.g↔b<p.g):(p.ext a b ha hb hg).r a b:=.inr ⟨rfl,rfl⟩
inductive FnR (p:Inj):Fn→Fn→Prop
 | func (f:FuncId):FnR p (.func f) (.func f)
 | yield {l l':Nat}:p.r l l'→FnR p (.yield l) (.yield l')
def veil (v:Value):Value:=.func (.method "") #[.nilFunc,v] #[]
inductive VRel (p:Inj):Value→Value→Prop
 | bool (b:Bool):VRel p (.bool b) (.bool b)
 | int (k:IntKind) (n:Int):VRel p (.int k n) (.int k n)
 | string (s:ByteArray):VRel p (.string s) (.string s)
 | ptr0:VRel p (.pointer none) (.pointer none)
 | ptr {b b':Nat} (o:Nat) (s:Option Nat):p.r b b'→VRel p (.pointer (some ⟨b,o,s⟩)) (.pointer (some ⟨b',o,s⟩))
 | slice0 (n c:Nat):VRel p (.slice none n c) (.slice none n c)
 | slice {b b':Nat} (o:Nat) (s:Option Nat) (n c:Nat):p.r b b'→VRel p (.slice (some ⟨b,o,s⟩) n c) (.slice (some ⟨b',o,s⟩) n c)
 | slice00 {a x:Addr}:p.dang a=some x→VRel p (.slice (some a) 0 0) (.slice (some x) 0 0)
 | func {f f':Fn} {xs xs' ys ys':Array Value}:FnR p f f'→xs.size=xs'.size→(∀ (i:Nat) (a a':Value),xs[i]? = some a→xs'[i]? = some a'→VRel p a a') →
  ys.size=ys'.size→(∀ (i:Nat) (a a':Value),ys[i]? = some a→ys'[i]? = some a'→VRel p a a')→VRel p (.func f xs ys) (.func f' xs' ys')
 | nilFunc:VRel p .nilFunc .nilFunc
 | iface (t:TypeId) {v v':Value}:VRel p v v'→VRel p (.iface t v) (.iface t v')
 | nilIface:VRel p .nilIface .nilIface
 | agg {xs xs':Array Value}:xs.size=xs'.size→(∀ (i:Nat) (a a':Value),xs[i]? = some a→xs'[i]? = some a'→VRel p a a')→VRel p (.agg xs) (.agg xs')
 | tuple {xs xs':Array Value}:xs.size=xs'.size→(∀ (i:Nat) (a a':Value),xs[i]? = some a→xs'[i]? = some a'→VRel p a a')→VRel p (.tuple xs) (.tuple xs')
 | veil (v:Value):(∀ c,v≠.agg c)→(∀ c,v≠.tuple c)→(∀ b,v≠.bool b)→VRel p (.func (.method "") #[.nilFunc,v] #[]) v
theorem FnR.mono {p q:Inj} (h:p.le q) {f f':Fn} (hf:FnR p f f'):FnR q f f':=by
 cases hf with
 | func f=>exact .func f
 | yield hl=>exact .yield (h.r _ _ hl)
theorem VRel.mono {p q:Inj} (h:p.le q) {v v':Value} (hv:VRel p v v'):VRel q v v':=by
 induction hv with
 | bool b=>exact .bool b
 | int k n=>exact .int k n
 | string s=>exact .string s
 | ptr0=>exact .ptr0
 | ptr o s hb=>exact .ptr o s (h.r _ _ hb)
 | slice0 n c=>exact .slice0 n c
 | slice o s n c hb=>exact .slice o s n c (h.r _ _ hb)
 | slice00 ha=>exact .slice00 (h.dg ▸ ha)
 | func hf h1 _ h3 _ ih1 ih2=>exact .func (hf.mono h) h1 ih1 h3 ih2
 | nilFunc=>exact .nilFunc
 | iface t _ ih=>exact .iface t ih
 | nilIface=>exact .nilIface
 | agg h1 _ ih=>exact .agg h1 ih
 | tuple h1 _ ih=>exact .tuple h1 ih
 | veil v h1 h2 h3=>exact .veil v h1 h2 h3
structure ARel (p:Inj) (xs xs':Array Value):Prop where
 size:xs.size=xs'.size
 get:∀ (i:Nat) (a a':Value),xs[i]? = some a→xs'[i]? = some a'→VRel p a a'
theorem ARel.mono {p q:Inj} (h:p.le q) {xs xs':Array Value} (hv:ARel p xs xs'):ARel q xs xs':=⟨hv.size,fun i a a' h1 h2=>(hv.get i a a' h1 h2).mono h⟩
theorem VRel.undef (p:Inj):VRel p undef undef:=.tuple rfl (fun i a a' h=>by simp at h)
theorem ARel.empty (p:Inj):ARel p #[] #[]:=⟨rfl,fun i a a' h=>by simp at h⟩
section
variable {p:Inj} {xs xs' ys ys':Array Value} {v v':Value}
theorem ARel.some (h:ARel p xs xs') {i:Nat} {a:Value} (ha:xs[i]? = some a):∃ a',xs'[i]? = some a'∧VRel p a a':=by
 have hi:=(Array.getElem?_eq_some_iff.1 ha).1;rw [h.size] at hi;exact ⟨xs'[i],Array.getElem?_eq_getElem hi,h.get i _ _ ha (Array.getElem?_eq_getElem hi)⟩
theorem ARel.none (h:ARel p xs xs') {i:Nat} (ha:xs[i]? = none):xs'[i]? = none:=by
 rw [Array.getElem?_eq_none_iff] at ha ⊢;rw [← h.size];exact ha
theorem ARel.getD (h:ARel p xs xs') (i:Nat) (hv:VRel p v v'):VRel p (xs.getD i v) (xs'.getD i v'):=by
 cases hi:xs[i]? with
 | none=>rw [Array.getD_eq_getD_getElem?,Array.getD_eq_getD_getElem?,hi,h.none hi];exact hv
 | some a =>
   obtain ⟨a',h1,h2⟩:=h.some hi;rw [Array.getD_eq_getD_getElem?,Array.getD_eq_getD_getElem?,hi,h1];exact h2
theorem ARel.set (h:ARel p xs xs') (hv:VRel p v v') (i:Nat):ARel p (xs.setIfInBounds i v) (xs'.setIfInBounds i v'):=by
 refine ⟨by simp [h.size],fun j a a' h1 h2=>?_⟩;rw [Array.getElem?_setIfInBounds] at h1 h2;by_cases e:i=j
 · subst e
   by_cases hi:i<xs.size
   · rw [if_pos rfl,if_pos hi] at h1
     rw [if_pos rfl,if_pos (h.size ▸ hi)] at h2;cases h1;cases h2;exact hv
   · rw [if_pos rfl,if_neg hi] at h1;cases h1
 · rw [if_neg e] at h1 h2
   exact h.get j a a' h1 h2
theorem ARel.append (h:ARel p xs xs') (h':ARel p ys ys'):ARel p (xs++ys) (xs'++ys'):=by
 refine ⟨by simp [h.size,h'.size],fun j a a' h1 h2=>?_⟩;rw [Array.getElem?_append] at h1 h2;by_cases e:j<xs.size
 · rw [if_pos e] at h1
   rw [if_pos (h.size ▸ e)] at h2;exact h.get j a a' h1 h2
 · rw [if_neg e] at h1
   rw [if_neg (h.size ▸ e),← h.size] at h2;exact h'.get _ a a' h1 h2
theorem ARel.one (hv:VRel p v v'):ARel p #[v] #[v']:=by
 refine ⟨rfl,fun j a a' h1 h2=>?_⟩;cases j with
 | zero=>simp at h1 h2;subst h1;subst h2;exact hv
 | succ j=>simp at h1
theorem ARel.push (h:ARel p xs xs') (hv:VRel p v v'):ARel p (xs.push v) (xs'.push v'):=by
 simpa using h.append (ARel.one hv)
theorem ARel.extract (h:ARel p xs xs') (i j:Nat):ARel p (xs.extract i j) (xs'.extract i j):=by
 refine ⟨by simp [h.size],fun k a a' h1 h2=>?_⟩;rw [Array.getElem?_extract] at h1 h2;split at h1
 · rename_i e
   rw [if_pos (by rw [← h.size];exact e)] at h2;exact h.get _ a a' h1 h2
 · cases h1
theorem ARel.replicate (hv:VRel p v v') (n:Nat):ARel p (Array.replicate n v) (Array.replicate n v'):=by
 refine ⟨by simp,fun k a a' h1 h2=>?_⟩;rw [Array.getElem?_replicate] at h1 h2;split at h1
 · rename_i e
   rw [if_pos e] at h2;cases h1;cases h2;exact hv
 · cases h1
theorem ARel.map {α:Type} {f f':α→Value} (h:∀ x,VRel p (f x) (f' x)) (l:Array α):ARel p (l.map f) (l.map f'):=by
 refine ⟨by simp,fun k a a' h1 h2=>?_⟩;rw [Array.getElem?_map] at h1 h2;cases hk:l[k]? with
 | none=>rw [hk] at h1;cases h1
 | some x=>rw [hk] at h1 h2;cases h1;cases h2;exact h x
theorem ARel.agg (h:ARel p xs xs'):VRel p (.agg xs) (.agg xs'):=.agg h.size h.get
theorem ARel.tuple (h:ARel p xs xs'):VRel p (.tuple xs) (.tuple xs'):=.tuple h.size h.get
theorem VRel.cells (h:VRel p v v'):ARel p v.cells v'.cells:=by
 cases h
 case agg h1 h2=>exact ⟨h1,h2⟩
 case tuple h1 h2=>exact ARel.one (.tuple h1 h2)
 case veil h1 h2 h3 =>
  have e:v'.cells=#[v']:=by cases v' <;> first | rfl | exact absurd rfl (h1 _)
  rw [e];exact ARel.one (.veil _ h1 h2 h3)
 all_goals exact ARel.one (by constructor <;> assumption)
end
structure LRel (p:Inj) (l l':Loop):Prop where
 state:l.state=l'.state
 pending:l.pending=l'.pending
 fn:l.fn=l'.fn
 tmps:ARel p l.tmps l'.tmps
 params:l.params=l'.params
 assign:l.assign=l'.assign
 body:l.body=l'.body
 defers:p.r l.defers l'.defers
 okA:p.ok l.assign
 okB:p.ok l.body
 jump:l.pending=none∨l.pending=some .ret∨∃ id,l.pending=some (.exit id)
theorem LRel.mono {p q:Inj} (h:p.le q) {l l':Loop} (hl:LRel p l l'):LRel q l l':=⟨hl.state,hl.pending,hl.fn,hl.tmps.mono h,hl.params,hl.assign,hl.body,h.r _ _ hl.defers,h.ok ▸ hl.okA,h.ok ▸ hl.okB,hl.jump⟩
structure AdR (p:Inj) (a a':Addr):Prop where
 block:p.r a.block a'.block
 off:a.off=a'.off
 spot:a.spot=a'.spot
theorem AdR.mono {p q:Inj} (h:p.le q) {a a':Addr} (ha:AdR p a a'):AdR q a a':=⟨h.r _ _ ha.block,ha.off,ha.spot⟩
inductive ORel (p:Inj):Obj→Obj→Prop
 | cells {c c':Array Value} (e:TypeId) (fz:Nat × Nat):ARel p c c'→ORel p (.cells c e fz) (.cells c' e fz)
 | loop {l l':Loop}:LRel p l l'→ORel p (.loop l) (.loop l')
 | number {a a':Addr} (lost:Bool):AdR p a a'→ORel p (.number a lost) (.number a' lost)
 | deferred0:ORel p (.deferred none) (.deferred none)
 | deferred1:ORel p (.deferred (some [])) (.deferred (some []))
theorem ORel.mono {p q:Inj} (h:p.le q) {o o':Obj} (ho:ORel p o o'):ORel q o o':=by
 cases ho with
 | cells e fz hc=>exact .cells e fz (hc.mono h)
 | loop hl=>exact .loop (hl.mono h)
 | number l ha=>exact .number l (ha.mono h)
 | deferred0=>exact .deferred0
 | deferred1=>exact .deferred1
structure WRel (p:Inj) (gw w:World):Prop where
 at_:∀ b b',p.r b b'→∃ o o',gw.heap[b]? = some o∧w.heap[b']? = some o'∧ORel p o o'
 g1:p.g≤gw.heap.size
 g2:p.g≤w.heap.size
def TA (gw w:World):Prop:=∀ i,gw.tape (gw.drawn+i)=w.tape (w.drawn+i)
section
variable {p:Inj} {gw w:World} {b b':Nat}
theorem WRel.lt (h:WRel p gw w) (hb:p.r b b'):b<gw.heap.size∧b'<w.heap.size:=by
 obtain ⟨o,o',h1,h2,_⟩:=h.at_ b b' hb;exact ⟨(Array.getElem?_eq_some_iff.1 h1).1,(Array.getElem?_eq_some_iff.1 h2).1⟩
theorem WRel.fresh (h:WRel p gw w):(∀ c,¬ p.r gw.heap.size c)∧(∀ c,¬ p.r c w.heap.size)∧(gw.heap.size<p.g↔w.heap.size<p.g) :=
 ⟨fun _ hc=>Nat.lt_irrefl _ (h.lt hc).1,fun _ hc=>Nat.lt_irrefl _ (h.lt hc).2,by have:=h.g1;have:=h.g2;omega⟩
theorem WRel.cell (h:WRel p gw w) (hb:p.r b b') (o:Nat) (s:Option Nat) {v:Value} (hv:gw.cell? ⟨b,o,s⟩=some v):∃ v',w.cell? ⟨b',o,s⟩=some v'∧VRel p v v':=by
 obtain ⟨x,x',h1,h2,hx⟩:=h.at_ b b' hb;simp only [World.cell?,h1,h2] at hv ⊢;cases hx with
 | cells e fz hc =>
   simp only at hv ⊢;cases s with
   | some s=>simp at hv
   | none =>
     simp only [Option.isSome_none,Bool.false_eq_true,if_false] at hv ⊢;exact hc.some hv
 | loop _=>simp at hv
 | number _ _=>simp at hv
 | deferred0=>simp at hv
 | deferred1=>simp at hv
theorem WRel.shape (h:WRel p gw w) (hb:p.r b b'):gw.shape? b=w.shape? b':=by
 obtain ⟨x,x',h1,h2,hx⟩:=h.at_ b b' hb;simp only [World.shape?,h1,h2];cases hx with
 | cells e fz hc=>simp [hc.size]
 | loop _=>rfl
 | number _ _=>rfl
 | deferred0=>rfl
 | deferred1=>rfl
theorem WRel.frozen (h:WRel p gw w) (hb:p.r b b') (o:Nat) (s:Option Nat):gw.frozen? ⟨b,o,s⟩=w.frozen? ⟨b',o,s⟩:=by
 obtain ⟨x,x',h1,h2,hx⟩:=h.at_ b b' hb;simp only [World.frozen?,h1,h2];cases hx <;> rfl
theorem WRel.of_heap (h:WRel p gw w) {gw₁ w₁:World} (h1:gw₁.heap=gw.heap) (h2:w₁.heap=w.heap):WRel p gw₁ w₁:=by
 refine ⟨fun b b' hb=>?_,h1 ▸ h.g1,h2 ▸ h.g2⟩;rw [h1,h2];exact h.at_ b b' hb
theorem WRel.modify (h:WRel p gw w) (hb:p.r b b') {f f':Obj→Obj} (hf:∀ o o',ORel p o o'→ORel p (f o) (f' o')) {gw₁ w₁:World}
  (h1:gw₁.heap=gw.heap.modify b f) (h2:w₁.heap=w.heap.modify b' f'):WRel p gw₁ w₁:=by
 refine ⟨fun c c' hc=>?_,by rw [h1];simpa using h.g1,by rw [h2];simpa using h.g2⟩;obtain ⟨o,o',e1,e2,ho⟩:=h.at_ c c' hc;rw [h1,h2];simp only [Array.getElem?_modify,e1,e2];by_cases e:b=c
 · subst e
   have:b'=c':=p.fn hb hc;subst this;exact ⟨_,_,by simp,by simp,hf o o' ho⟩
 · have e':b'≠c':=fun x=>e (p.inj hb (x ▸ hc))
   exact ⟨_,_,by simp [e],by simp [e'],ho⟩
theorem WRel.setCell (h:WRel p gw w) (hb:p.r b b') (o:Nat) (s:Option Nat) {v v':Value} (hv:VRel p v v'):WRel p (gw.setCell ⟨b,o,s⟩ v) (w.setCell ⟨b',o,s⟩ v'):=by
 refine h.modify hb (f:=fun | .cells c elem frozen=>.cells (if s.isSome then c else c.setIfInBounds o v) elem frozen | o=>o)
  (f':=fun | .cells c elem frozen=>.cells (if s.isSome then c else c.setIfInBounds o v') elem frozen | o=>o) (fun x x' hx=>?_) rfl rfl
 cases hx with
 | cells e fz hc =>
   refine .cells e fz ?_;split
   · exact hc
   · exact hc.set hv o
 | loop hl=>exact .loop hl
 | number l ha=>exact .number l ha
 | deferred0=>exact .deferred0
 | deferred1=>exact .deferred1
theorem WRel.freeze (h:WRel p gw w) (hb:p.r b b') (o:Nat) (s:Option Nat) (n:Nat):WRel p (gw.freeze ⟨b,o,s⟩ n) (w.freeze ⟨b',o,s⟩ n):=by
 unfold World.freeze;split
 · exact h
 · refine h.modify hb (f:=fun | .cells c elem (lo,hi)=>.cells c elem (if lo==hi then (o,o+n) else (min lo o,max hi (o+n))) | o=>o)
    (f':=fun | .cells c elem (lo,hi)=>.cells c elem (if lo==hi then (o,o+n) else (min lo o,max hi (o+n))) | o=>o) (fun x x' hx=>?_) rfl rfl
   cases hx with
   | cells e fz hc=>exact .cells e _ hc
   | loop hl=>exact .loop hl
   | number l ha=>exact .number l ha
   | deferred0=>exact .deferred0
   | deferred1=>exact .deferred1
theorem WRel.setObj (h:WRel p gw w) (hb:p.r b b') {o o':Obj} (ho:ORel p o o'):WRel p { gw with heap:=gw.heap.setIfInBounds b o } { w with heap:=w.heap.setIfInBounds b' o' }:=by
 refine ⟨fun c c' hc=>?_,by simpa using h.g1,by simpa using h.g2⟩;have hl:=h.lt hb;obtain ⟨x,x',e1,e2,hx⟩:=h.at_ c c' hc;by_cases e:b=c
 · subst e
   have:b'=c':=p.fn hb hc;subst this;exact ⟨o,o',by simp [hl.1],by simp [hl.2],ho⟩
 · have e':b'≠c':=fun x=>e (p.inj hb (x ▸ hc))
   exact ⟨x,x',by simp [Array.getElem?_setIfInBounds_ne e,e1],by simp [Array.getElem?_setIfInBounds_ne e',e2],hx⟩
theorem WRel.push (h:WRel p gw w) {o o':Obj} (ho:ORel p o o'):WRel (p.ext gw.heap.size w.heap.size h.fresh.1 h.fresh.2.1 h.fresh.2.2) { gw with heap:=gw.heap.push o } { w with heap:=w.heap.push o' }:=by
 have hle:=p.le_ext gw.heap.size w.heap.size h.fresh.1 h.fresh.2.1 h.fresh.2.2;refine ⟨?_,by have:=h.g1;simp [Inj.ext];omega,by have:=h.g2;simp [Inj.ext];omega⟩;rintro c c' (hc | ⟨rfl,rfl⟩)
 · have hl:=h.lt hc
   obtain ⟨x,x',e1,e2,hx⟩:=h.at_ c c' hc;refine ⟨x,x', ?_, ?_,hx.mono hle⟩
   · show (gw.heap.push o)[c]? = _
     rw [Array.getElem?_push,if_neg (by omega)];exact e1
   · show (w.heap.push o')[c']? = _
     rw [Array.getElem?_push,if_neg (by omega)];exact e2
 · exact ⟨o,o',by simp,by simp,ho.mono hle⟩
end
open Go
def DeadHalt:Halt→Prop
 | .stuck _ | .panic _=>True
 | .unsupported u=>∀ g,u≠.initOrder g
 | _=>False
def DeadEnd (P:Program) {α:Type} (s:Sem α):Prop:=∀ w es,∃ h w' es',s.runT P w es=(.halt h w',es')∧DeadHalt h∧w'.heap=w.heap
theorem DeadEnd.bind {P:Program} {α β:Type} {s:Sem α} (h:DeadEnd P s) (k:α→Sem β):DeadEnd P (s.bind k):=by
 intro w es;obtain ⟨x,w',es',h1,h2⟩:=h w es;exact ⟨x,w',es',by rw [Sem.runT_bind',h1],h2⟩
theorem DeadEnd.halt {P:Program} {α:Type} {h:Halt} (hh:DeadHalt h):DeadEnd P (.halt h:Sem α):=fun w es=>⟨h,w,es,rfl,hh,rfl⟩
inductive SRel (P P':Program) {α β:Type} (R:Inj→α→β→Prop):Inj→Sem α→Sem β→Prop
 | pure {p:Inj} {a:α} {b:β}:R p a b→SRel P P' R p (.pure a) (.pure b)
 | load {p:Inj} (m:Mode) {b b':Nat} (o:Nat) (s:Option Nat) {k:Value→Sem α} {k':Value→Sem β}:p.r b b'→(∀ v v',VRel p v v'→SRel P P' R p (k v) (k' v'))→SRel P P' R p (.load m ⟨b,o,s⟩ k) (.load m ⟨b',o,s⟩ k')
 | store {p:Inj} (m:Mode) {b b':Nat} (o:Nat) (s:Option Nat) {v v':Value} {k:Sem α} {k':Sem β}:p.r b b'→VRel p v v'→SRel P P' R p k k'→SRel P P' R p (.store m ⟨b,o,s⟩ v k) (.store m ⟨b',o,s⟩ v' k')
 | new {p:Inj} {o o':Obj} {k:Nat→Sem α} {k':Nat→Sem β}:ORel p o o'→(∀ r r' hr hr' hg,SRel P P' R (p.ext r r' hr hr' hg) (k r) (k' r'))→SRel P P' R p (.new o k) (.new o' k')
 | shape {p:Inj} {r r':Nat} {k:Option (TypeId × Nat)→Sem α} {k':Option (TypeId × Nat)→Sem β}:p.r r r'→(∀ s,SRel P P' R p (k s) (k' s))→SRel P P' R p (.shape r k) (.shape r' k')
 | freeze {p:Inj} {b b':Nat} (o:Nat) (s:Option Nat) (n:Nat) {k:Sem α} {k':Sem β}:p.r b b'→SRel P P' R p k k'→SRel P P' R p (.freeze ⟨b,o,s⟩ n k) (.freeze ⟨b',o,s⟩ n k')
 | frozen {p:Inj} {b b':Nat} (o:Nat) (s:Option Nat) {k:Bool→Sem α} {k':Bool→Sem β}:p.r b b'→(∀ x,SRel P P' R p (k x) (k' x))→SRel P P' R p (.frozen ⟨b,o,s⟩ k) (.frozen ⟨b',o,s⟩ k')
 | getObj {p:Inj} {r r':Nat} {k:Obj→Sem α} {k':Obj→Sem β}:p.r r r'→(∀ o o',ORel p o o'→SRel P P' R p (k o) (k' o'))→SRel P P' R p (.getObj r k) (.getObj r' k')
 | setObj {p:Inj} {r r':Nat} {o o':Obj} {k:Sem α} {k':Sem β}:p.r r r'→ORel p o o'→SRel P P' R p k k'→SRel P P' R p (.setObj r o k) (.setObj r' o' k')
 | choose {p:Inj} (q:Question) {k:Nat→Sem α} {k':Nat→Sem β}:(∀ n,SRel P P' R p (k n) (k' n))→SRel P P' R p (.choose q k) (.choose q k')
 | program {p:Inj} {k:Program→Sem α} {k':Program→Sem β}:SRel P P' R p (k P) (k' P')→SRel P P' R p (.program k) (.program k')
 | room {p:Inj} {k:Sem α} {k':Sem β}:SRel P P' R p k k'→SRel P P' R p (.mark .noRoom k) (.mark .noRoom k')
 | dead {p:Inj} {s:Sem α} {s':Sem β}:DeadEnd P s→SRel P P' R p s s'
section
variable {P P':Program} {α β γ δ:Type} {p:Inj}
theorem SRel.bind {R:Inj→α→β→Prop} {T:Inj→γ→δ→Prop} {s:Sem α} {s':Sem β} {k:α→Sem γ} {k':β→Sem δ} (h:SRel P P' R p s s')
  (hk:∀ q,p.le q→∀ a b,R q a b→SRel P P' T q (k a) (k' b)):SRel P P' T p (s.bind k) (s'.bind k'):=by
 induction h with
 | pure h=>exact hk _ (Inj.le_refl _) _ _ h
 | load m o s hb _ ih=>exact .load m o s hb fun v v' hv=>ih v v' hv hk
 | store m o s hb hv _ ih=>exact .store m o s hb hv (ih hk)
 | new ho _ ih=>exact .new ho fun r r' hr hr' hg=>ih r r' hr hr' hg fun q hq=>hk q (Inj.le_trans (Inj.le_ext _ _ _ _ _ _) hq)
 | shape hb _ ih=>exact .shape hb fun s=>ih s hk
 | freeze o s n hb _ ih=>exact .freeze o s n hb (ih hk)
 | frozen o s hb _ ih=>exact .frozen o s hb fun x=>ih x hk
 | getObj hb _ ih=>exact .getObj hb fun o o' ho=>ih o o' ho hk
 | setObj hb ho _ ih=>exact .setObj hb ho (ih hk)
 | choose q _ ih=>exact .choose q fun n=>ih n hk
 | program _ ih=>exact .program (ih hk)
 | room _ ih=>exact .room (ih hk)
 | dead h=>exact .dead (h.bind _)
theorem SRel.mono {R T:Inj→α→β→Prop} {s:Sem α} {s':Sem β} (h:SRel P P' R p s s') (hk:∀ q,p.le q→∀ a b,R q a b→T q a b):SRel P P' T p s s':=by
 induction h with
 | pure h=>exact .pure (hk _ (Inj.le_refl _) _ _ h)
 | load m o s hb _ ih=>exact .load m o s hb fun v v' hv=>ih v v' hv hk
 | store m o s hb hv _ ih=>exact .store m o s hb hv (ih hk)
 | new ho _ ih=>exact .new ho fun r r' hr hr' hg=>ih r r' hr hr' hg fun q hq=>hk q (Inj.le_trans (Inj.le_ext _ _ _ _ _ _) hq)
 | shape hb _ ih=>exact .shape hb fun s=>ih s hk
 | freeze o s n hb _ ih=>exact .freeze o s n hb (ih hk)
 | frozen o s hb _ ih=>exact .frozen o s hb fun x=>ih x hk
 | getObj hb _ ih=>exact .getObj hb fun o o' ho=>ih o o' ho hk
 | setObj hb ho _ ih=>exact .setObj hb ho (ih hk)
 | choose q _ ih=>exact .choose q fun n=>ih n hk
 | program _ ih=>exact .program (ih hk)
 | room _ ih=>exact .room (ih hk)
 | dead h=>exact .dead h
end
section
variable {P P':Program} {α β:Type} {p:Inj} {R:Inj→α→β→Prop}
theorem SRel.stuck (why:String) {s':Sem β}:SRel P P' R p (.halt (.stuck why)) s':=.dead (.halt trivial)
theorem SRel.unsupported (u:Unsupported) {s':Sem β} (h:∀ g,u≠.initOrder g):SRel P P' R p (.halt (.unsupported u)) s':=.dead (.halt h)
theorem SRel.panic (v:Value) {s':Sem β}:SRel P P' R p (.halt (.panic v)) s':=.dead (.halt trivial)
end
def _root_.Go.World.retape (w:World) (τ:Nat→Question→Nat):World:={ w with tape:=τ }
structure Fr (p q:Inj) (w w':World):Prop where
 size:w.heap.size≤w'.heap.size
 old:∀ b',b'<w.heap.size→(∀ b,¬ p.r b b')→w'.heap[b']? = w.heap[b']?
 new:∀ b',w.heap.size≤b'→b'<w'.heap.size→∃ b,q.r b b'
 fresh:∀ b b',q.r b b'→p.r b b'∨w.heap.size≤b'
 tape:w'.tape=w.tape
 os:w'.os=w.os
 output:w'.output=w.output
theorem Fr.refl (p:Inj) (w:World):Fr p p w w:=⟨Nat.le_refl _,fun _ _ _=>rfl,fun _ h1 h2=>absurd h2 (Nat.not_lt.2 h1),fun _ _ h=>.inl h,rfl,rfl,rfl⟩
theorem Fr.trans {p q s:Inj} {w w' w'':World} (h:Fr p q w w') (h':Fr q s w' w'') (hs:q.le s):Fr p s w w'':=by
 refine ⟨Nat.le_trans h.size h'.size,fun b' h1 h2=>?_,fun b' h1 h2=>?_,fun b b' hb=>?_,h'.tape.trans h.tape,h'.os.trans h.os,h'.output.trans h.output⟩
 · rw [h'.old b' (Nat.lt_of_lt_of_le h1 h.size) (fun b hb=>(h.fresh b b' hb).elim (h2 b) (fun x=>absurd h1 (Nat.not_lt.2 x)))]
   exact h.old b' h1 h2
 · rcases Nat.lt_or_ge b' w'.heap.size with hlt | hge
   · obtain ⟨b,hb⟩:=h.new b' h1 hlt
     exact ⟨b,hs.r _ _ hb⟩
   · exact h'.new b' hge h2
 · rcases h'.fresh b b' hb with x | x
   · exact h.fresh b b' x
   · exact .inr (Nat.le_trans h.size x)
theorem Fr.of_block {p:Inj} {w w':World} {b b':Nat} (hb:p.r b b') (hs:w'.heap.size=w.heap.size) (ho:∀ c,c≠b'→w'.heap[c]? = w.heap[c]?) (h1:w'.tape=w.tape) (h2:w'.os=w.os) (h3:w'.output=w.output):Fr p p w w' :=
 ⟨by omega,fun c _ hc=>ho c (fun e=>hc b (e ▸ hb)),fun c h1 h2=>by omega,fun _ _ h=>.inl h,h1,h2,h3⟩
def EvIn (q:Inj) (e:Event):Prop:=(∃ a b,e.loc=.cell a∧q.r b a.block)∨(∃ r b,e.loc=.obj r∧e.sync=false∧q.r b r)∨e.loc=.mark .noRoom
theorem EvIn.mono {p q:Inj} (h:p.le q) {e:Event} (he:EvIn p e):EvIn q e:=by
 rcases he with ⟨a,b,h1,h2⟩ | ⟨r,b,h1,h2,h3⟩ | h1
 · exact .inl ⟨a,b,h1,h.r _ _ h2⟩
 · exact .inr (.inl ⟨r,b,h1,h2,h.r _ _ h3⟩)
 · exact .inr (.inr h1)
structure Ran {α β:Type} (P P':Program) (R:Inj→α→β→Prop) (p:Inj) (s:Sem α) (s':Sem β) (gw w gw':World) (a:α) (es es1 es':Array Event) (q:Inj) (b:β) (w':World) (new:Array Event):Prop where
 le:p.le q
 rel:R q a b
 wrel:WRel q gw' w'
 ta:TA gw' w'
 run:s'.runT P' w es'=(.ok b w',es'++new)
 fr:Fr p q w w'
 ev:∀ e∈new,EvIn q e
 drawn:gw.drawn≤gw'.drawn
 tape:gw'.tape=gw.tape
 retape:∀ τ,(∀ i,gw.drawn≤i→i<gw'.drawn→τ i=gw.tape i)→s.runT P (gw.retape τ) es=(.ok a (gw'.retape τ),es1)
section
variable {P P':Program} {α β:Type} {R:Inj→α→β→Prop}
theorem cell?_retape (w:World) (τ:Nat→Question→Nat) (a:Addr):(w.retape τ).cell? a=w.cell? a:=rfl
theorem frozen?_retape (w:World) (τ:Nat→Question→Nat) (a:Addr):(w.retape τ).frozen? a=w.frozen? a:=rfl
theorem SRel.run {p:Inj} {s:Sem α} {s':Sem β} (h:SRel P P' R p s s'):∀ {gw w gw':World} {a:α} (es es1 es':Array Event),WRel p gw w→TA gw w→s.runT P gw es=(.ok a gw',es1) →
  ∃ q b w' new,Ran P P' R p s s' gw w gw' a es es1 es' q b w' new:=by
 induction h with
 | pure h =>
   intro gw w gw' a es es1 es' hw ht hr;simp only [Sem.runT,Prod.mk.injEq,Result.ok.injEq] at hr;obtain ⟨⟨rfl,rfl⟩,rfl⟩:=hr;exact ⟨_,_,w,#[],Inj.le_refl _,h,hw,ht,by simp [Sem.runT],Fr.refl _ _,by simp,Nat.le_refl _,rfl,fun τ _=>rfl⟩
 | @load p m b b' o s k k' hb _ ih =>
   intro gw w gw' a es es1 es' hw ht hr;simp only [Sem.runT] at hr;cases hc:gw.cell? ⟨b,o,s⟩ with
   | none =>
     obtain ⟨x,x',h1,_,hx⟩:=hw.at_ b b' hb;rw [hc] at hr;simp only [World.farLoad,h1] at hr;cases hx <;> simp at hr
   | some v =>
     rw [hc] at hr;obtain ⟨v',hv1,hv2⟩:=hw.cell hb o s hc;obtain ⟨q,y,w',new,hR⟩:=ih v v' hv2 _ _ (es'.push ⟨.cell ⟨b',o,s⟩,false,m==.atomic⟩) hw ht hr;refine ⟨q,y,w',#[⟨.cell ⟨b',o,s⟩,false,m==.atomic⟩]++new,hR.le,hR.rel,hR.wrel,hR.ta, ?_,hR.fr, ?_,hR.drawn,hR.tape,fun τ hτ=>?_⟩
     · simp only [Sem.runT,hv1,hR.run]
       simp
     · intro e he
       rcases Array.mem_append.1 he with he | he
       · have e1:e=⟨.cell ⟨b',o,s⟩,false,m==.atomic⟩:=by simpa using he
         subst e1;exact .inl ⟨_,b,rfl,hR.le.r _ _ hb⟩
       · exact hR.ev e he
     · simp only [Sem.runT,cell?_retape,hc]
       exact hR.retape τ hτ
 | @store p m b b' o s v v' k k' hb hv _ ih =>
   intro gw w gw' a es es1 es' hw ht hr;have key:∀ (c:Value),gw.cell? ⟨b,o,s⟩=some c→(∀ w₁:World,(∀ x,w₁.cell? ⟨b,o,s⟩=some x→(Sem.store m ⟨b,o,s⟩ v k).runT P w₁ es=if w₁.frozen? ⟨b,o,s⟩ then (.halt (.unsupported (.unsafePointer "a write to bytes that a string shares")) w₁,es) else k.runT P (w₁.setCell ⟨b,o,s⟩ v) (es.push ⟨.cell ⟨b,o,s⟩,true,m==.atomic⟩))) →
    (∀ w₁:World,(∀ x,w₁.cell? ⟨b',o,s⟩=some x→(Sem.store m ⟨b',o,s⟩ v' k').runT P' w₁ es'=if w₁.frozen? ⟨b',o,s⟩ then (.halt (.unsupported (.unsafePointer "a write to bytes that a string shares")) w₁,es') else k'.runT P' (w₁.setCell ⟨b',o,s⟩ v') (es'.push ⟨.cell ⟨b',o,s⟩,true,m==.atomic⟩))) →
    ∃ q b₁ w' new,Ran P P' R p (.store m ⟨b,o,s⟩ v k) (.store m ⟨b',o,s⟩ v' k') gw w gw' a es es1 es' q b₁ w' new:=by
    intro c hc h1 h2;rw [h1 gw c hc] at hr;obtain ⟨c',hc1,_⟩:=hw.cell hb o s hc;have hfz:=hw.frozen hb o s;cases hf:gw.frozen? ⟨b,o,s⟩ with
    | true=>rw [hf] at hr;simp at hr
    | false =>
      rw [hf] at hr hfz;simp only [Bool.false_eq_true,if_false] at hr;obtain ⟨q,y,w',new,hR⟩:=ih _ _ (es'.push ⟨.cell ⟨b',o,s⟩,true,m==.atomic⟩) (hw.setCell hb o s hv) (show TA (gw.setCell ⟨b,o,s⟩ v) (w.setCell ⟨b',o,s⟩ v') from ht) hr;have hfr:Fr p p w (w.setCell ⟨b',o,s⟩ v'):=Fr.of_block hb (by simp [World.setCell]) (fun c hc=>by simp [World.setCell,Array.getElem?_modify,Ne.symm hc]) rfl rfl rfl;refine ⟨q,y,w',#[⟨.cell ⟨b',o,s⟩,true,m==.atomic⟩]++new,hR.le,hR.rel,hR.wrel,hR.ta, ?_,hfr.trans hR.fr hR.le, ?_,hR.drawn,hR.tape,fun τ hτ=>?_⟩
      · rw [h2 w c' hc1,← hfz]
        simp only [Bool.false_eq_true,if_false,hR.run];simp
      · intro e he
        rcases Array.mem_append.1 he with he | he
        · have e1:e=⟨.cell ⟨b',o,s⟩,true,m==.atomic⟩:=by simpa using he
          subst e1;exact .inl ⟨_,b,rfl,hR.le.r _ _ hb⟩
        · exact hR.ev e he
      · rw [h1 (gw.retape τ) c hc,frozen?_retape,hf]
        simp only [Bool.false_eq_true,if_false];exact hR.retape τ hτ
   cases hc:gw.cell? ⟨b,o,s⟩ with
   | none =>
     exfalso;obtain ⟨x,x',h1,_,hx⟩:=hw.at_ b b' hb;cases v <;> simp only [Sem.runT,hc,World.farStore,h1] at hr <;> first | (simp at hr;done) | (cases hx <;> simp at hr)
   | some c =>
     cases hv with
     | agg=>simp [Sem.runT] at hr
     | tuple=>simp [Sem.runT] at hr
     | _=>exact key c hc (fun w₁ x hx=>by simp only [Sem.runT,hx]) (fun w₁ x hx=>by simp only [Sem.runT,hx])
 | @new p o o' k k' ho _ ih =>
   intro gw w gw' a es es1 es' hw ht hr;simp only [Sem.runT] at hr;obtain ⟨q,y,w',new,hR⟩:=ih gw.heap.size w.heap.size hw.fresh.1 hw.fresh.2.1 hw.fresh.2.2 _ _ es' (hw.push ho) ht hr;have hle:=p.le_ext gw.heap.size w.heap.size hw.fresh.1 hw.fresh.2.1 hw.fresh.2.2;have hfr:Fr p (p.ext gw.heap.size w.heap.size hw.fresh.1 hw.fresh.2.1 hw.fresh.2.2) w { w with heap:=w.heap.push o' }:=by
    refine ⟨by simp,fun c h1 _=>?_,fun c h1 h2=>?_, ?_,rfl,rfl,rfl⟩
    · show (w.heap.push o')[c]? = _
      rw [Array.getElem?_push,if_neg (by omega)]
    · have:c=w.heap.size:=by simp at h2;omega
      subst this;exact ⟨_,Inj.ext_new _ _ _ _ _ _⟩
    · rintro b b' (h | ⟨rfl,rfl⟩)
      · exact .inl h
      · exact .inr (Nat.le_refl _)
   exact ⟨q,y,w',new,Inj.le_trans hle hR.le,hR.rel,hR.wrel,hR.ta,by simp only [Sem.runT];exact hR.run,hfr.trans hR.fr hR.le,hR.ev,hR.drawn,hR.tape,fun τ hτ=>hR.retape τ hτ⟩
 | @shape p r r' k k' hb _ ih =>
   intro gw w gw' a es es1 es' hw ht hr;simp only [Sem.runT] at hr;obtain ⟨q,y,w',new,hR⟩:=ih _ _ _ es' hw ht hr;exact ⟨q,y,w',new,hR.le,hR.rel,hR.wrel,hR.ta,by simp only [Sem.runT,← hw.shape hb];exact hR.run,hR.fr,hR.ev,hR.drawn,hR.tape,fun τ hτ=>hR.retape τ hτ⟩
 | @freeze p b b' o s n k k' hb _ ih =>
   intro gw w gw' a es es1 es' hw ht hr;simp only [Sem.runT] at hr;obtain ⟨q,y,w',new,hR⟩:=ih _ _ es' (hw.freeze hb o s n) (show TA (gw.freeze ⟨b,o,s⟩ n) (w.freeze ⟨b',o,s⟩ n) by unfold World.freeze;split <;> exact ht) hr;have hfr:Fr p p w (w.freeze ⟨b',o,s⟩ n):=by
    unfold World.freeze;split
    · exact Fr.refl _ _
    · exact Fr.of_block hb (by simp) (fun c hc=>by simp [Array.getElem?_modify,Ne.symm hc]) rfl rfl rfl
   have e1:(gw.freeze ⟨b,o,s⟩ n).drawn=gw.drawn∧(gw.freeze ⟨b,o,s⟩ n).tape=gw.tape:=by unfold World.freeze;split <;> exact ⟨rfl,rfl⟩
   refine ⟨q,y,w',new,hR.le,hR.rel,hR.wrel,hR.ta,by simp only [Sem.runT];exact hR.run,hfr.trans hR.fr hR.le,hR.ev,by rw [← e1.1];exact hR.drawn,by rw [← e1.2];exact hR.tape,fun τ hτ=>?_⟩;have e2:(gw.retape τ).freeze ⟨b,o,s⟩ n=(gw.freeze ⟨b,o,s⟩ n).retape τ:=by unfold World.freeze;split <;> rfl
   simp only [Sem.runT,e2];exact hR.retape τ (by rw [e1.1,e1.2];exact hτ)
 | @frozen p b b' o s k k' hb _ ih =>
   intro gw w gw' a es es1 es' hw ht hr;simp only [Sem.runT] at hr;obtain ⟨q,y,w',new,hR⟩:=ih _ _ _ es' hw ht hr;exact ⟨q,y,w',new,hR.le,hR.rel,hR.wrel,hR.ta,by simp only [Sem.runT,← hw.frozen hb];exact hR.run,hR.fr,hR.ev,hR.drawn,hR.tape,fun τ hτ=>hR.retape τ hτ⟩
 | @getObj p r r' k k' hb _ ih =>
   intro gw w gw' a es es1 es' hw ht hr;obtain ⟨x,x',h1,h2,hx⟩:=hw.at_ r r' hb;simp only [Sem.runT,h1] at hr;have key:(∀ o,x=o→∀ c e fz,o≠.cells c e fz)→x.isChan=false→x'.isChan=false→(∀ w₁:World,w₁.heap[r]? = some x→∀ es,(Sem.getObj r k).runT P w₁ es=(k x).runT P w₁ (es.push ⟨.obj r,false,x.isChan⟩))→(∀ w₁:World,w₁.heap[r']? = some x'→∀ es,(Sem.getObj r' k').runT P' w₁ es=(k' x').runT P' w₁ (es.push ⟨.obj r',false,x'.isChan⟩)) →
    (k x).runT P gw (es.push ⟨.obj r,false,x.isChan⟩)=(.ok a gw',es1)→∃ q b₁ w' new,Ran P P' R p (.getObj r k) (.getObj r' k') gw w gw' a es es1 es' q b₁ w' new:=by
    intro _ hc1 hc2 e1 e2 hr;obtain ⟨q,y,w',new,hR⟩:=ih x x' hx _ _ (es'.push ⟨.obj r',false,x'.isChan⟩) hw ht hr;refine ⟨q,y,w',#[⟨.obj r',false,x'.isChan⟩]++new,hR.le,hR.rel,hR.wrel,hR.ta, ?_,hR.fr, ?_,hR.drawn,hR.tape,fun τ hτ=>?_⟩
    · rw [e2 w h2,hR.run];simp
    · intro e he
      rcases Array.mem_append.1 he with he | he
      · have e1:e=⟨.obj r',false,x'.isChan⟩:=by simpa using he
        subst e1;exact .inr (.inl ⟨_,r,rfl,hc2,hR.le.r _ _ hb⟩)
      · exact hR.ev e he
    · rw [e1 (gw.retape τ) h1]
      exact hR.retape τ hτ
   cases hx with
   | cells=>simp at hr
   | number l ha=>exact key (by rintro _ rfl _ _ _ h;cases h) rfl rfl (fun w₁ h es=>by simp only [Sem.runT,h]) (fun w₁ h es=>by simp only [Sem.runT,h]) hr
   | loop hl=>exact key (by rintro _ rfl _ _ _ h;cases h) rfl rfl (fun w₁ h es=>by simp only [Sem.runT,h]) (fun w₁ h es=>by simp only [Sem.runT,h]) hr
   | deferred0=>exact key (by rintro _ rfl _ _ _ h;cases h) rfl rfl (fun w₁ h es=>by simp only [Sem.runT,h]) (fun w₁ h es=>by simp only [Sem.runT,h]) hr
   | deferred1=>exact key (by rintro _ rfl _ _ _ h;cases h) rfl rfl (fun w₁ h es=>by simp only [Sem.runT,h]) (fun w₁ h es=>by simp only [Sem.runT,h]) hr
 | @setObj p r r' o o' k k' hb ho _ ih =>
   intro gw w gw' a es es1 es' hw ht hr;obtain ⟨x,x',h1,h2,hx⟩:=hw.at_ r r' hb;have hch:o'.isChan=false:=by cases ho <;> rfl
   have key:(∀ w₁:World,w₁.heap[r]? = some x→∀ es,(Sem.setObj r o k).runT P w₁ es=k.runT P { w₁ with heap:=w₁.heap.setIfInBounds r o } (es.push ⟨.obj r,true,o.isChan⟩))→(∀ w₁:World,w₁.heap[r']? = some x'→∀ es,(Sem.setObj r' o' k').runT P' w₁ es=k'.runT P' { w₁ with heap:=w₁.heap.setIfInBounds r' o' } (es.push ⟨.obj r',true,o'.isChan⟩)) →
    ∃ q b₁ w' new,Ran P P' R p (.setObj r o k) (.setObj r' o' k') gw w gw' a es es1 es' q b₁ w' new:=by
    intro e1 e2;rw [e1 gw h1] at hr;obtain ⟨q,y,w',new,hR⟩:=ih _ _ (es'.push ⟨.obj r',true,o'.isChan⟩) (hw.setObj hb ho) (show TA { gw with heap:=gw.heap.setIfInBounds r o } { w with heap:=w.heap.setIfInBounds r' o' } from ht) hr;have hfr:Fr p p w { w with heap:=w.heap.setIfInBounds r' o' }:=Fr.of_block hb (by simp) (fun c hc=>by simp [Array.getElem?_setIfInBounds_ne (Ne.symm hc)]) rfl rfl rfl;refine ⟨q,y,w',#[⟨.obj r',true,o'.isChan⟩]++new,hR.le,hR.rel,hR.wrel,hR.ta, ?_,hfr.trans hR.fr hR.le, ?_,hR.drawn,hR.tape,fun τ hτ=>?_⟩
    · rw [e2 w h2,hR.run];simp
    · intro e he
      rcases Array.mem_append.1 he with he | he
      · have e1:e=⟨.obj r',true,o'.isChan⟩:=by simpa using he
        subst e1;exact .inr (.inl ⟨_,r,rfl,hch,hR.le.r _ _ hb⟩)
      · exact hR.ev e he
    · rw [e1 (gw.retape τ) h1]
      exact hR.retape τ hτ
   cases hx with
   | cells=>simp [Sem.runT,h1] at hr
   | number l ha=>exact key (fun w₁ h es=>by simp only [Sem.runT,h]) (fun w₁ h es=>by simp only [Sem.runT,h])
   | loop hl=>exact key (fun w₁ h es=>by simp only [Sem.runT,h]) (fun w₁ h es=>by simp only [Sem.runT,h])
   | deferred0=>exact key (fun w₁ h es=>by simp only [Sem.runT,h]) (fun w₁ h es=>by simp only [Sem.runT,h])
   | deferred1=>exact key (fun w₁ h es=>by simp only [Sem.runT,h]) (fun w₁ h es=>by simp only [Sem.runT,h])
 | @choose p qn k k' _ ih =>
   intro gw w gw' a es es1 es' hw ht hr;simp only [Sem.runT] at hr;cases hf:qn.forced with
   | true =>
     rw [hf] at hr;simp only [if_true] at hr;obtain ⟨q,y,w',new,hR⟩:=ih 0 _ _ es' hw ht hr;exact ⟨q,y,w',new,hR.le,hR.rel,hR.wrel,hR.ta,by simp only [Sem.runT,hf,if_true];exact hR.run,hR.fr,hR.ev,hR.drawn,hR.tape,fun τ hτ=>by simp only [Sem.runT,hf,if_true];exact hR.retape τ hτ⟩
   | false =>
     rw [hf] at hr;simp only [Bool.false_eq_true,if_false] at hr;have e0:gw.tape gw.drawn=w.tape w.drawn:=by simpa using ht 0
     obtain ⟨q,y,w',new,hR⟩:=ih _ _ _ es' (hw.of_heap (gw₁:={ gw with drawn:=gw.drawn+1 }) (w₁:={ w with drawn:=w.drawn+1 }) rfl rfl) (fun i=>by have:=ht (i+1);simpa [Nat.add_assoc,Nat.add_comm 1 i] using this) hr;refine ⟨q,y,w',new,hR.le,hR.rel,hR.wrel,hR.ta,by simp only [Sem.runT,hf,Bool.false_eq_true,if_false,← e0];exact hR.run,(show Fr p p w { w with drawn:=w.drawn+1 } from ⟨Nat.le_refl _,fun _ _ _=>rfl,fun c h1 h2=>absurd h2 (Nat.not_lt.2 h1),fun _ _ h=>.inl h,rfl,rfl,rfl⟩).trans hR.fr hR.le,hR.ev,Nat.le_of_succ_le hR.drawn,hR.tape,fun τ hτ=>?_⟩;have hd:gw.drawn+1≤gw'.drawn:=hR.drawn;simp only [Sem.runT,hf,Bool.false_eq_true,if_false];have e1:(gw.retape τ).tape (gw.retape τ).drawn=gw.tape gw.drawn:=hτ gw.drawn (Nat.le_refl _) (by omega);rw [e1];exact hR.retape τ (fun i h1 h2=>hτ i (by simp at h1;omega) h2)
 | program _ ih =>
   intro gw w gw' a es es1 es' hw ht hr;simp only [Sem.runT] at hr;obtain ⟨q,y,w',new,hR⟩:=ih _ _ es' hw ht hr;exact ⟨q,y,w',new,hR.le,hR.rel,hR.wrel,hR.ta,by simp only [Sem.runT];exact hR.run,hR.fr,hR.ev,hR.drawn,hR.tape,fun τ hτ=>hR.retape τ hτ⟩
 | room _ ih =>
   intro gw w gw' a es es1 es' hw ht hr;simp only [Sem.runT] at hr;obtain ⟨q,y,w',new,hR⟩:=ih _ _ (es'.push ⟨.mark .noRoom,false,true⟩) hw ht hr;refine ⟨q,y,w',#[⟨.mark .noRoom,false,true⟩]++new,hR.le,hR.rel,hR.wrel,hR.ta, ?_,hR.fr, ?_,hR.drawn,hR.tape,fun τ hτ=>hR.retape τ hτ⟩
   · simp only [Sem.runT,hR.run];simp
   · intro e he
     rcases Array.mem_append.1 he with he | he
     · have e1:e=⟨.mark .noRoom,false,true⟩:=by simpa using he
       subst e1;exact .inr (.inr rfl)
     · exact hR.ev e he
 | dead hd =>
   intro gw w gw' a es es1 es' _ _ hr;obtain ⟨x,w',es2,h1,_⟩:=hd gw es;rw [h1] at hr;simp at hr
theorem SRel.halts {p:Inj} {s:Sem α} {s':Sem β} (h:SRel P P' R p s s'):∀ {gw w gw':World} {x:Halt} (es es1:Array Event),WRel p gw w→TA gw w→s.runT P gw es=(.halt x gw',es1) →
  DeadHalt x∧∃ q w',p.le q∧WRel q gw' w':=by
 induction h with
 | pure h=>intro gw w gw' x es es1 hw ht hr;simp [Sem.runT] at hr
 | @load p m b b' o s k k' hb _ ih =>
   intro gw w gw' x es es1 hw ht hr;simp only [Sem.runT] at hr;cases hc:gw.cell? ⟨b,o,s⟩ with
   | none =>
     obtain ⟨y,y',h1,_,hx⟩:=hw.at_ b b' hb;rw [hc] at hr;simp only [World.farLoad,h1] at hr;cases hx <;> simp only [World.noCell,h1,Prod.mk.injEq,Result.halt.injEq] at hr <;> obtain ⟨⟨rfl,rfl⟩,_⟩:=hr <;> exact ⟨trivial,p,w,Inj.le_refl _,hw⟩
   | some v =>
     rw [hc] at hr;obtain ⟨v',hv1,hv2⟩:=hw.cell hb o s hc;exact ih v v' hv2 _ _ hw ht hr
 | @store p m b b' o s v v' k k' hb hv _ ih =>
   intro gw w gw' x es es1 hw ht hr;by_cases hagg:(∃ c,v=.agg c)∨∃ c,v=.tuple c
   · rcases hagg with ⟨c,rfl⟩ | ⟨c,rfl⟩ <;> simp only [Sem.runT,Prod.mk.injEq,Result.halt.injEq] at hr <;> obtain ⟨⟨rfl,rfl⟩,_⟩:=hr <;> exact ⟨trivial,p,w,Inj.le_refl _,hw⟩
   · have e:∀ w₁:World,(Sem.store m ⟨b,o,s⟩ v k).runT P w₁ es=match w₁.cell? ⟨b,o,s⟩ with
      | some _ =>
        if w₁.frozen? ⟨b,o,s⟩ then (.halt (.unsupported (.unsafePointer "a write to bytes that a string shares")) w₁,es)
        else k.runT P (w₁.setCell ⟨b,o,s⟩ v) (es.push ⟨.cell ⟨b,o,s⟩,true,m==.atomic⟩)
      | none => match w₁.farStore P ⟨b, o, s⟩ v (m == .atomic) with
        | .ok (w,touched)=>k.runT P w (es++touched.toArray.map (⟨.cell ·,true,m==.atomic⟩))
        | .error h=>(.halt h w₁,es):=by
      intro w₁;cases v <;> first | rfl | exact absurd (.inl ⟨_,rfl⟩) hagg | exact absurd (.inr ⟨_,rfl⟩) hagg
     rw [e] at hr;cases hc:gw.cell? ⟨b,o,s⟩ with
     | none =>
       obtain ⟨y,y',h1,_,hx⟩:=hw.at_ b b' hb;rw [hc] at hr;simp only [World.farStore,h1] at hr;cases hx <;> simp only [World.noCell,h1,Prod.mk.injEq,Result.halt.injEq] at hr <;> obtain ⟨⟨rfl,rfl⟩,_⟩:=hr <;> exact ⟨trivial,p,w,Inj.le_refl _,hw⟩
     | some c =>
       rw [hc] at hr;simp only at hr;split at hr
       · simp only [Prod.mk.injEq,Result.halt.injEq] at hr
         obtain ⟨⟨rfl,rfl⟩,_⟩:=hr;exact ⟨fun g=>by simp,p,w,Inj.le_refl _,hw⟩
       · exact ih _ _ (hw.setCell hb o s hv) (show TA (gw.setCell ⟨b,o,s⟩ v) (w.setCell ⟨b',o,s⟩ v') from ht) hr
 | @new p o o' k k' ho _ ih =>
   intro gw w gw' x es es1 hw ht hr;simp only [Sem.runT] at hr;obtain ⟨h1,q,w',h2,h3⟩:=ih gw.heap.size w.heap.size hw.fresh.1 hw.fresh.2.1 hw.fresh.2.2 _ _ (hw.push ho) ht hr;exact ⟨h1,q,w',Inj.le_trans (Inj.le_ext _ _ _ _ _ _) h2,h3⟩
 | shape hb _ ih=>intro gw w gw' x es es1 hw ht hr;simp only [Sem.runT] at hr;exact ih _ _ _ hw ht hr
 | @freeze p b b' o s n k k' hb _ ih =>
   intro gw w gw' x es es1 hw ht hr;simp only [Sem.runT] at hr;exact ih _ _ (hw.freeze hb o s n) (show TA (gw.freeze ⟨b,o,s⟩ n) (w.freeze ⟨b',o,s⟩ n) by unfold World.freeze;split <;> exact ht) hr
 | frozen o s hb _ ih=>intro gw w gw' x es es1 hw ht hr;simp only [Sem.runT] at hr;exact ih _ _ _ hw ht hr
 | @getObj p r r' k k' hb _ ih =>
   intro gw w gw' x es es1 hw ht hr;obtain ⟨y,y',h1,h2,hx⟩:=hw.at_ r r' hb;simp only [Sem.runT,h1] at hr;have hx':=hx;cases hx with
   | cells =>
     simp only [Prod.mk.injEq,Result.halt.injEq] at hr;obtain ⟨⟨rfl,rfl⟩,_⟩:=hr;exact ⟨trivial,p,w,Inj.le_refl _,hw⟩
   | _=>exact ih _ _ hx' _ _ hw ht hr
 | @setObj p r r' o o' k k' hb ho _ ih =>
   intro gw w gw' x es es1 hw ht hr;obtain ⟨y,y',h1,h2,hx⟩:=hw.at_ r r' hb;simp only [Sem.runT,h1] at hr;cases hx with
   | cells =>
     simp only [Prod.mk.injEq,Result.halt.injEq] at hr;obtain ⟨⟨rfl,rfl⟩,_⟩:=hr;exact ⟨trivial,p,w,Inj.le_refl _,hw⟩
   | _=>exact ih _ _ (hw.setObj hb ho) (show TA { gw with heap:=gw.heap.setIfInBounds r o } { w with heap:=w.heap.setIfInBounds r' o' } from ht) hr
 | @choose p qn k k' _ ih =>
   intro gw w gw' x es es1 hw ht hr;simp only [Sem.runT] at hr;split at hr
   · exact ih _ _ _ hw ht hr
   · exact ih _ _ _ (hw.of_heap (gw₁:={ gw with drawn:=gw.drawn+1 }) (w₁:={ w with drawn:=w.drawn+1 }) rfl rfl) (fun i=>by have:=ht (i+1);simpa [Nat.add_assoc,Nat.add_comm 1 i] using this) hr
 | program _ ih=>intro gw w gw' x es es1 hw ht hr;simp only [Sem.runT] at hr;exact ih _ _ hw ht hr
 | room _ ih=>intro gw w gw' x es es1 hw ht hr;simp only [Sem.runT] at hr;exact ih _ _ hw ht hr
 | @dead p _ _ hd =>
   intro gw w gw' x es es1 hw ht hr;obtain ⟨y,w1,es2,h1,h2,h3⟩:=hd gw es;rw [h1] at hr;simp only [Prod.mk.injEq,Result.halt.injEq] at hr;obtain ⟨⟨rfl,rfl⟩,_⟩:=hr;exact ⟨h2,p,w,Inj.le_refl _,hw.of_heap h3 rfl⟩
end
open Go
def wf (Q:Program) (F:Array Func):Program:={ Q with funcs:=F }
def EqR {α:Type}:Inj→α→α→Prop:=fun _ a b=>a=b
def Closed (v:Value):Prop:=∀ p,VRel p v v
def ZeroOk (Q:Program):Prop:=∀ (t:TypeId) (i:TypeInfo) (v:Value),t<Q.types.size→Q.info? t=some i→i.zero=some v→Closed v
def TyOk (Q:Program) (t:TypeId):Prop:=∀ e,Q.underlying t=some (.slice e)→e<Q.types.size
theorem AdR.add {p:Inj} {a a':Addr} (h:AdR p a a') (n:Nat):AdR p (a.add n) (a'.add n):=by
 unfold Addr.add;split
 · exact h
 · exact ⟨h.block,by simp [h.off],rfl⟩
theorem AdR.ptr {p:Inj} {a a':Addr} (h:AdR p a a'):VRel p (.pointer (some a)) (.pointer (some a')):=by
 obtain ⟨b,o,s⟩:=a;obtain ⟨b',o',s'⟩:=a';obtain ⟨h1,rfl,rfl⟩:=h;exact .ptr _ _ h1
theorem AdR.slice {p:Inj} {a a':Addr} (h:AdR p a a') (n c:Nat):VRel p (.slice (some a) n c) (.slice (some a') n c):=by
 obtain ⟨b,o,s⟩:=a;obtain ⟨b',o',s'⟩:=a';obtain ⟨h1,rfl,rfl⟩:=h;exact .slice _ _ _ _ h1
section
variable {Q:Program} {F:Array Func} {p:Inj}
theorem s_prog {α β:Type} {R:Inj→α→β→Prop} {k:Program→Sem α} {k':Program→Sem β} (h:SRel Q (wf Q F) R p (k Q) (k' (wf Q F))):SRel Q (wf Q F) R p (program >>= k) (program >>= k'):=.program h
theorem s_typeInfo (t:TypeId):SRel Q (wf Q F) (fun _ a b=>a=b∧Q.info? t=some a) p (typeInfo t) (typeInfo t):=by
 refine s_prog ?_;show SRel _ _ _ _ (match Q.info? t with | some i=>Pure.pure i | none=>stuck "no such type") (match Q.info? t with | some i=>Pure.pure i | none=>stuck "no such type")
 cases h:Q.info? t with
 | none=>exact .stuck _
 | some i=>exact .pure ⟨rfl,rfl⟩
theorem s_underlying (t:TypeId):SRel Q (wf Q F) (fun _ a b=>a=b∧Q.underlying t=some a) p (underlying t) (underlying t):=by
 refine s_prog ?_;show SRel _ _ _ _ (match Q.underlying t with | some i=>Pure.pure i | none=>stuck "no such type") (match Q.underlying t with | some i=>Pure.pure i | none=>stuck "no such type")
 cases h:Q.underlying t with
 | none=>exact .stuck _
 | some i=>exact .pure ⟨rfl,rfl⟩
theorem s_zeroValue (hz:ZeroOk Q) (t:TypeId) (ht:t<Q.types.size):SRel Q (wf Q F) (fun _ a b=>a=b∧Closed a) p (zeroValue t) (zeroValue t):=by
 refine SRel.bind (s_typeInfo t) ?_;rintro q _ i _ ⟨rfl,hi⟩;cases h:i.zero with
 | none=>exact .unsupported _ (by simp)
 | some v=>exact .pure ⟨rfl,hz t i v ht hi h⟩
theorem s_sizeOf (t:TypeId):SRel Q (wf Q F) EqR p (sizeOf t) (sizeOf t):=by
 refine SRel.bind (s_typeInfo t) ?_;rintro q _ i _ ⟨rfl,hi⟩;exact .pure rfl
theorem s_isAgg (t:TypeId):SRel Q (wf Q F) EqR p (isAgg t) (isAgg t):=by
 refine SRel.bind (s_underlying t) ?_;rintro q _ i _ ⟨rfl,hi⟩;cases i <;> exact .pure rfl
theorem s_load {a a':Addr} (h:AdR p a a') (m:Mode):SRel Q (wf Q F) VRel p (load a m) (load a' m):=by
 obtain ⟨b,o,s⟩:=a;obtain ⟨b',o',s'⟩:=a';obtain ⟨h1,rfl,rfl⟩:=h;exact .load _ _ _ h1 fun v v' hv=>.pure hv
theorem s_store {a a':Addr} (h:AdR p a a') {v v':Value} (hv:VRel p v v') (m:Mode):SRel Q (wf Q F) EqR p (store a v m) (store a' v' m):=by
 obtain ⟨b,o,s⟩:=a;obtain ⟨b',o',s'⟩:=a';obtain ⟨h1,rfl,rfl⟩:=h;exact .store _ _ _ h1 hv (.pure rfl)
theorem s_shape {r r':Nat} (h:p.r r r'):SRel Q (wf Q F) EqR p (shape r) (shape r'):=.shape h fun _=>.pure rfl
theorem s_choose (q:Question):SRel Q (wf Q F) EqR p (choose q) (choose q):=.choose q fun _=>.pure rfl
theorem s_newObj {o o':Obj} (h:ORel p o o'):SRel Q (wf Q F) (fun q r r'=>q.r r r') p (newObj o) (newObj o'):=.new h fun _ _ _ _ _=>.pure (Inj.ext_new _ _ _ _ _ _)
theorem s_getObj {r r':Nat} (h:p.r r r'):SRel Q (wf Q F) ORel p (getObj r) (getObj r'):=.getObj h fun _ _ ho=>.pure ho
theorem s_setObj {r r':Nat} (h:p.r r r') {o o':Obj} (ho:ORel p o o'):SRel Q (wf Q F) EqR p (setObj r o) (setObj r' o'):=.setObj h ho (.pure rfl)
theorem s_askRoom (n:Nat):SRel Q (wf Q F) EqR p (askRoom n) (askRoom n):=by
 unfold askRoom;split
 · exact .room (.pure rfl)
 · exact .pure rfl
theorem s_newRow (e:TypeId) {cs cs':Array Value} (h:ARel p cs cs'):SRel Q (wf Q F) AdR p (newRow e cs) (newRow e cs'):=by
 refine SRel.bind (s_newObj (.cells e (0,0) h)) ?_;intro q _ r r' hr;exact .pure ⟨hr,rfl,rfl⟩
theorem s_newVar (e:TypeId) {v v':Value} (h:VRel p v v'):SRel Q (wf Q F) AdR p (newVar e v) (newVar e v'):=s_newRow e h.cells
theorem s_loadCellsFrom {a a':Addr} (h:AdR p a a'):∀ (n i:Nat) {acc acc':Array Value},ARel p acc acc'→SRel Q (wf Q F) ARel p (loadCellsFrom a i n acc) (loadCellsFrom a' i n acc'):=by
 intro n
 induction n generalizing p with
 | zero=>intro i acc acc' hacc;exact .pure hacc
 | succ n ih =>
   intro i acc acc' hacc;refine SRel.bind (s_load (h.add i) .plain) ?_;intro q hq v v' hv;exact ih (h.mono hq) (i+1) ((hacc.mono hq).push hv)
theorem s_loadCells {a a':Addr} (h:AdR p a a') (n:Nat):SRel Q (wf Q F) ARel p (loadCells a n) (loadCells a' n):=s_loadCellsFrom h n 0 (ARel.empty p)
theorem s_storeCells {a a':Addr} (h:AdR p a a'):∀ (vs vs':List Value) (i:Nat),ARel p vs.toArray vs'.toArray→SRel Q (wf Q F) EqR p (storeCells a vs i) (storeCells a' vs' i):=by
 intro vs
 induction vs generalizing p with
 | nil =>
   intro vs' i hv;have:vs'=[]:=by have:=hv.size;simp at this;exact (List.eq_nil_of_length_eq_zero this.symm)
   subst this;exact .pure rfl
 | cons v vs ih =>
   intro vs' i hv;cases vs' with
   | nil=>have:=hv.size;simp at this
   | cons v' vs' =>
     refine SRel.bind (s_store (h.add i) (hv.get 0 v v' (by simp) (by simp)) .plain) ?_;intro q hq _ _ _;refine ih (h.mono hq) vs' (i+1) ⟨by have:=hv.size;simpa using this,fun j a a' h1 h2=>(hv.get (j+1) a a' (by simpa using h1) (by simpa using h2)).mono hq⟩
theorem s_loadVar (t:TypeId) {a a':Addr} (h:AdR p a a'):SRel Q (wf Q F) VRel p (loadVar t a) (loadVar t a'):=by
 refine SRel.bind (s_isAgg t) ?_;rintro q hq x _ rfl;cases x with
 | true =>
   refine SRel.bind (s_sizeOf t) ?_;rintro q2 hq2 n _ rfl;refine SRel.bind (s_loadCells ((h.mono hq).mono hq2) n) ?_;intro q3 _ cs cs' hcs;exact .pure hcs.agg
 | false=>exact s_load (h.mono hq) .plain
theorem s_storeVar (t:TypeId) {a a':Addr} (h:AdR p a a') {v v':Value} (hv:VRel p v v'):SRel Q (wf Q F) EqR p (storeVar t a v) (storeVar t a' v'):=by
 refine SRel.bind (s_sizeOf t) ?_;rintro q hq n _ rfl;have hc:=(hv.mono hq).cells;by_cases e:v.cells.size≠n
 · have e':v'.cells.size≠n:=by rw [← hc.size];exact e
   rw [if_pos e,if_pos e'];exact .stuck _
 · have e':¬ v'.cells.size≠n:=by rw [← hc.size];exact e
   rw [if_neg e,if_neg e'];exact s_storeCells (h.mono hq) _ _ 0 (by simpa using hc)
theorem s_part (t:TypeId) {cs cs':Array Value} (h:ARel p cs cs') (off:Nat):SRel Q (wf Q F) VRel p (part t cs off) (part t cs' off):=by
 refine SRel.bind (s_isAgg t) ?_;rintro q hq x _ rfl;cases x with
 | true =>
   refine SRel.bind (s_sizeOf t) ?_;rintro q2 hq2 n _ rfl;exact .pure (((h.mono hq).mono hq2).extract _ _).agg
 | false =>
   show SRel _ _ _ _ (match cs[off]? with | some v=>Pure.pure v | none=>stuck "part: no such cell") (match cs'[off]? with | some v=>Pure.pure v | none=>stuck "part: no such cell")
   cases hc:cs[off]? with
   | none=>exact .stuck _
   | some v =>
     obtain ⟨v',h1,h2⟩:=h.some hc;rw [h1];exact .pure (h2.mono hq)
theorem s_runtimePanic {α β:Type} {R:Inj→α→β→Prop} (e:RuntimeError) (he:match e with | .typeAssertion .. | .panicNil=>False | _=>True):SRel Q (wf Q F) R p (runtimePanic e:Sem α) (runtimePanic e:Sem β):=by
 refine s_prog ?_;cases e <;> first | exact .panic _ | exact he.elim
theorem s_boundsPanic {α β:Type} {R:Inj→α→β→Prop} (k:IntKind) (x y:Int) (c:BoundsCode):SRel Q (wf Q F) R p (boundsPanic k x y c:Sem α) (boundsPanic k x y c:Sem β):=by
 unfold boundsPanic;dsimp only;split
 · refine SRel.bind (R:=EqR) ?_ ?_
   · refine SRel.bind (s_choose _) ?_
     rintro q _ a _ rfl;exact .pure rfl
   · rintro q _ a _ rfl
     exact s_runtimePanic (.bounds (IntKind.i64.wrap x) y _ c) trivial
 · exact s_runtimePanic (.bounds (IntKind.i64.wrap x) y _ c) trivial
theorem s_asIntOf {v v':Value} (h:VRel p v v'):SRel Q (wf Q F) EqR p (asIntOf v) (asIntOf v'):=by
 cases h with
 | int k n=>exact .pure rfl
 | ptr=>exact .unsupported _ (by simp)
 | _=>exact .stuck _
theorem s_asInt {v v':Value} (h:VRel p v v'):SRel Q (wf Q F) EqR p (asInt v) (asInt v'):=by
 refine SRel.bind (s_asIntOf h) ?_;rintro q _ a _ rfl;exact .pure rfl
theorem s_asBool {v v':Value} (h:VRel p v v'):SRel Q (wf Q F) EqR p (asBool v) (asBool v'):=by
 cases h with
 | bool b=>exact .pure rfl
 | _=>exact .stuck _
theorem s_asAgg {v v':Value} (h:VRel p v v'):SRel Q (wf Q F) ARel p (asAgg v) (asAgg v'):=by
 cases h with
 | agg h1 h2=>exact .pure ⟨h1,h2⟩
 | _=>exact .stuck _
theorem s_asAddr {v v':Value} (h:VRel p v v'):SRel Q (wf Q F) AdR p (asAddr v) (asAddr v'):=by
 cases h with
 | ptr o s hb=>exact .pure ⟨hb,rfl,rfl⟩
 | ptr0=>exact s_runtimePanic .nilDeref (by trivial)
 | _=>exact .stuck _
theorem s_sureAddr {v v':Value} (h:VRel p v v'):SRel Q (wf Q F) AdR p (Instr.sureAddr v) (Instr.sureAddr v'):=by
 cases h with
 | ptr o s hb=>exact .pure ⟨hb,rfl,rfl⟩
 | _=>exact .stuck _
theorem s_viewAt {r r':Nat} (h:p.r r r'):SRel Q (wf Q F) (fun _ a b=>a=none∧b=none) p (viewAt r) (viewAt r'):=by
 refine SRel.bind (s_shape h) ?_;rintro q hq a _ rfl;cases a with
 | some x=>exact .pure ⟨rfl,rfl⟩
 | none =>
   refine SRel.bind (s_getObj (hq.r _ _ h)) ?_;intro q2 _ o o' ho;cases ho <;> exact .pure ⟨rfl,rfl⟩
theorem s_numberAt {r r':Nat} (h:p.r r r'):SRel Q (wf Q F) (fun q a b=>(a=none∧b=none)∨∃ x x' l,a=some (x,l)∧b=some (x',l)∧AdR q x x') p (numberAt r) (numberAt r'):=by
 refine SRel.bind (s_shape h) ?_;rintro q hq a _ rfl;cases a with
 | some x=>exact .pure (.inl ⟨rfl,rfl⟩)
 | none =>
   refine SRel.bind (s_getObj (hq.r _ _ h)) ?_;intro q2 _ o o' ho;cases ho
   case number l ha=>exact .pure (.inr ⟨_,_,l,rfl,rfl,ha⟩)
   all_goals exact .pure (.inl ⟨rfl,rfl⟩)
theorem s_behindNumber {a a':Addr} (h:AdR p a a'):SRel Q (wf Q F) (fun q a b=>AdR q a.1 b.1∧a.2=b.2) p (behindNumber a) (behindNumber a'):=by
 refine SRel.bind (s_numberAt h.block) ?_;rintro q hq x x' (⟨rfl,rfl⟩ | ⟨y,y',l,rfl,rfl,hy⟩)
 · exact .pure ⟨h.mono hq,rfl⟩
 · exact .pure ⟨hy,rfl⟩
theorem s_asNumber {a a':Addr} (h:AdR p a a') (l:Bool):SRel Q (wf Q F) VRel p (asNumber a l) (asNumber a' l):=by
 refine SRel.bind (s_newObj (.number l h)) ?_;intro q _ r r' hr;exact .pure (.ptr 0 none hr)
theorem s_noView {a a':Addr} (h:AdR p a a'):SRel Q (wf Q F) EqR p (noView a) (noView a'):=by
 refine SRel.bind (s_viewAt h.block) ?_;rintro q _ _ _ ⟨rfl,rfl⟩;exact .pure rfl
theorem byteOfCell_wf (Q:Program) (F:Array Func):∀ (d:Nat) (t:TypeId) (off:Nat),byteOfCell (wf Q F) d t off=byteOfCell Q d t off
 | 0,_,_=>rfl
 | d + 1, t, off => by
   unfold byteOfCell;simp only [byteOfCell_wf Q F d];rfl
theorem s_byteOf {a a':Addr} (h:AdR p a a'):SRel Q (wf Q F) EqR p (byteOf a) (byteOf a'):=by
 obtain ⟨b,o,s⟩:=a;obtain ⟨b',o',s'⟩:=a';obtain ⟨h1,e1,e2⟩:=h;simp only at h1 e1 e2;subst e1;subst e2;cases s with
 | some s=>exact .pure rfl
 | none =>
   refine s_prog ?_;refine SRel.bind (s_noView ⟨h1,rfl,rfl⟩) ?_;rintro q hq _ _ _;refine SRel.bind (s_shape (hq.r _ _ h1)) ?_;rintro q2 _ x _ rfl;cases x with
   | none=>exact .stuck _
   | some x =>
     obtain ⟨e,n⟩:=x;simp only [byteOfCell_wf];by_cases h0:Q.cellsOf e=0
     · have h0':(wf Q F).cellsOf e=0:=h0
       rw [if_pos h0,if_pos h0'];exact .pure rfl
     · have h0':¬ (wf Q F).cellsOf e=0:=h0
       rw [if_neg h0,if_neg h0'];generalize hb:byteOfCell Q Q.depth e (o % Q.cellsOf e)=ob;have hb':byteOfCell Q (wf Q F).depth e (o % (wf Q F).cellsOf e)=ob:=hb;rw [hb'];cases ob with
       | none=>exact .stuck _
       | some b=>exact .pure rfl
theorem s_partAt {a a':Addr} (h:AdR p a a') (c n:Nat):SRel Q (wf Q F) AdR p (partAt a c n) (partAt a' c n):=by
 refine SRel.bind (s_byteOf h) ?_;rintro q hq x _ rfl;have hp:AdR q { block:=a.block,off:=a.off+c } { block:=a'.block,off:=a'.off+c }:=⟨hq.r _ _ h.block,by simp [h.off],rfl⟩;refine SRel.bind (s_byteOf hp) ?_;rintro q2 hq2 y _ rfl;show SRel _ _ _ _ (Pure.pure (if y=x+n then _ else _)) (Pure.pure (if y=x+n then _ else _))
 by_cases e:y=x+n
 · rw [if_pos e,if_pos e];exact .pure (hp.mono hq2)
 · rw [if_neg e,if_neg e];exact .pure ⟨hq2.r _ _ hp.block,hp.off,rfl⟩
theorem s_fieldPlace {a a':Addr} (h:AdR p a a') (f:Field):SRel Q (wf Q F) AdR p (fieldPlace a f) (fieldPlace a' f):=by
 refine SRel.bind (s_sizeOf f.type) ?_;rintro q hq n _ rfl;by_cases e:n=0
 · rw [if_pos e,if_pos e];exact s_partAt (h.mono hq) _ _
 · rw [if_neg e,if_neg e];exact .pure ((h.mono hq).add _)
def OpdOk (G:Nat→Prop):Operand→Prop
 | .tmp _=>True
 | .const v=>Closed v
 | .global g=>G g
 | .func _=>True
def ERel (G:Nat→Prop) (p:Inj) (f f':Operand→Value):Prop:=∀ x,OpdOk G x→VRel p (f x) (f' x)
theorem ARel.map_of {α:Type} {f f':α→Value} (l:Array α) (h:∀ x∈l,VRel p (f x) (f' x)):ARel p (l.map f) (l.map f'):=by
 refine ⟨by simp,fun k a a' h1 h2=>?_⟩;rw [Array.getElem?_map] at h1 h2;cases hk:l[k]? with
 | none=>rw [hk] at h1;cases h1
 | some x=>rw [hk] at h1 h2;cases h1;cases h2;exact h x (Array.mem_of_getElem? hk)
end
open Go
section
variable {Q:Program} {F:Array Func} {p:Inj}
theorem s_map {α β α' β':Type} {R:Inj→α→β→Prop} {T:Inj→α'→β'→Prop} {s:Sem α} {s':Sem β} {f:α→α'} {f':β→β'} (h:SRel Q (wf Q F) R p s s') (hf:∀ q a b,R q a b→T q (f a) (f' b)):SRel Q (wf Q F) T p (f <$> s) (f' <$> s') :=
 SRel.bind h fun q _ a b hab=>.pure (hf q a b hab)
theorem s_listMapM {α β:Type} (f:α→Sem β) (h:∀ q x,SRel Q (wf Q F) EqR q (f x) (f x)):∀ (l:List α) (p:Inj),SRel Q (wf Q F) EqR p (l.mapM f) (l.mapM f):=by
 intro l
 induction l with
 | nil=>intro p;simp only [List.mapM_nil];exact .pure rfl
 | cons a l ih =>
   intro p;simp only [List.mapM_cons];refine SRel.bind (h p a) ?_;rintro q _ b _ rfl;refine SRel.bind (ih q) ?_;rintro q2 _ bs _ rfl;exact .pure rfl
theorem s_mapM {α β:Type} (f:α→Sem β) (h:∀ q x,SRel Q (wf Q F) EqR q (f x) (f x)) (l:Array α):SRel Q (wf Q F) EqR p (l.mapM f) (l.mapM f):=by
 rw [Array.mapM_eq_mapM_toList];refine s_map (s_listMapM f h l.toList p) ?_;rintro q a _ rfl;rfl
theorem Closed.cells {v:Value} (h:Closed v) (p:Inj):ARel p v.cells v.cells:=(h p).cells
theorem ARel.range_map {z:Array Value} (h:∀ p,ARel p z z) (p:Inj) (n:Nat):ARel p ((Array.range n).map (z[· % z.size]!)) ((Array.range n).map (z[· % z.size]!)):=by
 refine ARel.map_of _ fun x _=>?_
 by_cases hx:x % z.size<z.size
 · rw [getElem!_pos z _ hx]
   exact (h p).get _ _ _ (Array.getElem?_eq_getElem hx) (Array.getElem?_eq_getElem hx)
 · rw [getElem!_neg z _ hx]
   exact .bool _
structure PL (p:Inj) (l l':List (Nat × Value)):Prop where
 size:l.length=l'.length
 get:∀ (i:Nat) (x x':Nat × Value),l[i]? = some x→l'[i]? = some x'→x.1=x'.1∧VRel p x.2 x'.2
theorem PL.mono {p q:Inj} (h:p.le q) {l l':List (Nat × Value)} (hl:PL p l l'):PL q l l':=⟨hl.size,fun i x x' h1 h2=>⟨(hl.get i x x' h1 h2).1,(hl.get i x x' h1 h2).2.mono h⟩⟩
theorem foldl_put {off:Nat}:∀ (l l':List Value) (k:Nat) {cs cs':Array Value},ARel p l.toArray l'.toArray→ARel p cs cs' →
  ARel p ((l.zipIdx k).foldl (fun cs (x:Value × Nat)=>cs.setIfInBounds (off+x.2) x.1) cs) ((l'.zipIdx k).foldl (fun cs (x:Value × Nat)=>cs.setIfInBounds (off+x.2) x.1) cs'):=by
 intro l
 induction l with
 | nil =>
   intro l' k cs cs' hl hc;have:l'=[]:=by have:=hl.size;simp at this;exact (List.eq_nil_of_length_eq_zero this.symm)
   subst this;exact hc
 | cons v l ih =>
   intro l' k cs cs' hl hc;cases l' with
   | nil=>have:=hl.size;simp at this
   | cons v' l' =>
     simp only [List.zipIdx_cons,List.foldl_cons];exact ih l' (k+1) ⟨by have:=hl.size;simpa using this,fun j a a' h1 h2=>hl.get (j+1) a a' (by simpa using h1) (by simpa using h2)⟩ (hc.set (hl.get 0 v v' (by simp) (by simp)) _)
theorem fill_rel (place:Nat→Option (Nat × Nat)):∀ (l l':List (Nat × Value)) {cs cs':Array Value},PL p l l'→ARel p cs cs' →
  Instr.fill place cs l=none∨∃ r r',Instr.fill place cs l=some r∧Instr.fill place cs' l'=some r'∧ARel p r r':=by
 intro l
 induction l with
 | nil =>
   intro l' cs cs' hl hc;have:l'=[]:=List.eq_nil_of_length_eq_zero hl.size.symm;subst this;exact .inr ⟨cs,cs',rfl,rfl,hc⟩
 | cons x l ih =>
   intro l' cs cs' hl hc;cases l' with
   | nil=>have:=hl.size;simp at this
   | cons x' l' =>
     obtain ⟨i,v⟩:=x;obtain ⟨i',v'⟩:=x';obtain ⟨e,hv⟩:=hl.get 0 _ _ rfl rfl;simp only at e hv;subst e;have ht:PL p l l':=⟨by have:=hl.size;simpa using this,fun j a a' h1 h2=>hl.get (j+1) a a' (by simpa using h1) (by simpa using h2)⟩;simp only [Instr.fill];cases place i with
     | none=>exact .inl rfl
     | some y =>
       obtain ⟨off,size⟩:=y;simp only;have hs:=hv.cells.size;rw [← hs,← hc.size];split
       · exact .inl rfl
       · refine ih l' ht ?_
         have:=foldl_put (p:=p) (off:=off) v.cells.toList v'.cells.toList 0 (by simpa using hv.cells) hc;rw [← Array.foldl_toList,← Array.foldl_toList,Array.toList_zipIdx,Array.toList_zipIdx];exact this
theorem s_build (hz:ZeroOk Q) (t:TypeId) (ht:t<Q.types.size) {l l':Array (Nat × Value)} (h:PL p l.toList l'.toList):SRel Q (wf Q F) VRel p (Instr.build t l) (Instr.build t l'):=by
 refine SRel.bind (s_zeroValue hz t ht) ?_;rintro q hq z _ ⟨rfl,hc⟩;refine SRel.bind (s_underlying t) ?_;rintro q2 hq2 d _ ⟨rfl,hd⟩;cases d
 case struct fields =>
  refine SRel.bind (s_mapM _ (fun q x=>?_) fields) ?_
  · refine SRel.bind (s_sizeOf _) ?_
    rintro q2 _ n _ rfl;exact .pure rfl
  · rintro q3 hq3 places _ rfl
    rcases fill_rel (places[·]?) l.toList l'.toList (((h.mono hq).mono hq2).mono hq3) (hc.cells q3) with e | ⟨r,r',e1,e2,h3⟩
    · simp only [e];exact .stuck _
    · simp only [e1,e2];exact .pure h3.agg
 case array n elem =>
  refine SRel.bind (s_sizeOf elem) ?_;rintro q3 hq3 size _ rfl;rcases fill_rel (fun i=>some (i*size,size)) l.toList l'.toList (((h.mono hq).mono hq2).mono hq3) (hc.cells q3) with e | ⟨r,r',e1,e2,h3⟩
  · simp only [e];exact .stuck _
  · simp only [e1,e2];exact .pure h3.agg
 all_goals exact .stuck _
theorem s_buildSlice (hz:ZeroOk Q) (t:TypeId) (ht:TyOk Q t) (len:Nat) {l l':Array (Nat × Value)} (h:PL p l.toList l'.toList):SRel Q (wf Q F) VRel p (Instr.buildSlice t len l) (Instr.buildSlice t len l'):=by
 refine SRel.bind (s_underlying t) ?_;rintro q hq d _ ⟨rfl,hd⟩;cases d
 case slice elem =>
  refine SRel.bind (s_sizeOf elem) ?_;rintro q2 hq2 size _ rfl;by_cases hb:len*size > 2 ^ 24
  · rw [if_pos hb,if_pos hb];exact .unsupported _ (by simp)
  · rw [if_neg hb,if_neg hb]
    have key:∀ q3,q2.le q3→∀ z:Array Value,(∀ p,ARel p z z)→SRel Q (wf Q F) VRel q3
     (match Instr.fill (fun i=>some (i*size,size)) ((Array.range (len*size)).map (z[· % z.size]!)) l.toList with
       | some cells=>do let a ← newRow elem cells;Pure.pure (Value.slice (some a) len len)
       | _=>stuck "buildSlice: a part of the wrong size")
     (match Instr.fill (fun i=>some (i*size,size)) ((Array.range (len*size)).map (z[· % z.size]!)) l'.toList with
       | some cells=>do let a ← newRow elem cells;Pure.pure (Value.slice (some a) len len)
       | _=>stuck "buildSlice: a part of the wrong size"):=by
     intro q3 hq3 z hc;rcases fill_rel (fun i=>some (i*size,size)) l.toList l'.toList (((h.mono hq).mono hq2).mono hq3) (ARel.range_map hc q3 (len*size)) with e | ⟨r,r',e1,e2,h3⟩
     · simp only [e];exact .stuck _
     · simp only [e1,e2]
       refine SRel.bind (s_newRow elem h3) ?_;intro q4 _ a a' ha;exact .pure (ha.slice _ _)
    dsimp only;by_cases h0:len*size=0
    · rw [if_pos h0,if_pos h0]
      exact key q2 (Inj.le_refl _) #[] fun p=>ARel.empty p
    · rw [if_neg h0,if_neg h0]
      refine SRel.bind (s_zeroValue hz elem (ht elem hd)) ?_;rintro q3 hq3 z _ ⟨rfl,hc⟩;exact key q3 hq3 z.cells hc.cells
 all_goals exact .stuck _
theorem s_alloc (hz:ZeroOk Q) (e:TypeId) (he:e<Q.types.size):SRel Q (wf Q F) VRel p (Instr.alloc e true (.tuple #[])) (Instr.alloc e true (.tuple #[])):=by
 refine SRel.bind (s_zeroValue hz e he) ?_;rintro q hq z _ ⟨rfl,hc⟩;refine SRel.bind (s_newVar e (hc q)) ?_;intro q2 _ a a' ha;exact .pure ha.ptr
theorem s_box (e:TypeId) {v v':Value} (h:VRel p v v'):SRel Q (wf Q F) VRel p (Instr.box e v) (Instr.box e v'):=by
 refine SRel.bind (s_newVar e h) ?_;intro q2 _ a a' ha;exact .pure ha.ptr
theorem s_loadAt (t:TypeId) {v v':Value} (h:VRel p v v'):SRel Q (wf Q F) VRel p (Instr.loadAt t v) (Instr.loadAt t v'):=by
 refine SRel.bind (s_sureAddr h) ?_;intro q hq a a' ha;exact s_loadVar t ha
theorem s_storeAt (t:TypeId) {v v' x x':Value} (h:VRel p v v') (hx:VRel p x x'):SRel Q (wf Q F) EqR p (Instr.storeAt t v x) (Instr.storeAt t v' x'):=by
 refine SRel.bind (s_sureAddr h) ?_;intro q hq a a' ha;exact s_storeVar t ha (hx.mono hq)
theorem s_fieldAt (s:TypeId) {v v':Value} (h:VRel p v v') (f:Nat):SRel Q (wf Q F) VRel p (Instr.fieldAt s v f) (Instr.fieldAt s v' f):=by
 refine SRel.bind (s_underlying s) ?_;rintro q hq d _ ⟨rfl,hd⟩;cases d
 case struct fields =>
  dsimp only;cases fields[f]? with
  | none=>exact .stuck _
  | some f =>
    refine SRel.bind (s_sureAddr (h.mono hq)) ?_;intro q2 hq2 a a' ha;refine SRel.bind (s_fieldPlace ha f) ?_;intro q3 _ b b' hb;exact .pure hb.ptr
 all_goals exact .stuck _
theorem s_makeSlice (hz:ZeroOk Q) (t:TypeId) (ht:TyOk Q t) {l l' c c':Value} (hl:VRel p l l') (hc:VRel p c c'):SRel Q (wf Q F) VRel p (Instr.makeSlice t l c) (Instr.makeSlice t l' c'):=by
 refine SRel.bind (s_underlying t) ?_;rintro q hq d _ ⟨rfl,hd⟩;cases d
 case slice elem =>
  refine SRel.bind (s_asInt (hl.mono hq)) ?_;rintro q2 hq2 len _ rfl;refine SRel.bind (s_asInt ((hc.mono hq).mono hq2)) ?_;rintro q3 hq3 cap _ rfl;refine SRel.bind (s_typeInfo elem) ?_;rintro q4 hq4 info _ ⟨rfl,_⟩;have key2:∀ q5,q4.le q5→∀ n:Nat,∀ z:Array Value,(∀ p,ARel p z z)→SRel Q (wf Q F) VRel q5
   (do let a ← newRow elem ((Array.range n).map (z[· % z.size]!));Pure.pure (Value.slice (some a) (IntKind.i64.wrap len).toNat (IntKind.i64.wrap cap).toNat))
   (do let a ← newRow elem ((Array.range n).map (z[· % z.size]!));Pure.pure (Value.slice (some a) (IntKind.i64.wrap len).toNat (IntKind.i64.wrap cap).toNat)):=by
   intro q8 _ n z hz;refine SRel.bind (s_newRow elem (ARel.range_map hz q8 _)) ?_;intro q4 _ a a' ha;exact .pure (ha.slice _ _)
  have key:∀ q5,q4.le q5→SRel Q (wf Q F) VRel q5 (do
   askRoom ((IntKind.i64.wrap cap).toNat*info.bytes)
   let n:=(IntKind.i64.wrap cap).toNat*(← sizeOf elem)
   let zero ← if n=0 then Pure.pure #[] else do Pure.pure (← zeroValue elem).cells
   let a ← newRow elem ((Array.range n).map (zero[· % zero.size]!))
   Pure.pure (Value.slice (some a) (IntKind.i64.wrap len).toNat (IntKind.i64.wrap cap).toNat)) (do
   askRoom ((IntKind.i64.wrap cap).toNat*info.bytes)
   let n:=(IntKind.i64.wrap cap).toNat*(← sizeOf elem)
   let zero ← if n=0 then Pure.pure #[] else do Pure.pure (← zeroValue elem).cells
   let a ← newRow elem ((Array.range n).map (zero[· % zero.size]!))
   Pure.pure (Value.slice (some a) (IntKind.i64.wrap len).toNat (IntKind.i64.wrap cap).toNat)):=by
   intro q5 hq5;refine SRel.bind (s_askRoom _) ?_;rintro q6 hq6 _ _ _;refine SRel.bind (s_sizeOf elem) ?_;rintro q7 hq7 size _ rfl;dsimp only;split
   · exact key2 q7 (Inj.le_trans hq5 (Inj.le_trans hq6 hq7)) _ #[] fun p=>ARel.empty p
   · refine SRel.bind (s_zeroValue hz elem (ht elem hd)) ?_
     rintro q8 hq8 z _ ⟨rfl,hc⟩;exact key2 q8 (Inj.le_trans hq5 (Inj.le_trans hq6 (Inj.le_trans hq7 hq8))) _ z.cells hc.cells
  dsimp only;split
  · split
    · exact s_runtimePanic (.error "makeslice: cap out of range") trivial
    · split
      · exact s_runtimePanic (.error "makeslice: len out of range") trivial
      · refine SRel.bind (s_choose _) ?_
        rintro q5 _ n _ rfl;exact s_runtimePanic (.error _) trivial
  · exact key q4 (Inj.le_refl _)
 all_goals exact .stuck _
theorem s_field (t:TypeId) {v v':Value} (h:VRel p v v') (f:Nat):SRel Q (wf Q F) VRel p (Instr.field t v f) (Instr.field t v' f):=by
 refine SRel.bind (s_underlying t) ?_;rintro q hq d _ ⟨rfl,hd⟩;cases d
 case struct fields =>
  dsimp only;cases fields[f]? with
  | none=>exact .stuck _
  | some f =>
    refine SRel.bind (s_asAgg (h.mono hq)) ?_;intro q2 hq2 a a' ha;exact s_part f.type ha _
 all_goals exact .stuck _
theorem s_extract {v v':Value} (h:VRel p v v') (i:Nat):SRel Q (wf Q F) VRel p (Instr.extract v i) (Instr.extract v' i):=by
 cases h
 case tuple xs xs' h1 h2 =>
  show SRel _ _ _ _ (match xs[i]? with | some v=>Pure.pure v | none=>stuck "Extract: no such component") (match xs'[i]? with | some v=>Pure.pure v | none=>stuck "Extract: no such component")
  cases hx:xs[i]? with
  | none=>exact .stuck _
  | some a =>
    obtain ⟨a',h3,h4⟩:=ARel.some ⟨h1,h2⟩ hx;rw [h3];exact .pure h4
 all_goals exact .stuck _
theorem s_index (t:TypeId) {v v' i i':Value} (h:VRel p v v') (hi:VRel p i i'):SRel Q (wf Q F) VRel p (Instr.index t v i) (Instr.index t v' i'):=by
 refine SRel.bind (s_asIntOf hi) ?_;rintro q hq ⟨k,n⟩ _ rfl;refine SRel.bind (s_underlying t) ?_;rintro q2 hq2 d _ ⟨rfl,hd⟩;cases d
 case array len elem =>
  cases h
  case agg xs xs' h1 h2 =>
   have hx:ARel q2 xs xs':=((ARel.mk h1 h2:ARel p xs xs').mono hq).mono hq2;dsimp only;split
   · refine SRel.bind (s_sizeOf elem) ?_
     rintro q3 hq3 size _ rfl;exact s_part elem (hx.mono hq3) _
   · exact s_boundsPanic _ _ _ _
  all_goals exact .stuck _
 case string =>
  cases h
  case string s =>
   dsimp only;split
   · exact .pure (.int _ _)
   · exact s_boundsPanic _ _ _ _
  all_goals exact .stuck _
 all_goals exact .stuck _
theorem s_indexAt (t:TypeId) {v v' i i':Value} (h:VRel p v v') (hi:VRel p i i'):SRel Q (wf Q F) VRel p (Instr.indexAt t v i) (Instr.indexAt t v' i'):=by
 refine SRel.bind (s_asIntOf hi) ?_;rintro q hq ⟨k,n⟩ _ rfl;have key:∀ q2,q.le q2→∀ (b b':Option Addr) (len:Nat) (elem:TypeId),((b=none∧b'=none)∨(∃ x x',b=some x∧b'=some x'∧AdR q2 x x')∨(len=0∧∃ x x',b=some x∧b'=some x'))→SRel Q (wf Q F) VRel q2
  (do
    let d ← underlying t
    let tiny:=decide (len≤1)&&(match d with | .array ..=>true | _=>false)
    match b with
    | some a =>
      if 0≤n∧n<len then do Pure.pure (Value.pointer (some (a.add (n.toNat*(← sizeOf elem)))))
      else if tiny then unsupported (.noEntry "op/indexAddr.an index out of range at an array of length 0 or 1 (ledger 616)")
      else boundsPanic k n len .index
    | none=>boundsPanic k n 0 .index)
  (do
    let d ← underlying t
    let tiny:=decide (len≤1)&&(match d with | .array ..=>true | _=>false)
    match b' with
    | some a =>
      if 0≤n∧n<len then do Pure.pure (Value.pointer (some (a.add (n.toNat*(← sizeOf elem)))))
      else if tiny then unsupported (.noEntry "op/indexAddr.an index out of range at an array of length 0 or 1 (ledger 616)")
      else boundsPanic k n len .index
    | none=>boundsPanic k n 0 .index):=by
  intro q2 _ b b' len elem hb;refine SRel.bind (s_underlying t) ?_;rintro q3 hq3 d _ ⟨rfl,hd⟩;dsimp only;rcases hb with ⟨rfl,rfl⟩ | ⟨x,x',rfl,rfl,hx⟩ | ⟨rfl,x,x',rfl,rfl⟩
  · exact s_boundsPanic _ _ _ _
  rotate_left
  · dsimp only
    split
    · rename_i h0;exact absurd h0.2 (by simp;omega)
    · repeat' (first | (refine SRel.unsupported _ ?_;intro g;simp;done) | exact s_boundsPanic _ _ _ _ | split)
  · dsimp only
    split
    · refine SRel.bind (s_sizeOf elem) ?_
      rintro q4 hq4 size _ rfl;exact .pure (((hx.mono hq3).mono hq4).add _).ptr
    · repeat' (first | (refine SRel.unsupported _ ?_;intro g;simp;done) | exact s_boundsPanic _ _ _ _ | split)
 refine SRel.bind (s_underlying t) ?_;rintro q2 hq2 d _ ⟨rfl,hd⟩;cases d
 case array len elem =>
  refine SRel.bind (s_sureAddr ((h.mono hq).mono hq2)) ?_;intro q3 hq3 a a' ha;exact key q3 (Inj.le_trans hq2 hq3) (some a) (some a') len elem (.inr (.inl ⟨a,a',rfl,rfl,ha⟩))
 case slice elem =>
  cases h
  case slice0 n c=>exact key q2 hq2 none none n elem (.inl ⟨rfl,rfl⟩)
  case slice b b' o s n c hb=>exact key q2 hq2 (some ⟨b,o,s⟩) (some ⟨b',o,s⟩) n elem (.inr (.inl ⟨_,_,rfl,rfl,⟨hq2.r _ _ (hq.r _ _ hb),rfl,rfl⟩⟩))
  case slice00 a x _=>exact key q2 hq2 (some a) (some x) 0 elem (.inr (.inr ⟨rfl,a,x,rfl,rfl⟩))
  all_goals exact .stuck _
 all_goals exact .stuck _
end
open Go
section
variable {Q:Program} {F:Array Func} {p:Inj}
theorem cellOfByte_wf (Q:Program) (F:Array Func):∀ (d:Nat) (t:TypeId) (off:Nat),cellOfByte (wf Q F) d t off=cellOfByte Q d t off
 | 0,_,_=>rfl
 | d + 1, t, off => by
   unfold cellOfByte;simp only [cellOfByte_wf Q F d];rfl
theorem cellAtBytes_wf (Q:Program) (F:Array Func) (d:Nat) (e:TypeId) (c o:Nat) (n:Int):cellAtBytes (wf Q F) d e c o n=cellAtBytes Q d e c o n:=by
 unfold cellAtBytes;simp only [byteOfCell_wf,cellOfByte_wf];rfl
theorem s_twoPlaces (hg:p.g=Q.globals.size) {a a' b b':Addr} (ha:AdR p a a') (hb:AdR p b b'):SRel Q (wf Q F) EqR p (Op.twoPlaces a b) (Op.twoPlaces a' b'):=by
 refine s_prog ?_;have e1:(a.block != b.block)=(a'.block != b'.block):=by
  by_cases e:a.block=b.block
  · have:a'.block=b'.block:=p.fn ha.block (e ▸ hb.block)
    rw [e,this,bne_self_eq_false,bne_self_eq_false]
  · have:a'.block≠b'.block:=fun x=>e (p.inj ha.block (x ▸ hb.block))
    rw [bne_iff_ne.2 e,bne_iff_ne.2 this]
 have e2:decide (a.block≥Q.globals.size)=decide (a'.block≥(wf Q F).globals.size):=by
  have h1:=p.low ha.block;have h2:(wf Q F).globals.size=Q.globals.size:=rfl;rw [h2,← hg];by_cases e:a.block<p.g
  · have:=h1.1 e
    rw [decide_eq_false (by omega),decide_eq_false (by omega)]
  · have:¬ a'.block<p.g:=fun x=>e (h1.2 x)
    rw [decide_eq_true (by omega),decide_eq_true (by omega)]
 have key:∀ q,p.le q→SRel Q (wf Q F) EqR q (do Pure.pure (← byteOf a,← byteOf b)) (do Pure.pure (← byteOf a',← byteOf b')):=by
  intro q hq;refine SRel.bind (s_byteOf (ha.mono hq)) ?_;rintro q2 hq2 x _ rfl;refine SRel.bind (s_byteOf ((hb.mono hq).mono hq2)) ?_;rintro q3 hq3 y _ rfl;exact .pure rfl
 rw [e1,e2];split
 · exact .unsupported _ (by simp)
 · exact key p (Inj.le_refl _)
theorem s_addrSub (hg:p.g=Q.globals.size) (k:IntKind) {a a' b b':Addr} (ha:AdR p a a') (hb:AdR p b b'):SRel Q (wf Q F) VRel p (Op.addrSub k a b) (Op.addrSub k a' b'):=by
 refine SRel.bind (s_twoPlaces hg ha hb) ?_;rintro q _ ⟨x,y⟩ _ rfl;exact .pure (.int _ _)
theorem s_addrCmp (hg:p.g=Q.globals.size) (op:BinOp) {a a' b b':Addr} (ha:AdR p a a') (hb:AdR p b b'):SRel Q (wf Q F) VRel p (Op.addrCmp op a b) (Op.addrCmp op a' b'):=by
 refine SRel.bind (s_twoPlaces hg ha hb) ?_;rintro q _ ⟨x,y⟩ _ rfl;cases op <;> first | exact .pure (.bool _) | exact .unsupported _ (by simp)
theorem s_addrMod (k:IntKind) {a a':Addr} (ha:AdR p a a') (n:Int):SRel Q (wf Q F) VRel p (Op.addrMod k a n) (Op.addrMod k a' n):=by
 refine SRel.bind (s_shape ha.block) ?_;rintro q hq x _ rfl;cases x with
 | none=>exact .unsupported _ (by simp)
 | some x =>
   obtain ⟨e,m⟩:=x;refine SRel.bind (s_typeInfo e) ?_;rintro q2 hq2 i _ ⟨rfl,_⟩;dsimp only;split
   · exact .unsupported _ (by simp)
   · refine SRel.bind (s_byteOf ((ha.mono hq).mono hq2)) ?_
     rintro q3 _ b _ rfl;exact .pure (.int _ _)
def PtrR (p:Inj) (v v':Value):Prop:=∃ a a',v=.pointer (some a)∧v'=.pointer (some a')∧AdR p a a'
theorem s_unsafeAddP (t:TypeId) {v v' y y':Value} (h:VRel p v v') (hy:VRel p y y'):SRel Q (wf Q F) PtrR p (Builtin.unsafeAdd_ #[] t #[v,y]) (Builtin.unsafeAdd_ #[] t #[v',y']):=by
 have go:∀ (o o':Option Addr),((o=none∧o'=none)∨∃ a a',o=some a∧o'=some a'∧AdR p a a')→SRel Q (wf Q F) PtrR p (Builtin.unsafeAdd_ #[] t #[.pointer o,y]) (Builtin.unsafeAdd_ #[] t #[.pointer o',y']):=by
  intro o o' ho;refine SRel.bind (s_asInt hy) ?_;rintro q hq n _ rfl;dsimp only;rcases ho with ⟨rfl,rfl⟩ | ⟨a,a',rfl,rfl,ha⟩
  · by_cases h0:n=0
    · simp only [if_pos h0];exact .unsupported _ (by simp)
    · simp only [if_neg h0]
      by_cases h1:n<0
      · simp only [if_pos h1];exact .unsupported _ (by simp)
      · simp only [if_neg h1];exact .unsupported _ (by simp)
  · by_cases h0:n=0
    · rw [if_pos h0,if_pos h0]
      refine SRel.bind (s_viewAt (hq.r _ _ ha.block)) ?_;rintro q2 hq2 _ _ ⟨rfl,rfl⟩;exact .pure ⟨_,_,rfl,rfl,(ha.mono hq).mono hq2⟩
    · rw [if_neg h0,if_neg h0]
      by_cases h1:n<0
      · rw [if_pos h1,if_pos h1];exact .unsupported _ (by simp)
      · rw [if_neg h1,if_neg h1]
        refine SRel.bind (s_shape (hq.r _ _ ha.block)) ?_;rintro q2 hq2 x _ rfl;cases x with
        | none=>exact .unsupported _ (by simp)
        | some x =>
          obtain ⟨e,m⟩:=x;refine s_prog ?_;rw [cellAtBytes_wf,← ha.off];have e1:cellAtBytes Q (wf Q F).depth e (m / (wf Q F).cellsOf e) a.off n=cellAtBytes Q Q.depth e (m / Q.cellsOf e) a.off n:=rfl;rw [e1];cases cellAtBytes Q Q.depth e (m / Q.cellsOf e) a.off n with
          | none=>exact .unsupported _ (by simp)
          | some off =>
            have h2:=(ha.mono hq).mono hq2;exact .pure ⟨_,_,rfl,rfl,⟨h2.block,rfl,h2.spot⟩⟩
 cases h
 case ptr0=>exact go none none (.inl ⟨rfl,rfl⟩)
 case ptr o s hb=>exact go _ _ (.inr ⟨_,_,rfl,rfl,⟨hb,rfl,rfl⟩⟩)
 case veil=>cases hy <;> exact .stuck _
 all_goals exact .stuck _
theorem s_unsafeAdd (t:TypeId) {v v' y y':Value} (h:VRel p v v') (hy:VRel p y y'):SRel Q (wf Q F) VRel p (Builtin.unsafeAdd_ #[] t #[v,y]) (Builtin.unsafeAdd_ #[] t #[v',y']):=by
 refine (s_unsafeAddP t h hy).mono ?_;rintro q _ _ _ ⟨a,a',rfl,rfl,ha⟩;exact ha.ptr
theorem s_movedNumber (t:TypeId) {v v' y y':Value} (h:VRel p v v') (hy:VRel p y y'):SRel Q (wf Q F) VRel p (movedNumber t v y) (movedNumber t v' y'):=by
 have last:∀ q,∀ (b b':Value) (l:Bool),PtrR q b b'→SRel Q (wf Q F) VRel q (match b with | .pointer (some b)=>asNumber b l | v=>Pure.pure v) (match b' with | .pointer (some b)=>asNumber b l | v=>Pure.pure v):=by
  intro q b b' l hb;obtain ⟨a,a',rfl,rfl,ha⟩:=hb;exact s_asNumber ha l
 have go:∀ q,p.le q→SRel Q (wf Q F) VRel q (do
  let .pointer (some n):=v | Builtin.unsafeAdd_ #[] t #[v,y]
  let (a,lost) ← behindNumber n
  match ← Builtin.unsafeAdd_ #[] t #[.pointer (some a),y] with
  | .pointer (some b)=>asNumber b lost
  | v=>Pure.pure v) (do
  let .pointer (some n):=v' | Builtin.unsafeAdd_ #[] t #[v',y']
  let (a,lost) ← behindNumber n
  match ← Builtin.unsafeAdd_ #[] t #[.pointer (some a),y'] with
  | .pointer (some b)=>asNumber b lost
  | v=>Pure.pure v):=by
  intro q hq;have h':=h.mono hq;cases h
  case ptr b b' o s hb =>
   refine SRel.bind (s_behindNumber (a:=⟨b,o,s⟩) (a':=⟨b',o,s⟩) ⟨hq.r _ _ hb,rfl,rfl⟩) ?_;rintro q2 hq2 ⟨x,l⟩ ⟨x',l'⟩ ⟨h1,rfl⟩;refine SRel.bind (s_unsafeAddP t h1.ptr ((hy.mono hq).mono hq2)) ?_;intro q3 hq3 z z' hz;exact last q3 z z' l hz
  case veil=>cases hy <;> exact .stuck _
  all_goals exact s_unsafeAdd t h' (hy.mono hq)
 refine SRel.bind (s_underlying t) ?_;rintro q hq d _ ⟨rfl,hd⟩;cases d
 case unsafePointer=>exact .unsupported _ (by simp)
 all_goals exact go q hq
end
end Go.Pt
