/- A program with other functions: what its table of types says is the same. No condition; no program in sight. -/
import Derived.Test.YtnceajabigdleaaDoorPtS1
import Derived.Test.YtnceajabigdleaaDoorPtS3
import Derived.Test.YtnceajabigdleaaDoorPtS4
import Derived.KernelRfl
namespace Go.Pt
open Go
section
variable (Q:Program) (F:Array Func) (t:TypeId) (w:World)
theorem wf_pinfo:(wf Q F).info? t=Q.info? t:=rfl
theorem wf_punderlying:(wf Q F).underlying t=Q.underlying t:=rfl
theorem wf_prt:(wf Q F).rt=Q.rt:=rfl
theorem wf_pglobals:(wf Q F).globals=Q.globals:=rfl
theorem wf_typeInfo:Sem.run (wf Q F) (typeInfo t) w=Sem.run Q (typeInfo t) w:=by unfold typeInfo;simp [wf_pinfo];cases Q.info? t <;> rfl
theorem wf_underlying:Sem.run (wf Q F) (underlying t) w=Sem.run Q (underlying t) w:=by unfold underlying;simp [wf_punderlying];cases Q.underlying t <;> rfl
theorem wf_isAgg:Sem.run (wf Q F) (isAgg t) w=Sem.run Q (isAgg t) w:=by
 unfold isAgg;simp only [Sem.run_bind,wf_underlying];congr 1;funext d w';cases d <;> rfl
theorem wf_sizeOf:Sem.run (wf Q F) (sizeOf t) w=Sem.run Q (sizeOf t) w:=by
 unfold sizeOf;simp [wf_typeInfo]
theorem wf_zeroValue:Sem.run (wf Q F) (zeroValue t) w=Sem.run Q (zeroValue t) w:=by
 unfold zeroValue;simp only [Sem.run_bind,wf_typeInfo];congr 1;funext d w';cases d.zero <;> rfl
theorem wf_funcs {F:Nat→Func→Func} {i:Nat} {f:Func} (h:Q.funcs[i]? = some f):(wf Q (Q.funcs.mapIdx F)).funcs[i]? = some (F i f):=by
 show (Q.funcs.mapIdx F)[i]? = _
 rw [Array.getElem?_mapIdx,h];rfl
theorem wf_funcs_none {F:Nat→Func→Func} {i:Nat} (h:Q.funcs.size≤i):(wf Q (Q.funcs.mapIdx F)).funcs[i]? = none:=by
 show (Q.funcs.mapIdx F)[i]? = none
 rw [Array.getElem?_mapIdx,Array.getElem?_eq_none h];rfl
end
open Go
def simpleV:Value→Bool
 | .bool _ | .int _ _ | .string _ | .pointer none | .slice none _ _ | .nilFunc | .nilIface=>true
 | .func (.func _) xs ys=>xs.isEmpty&&ys.isEmpty
 | _=>false
def closedV:Value→Bool
 | .agg xs=>xs.toList.all fun v=>simpleV v||(match v with | .agg ys=>ys.toList.all simpleV | _=>false)
 | .tuple xs=>xs.toList.all fun v=>simpleV v||(match v with | .agg ys=>ys.toList.all simpleV | _=>false)
 | v=>simpleV v
theorem simpleV_closed {v:Value} (h:simpleV v=true):Closed v:=by
 intro p;cases v with
 | bool b=>exact .bool b
 | int k n=>exact .int k n
 | string s=>exact .string s
 | pointer a => cases a with
   | none=>exact .ptr0
   | some a=>cases h
 | slice a n c => cases a with
   | none=>exact .slice0 n c
   | some a=>cases h
 | nilFunc=>exact .nilFunc
 | nilIface=>exact .nilIface
 | func f xs ys => cases f with
   | func f =>
     simp only [simpleV,Bool.and_eq_true,Array.isEmpty_iff] at h;obtain ⟨rfl,rfl⟩:=h;exact .func (.func f) rfl (fun i a a' h=>by simp at h) rfl (fun i a a' h=>by simp at h)
   | _=>cases h
 | _=>cases h
theorem closed_agg {xs:Array Value} (h:∀ v∈xs.toList,Closed v):Closed (.agg xs):=by
 intro p;refine .agg rfl fun i a a' h1 h2=>?_
 rw [h1] at h2;cases h2;exact h a (Array.mem_toList_iff.2 (Array.mem_of_getElem? h1)) p
theorem innerV_closed {v:Value} (h:(simpleV v||(match v with | .agg ys=>ys.toList.all simpleV | _=>false))=true):Closed v:=by
 rcases Bool.or_eq_true_iff.1 h with h1 | h1
 · exact simpleV_closed h1
 · cases v with
   | agg ys=>exact closed_agg fun u hu=>simpleV_closed (List.all_eq_true.1 h1 u hu)
   | _=>cases h1
theorem closedV_closed {v:Value} (h:closedV v=true):Closed v:=by
 cases v with
 | agg xs=>exact closed_agg fun v hv=>innerV_closed (List.all_eq_true.1 h v hv)
 | tuple xs =>
   intro p;refine .tuple rfl fun i a a' h1 h2=>?_
   rw [h1] at h2;cases h2;exact innerV_closed (List.all_eq_true.1 h a (Array.mem_toList_iff.2 (Array.mem_of_getElem? h1))) p
 | _=>exact simpleV_closed h
section
variable (bin:BinOp→TypeId→Bool) (conv:TypeId→TypeId→Bool) (glob:Nat→Bool) (tsz ty:TypeId→Bool)
def opdB:Operand→Bool
 | .tmp _ | .func _=>true
 | .const v=>closedV v
 | .global g=>glob g
def optB:Option Operand→Bool
 | none=>true
 | some x=>opdB glob x
def callB (c:Call):Bool:=c.args.toList.all (opdB glob)&&match c.callee with
 | .value f=>opdB glob f
 | .builtin .len | .builtin .max=>true
 | .builtin .append => match c.argTypes[0]? with
   | some t=>ty t
   | none=>true
 | _=>false
def opB:Op→Bool
 | .move x | .assign x | .box _ x | .load _ x | .fieldAddr _ x _ | .field _ x _ | .extract x _ | .unOp _ _ x=>opdB glob x
 | .pick c a b=>opdB glob c&&opdB glob a&&opdB glob b
 | .alloc e=>tsz e
 | .build t ps=>tsz t&&ps.toList.all fun x=>opdB glob x.2
 | .buildSlice t _ ps=>ty t&&ps.toList.all fun x=>opdB glob x.2
 | .store _ a x=>opdB glob a&&opdB glob x
 | .binOp op t x y _=>bin op t&&opdB glob x&&opdB glob y
 | .convert s d x=>conv s d&&opdB glob x
 | .makeFunc (.func _) first captured=>first.toList.all (opdB glob)&&captured.toList.all (opdB glob)
 | .makeSlice t l c=>ty t&&opdB glob l&&opdB glob c
 | .slice _ x lo hi mx=>opdB glob x&&optB glob lo&&optB glob hi&&optB glob mx
 | .indexAddr _ x i | .index _ x i=>opdB glob x&&opdB glob i
 | .call c=>callB glob ty c
 | _=>false
def codeB:Code→Bool
 | .refuse _ | .skip | .ret | .exit _=>true
 | .seq a b=>codeB a&&codeB b
 | .cond c a b=>opdB glob c&&codeB a&&codeB b
 | .block _ a=>codeB a
 | .loop a=>codeB a
 | .region _ ops _=>ops.toList.all fun o=>opB bin conv glob tsz ty o.op
 | .rangeFunc f _ a b=>opdB glob f&&codeB a&&codeB b
 | _=>false
variable {bin conv glob tsz ty} {Q:Program} {G:Nat→Prop}
theorem opdB_ok (hg:∀ g,glob g=true→G g) {x:Operand} (h:opdB glob x=true):OpdOk G x:=by
 cases x with
 | tmp=>trivial
 | const v=>exact closedV_closed h
 | global g=>exact hg g h
 | func f=>trivial
theorem all_ok (hg:∀ g,glob g=true→G g) {xs:Array Operand} (h:xs.toList.all (opdB glob)=true):∀ x∈xs,OpdOk G x:=fun x hx=>opdB_ok hg (List.all_eq_true.1 h x (Array.mem_toList_iff.2 hx))
theorem optB_ok (hg:∀ g,glob g=true→G g) {x:Option Operand} (h:optB glob x=true):∀ y,x=some y→OpdOk G y:=by
 rintro y rfl;exact opdB_ok hg h
theorem opB_ok (hb:∀ op t,bin op t=true→BinOk Q op t=true) (hc:∀ s d,conv s d=true→ConvOk Q s d=true) (hg:∀ g,glob g=true→G g) (ht:∀ t,tsz t=true→t<Q.types.size) (hy:∀ t,ty t=true→TyOk Q t) {o:Op} (h:opB bin conv glob tsz ty o=true):OkOp Q G o:=by
 cases o <;> simp only [opB,Bool.and_eq_true,Bool.false_eq_true] at h <;> simp only [OkOp] <;> first
  | exact opdB_ok hg h
  | exact ⟨opdB_ok hg h.1.1,opdB_ok hg h.1.2,opdB_ok hg h.2⟩
  | exact ⟨hb _ _ h.1.1,opdB_ok hg h.1.2,opdB_ok hg h.2⟩
  | exact ⟨hc _ _ h.1,opdB_ok hg h.2⟩
  | exact ⟨opdB_ok hg h.1.1.1,optB_ok hg h.1.1.2,optB_ok hg h.1.2,optB_ok hg h.2⟩
  | exact ⟨opdB_ok hg h.1,opdB_ok hg h.2⟩
  | exact ht _ h
  | exact ⟨ht _ h.1,fun x hx=>opdB_ok hg (List.all_eq_true.1 h.2 x (Array.mem_toList_iff.2 hx))⟩
  | exact ⟨hy _ h.1,fun x hx=>opdB_ok hg (List.all_eq_true.1 h.2 x (Array.mem_toList_iff.2 hx))⟩
  | exact ⟨hy _ h.1.1,opdB_ok hg h.1.2,opdB_ok hg h.2⟩
  | skip
 case makeFunc f first captured =>
  cases f with
  | func f =>
    simp only [Bool.and_eq_true] at h;exact ⟨all_ok hg h.1,all_ok hg h.2⟩
  | _=>simp at h
 case call c =>
  obtain ⟨callee,args,ats⟩:=c;simp only [callB,Bool.and_eq_true] at h;refine ⟨all_ok hg h.1, ?_⟩;cases callee with
  | value f=>exact opdB_ok hg h.2
  | builtin b =>
    cases b <;> first | trivial | (exfalso;simp at h;done) | skip
    intro t0 e0;have h2:=h.2;simp only [e0] at h2;exact hy t0 h2
  | invoke r n=>exfalso;simp at h
theorem codeB_ok (hb:∀ op t,bin op t=true→BinOk Q op t=true) (hc:∀ s d,conv s d=true→ConvOk Q s d=true) (hg:∀ g,glob g=true→G g) (ht:∀ t,tsz t=true→t<Q.types.size) (hy:∀ t,ty t=true→TyOk Q t) {c:Code} (h:codeB bin conv glob tsz ty c=true):CRel Q G c c:=by
 induction c with
 | skip=>exact .skip
 | ret=>exact .ret
 | refuse w=>exact .refuse _ _
 | exit id=>exact .exit id
 | seq a b iha ihb =>
   simp only [codeB,Bool.and_eq_true] at h;exact .seq (iha h.1) (ihb h.2)
 | cond x a b iha ihb =>
   simp only [codeB,Bool.and_eq_true] at h;exact .cond (opdB_ok hg h.1.1) (iha h.1.2) (ihb h.2)
 | block id a ih=>exact .block id (ih h)
 | loop a ih=>exact .loop (ih h)
 | region id ops d =>
   exact .region id d fun o ho=>opB_ok hb hc hg ht hy (List.all_eq_true.1 h o (Array.mem_toList_iff.2 ho))
 | rangeFunc f ps a b iha ihb =>
   simp only [codeB,Bool.and_eq_true] at h;exact .rangeFunc ps (opdB_ok hg h.1.1) (iha h.1.2) (ihb h.2)
 | _=>simp [codeB] at h
end
open Go
def tyB (Q:Program) (t:TypeId):Bool:=match Q.underlying t with
 | some (.slice e)=>decide (e<Q.types.size)
 | _=>true
theorem tyB_ok {Q:Program} (t:TypeId) (h:tyB Q t=true):TyOk Q t:=by
 intro e he;unfold tyB at h;rw [he] at h;exact of_decide_eq_true h
def fnB (Q:Program) (glob:Nat→Bool) (f:Func):Bool:=!(f.name== "runtime.NumGoroutine")&&match f.body with
 | some c=>codeB (BinOk Q) (ConvOk Q) glob (fun t=>decide (t<Q.types.size)) (tyB Q) c
 | none=>false
theorem dead_none {Q:Program} {f:FuncId} (h:Q.funcs[f]? = none):∀ xs,DeadEnd Q (callFunc f xs):=by
 intro xs w es;refine ⟨.stuck "call: no such function",w,es, ?_,trivial,rfl⟩;unfold callFunc;show (Sem.bind _ _).runT _ _ _=_
 have e:Sem.runT Q program w es=(.ok Q w,es):=rfl;rw [Sem.runT_bind',e];simp only [h];rfl
theorem dead_gone {Q:Program} {f:FuncId} {fn:Func} (h:Q.funcs[f]? = some fn) (h1:(fn.name== "runtime.NumGoroutine")=false) (h2:fn.body=none) (h3:Extern.findNext fn=none) (h4:Extern.find fn=none) (h5:(fn.name.endsWith ".init"&&!fn.name.startsWith "("&&!fn.name.startsWith "gosem.")=false):∀ xs,DeadEnd Q (callFunc f xs):=by
 intro xs w es;refine ⟨.unsupported (.extern fn.name),w,es.push ⟨.mark (.extern f),false,true⟩, ?_,fun g=>by simp,rfl⟩;unfold callFunc;show (Sem.bind _ _).runT _ _ _=_
 have e:Sem.runT Q program w es=(.ok Q w,es):=rfl;rw [Sem.runT_bind',e];simp only [h,h1,h2,Option.isNone_none,if_true,Bool.false_eq_true,if_false];show (Sem.bind _ _).runT _ _ _=_
 have e2:Sem.runT Q (mark (.extern f)) w es=(.ok () w,es.push ⟨.mark (.extern f),false,true⟩):=rfl;rw [Sem.runT_bind',e2];simp only [h3,h4,h5,Bool.false_eq_true,if_false];rfl
theorem fnB_of {P Q:Program} {glob:Nat→Bool} {i k:Nat} {f fn:Func} (e:i=k) (hk:P.funcs[k]? = some f) (h:P.funcs[i]? = some fn) (ok:fnB Q glob f=true):fnB Q glob fn=true:=by
 subst e;rw [hk] at h;cases h;exact ok
def Okk (P Q:Program) (glob dead:Nat→Bool) (i:Nat):Prop:=∀ fn,P.funcs[i]? = some fn→dead i=false→fnB Q glob fn=true
theorem okk_dead {P Q:Program} {glob dead:Nat→Bool} {i:Nat} (h:dead i=true):Okk P Q glob dead i:=fun _ _ hd=>by rw [h] at hd;cases hd
theorem okk_ok {P Q:Program} {glob dead:Nat→Bool} {i:Nat} {f:Func} (hk:P.funcs[i]? = some f) (ok:fnB Q glob f=true):Okk P Q glob dead i:=fun _ h _=>fnB_of rfl hk h ok
theorem okk_zero {P Q:Program} {glob dead:Nat→Bool}:∀ i,i<0→Okk P Q glob dead i:=fun i hi=>absurd hi (Nat.not_lt_zero i)
theorem okk_step {P Q:Program} {glob dead:Nat→Bool} {n:Nat} (h:∀ i,i<n→Okk P Q glob dead i) (hn:Okk P Q glob dead n):∀ i,i<n+1→Okk P Q glob dead i:=fun i hi=>by
 rcases Nat.lt_or_ge i n with h1 | h1
 · exact h i h1
 · obtain rfl:i=n:=by omega
   exact hn
theorem funs_of {Q:Program} {F:Array Func} {G:Nat→Prop} {dead:Nat→Bool} {glob:Nat→Bool} (hz:ZeroOk Q) (hg:∀ g,glob g=true→G g) (hdead:∀ i,i<F.size→dead i=true→∀ xs,DeadEnd Q (callFunc i xs)) (hnone:∀ i,F.size≤i→Q.funcs[i]? = none)
  (hsame:∀ i fn,F[i]? = some fn→dead i=false→Q.funcs[i]? = some fn∧fnB Q glob fn=true):Funs Q F G (fun _=>False):=by
 refine ⟨hz,fun f=>?_⟩;rcases Nat.lt_or_ge f F.size with hlt | hge
 · cases hd:dead f with
   | true=>exact .inl (hdead f hlt hd)
   | false =>
     have h1:F[f]? = some F[f]:=Array.getElem?_eq_getElem hlt;obtain ⟨h0,h2⟩:=hsame f _ h1 hd;simp only [fnB,Bool.and_eq_true,Bool.not_eq_true'] at h2;obtain ⟨h3,h4⟩:=h2;cases hb:F[f].body with
     | none=>rw [hb] at h4;cases h4
     | some c =>
       rw [hb] at h4;exact .inr ⟨F[f],F[f],c,c,h0,h1,h3,h3,hb,hb,.inr ⟨rfl,rfl,codeB_ok (fun _ _ h=>h) (fun _ _ h=>h) hg (fun _ h=>of_decide_eq_true h) tyB_ok h4⟩⟩
 · exact .inl (dead_none (hnone f hge))
noncomputable def floorF (n:Nat):Frame:={ (default:Frame) with fn:=n,mode:=.run,defers:=[],todo:=[.call default false "fmt's door: the floor" #[]] }
theorem door1:Extern.next "fmt's door: the floor"=none:=by kernel_rfl
theorem door2: "fmt's door: the floor".startsWith "fmt's door"=true:=by kernel_rfl
theorem floor_ok (Q:Program):Floor Q (floorF Q.funcs.size):=by
 refine ⟨rfl, ?_,fun v=>⟨rfl, "fmt's door: the floor",#[v],[],rfl,door1⟩⟩;unfold Frame.catches;have e:Q.funcs[(floorF Q.funcs.size).fn]? = none:=Array.getElem?_eq_none (Nat.le_refl _);simp only [e];exact door2
theorem zero_of {Q:Program} (h:Q.types.toList.all (fun i=>match i.zero with | some v=>closedV v | none=>true)=true):ZeroOk Q:=by
 intro t i v ht hi hv;have hi2:Q.types[t]? = some i:=by
  have:Q.info? t=Q.types[t]? := if_pos ht;rw [← this];exact hi
 have hm:i∈Q.types.toList:=Array.mem_toList_iff.2 (Array.mem_of_getElem? hi2);have:=List.all_eq_true.1 h i hm;rw [hv] at this;exact closedV_closed this
open Go
def isPanic:Op→Bool
 | .panic _=>true
 | _=>false
def cutC:Code→Code
 | .region id ops d=>if ops.toList.any fun o=>isPanic o.op then .refuse "a panic" else .region id ops d
 | .seq a b=>.seq (cutC a) (cutC b)
 | .cond c a b=>.cond c (cutC a) (cutC b)
 | .block id a=>.block id (cutC a)
 | .loop a=>.loop (cutC a)
 | c=>c
section
variable {bin:BinOp→TypeId→Bool} {conv:TypeId→TypeId→Bool} {glob:Nat→Bool} {tsz ty:TypeId→Bool} {Q:Program} {G:Nat→Prop}
theorem cut_rel (hb:∀ op t,bin op t=true→BinOk Q op t=true) (hc:∀ s d,conv s d=true→ConvOk Q s d=true) (hg:∀ g,glob g=true→G g) (ht:∀ t,tsz t=true→t<Q.types.size) (hy:∀ t,ty t=true→TyOk Q t) :
  ∀ c,codeB bin conv glob tsz ty (cutC c)=true→CRel Q G (cutC c) c:=by
 intro c
 induction c with
 | region id ops d =>
   intro h;unfold cutC at h ⊢;split
   · exact .refuse _ _
   · rename_i hn
     rw [if_neg hn] at h;exact codeB_ok hb hc hg ht hy h
 | seq a b iha ihb =>
   intro h;simp only [cutC,codeB,Bool.and_eq_true] at h ⊢;exact .seq (iha h.1) (ihb h.2)
 | cond x a b iha ihb =>
   intro h;simp only [cutC,codeB,Bool.and_eq_true] at h ⊢;exact .cond (opdB_ok hg h.1.1) (iha h.1.2) (ihb h.2)
 | block id a ih =>
   intro h;simp only [cutC,codeB] at h ⊢;exact .block id (ih h)
 | loop a ih =>
   intro h;simp only [cutC,codeB] at h ⊢;exact .loop (ih h)
 | _=>exact fun h=>codeB_ok hb hc hg ht hy h
end
theorem funs_of2 {Q:Program} {F:Array Func} {G:Nat→Prop} {Sp:FuncId→Prop} {dead glob:Nat→Bool} (hz:ZeroOk Q) (_:∀ g,glob g=true→G g) (hdead:∀ i,i<F.size→dead i=true→∀ xs,DeadEnd Q (callFunc i xs)) (hnone:∀ i,F.size≤i→Q.funcs[i]? = none)
  (hrest:∀ i fn,F[i]? = some fn→dead i=false→∃ gn,Q.funcs[i]? = some gn∧(gn.name== "runtime.NumGoroutine")=false∧(fn.name== "runtime.NumGoroutine")=false∧(∃ c c',gn.body=some c∧fn.body=some c' ∧
    (Sp i∨(fn.ntmps=gn.ntmps∧fn.results=gn.results∧CRel Q G c c')))):Funs Q F G Sp:=by
 refine ⟨hz,fun f=>?_⟩;rcases Nat.lt_or_ge f F.size with hlt | hge
 · cases hd:dead f with
   | true=>exact .inl (hdead f hlt hd)
   | false =>
     have h1:F[f]? = some F[f]:=Array.getElem?_eq_getElem hlt;obtain ⟨gn,k1,k2,k3,c,c',k4,k5,k6⟩:=hrest f _ h1 hd;exact .inr ⟨gn,F[f],c,c',k1,h1,k2,k3,k4,k5,k6⟩
 · exact .inl (dead_none (hnone f hge))
theorem fnB_crel {Q:Program} {glob:Nat→Bool} {G:Nat→Prop} (hg:∀ g,glob g=true→G g) {f:Func} {c:Code} (h:fnB Q glob f=true) (hb:f.body=some c):CRel Q G c c:=by
 simp only [fnB,Bool.and_eq_true,hb] at h;exact codeB_ok (fun _ _ h=>h) (fun _ _ h=>h) hg (fun _ h=>of_decide_eq_true h) tyB_ok h.2
theorem fnB_cut {Q:Program} {glob:Nat→Bool} {G:Nat→Prop} (hg:∀ g,glob g=true→G g) {f:Func} {c c':Code} (h:fnB Q glob f=true) (hb:f.body=some c) (hc:c=cutC c'):CRel Q G c c':=by
 subst hc;simp only [fnB,Bool.and_eq_true,hb] at h;exact cut_rel (fun _ _ h=>h) (fun _ _ h=>h) hg (fun _ h=>of_decide_eq_true h) tyB_ok _ h.2
def rowC (ti tt n:Nat) (l:List Int) (k:Nat):Code:=.region 0 #[
 { dst:=some 5,op:=.buildSlice ti n (l.mapIdx fun i z=>(i,Operand.const (.int .i64 z))).toArray,type:=ti,pos:= "",after:=#[],guard:=none },
 { dst:=some 6,op:=.call { callee:=.builtin .append,args:=#[.const (.slice none 0 0),.tmp 5],argTypes:=#[ti,ti] },type:=ti,pos:= "",after:=#[],guard:=none },
 { dst:=some 7,op:=.indexAddr tt (.tmp 4) (.const (.int .i64 k)),type:=0,pos:= "",after:=#[],guard:=none },
 { dst:=none,op:=.store ti (.tmp 7) (.tmp 6),type:=0,pos:= "",after:=#[],guard:=none }] false
def rowsC (ti tt n:Nat):List (List Int)→Nat→Code→Code
 | [],_,X=>X
 | l::ls,k,X=>.seq (rowC ti tt n l k) (rowsC ti tt n ls (k+1) X)
def tabC (ti tt n:Nat) (rows:List (List Int)):Code :=
 .seq (.region 1 #[{ dst:=some 4,op:=.makeSlice tt (.const (.int .i64 rows.length)) (.const (.int .i64 rows.length)),type:=tt,pos:= "",after:=#[],guard:=none }] false)
  (rowsC ti tt n rows 0 (.seq (.region 2 #[{ dst:=some 2,op:=.assign (.tmp 4),type:=tt,pos:= "",after:=#[],guard:=none }] false) .ret))
def bodyT (ti tt t3:Nat) (r2 r4:List (List Int)):Code :=
 .seq (.region 0 #[
  { dst:=some 1,op:=.binOp .mul t3 (.tmp 0) (.const (.int .i64 1)) t3,type:=t3,pos:= "",after:=#[],guard:=none },
  { dst:=some 2,op:=.binOp .eql t3 (.tmp 0) (.const (.int .i64 2)) t3,type:=0,pos:= "",after:=#[],guard:=none },
  { dst:=some 3,op:=.binOp .eql t3 (.tmp 0) (.const (.int .i64 4)) t3,type:=0,pos:= "",after:=#[],guard:=none }] false)
  (.cond (.tmp 2) (tabC ti tt 2 r2) (.cond (.tmp 3) (tabC ti tt 4 r4) (.refuse "no such network")))
end Go.Pt
