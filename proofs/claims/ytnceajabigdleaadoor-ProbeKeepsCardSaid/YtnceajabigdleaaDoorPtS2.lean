/- Two runs of one program whose memory lies in other blocks: tests for equality, operators, slices. No condition; no program in sight. -/
import Derived.Test.YtnceajabigdleaaDoorPtS1
namespace Go.Pt
open Go
section
variable {Q:Program} {F:Array Func} {p:Inj}
theorem s_forIn {α σ:Type} {f f':α→σ→Sem (ForInStep σ)}:∀ (l:List α) (p:Inj),(∀ q,p.le q→∀ a∈l,∀ s,SRel Q (wf Q F) EqR q (f a s) (f' a s))→∀ s,SRel Q (wf Q F) EqR p (forIn l s f) (forIn l s f'):=by
 intro l
 induction l with
 | nil=>intro p _ s;simp only [List.forIn_nil];exact .pure rfl
 | cons a l ih =>
   intro p h s;simp only [List.forIn_cons];refine SRel.bind (h p (Inj.le_refl _) a (by simp) s) ?_;rintro q hq x _ rfl;cases x with
   | done s=>exact .pure rfl
   | yield s=>exact ih q (fun q2 h2 a ha s=>h q2 (Inj.le_trans hq h2) a (by simp [ha]) s) s
def eqT (Q:Program):Nat→TypeId→Bool
 | 0,_=>false
 | n + 1, t => match Q.underlying t with
   | some .bool | some .string | some (.slice _)=>true
   | some (.struct fs)=>!Q.stoodInHeld t&&fs.all fun f=>eqT Q n f.type
   | some (.array _ e)=>eqT Q n e
   | some (.int _)=>true
   | _=>false
theorem alikeButTags_wf (Q:Program) (F:Array Func):∀ (n:Nat) (t u:TypeId),(wf Q F).alikeButTags n t u=Q.alikeButTags n t u
 | 0,_,_=>rfl
 | n + 1, t, u => by
   unfold Program.alikeButTags;simp only [alikeButTags_wf Q F n];rfl
theorem stoodInAs_wf (Q:Program) (F:Array Func) (t:TypeId):(wf Q F).stoodInAs t=Q.stoodInAs t:=by
 unfold Program.stoodInAs;simp only [alikeButTags_wf];rfl
theorem stoodInHeld_wf (Q:Program) (F:Array Func) (t:TypeId):(wf Q F).stoodInHeld t=Q.stoodInHeld t:=by
 unfold Program.stoodInHeld;rw [stoodInAs_wf];rfl
theorem eqGuardType_wf (Q:Program) (F:Array Func):∀ (n:Nat) (t:TypeId),(wf Q F).eqGuardType n t=Q.eqGuardType n t
 | 0,_=>rfl
 | n + 1, t => by
   unfold Program.eqGuardType;simp only [eqGuardType_wf Q F n];rfl
theorem s_eqNum (hg:p.g=Q.globals.size) (t:TypeId) {a a' b b':Addr} (ha:AdR p a a') (hb:AdR p b b'):SRel Q (wf Q F) EqR p
  (do
    let (a,b):=((← behindNumber a).1,(← behindNumber b).1)
    if a.block==b.block&&a.block<(← program).globals.size then return (← byteOf a)==(← byteOf b)
    let .named "sync.copyChecker" _:=(← typeInfo t).desc | unsupported .addressObserved
    if a==b then Pure.pure true else unsupported .addressObserved)
  (do
    let (a,b):=((← behindNumber a').1,(← behindNumber b').1)
    if a.block==b.block&&a.block<(← program).globals.size then return (← byteOf a)==(← byteOf b)
    let .named "sync.copyChecker" _:=(← typeInfo t).desc | unsupported .addressObserved
    if a==b then Pure.pure true else unsupported .addressObserved):=by
 refine SRel.bind (s_behindNumber ha) ?_;rintro q hq ⟨x,l⟩ ⟨x',l'⟩ ⟨hx,rfl⟩;refine SRel.bind (s_behindNumber (hb.mono hq)) ?_;rintro q2 hq2 ⟨y,m⟩ ⟨y',m'⟩ ⟨hy,rfl⟩;refine s_prog ?_;have hx2:=hx.mono hq2;have e1:(x.block==y.block)=(x'.block==y'.block):=by
  by_cases e:x.block=y.block
  · have:x'.block=y'.block:=q2.fn hx2.block (e ▸ hy.block)
    rw [beq_iff_eq.2 e,beq_iff_eq.2 this]
  · have:x'.block≠y'.block:=fun z=>e (q2.inj hx2.block (z ▸ hy.block))
    rw [beq_eq_false_iff_ne.2 e,beq_eq_false_iff_ne.2 this]
 have e2:decide (x.block<Q.globals.size)=decide (x'.block<(wf Q F).globals.size):=by
  have h1:=q2.low hx2.block;have h2:(wf Q F).globals.size=Q.globals.size:=rfl;have h3:q2.g=Q.globals.size:=by rw [hq2.g,hq.g,hg]
  rw [h2,← h3];exact decide_eq_decide.2 h1
 have e3:(x==y)=(x'==y'):=by
  obtain ⟨xb,xo,xs⟩:=x;obtain ⟨xb',xo',xs'⟩:=x';obtain ⟨yb,yo,ys⟩:=y;obtain ⟨yb',yo',ys'⟩:=y';obtain ⟨h1,rfl,rfl⟩:=hx2;obtain ⟨h3,rfl,rfl⟩:=hy;have h4:xb=yb↔xb'=yb':=⟨fun e=>q2.fn h1 (e ▸ h3),fun e=>q2.inj h1 (e ▸ h3)⟩;by_cases e:xb=yb
  · have e':=h4.1 e
    subst e;subst e';by_cases ho:(⟨xb,xo,xs⟩:Addr)=⟨xb,yo,ys⟩
    · have:(⟨xb',xo,xs⟩:Addr)=⟨xb',yo,ys⟩:=by simp only [Addr.mk.injEq,true_and] at ho ⊢;exact ho
      rw [beq_iff_eq.2 ho,beq_iff_eq.2 this]
    · have:(⟨xb',xo,xs⟩:Addr)≠⟨xb',yo,ys⟩:=by simp only [ne_eq,Addr.mk.injEq,true_and] at ho ⊢;exact ho
      rw [beq_eq_false_iff_ne.2 ho,beq_eq_false_iff_ne.2 this]
  · have e':¬ xb'=yb':=fun z=>e (h4.2 z)
    rw [beq_eq_false_iff_ne.2 (fun z=>e (Addr.mk.inj z).1),beq_eq_false_iff_ne.2 (fun z=>e' (Addr.mk.inj z).1)]
 have last:∀ q3,q2.le q3→SRel Q (wf Q F) EqR q3 (do
  let .named "sync.copyChecker" _:=(← typeInfo t).desc | unsupported .addressObserved
  if x==y then Pure.pure true else unsupported .addressObserved) (do
  let .named "sync.copyChecker" _:=(← typeInfo t).desc | unsupported .addressObserved
  if x'==y' then Pure.pure true else unsupported .addressObserved):=by
  intro q3 _;rw [e3];refine SRel.bind (s_typeInfo t) ?_;rintro q4 _ i _ ⟨rfl,_⟩;split
  · split
    · exact .pure rfl
    · exact .unsupported _ (by simp)
  · exact .unsupported _ (by simp)
 show SRel _ _ _ _ (if (x.block==y.block&&decide (x.block<Q.globals.size))=true then _ else _) (if (x'.block==y'.block&&decide (x'.block<(wf Q F).globals.size))=true then _ else _)
 rw [← e1,← e2];split
 · refine SRel.bind (s_byteOf hx2) ?_
   rintro q3 hq3 n _ rfl;refine SRel.bind (s_byteOf (hy.mono hq3)) ?_;rintro q4 hq4 m _ rfl;exact .pure rfl
 · exact last q2 (Inj.le_refl _)
theorem s_equalIn:∀ (n d:Nat) (t:TypeId),eqT Q n t=true→∀ {p:Inj} {x x' y y':Value},p.g=Q.globals.size→VRel p x x'→VRel p y y'→SRel Q (wf Q F) EqR p (Op.equalIn d t x y) (Op.equalIn d t x' y'):=by
 intro n
 induction n with
 | zero=>intro d t h;cases h
 | succ n ih =>
   intro d t ht p x x' y y' hg hx hy;cases d with
   | zero=>exact .unsupported _ (by simp)
   | succ d =>
     refine SRel.bind (s_underlying t) ?_;rintro q hq u _ ⟨rfl,hu⟩;simp only [eqT,hu] at ht;have hgq:q.g=Q.globals.size:=hq.g.trans hg;have hx:=hx.mono hq;have hy:=hy.mono hq;cases u
     case bool=>cases hx <;> cases hy <;> first | exact .pure rfl | exact .stuck _
     case string=>cases hx <;> cases hy <;> first | exact .pure rfl | exact .stuck _
     case slice e=>cases hx <;> cases hy <;> first | exact .pure rfl | exact .stuck _
     case int k =>
      cases hx <;> cases hy
      case int.int k1 n1 k2 n2 =>
       show SRel _ _ _ _ (if k1=k2 then Pure.pure (n1==n2) else stuck "==: kinds differ") (if k1=k2 then Pure.pure (n1==n2) else stuck "==: kinds differ")
       split
       · exact .pure rfl
       · exact .stuck _
      case ptr.ptr b1 b2 o1 s1 h1 b3 b4 o2 s2 h2=>exact s_eqNum (a:=⟨b1,o1,s1⟩) (a':=⟨b2,o1,s1⟩) (b:=⟨b3,o2,s2⟩) (b':=⟨b4,o2,s2⟩) hgq t ⟨h1,rfl,rfl⟩ ⟨h2,rfl,rfl⟩
      case int.ptr k1 n1 b1 b2 o s hb =>
       match n1 with
       | .ofNat 0=>exact .pure rfl
       | .ofNat (m+1)=>exact .unsupported _ (by simp)
       | .negSucc m=>exact .unsupported _ (by simp)
      case ptr.int b1 b2 o s hb k1 n1 =>
       match n1 with
       | .ofNat 0=>exact .pure rfl
       | .ofNat (m+1)=>exact .unsupported _ (by simp)
       | .negSucc m=>exact .unsupported _ (by simp)
      all_goals first | exact .unsupported _ (by simp) | exact .stuck _
     case array len elem =>
      cases hx <;> cases hy
      case agg.agg xs xs' h1 h2 ys ys' h3 h4 =>
       refine SRel.bind (s_sizeOf elem) ?_;rintro q2 hq2 m _ rfl;have hxs:ARel q2 xs xs':=(ARel.mk h1 h2).mono hq2;have hys:ARel q2 ys ys':=(ARel.mk h3 h4).mono hq2;simp only [Std.Legacy.Range.forIn_eq_forIn_range'];refine SRel.bind (R:=EqR) ?_ ?_
       · refine s_forIn _ q2 (fun q3 hq3 a _ s=>?_) _
         refine SRel.bind (s_part elem (hxs.mono hq3) _) ?_;intro q4 hq4 u u' hu4;refine SRel.bind (s_part elem ((hys.mono hq3).mono hq4) _) ?_;intro q5 hq5 v v' hv5;refine SRel.bind (ih d elem ht (by rw [hq5.g,hq4.g,hq3.g,hq2.g,hgq]) (hu4.mono hq5) hv5) ?_;rintro q6 _ b _ rfl;cases b <;> exact .pure rfl
       · rintro q3 _ r _ rfl
         obtain ⟨r1,r2⟩:=r;cases r1 <;> exact .pure rfl
      all_goals exact .stuck _
     case struct fs =>
      simp only [Bool.and_eq_true,Bool.not_eq_true',Array.all_eq_true_iff_forall_mem] at ht;cases hx <;> cases hy
      case agg.agg xs xs' h1 h2 ys ys' h3 h4 =>
       refine s_prog ?_;rw [stoodInHeld_wf,ht.1];have hxs:ARel q xs xs':=ARel.mk h1 h2;have hys:ARel q ys ys':=ARel.mk h3 h4;simp only [Bool.false_eq_true,if_false];rw [← Array.forIn_toList,← Array.forIn_toList];refine SRel.bind (R:=EqR) ?_ ?_
       · refine s_forIn _ q (fun q3 hq3 a ha s=>?_) _
         have hta:=ht.2 a (by simpa using ha);by_cases hn:a.name≠ "_"
         · rw [if_pos hn,if_pos hn]
           refine SRel.bind (s_part a.type (hxs.mono hq3) _) ?_;intro q4 hq4 u u' hu4;refine SRel.bind (s_part a.type ((hys.mono hq3).mono hq4) _) ?_;intro q5 hq5 v v' hv5;refine SRel.bind (ih d a.type hta (by rw [hq5.g,hq4.g,hq3.g,hgq]) (hu4.mono hq5) hv5) ?_;rintro q6 _ b _ rfl;cases b <;> exact .pure rfl
         · rw [if_neg hn,if_neg hn]
           exact .pure rfl
       · rintro q3 _ r _ rfl
         obtain ⟨r1,r2⟩:=r;cases r1 <;> exact .pure rfl
      all_goals exact .stuck _
     all_goals cases ht
theorem dead_program {α:Type} {P:Program} {k:Program→Sem α} (h:DeadEnd P (k P)):DeadEnd P (.program k):=fun w es=>h w es
theorem dead_equalIn {n:Nat} (d:Nat) {t:TypeId} (ht:eqT Q n t=true) {x y:Value} (hv:(∃ v,x=veil v)∨∃ v,y=veil v):DeadEnd Q (Op.equalIn d t x y):=by
 cases n with
 | zero=>cases ht
 | succ n =>
   cases d with
   | zero=>exact .halt (by simp [DeadHalt])
   | succ d =>
     refine dead_program ?_;simp only [eqT] at ht;cases hu:Q.underlying t with
     | none=>rw [hu] at ht;cases ht
     | some u =>
       rw [hu] at ht;show DeadEnd Q (Sem.bind (match Q.underlying t with | some i=>Pure.pure i | none=>stuck "no such type") _)
       rw [hu];rcases hv with ⟨v,rfl⟩ | ⟨v,rfl⟩
       · cases u <;> first | (cases ht;done) | (cases y <;> first | exact .halt trivial | exact .halt (by simp [DeadHalt]) | (rename_i a;cases a <;> first | exact .halt trivial | exact .halt (by simp [DeadHalt])) | (rename_i a b c;cases a <;> first | exact .halt trivial | exact .halt (by simp [DeadHalt])))
       · cases u <;> first | (cases ht;done) | (cases x <;> first | exact .halt trivial | exact .halt (by simp [DeadHalt]) | (rename_i a;cases a <;> first | exact .halt trivial | exact .halt (by simp [DeadHalt])) | (rename_i a b c;cases a <;> first | exact .halt trivial | exact .halt (by simp [DeadHalt])))
end
open Go
section
variable {Q:Program} {F:Array Func} {p:Inj}
theorem s_intOp (k:IntKind) (a b:Int) (op:BinOp):SRel Q (wf Q F) VRel p (match op with
  | .add | .sub | .mul=>Op.intArith op k a b
  | .quo | .rem=>Op.intDiv op k a b
  | .and | .or | .xor | .andNot=>Op.intBits op k a b
  | _=>Op.intCmp op a b) (match op with
  | .add | .sub | .mul=>Op.intArith op k a b
  | .quo | .rem=>Op.intDiv op k a b
  | .and | .or | .xor | .andNot=>Op.intBits op k a b
  | _=>Op.intCmp op a b):=by
 cases op
 case quo =>
  show SRel _ _ _ _ (if b=0 then _ else _) (if b=0 then _ else _)
  split
  · exact s_runtimePanic (.error "integer divide by zero") trivial
  · exact .pure (.int _ _)
 case rem =>
  show SRel _ _ _ _ (if b=0 then _ else _) (if b=0 then _ else _)
  split
  · exact s_runtimePanic (.error "integer divide by zero") trivial
  · exact .pure (.int _ _)
 all_goals first | exact .pure (.int _ _) | exact .pure (.bool _) | exact .stuck _
theorem s_shift (op:BinOp) (k:IntKind) (a:Int) (k':IntKind) (b:Int):SRel Q (wf Q F) VRel p (Op.shift op k a k' b) (Op.shift op k a k' b):=by
 unfold Op.shift;split
 · exact s_runtimePanic (.error "negative shift amount") trivial
 · cases op <;> first | exact .pure (.int _ _) | exact .stuck _
theorem s_stringOp (op:BinOp) (a b:ByteArray):SRel Q (wf Q F) VRel p (Op.stringOp op a b) (Op.stringOp op a b):=by
 unfold Op.stringOp;cases op
 case add =>
  dsimp only;split
  · exact .unsupported _ (by simp)
  · exact .pure (.string _)
 all_goals first | exact .pure (.bool _) | exact .stuck _
def BinOk (Q:Program) (op:BinOp) (t:TypeId):Bool:=match op with
 | .eql | .neq=>eqT Q 6 t&&!Q.eqGuardType Q.depth t
 | _ => match Q.underlying t with
   | some (.int _) | some .string | some .bool=>true
   | _=>false
theorem s_equal (hg:p.g=Q.globals.size) {t:TypeId} (ht:eqT Q 6 t=true) {x x' y y':Value} (hx:VRel p x x') (hy:VRel p y y'):SRel Q (wf Q F) EqR p (Op.equal t x y) (Op.equal t x' y') :=
 s_equalIn 6 Op.maxDepth t ht hg hx hy
theorem s_eql (hg:p.g=Q.globals.size) {t:TypeId} (ht:eqT Q 6 t=true) {x x' y y':Value} (hx:VRel p x x') (hy:VRel p y y'):SRel Q (wf Q F) VRel p (do Pure.pure (Value.bool (← Op.equal t x y))) (do Pure.pure (Value.bool (← Op.equal t x' y'))):=by
 refine SRel.bind (s_equal hg ht hx hy) ?_;rintro q _ b _ rfl;exact .pure (.bool _)
theorem s_neq (hg:p.g=Q.globals.size) {t:TypeId} (ht:eqT Q 6 t=true) {x x' y y':Value} (hx:VRel p x x') (hy:VRel p y y'):SRel Q (wf Q F) VRel p (do Pure.pure (Value.bool (!(← Op.equal t x y)))) (do Pure.pure (Value.bool (!(← Op.equal t x' y')))):=by
 refine SRel.bind (s_equal hg ht hx hy) ?_;rintro q _ b _ rfl;exact .pure (.bool _)
theorem s_binOp (hg:p.g=Q.globals.size) (op:BinOp) (t:TypeId) (ht:BinOk Q op t=true) {x x' y y':Value} (hx:VRel p x x') (hy:VRel p y y'):SRel Q (wf Q F) VRel p (binOp op t x y) (binOp op t x' y'):=by
 have kk:∀ (k k':IntKind) (a b:Int),op≠.shl→op≠.shr→SRel Q (wf Q F) VRel p (binOp op t (.int k a) (.int k' b)) (binOp op t (.int k a) (.int k' b)):=by
  intro k k' a b h1 h2;have e:binOp op t (.int k a) (.int k' b)=if k≠k' then stuck "BinOp: operands of different kinds" else (match op with
   | .add | .sub | .mul=>Op.intArith op k a b
   | .quo | .rem=>Op.intDiv op k a b
   | .and | .or | .xor | .andNot=>Op.intBits op k a b
   | _=>Op.intCmp op a b):=by cases op <;> first | rfl | exact absurd rfl h1 | exact absurd rfl h2
  rw [e];split
  · exact .stuck _
  · exact s_intOp k a b op
 have str:∀ a b:ByteArray,SRel Q (wf Q F) VRel p (binOp op t (.string a) (.string b)) (binOp op t (.string a) (.string b)):=by
  intro a b;have e:binOp op t (.string a) (.string b)=Op.stringOp op a b:=by cases op <;> rfl
  rw [e];exact s_stringOp op a b
 have num:∀ {v v':Value} {n n':Value},VRel p v v'→VRel p n n'→(∃ d,Q.underlying t=some d∧d≠.unsafePointer)→SRel Q (wf Q F) VRel p (do if (← underlying t) matches .unsafePointer then movedPointer t v n else movedNumber t v n) (do if (← underlying t) matches .unsafePointer then movedPointer t v' n' else movedNumber t v' n'):=by
  rintro v v' n n' hv hn ⟨d,h1,h2⟩;refine SRel.bind (s_underlying t) ?_;rintro q hq d' _ ⟨rfl,hd⟩;rw [h1] at hd;cases hd;cases d
  case unsafePointer=>exact absurd rfl h2
  all_goals exact s_movedNumber t (hv.mono hq) (hn.mono hq)
 have und:op≠.eql→op≠.neq→∃ d,Q.underlying t=some d∧d≠.unsafePointer:=by
  intro h1 h2;have h3:(match Q.underlying t with | some (.int _) | some .string | some .bool=>true | _=>false)=true:=by
   cases op <;> first | exact ht | exact absurd rfl h1 | exact absurd rfl h2
  cases hu:Q.underlying t with
  | none=>rw [hu] at h3;cases h3
  | some d =>
    rw [hu] at h3;exact ⟨d,rfl,fun e=>by subst e;cases h3⟩
 cases op
 case eql =>
  have h1:eqT Q 6 t=true:=by simp only [BinOk,Bool.and_eq_true] at ht;exact ht.1
  cases hx
  case veil=>cases hy <;> exact .dead (DeadEnd.bind (dead_equalIn Op.maxDepth h1 (.inl ⟨_,rfl⟩)) _)
  all_goals cases hy
  case int.int k a k' b=>exact kk k k' a b (by simp) (by simp)
  case string.string a b=>exact str a b
  case bool.veil | int.veil | string.veil | ptr0.veil | ptr.veil | slice0.veil | slice.veil | func.veil | nilFunc.veil | iface.veil | nilIface.veil | agg.veil | tuple.veil=>exact .dead (DeadEnd.bind (dead_equalIn Op.maxDepth h1 (.inr ⟨_,rfl⟩)) _)
  all_goals exact s_eql hg h1 (by constructor <;> assumption) (by constructor <;> assumption)
 case neq =>
  have h1:eqT Q 6 t=true:=by simp only [BinOk,Bool.and_eq_true] at ht;exact ht.1
  cases hx
  case veil=>cases hy <;> exact .dead (DeadEnd.bind (dead_equalIn Op.maxDepth h1 (.inl ⟨_,rfl⟩)) _)
  all_goals cases hy
  case int.int k a k' b=>exact kk k k' a b (by simp) (by simp)
  case string.string a b=>exact str a b
  case bool.veil | int.veil | string.veil | ptr0.veil | ptr.veil | slice0.veil | slice.veil | func.veil | nilFunc.veil | iface.veil | nilIface.veil | agg.veil | tuple.veil=>exact .dead (DeadEnd.bind (dead_equalIn Op.maxDepth h1 (.inr ⟨_,rfl⟩)) _)
  all_goals exact s_neq hg h1 (by constructor <;> assumption) (by constructor <;> assumption)
 case shl =>
  cases hx <;> cases hy
  case int.int k a k' b=>exact SRel.mono (R:=VRel) (show SRel Q (wf Q F) VRel p (Op.shift .shl k a k' b) (Op.shift .shl k a k' b) from s_shift .shl k a k' b) (fun _ _ _ _ h=>h)
  all_goals first | exact .stuck _ | exact str _ _ | exact .unsupported _ (by simp)
 case shr =>
  cases hx <;> cases hy
  case int.int k a k' b=>exact SRel.mono (R:=VRel) (show SRel Q (wf Q F) VRel p (Op.shift .shr k a k' b) (Op.shift .shr k a k' b) from s_shift .shr k a k' b) (fun _ _ _ _ h=>h)
  all_goals first | exact .stuck _ | exact str _ _ | exact .unsupported _ (by simp)
 case add =>
  have hu:=und (by simp) (by simp);have hx':=hx;have hy':=hy;cases hx <;> cases hy
  case int.int k a k' b=>exact kk k k' a b (by simp) (by simp)
  all_goals first | exact .stuck _ | exact str _ _ | exact .unsupported _ (by simp) | exact num hx' hy' hu | exact s_movedNumber t hy' hx'
 case sub =>
  have hx':=hx;cases hx <;> cases hy
  case int.int k a k' b=>exact kk k k' a b (by simp) (by simp)
  case ptr.ptr b1 b2 o1 s1 h1 b3 b4 o2 s2 h2 =>
   refine SRel.bind (s_behindNumber (a:=⟨b1,o1,s1⟩) (a':=⟨b2,o1,s1⟩) ⟨h1,rfl,rfl⟩) ?_;rintro q hq ⟨x,l⟩ ⟨x',l'⟩ ⟨hx,rfl⟩;refine SRel.bind (s_behindNumber (a:=⟨b3,o2,s2⟩) (a':=⟨b4,o2,s2⟩) ⟨hq.r _ _ h2,rfl,rfl⟩) ?_;rintro q2 hq2 ⟨y,m⟩ ⟨y',m'⟩ ⟨hy,rfl⟩;exact s_addrSub (by rw [hq2.g,hq.g,hg]) _ (hx.mono hq2) hy
  all_goals first | exact .stuck _ | exact str _ _ | exact .unsupported _ (by simp) | exact s_movedNumber t hx' (.int _ _)
 case rem =>
  cases hx <;> cases hy
  case int.int k a k' b=>exact kk k k' a b (by simp) (by simp)
  case ptr.int b1 b2 o1 s1 h1 k n =>
   refine SRel.bind (s_behindNumber (a:=⟨b1,o1,s1⟩) (a':=⟨b2,o1,s1⟩) ⟨h1,rfl,rfl⟩) ?_;rintro q hq ⟨x,l⟩ ⟨x',l'⟩ ⟨hx,rfl⟩;exact s_addrMod _ hx _
  all_goals first | exact .stuck _ | exact str _ _ | exact .unsupported _ (by simp)
 case and =>
  cases hx <;> cases hy
  case int.int k a k' b=>exact kk k k' a b (by simp) (by simp)
  case ptr.int b1 b2 o1 s1 h1 k n =>
   refine SRel.bind (s_behindNumber (a:=⟨b1,o1,s1⟩) (a':=⟨b2,o1,s1⟩) ⟨h1,rfl,rfl⟩) ?_;rintro q hq ⟨x,l⟩ ⟨x',l'⟩ ⟨hx,rfl⟩;exact s_addrMod _ hx _
  case int.ptr k n b1 b2 o1 s1 h1 =>
   refine SRel.bind (s_behindNumber (a:=⟨b1,o1,s1⟩) (a':=⟨b2,o1,s1⟩) ⟨h1,rfl,rfl⟩) ?_;rintro q hq ⟨x,l⟩ ⟨x',l'⟩ ⟨hx,rfl⟩;exact s_addrMod _ hx _
  all_goals first | exact .stuck _ | exact str _ _ | exact .unsupported _ (by simp)
 all_goals
  cases hx <;> cases hy
  case int.int k a k' b=>exact kk k k' a b (by simp) (by simp)
  all_goals first
   | exact .stuck _
   | exact str _ _
   | exact .unsupported _ (by simp)
   | skip
 all_goals
  rename_i b1 b2 o1 s1 h1 b3 b4 o2 s2 h2
  refine SRel.bind (s_behindNumber (a:=⟨b1,o1,s1⟩) (a':=⟨b2,o1,s1⟩) ⟨h1,rfl,rfl⟩) ?_;rintro q hq ⟨x,l⟩ ⟨x',l'⟩ ⟨hx,rfl⟩;refine SRel.bind (s_behindNumber (a:=⟨b3,o2,s2⟩) (a':=⟨b4,o2,s2⟩) ⟨hq.r _ _ h2,rfl,rfl⟩) ?_;rintro q2 hq2 ⟨y,m⟩ ⟨y',m'⟩ ⟨hy,rfl⟩;exact s_addrCmp (by rw [hq2.g,hq.g,hg]) _ (hx.mono hq2) hy
end
end Go.Pt
