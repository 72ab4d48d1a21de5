/- Two runs of one program whose memory lies in other blocks: slices, append, calls; every operation that is let by. No condition; no program in sight. -/
import Derived.Test.YtnceajabigdleaaDoorPtS2
import Derived.Conc.Own
import Derived.Conc.Listed
namespace Go.Pt
open Go
section
variable {Q:Program} {F:Array Func} {p:Inj}
theorem s_eqGuard (op:BinOp) (t:TypeId) (ht:BinOk Q op t=true) (x y:Operand) {a a' b b':Value} (ha:VRel p a a') (hb:VRel p b b') (hn:op=.eql∨op=.neq→¬ ((∃ v,a=veil v)∨∃ v,b=veil v)):SRel Q (wf Q F) EqR p (eqGuard op t x y a b) (eqGuard op t x y a' b'):=by
 have guarded:(op=.eql∨op=.neq)→Q.eqGuardType Q.depth t=false:=by
  rintro (rfl | rfl) <;> simp only [BinOk,Bool.and_eq_true,Bool.not_eq_true'] at ht <;> exact ht.2
 have tailN:SRel Q (wf Q F) EqR p (do if ← Op.eqGuardIn Op.maxDepth t .nilIface .nilIface then unsupported (.noEntry "binop/eql: two nil values of an interface type with methods, neither of them the literal nil"))
  (do if ← Op.eqGuardIn Op.maxDepth t .nilIface .nilIface then unsupported (.noEntry "binop/eql: two nil values of an interface type with methods, neither of them the literal nil")):=by
  refine SRel.bind (R:=EqR) ?_ ?_
  · show SRel Q (wf Q F) EqR p (Op.eqGuardIn (9999+1) t .nilIface .nilIface) (Op.eqGuardIn (9999+1) t .nilIface .nilIface)
    refine SRel.bind (s_underlying t) ?_;rintro q _ d _ ⟨rfl,hd⟩;cases d <;> exact .pure rfl
  · rintro q _ r _ rfl
    cases r
    · exact .pure rfl
    · exact .unsupported _ (by simp)
 unfold eqGuard;cases op
 case eql =>
  cases ha
  case veil=>exact absurd (.inl ⟨_,rfl⟩) (hn (.inl rfl))
  all_goals cases hb
  case bool.veil | int.veil | string.veil | ptr0.veil | ptr.veil | slice0.veil | slice.veil | func.veil | nilFunc.veil | iface.veil | nilIface.veil | agg.veil | tuple.veil=>exact absurd (.inr ⟨_,rfl⟩) (hn (.inl rfl))
  case nilIface.nilIface =>
   cases x <;> cases y <;> first | exact .pure rfl | exact tailN
  case agg.agg xs xs' h1 h2 ys ys' h3 h4 =>
   refine s_prog (s_prog ?_);rw [eqGuardType_wf];have:Q.eqGuardType (wf Q F).depth t=false:=guarded (.inl rfl);rw [guarded (.inl rfl),this];exact .pure rfl
  all_goals exact .pure rfl
 case neq =>
  cases ha
  case veil=>exact absurd (.inl ⟨_,rfl⟩) (hn (.inr rfl))
  all_goals cases hb
  case bool.veil | int.veil | string.veil | ptr0.veil | ptr.veil | slice0.veil | slice.veil | func.veil | nilFunc.veil | iface.veil | nilIface.veil | agg.veil | tuple.veil=>exact absurd (.inr ⟨_,rfl⟩) (hn (.inr rfl))
  case nilIface.nilIface =>
   cases x <;> cases y <;> first | exact .pure rfl | exact tailN
  case agg.agg xs xs' h1 h2 ys ys' h3 h4 =>
   refine s_prog (s_prog ?_);rw [eqGuardType_wf];have:Q.eqGuardType (wf Q F).depth t=false:=guarded (.inr rfl);rw [guarded (.inr rfl),this];exact .pure rfl
  all_goals exact .pure rfl
 all_goals exact .pure rfl
theorem s_guarded (hg:p.g=Q.globals.size) (op:BinOp) (t:TypeId) (ht:BinOk Q op t=true) (x y:Operand) {a a' b b':Value} (ha:VRel p a a') (hb:VRel p b b') :
  SRel Q (wf Q F) VRel p (do eqGuard op t x y a b;binOp op t a b) (do eqGuard op t x y a' b';binOp op t a' b'):=by
 by_cases hv:(op=.eql∨op=.neq)∧((∃ v,a=veil v)∨∃ v,b=veil v)
 · refine .dead ?_
   obtain ⟨ho,hv⟩:=hv;have h1:eqT Q 6 t=true:=by rcases ho with rfl | rfl <;> (simp only [BinOk,Bool.and_eq_true] at ht;exact ht.1)
   rcases hv with ⟨v,rfl⟩ | ⟨v,rfl⟩
   · rcases ho with rfl | rfl <;> cases b <;> exact DeadEnd.bind (dead_equalIn Op.maxDepth h1 (.inl ⟨_,rfl⟩)) _
   · rcases ho with rfl | rfl <;> cases a <;> exact DeadEnd.bind (dead_equalIn Op.maxDepth h1 (.inr ⟨_,rfl⟩)) _
 · refine SRel.bind (s_eqGuard op t ht x y ha hb fun ho h=>hv ⟨ho,h⟩) ?_
   intro q hq _ _ _;exact s_binOp (hq.g.trans hg) op t ht (ha.mono hq) (hb.mono hq)
theorem s_unary (op:UnOp) {x x':Value} (h:VRel p x x'):SRel Q (wf Q F) VRel p (Op.unary op x) (Op.unary op x'):=by
 cases op <;> cases h <;> first | exact .pure (.int _ _) | exact .pure (.bool _) | exact .stuck _ | exact .unsupported _ (by simp)
def ConvOk (Q:Program) (s d:TypeId):Bool:=match Q.underlying s,Q.underlying d with
 | some (.int _),some (.int _)=>true
 | _,_=>false
theorem s_convert {s d:TypeId} (h:ConvOk Q s d=true) {x x':Value} (hx:VRel p x x'):SRel Q (wf Q F) VRel p (convert s d x) (convert s d x'):=by
 refine SRel.bind (s_underlying s) ?_;rintro q hq u _ ⟨rfl,hu⟩;refine SRel.bind (s_underlying d) ?_;rintro q2 hq2 u2 _ ⟨rfl,hu2⟩;simp only [ConvOk,hu,hu2] at h;cases u <;> cases u2 <;> first | (cases h;done) | skip
 cases hx <;> first | exact .pure (.int _ _) | exact .unsupported _ (by simp)
theorem s_sliceBound {v v':Value} (h:VRel p v v') (y:Nat) (c:BoundsCode):SRel Q (wf Q F) EqR p (Instr.sliceBound v y c) (Instr.sliceBound v' y c):=by
 refine SRel.bind (s_asIntOf h) ?_;rintro q _ ⟨k,i⟩ _ rfl;show SRel _ _ _ _ (if 0≤i∧i≤y then _ else _) (if 0≤i∧i≤y then _ else _)
 split
 · exact .pure rfl
 · exact s_boundsPanic _ _ _ _
inductive OptR (p:Inj):Option Value→Option Value→Prop
 | none:OptR p none none
 | some {v v':Value}:VRel p v v'→OptR p (some v) (some v')
theorem OptR.mono {q:Inj} (h:p.le q) {o o':Option Value} (ho:OptR p o o'):OptR q o o':=by
 cases ho with
 | none=>exact .none
 | some hv=>exact .some (hv.mono h)
theorem s_sliceBounds (b:Bool) (len cap:Nat) {lo lo' hi hi' mx mx':Option Value} (h1:OptR p lo lo') (h2:OptR p hi hi') (h3:OptR p mx mx'):SRel Q (wf Q F) EqR p (Instr.sliceBounds b len cap lo hi mx) (Instr.sliceBounds b len cap lo' hi' mx'):=by
 have tail:∀ q,p.le q→∀ m:Nat,SRel Q (wf Q F) EqR q (do
  let h ← match hi,mx with
   | some v,some _=>Instr.sliceBound v m .slice3B
   | some v,none=>Instr.sliceBound v m (if b then .sliceAcap else .sliceAlen)
   | none,none=>Pure.pure len
   | none,some _=>stuck "Slice: max without high"
  let l ← match lo with
   | some v=>Instr.sliceBound v h (if mx.isSome then .slice3C else .sliceB)
   | none=>Pure.pure 0
  Pure.pure (l,h,m)) (do
  let h ← match hi',mx' with
   | some v,some _=>Instr.sliceBound v m .slice3B
   | some v,none=>Instr.sliceBound v m (if b then .sliceAcap else .sliceAlen)
   | none,none=>Pure.pure len
   | none,some _=>stuck "Slice: max without high"
  let l ← match lo' with
   | some v=>Instr.sliceBound v h (if mx'.isSome then .slice3C else .sliceB)
   | none=>Pure.pure 0
  Pure.pure (l,h,m)):=by
  intro q hq m;have fin:∀ q2,q.le q2→∀ (h:Nat) (c:BoundsCode),SRel Q (wf Q F) EqR q2 (do
   let l ← match lo with
    | some v=>Instr.sliceBound v h c
    | none=>Pure.pure 0
   Pure.pure (l,h,m)) (do
   let l ← match lo' with
    | some v=>Instr.sliceBound v h c
    | none=>Pure.pure 0
   Pure.pure (l,h,m)):=by
   intro q2 hq2 h c;cases h1 with
   | none=>exact .pure rfl
   | some hv =>
     refine SRel.bind (s_sliceBound ((hv.mono hq).mono hq2) _ _) ?_;rintro q3 _ l _ rfl;exact .pure rfl
  cases h2 <;> cases h3
  case none.none=>exact fin q (Inj.le_refl _) len _
  case none.some=>exact .stuck _
  case some.none v v' hv =>
   refine SRel.bind (s_sliceBound (hv.mono hq) _ _) ?_;rintro q3 hq3 l _ rfl;exact fin q3 hq3 l _
  case some.some v v' hv w w' hw =>
   refine SRel.bind (s_sliceBound (hv.mono hq) _ _) ?_;rintro q3 hq3 l _ rfl;exact fin q3 hq3 l _
 unfold Instr.sliceBounds;cases h3
 case none=>exact tail p (Inj.le_refl _) cap
 case some v v' hv =>
  refine SRel.bind (s_sliceBound hv _ _) ?_;rintro q hq m _ rfl;exact tail q hq m
def IsR {A:Type} (z:A):Inj→A→A→Prop:=fun _ x y=>x=z∧y=z
theorem s_sliceBound0 {v v':Value} (h:VRel p v v') (c:BoundsCode):SRel Q (wf Q F) (IsR 0) p (Instr.sliceBound v 0 c) (Instr.sliceBound v' 0 c):=by
 refine SRel.bind (s_asIntOf h) ?_;rintro q _ ⟨k,i⟩ _ rfl;show SRel _ _ _ _ (if 0≤i∧i≤(0:Nat) then _ else _) (if 0≤i∧i≤(0:Nat) then _ else _)
 split
 · rename_i hh
   have e:i=0:=by omega
   subst e;exact .pure ⟨rfl,rfl⟩
 · exact s_boundsPanic _ _ _ _
theorem s_sliceBounds00 {lo lo' hi hi' mx mx':Option Value} (h1:OptR p lo lo') (h2:OptR p hi hi') (h3:OptR p mx mx'):SRel Q (wf Q F) (IsR (0,0,0)) p (Instr.sliceBounds true 0 0 lo hi mx) (Instr.sliceBounds true 0 0 lo' hi' mx'):=by
 have tail:∀ q,p.le q→SRel Q (wf Q F) (IsR (0,0,0)) q (do
  let h ← match hi,mx with
   | some v,some _=>Instr.sliceBound v 0 .slice3B
   | some v,none=>Instr.sliceBound v 0 (if true then .sliceAcap else .sliceAlen)
   | none,none=>Pure.pure 0
   | none,some _=>stuck "Slice: max without high"
  let l ← match lo with
   | some v=>Instr.sliceBound v h (if mx.isSome then .slice3C else .sliceB)
   | none=>Pure.pure 0
  Pure.pure (l,h,0)) (do
  let h ← match hi',mx' with
   | some v,some _=>Instr.sliceBound v 0 .slice3B
   | some v,none=>Instr.sliceBound v 0 (if true then .sliceAcap else .sliceAlen)
   | none,none=>Pure.pure 0
   | none,some _=>stuck "Slice: max without high"
  let l ← match lo' with
   | some v=>Instr.sliceBound v h (if mx'.isSome then .slice3C else .sliceB)
   | none=>Pure.pure 0
  Pure.pure (l,h,0)):=by
  intro q hq;have fin:∀ q2,q.le q2→∀ (c:BoundsCode),SRel Q (wf Q F) (IsR (0,0,0)) q2 (do
   let l ← match lo with
    | some v=>Instr.sliceBound v 0 c
    | none=>Pure.pure 0
   Pure.pure (l,0,0)) (do
   let l ← match lo' with
    | some v=>Instr.sliceBound v 0 c
    | none=>Pure.pure 0
   Pure.pure (l,0,0)):=by
   intro q2 hq2 c;cases h1 with
   | none=>exact .pure ⟨rfl,rfl⟩
   | some hv =>
     refine SRel.bind (s_sliceBound0 ((hv.mono hq).mono hq2) _) ?_;rintro q3 _ l _ ⟨rfl,rfl⟩;exact .pure ⟨rfl,rfl⟩
  cases h2 <;> cases h3
  case none.none=>exact fin q (Inj.le_refl _) _
  case none.some=>exact .stuck _
  case some.none v v' hv =>
   refine SRel.bind (s_sliceBound0 (hv.mono hq) _) ?_;rintro q3 hq3 l _ ⟨rfl,rfl⟩;exact fin q3 hq3 _
  case some.some v v' hv w w' hw =>
   refine SRel.bind (s_sliceBound0 (hv.mono hq) _) ?_;rintro q3 hq3 l _ ⟨rfl,rfl⟩;exact fin q3 hq3 _
 unfold Instr.sliceBounds;cases h3
 case none=>exact tail p (Inj.le_refl _)
 case some v v' hv =>
  refine SRel.bind (s_sliceBound0 hv _) ?_;rintro q hq m _ ⟨rfl,rfl⟩;exact tail q hq
theorem s_slice (t:TypeId) {x x':Value} (hx:VRel p x x') {lo lo' hi hi' mx mx':Option Value} (h1:OptR p lo lo') (h2:OptR p hi hi') (h3:OptR p mx mx'):SRel Q (wf Q F) VRel p (Instr.slice t x lo hi mx) (Instr.slice t x' lo' hi' mx'):=by
 refine SRel.bind (s_underlying t) ?_;rintro q hq d _ ⟨rfl,hd⟩;have hx:=hx.mono hq;have h1:=h1.mono hq;have h2:=h2.mono hq;have h3:=h3.mono hq;cases d
 case string =>
  cases hx
  case string s =>
   cases h3
   case some hv=>exact .stuck _
   case none =>
    refine SRel.bind (s_sliceBounds false s.size s.size h1 h2 .none) ?_;rintro q2 _ ⟨l,h,m⟩ _ rfl;exact .pure (.string _)
  all_goals exact .stuck _
 case slice elem =>
  cases hx
  case slice0 n c =>
   refine SRel.bind (s_sliceBounds true n c h1 h2 h3) ?_;rintro q2 _ ⟨l,h,m⟩ _ rfl;refine SRel.bind (s_sizeOf elem) ?_;rintro q3 _ size _ rfl;show SRel _ _ _ _ (Pure.pure (Value.slice (if m=l then none else none) (h - l) (m - l))) (Pure.pure (Value.slice (if m=l then none else none) (h - l) (m - l)))
   rw [ite_self];exact .pure (.slice0 _ _)
  case slice b b' o s n c hb =>
   refine SRel.bind (s_sliceBounds true n c h1 h2 h3) ?_;rintro q2 hq2 ⟨l,h,m⟩ _ rfl;refine SRel.bind (s_sizeOf elem) ?_;rintro q3 hq3 size _ rfl;have ha:AdR q3 ⟨b,o,s⟩ ⟨b',o,s⟩:=⟨hq3.r _ _ (hq2.r _ _ hb),rfl,rfl⟩;by_cases e:m=l
   · simp only [if_pos e];exact .pure (ha.slice _ _)
   · simp only [if_neg e];exact .pure ((ha.add _).slice _ _)
  case slice00 a x hd =>
   refine SRel.bind (s_sliceBounds00 h1 h2 h3) ?_;rintro q2 hq2 ⟨l,h,m⟩ _ ⟨e,rfl⟩;cases e;refine SRel.bind (s_sizeOf elem) ?_;rintro q3 hq3 size _ rfl;exact .pure (VRel.mono hq3 (VRel.mono hq2 (.slice00 hd)))
  all_goals exact .stuck _
 case pointer arr =>
  refine SRel.bind (s_asAddr hx) ?_;intro q2 hq2 a a' ha;refine SRel.bind (s_underlying arr) ?_;rintro q3 hq3 d _ ⟨rfl,hd⟩;cases d
  case array n elem =>
   refine SRel.bind (s_sliceBounds false n n ((h1.mono hq2).mono hq3) ((h2.mono hq2).mono hq3) ((h3.mono hq2).mono hq3)) ?_;rintro q4 hq4 ⟨l,h,m⟩ _ rfl;refine SRel.bind (s_sizeOf elem) ?_;rintro q5 hq5 size _ rfl;have ha:=((ha.mono hq3).mono hq4).mono hq5;by_cases e:m=l
   · simp only [if_pos e];exact .pure (ha.slice _ _)
   · simp only [if_neg e];exact .pure ((ha.add _).slice _ _)
  all_goals exact .stuck _
 all_goals exact .stuck _
theorem s_sliceAt (t:TypeId) {x x':Value} (hx:VRel p x x') {lo lo' hi hi' mx mx':Option Value} (h1:OptR p lo lo') (h2:OptR p hi hi') (h3:OptR p mx mx'):SRel Q (wf Q F) VRel p (Instr.sliceAt t x lo hi mx) (Instr.sliceAt t x' lo' hi' mx'):=by
 refine SRel.bind (s_underlying t) ?_;rintro q hq d _ ⟨rfl,hd⟩;cases d
 case array n elem =>
  refine SRel.bind (s_sureAddr (hx.mono hq)) ?_;intro q2 hq2 a a' ha;refine SRel.bind (s_sliceBounds false n n ((h1.mono hq).mono hq2) ((h2.mono hq).mono hq2) ((h3.mono hq).mono hq2)) ?_;rintro q4 hq4 ⟨l,h,m⟩ _ rfl;refine SRel.bind (s_sizeOf elem) ?_;rintro q5 hq5 size _ rfl;have ha:=(ha.mono hq4).mono hq5;by_cases e:m=l
  · simp only [if_pos e];exact .pure (ha.slice _ _)
  · simp only [if_neg e];exact .pure ((ha.add _).slice _ _)
 all_goals exact s_slice t (hx.mono hq) (h1.mono hq) (h2.mono hq) (h3.mono hq)
end
open Go
section
variable {Q:Program} {F:Array Func} {p:Inj}
theorem s_arg {xs xs':Array Value} (h:ARel p xs xs') (i:Nat):(xs[i]? = none∧xs'[i]? = none)∨∃ v v',xs[i]? = some v∧xs'[i]? = some v'∧VRel p v v':=by
 cases e:xs[i]? with
 | none=>exact .inl ⟨rfl,h.none e⟩
 | some v =>
   obtain ⟨v',h1,h2⟩:=h.some e;exact .inr ⟨v,v',rfl,h1,h2⟩
theorem s_len (ts:Array TypeId) (t:TypeId) {xs xs':Array Value} (h:ARel p xs xs'):SRel Q (wf Q F) VRel p (Builtin.len_ ts t xs) (Builtin.len_ ts t xs'):=by
 unfold Builtin.len_;cases ts[0]? with
 | none=>exact .stuck _
 | some t0 =>
   rcases s_arg h 0 with ⟨e1,e2⟩ | ⟨v,v',e1,e2,hv⟩
   · rw [e1,e2];exact .stuck _
   · rw [e1,e2]
     refine SRel.bind (s_underlying t0) ?_;rintro q hq d _ ⟨rfl,hd⟩;have hv:=hv.mono hq;cases d
     case array n e=>exact .pure (.int _ _)
     case pointer e =>
      refine SRel.bind (s_underlying e) ?_;rintro q2 hq2 d _ ⟨rfl,hd⟩;cases d <;> first | exact .pure (.int _ _) | exact .stuck _
     case string=>cases hv <;> first | exact .pure (.int _ _) | exact .stuck _
     case slice e=>cases hv <;> first | exact .pure (.int _ _) | exact .stuck _
     all_goals cases hv <;> exact .stuck _
theorem s_max2 {a a' b b':Value} (ha:VRel p a a') (hb:VRel p b b'):SRel Q (wf Q F) VRel p (Builtin.max2 a b) (Builtin.max2 a' b'):=by
 cases ha <;> cases hb
 case string.string x y =>
  refine SRel.bind (s_stringOp .geq x y) ?_;intro q _ v v' hv;refine SRel.bind (s_asBool hv) ?_;rintro q _ r _ rfl;exact .pure (VRel.string _)
 all_goals first | exact .pure (.int _ _) | exact .stuck _ | exact .unsupported _ (by simp)
theorem s_foldMax:∀ (l l':List Value) {p:Inj} {a a':Value},VRel p a a'→ARel p l.toArray l'.toArray→SRel Q (wf Q F) VRel p (l.foldlM Builtin.max2 a) (l'.foldlM Builtin.max2 a'):=by
 intro l
 induction l with
 | nil =>
   intro l' p a a' ha hl;have:l'=[]:=by have:=hl.size;simp at this;exact (List.eq_nil_of_length_eq_zero this.symm)
   subst this;simp only [List.foldlM_nil];exact .pure ha
 | cons x l ih =>
   intro l' p a a' ha hl;cases l' with
   | nil=>have:=hl.size;simp at this
   | cons x' l' =>
     simp only [List.foldlM_cons];refine SRel.bind (s_max2 ha (hl.get 0 x x' (by simp) (by simp))) ?_;intro q hq b b' hb;exact ih l' hb ⟨by have:=hl.size;simpa using this,fun j a a' h1 h2=>(hl.get (j+1) a a' (by simpa using h1) (by simpa using h2)).mono hq⟩
theorem s_max (ts:Array TypeId) (t:TypeId) {xs xs':Array Value} (h:ARel p xs xs'):SRel Q (wf Q F) VRel p (Builtin.max_ ts t xs) (Builtin.max_ ts t xs'):=by
 obtain ⟨l⟩:=xs;obtain ⟨l'⟩:=xs';unfold Builtin.max_;cases l with
 | nil=>exact .stuck _
 | cons x l =>
   cases l' with
   | nil=>have:=h.size;simp at this
   | cons x' l' =>
     exact s_foldMax l l' (h.get 0 x x' (by simp) (by simp)) ⟨by have:=h.size;simpa using this,fun j a a' h1 h2=>h.get (j+1) a a' (by simpa using h1) (by simpa using h2)⟩
theorem ARel.bytes (s:ByteArray) (n:Nat):ARel p ((s.extract 0 n).data.map fun b=>Value.int .u8 b.toNat) ((s.extract 0 n).data.map fun b=>Value.int .u8 b.toNat) :=
 ARel.map_of _ fun _ _=>.int _ _
theorem firstCells_none (size:Nat) (a:Addr):Builtin.firstCells size 0 (.slice (some a) 0 0)=Pure.pure #[]:=by
 show loadCells a (0*size)=_
 rw [Nat.zero_mul];rfl
theorem s_firstCells (size n:Nat) {v v':Value} (h:VRel p v v') (hn:∀ a,v=.slice (some a) 0 0→n=0):SRel Q (wf Q F) ARel p (Builtin.firstCells size n v) (Builtin.firstCells size n v'):=by
 cases h
 case slice00 a x _ =>
  obtain rfl:=hn _ rfl;rw [firstCells_none,firstCells_none];exact .pure (ARel.empty p)
 case slice0=>exact .pure (ARel.empty p)
 case slice b b' o s n c hb=>exact s_loadCells (a:=⟨b,o,s⟩) (a':=⟨b',o,s⟩) ⟨hb,rfl,rfl⟩ _
 case string s=>exact .pure (ARel.bytes s n)
 all_goals exact .stuck _
theorem ARel.zeroCells {z:Array Value} (h:∀ p,ARel p z z) (p:Inj) (n:Nat):ARel p (Builtin.zeroCells z n) (Builtin.zeroCells z n):=ARel.range_map h p _
inductive BaseR (p:Inj) (n c:Nat):Option Addr→Option Addr→Prop
 | none:BaseR p n c none none
 | some {a a':Addr}:AdR p a a'→BaseR p n c (some a) (some a')
 | dang {a x:Addr}:p.dang a=some x→n=0→c=0→BaseR p n c (some a) (some x)
def Reads (Q:Program) {α:Type} (s:Sem α):Prop:=∀ w es,∃ r w' es',s.runT Q w es=(.ok r w',es')∧w'.heap=w.heap
theorem reads_pure {α:Type} (a:α):Reads Q (Pure.pure a:Sem α):=fun w es=>⟨a,w,es,rfl,rfl⟩
theorem reads_bind {α β:Type} {s:Sem α} {f:α→Sem β} (h:Reads Q s) (hf:∀ r,Reads Q (f r)):Reads Q (s >>= f):=by
 intro w es;obtain ⟨r,w1,es1,h1,e1⟩:=h w es;obtain ⟨r2,w2,es2,h2,e2⟩:=hf r w1 es1;refine ⟨r2,w2,es2, ?_,e2.trans e1⟩;show (s.bind f).runT Q w es=_
 rw [Sem.runT_bind',h1];exact h2
theorem reads_holds (a:Addr) (m:Nat):Reads Q (Builtin.holdsCells a m):=by
 refine reads_bind (s:=shape a.block) (fun w es=>⟨_,w,es,rfl,rfl⟩) fun r=>?_
 cases r with
 | none=>exact reads_pure _
 | some x=>exact reads_pure _
theorem reads_share (size sLen n:Nat) (b:Option Addr) (x:Value):Reads Q (Builtin.mayShare size sLen n b x):=by
 unfold Builtin.mayShare;have tail:∀ r:Bool,Reads Q (if (!r)=true then Pure.pure true else match x with | .slice (some c) _ _=>do Pure.pure (!(← Builtin.holdsCells c (n*size))||b.any (·.block==c.block)) | _=>Pure.pure false:Sem Bool):=fun r=>by
  split
  · exact reads_pure _
  · split
    · exact reads_bind (reads_holds _ _) fun r=>reads_pure _
    · exact reads_pure _
 cases b with
 | none=>exact reads_bind (reads_pure _) tail
 | some a=>exact reads_bind (reads_holds _ _) fun r=>reads_bind (s:=frozen _) (fun w es=>⟨_,w,es,rfl,rfl⟩) fun y=>reads_bind (reads_pure _) tail
theorem dead_share {α:Type} {k:Bool→Sem α} (h:∀ r,DeadEnd Q (k r)) (size sLen n:Nat) (b:Option Addr) (x:Value):DeadEnd Q ((Builtin.mayShare size sLen n b x).bind k):=by
 intro w es;obtain ⟨r,w1,es1,h1,e1⟩:=reads_share (Q:=Q) size sLen n b x w es;obtain ⟨y,w2,es2,h2,h3,e2⟩:=h r w1 es1;exact ⟨y,w2,es2,by rw [Sem.runT_bind',h1];exact h2,h3,e2.trans e1⟩
theorem dead_mark {α:Type} {m:Mark} {k:Sem α} (h:DeadEnd Q k):DeadEnd Q (.mark m k):=fun w _=>h w _
theorem BaseR.mono {q:Inj} (h:p.le q) {n c:Nat} {b b':Option Addr} (hb:BaseR p n c b b'):BaseR q n c b b':=by
 cases hb with
 | none=>exact .none
 | some ha=>exact .some (ha.mono h)
 | dang ha h1 h2=>exact .dang (h.dg ▸ ha) h1 h2
theorem BaseR.slice {n c:Nat} {b b':Option Addr} (hb:BaseR p n c b b'):VRel p (.slice b n c) (.slice b' n c):=by
 cases hb with
 | none=>exact .slice0 n c
 | some ha=>exact ha.slice n c
 | dang ha h1 h2=>subst h1;subst h2;exact .slice00 ha
theorem s_lenOf0 {v v':Value} (h:VRel p v v'):SRel Q (wf Q F) (fun _ m m'=>m=m'∧∀ a,v=.slice (some a) 0 0→m=0) p (Builtin.lenOf v) (Builtin.lenOf v'):=by
 cases h <;> first | exact .pure ⟨rfl,fun a e=>by cases e;rfl⟩ | exact .pure ⟨rfl,fun a e=>by cases e⟩ | exact .stuck _
theorem dead_rp {α:Type} (e:RuntimeError) (he:match e with | .typeAssertion .. | .panicNil=>False | _=>True):DeadEnd Q (runtimePanic e:Sem α):=by
 intro w es;cases e <;> first | exact he.elim | exact ⟨_,w,es,rfl,trivial,rfl⟩
theorem s_rp {α β γ δ:Type} {R:Inj→γ→δ→Prop} (e:RuntimeError) (he:match e with | .typeAssertion .. | .panicNil=>False | _=>True) {k:α→Sem γ} {s':Sem β} {k':β→Sem δ}:SRel Q (wf Q F) R p ((runtimePanic e:Sem α) >>= k) (s' >>= k'):=.dead ((dead_rp e he).bind _)
def appRest (elem:TypeId) (size sLen sCap:Nat) (base:Option Addr) (x:Value) (zeros:Bool) (n:Nat):Sem Value:=do
 let appended:Sem (Array Value) :=
  if !zeros then Builtin.firstCells size n x
  else if n*size=0 then Pure.pure #[]
  else do Pure.pure (Builtin.zeroCells (← zeroValue elem).cells n)
 let need:=sLen+n
 if need≤sCap then
  let new ← appended
  if let some a:=base then storeCells (a.add (sLen*size)) new.toList
  Pure.pure (.slice base need sCap)
 else
  if (need:Int) > IntKind.i64.max∧(zeros∨(← typeInfo elem).bytes=0) then runtimePanic (.error "growslice: len out of range")
  if Builtin.nextslicecap need sCap*(← typeInfo elem).bytes > 2 ^ 48 then (if zeros then runtimePanic (.error "growslice: len out of range") else do
   if !(← Builtin.mayShare size sLen n base x) then mark .noRoom
   unsupported (.resourceLimit "append: a slice or a string whose bytes no memory bears"))
  let newCap ← choose (.appendCap need sCap elem)
  askRoom (newCap*(← typeInfo elem).bytes)
  let old ← Builtin.firstCells size sLen (.slice base sLen sCap)
  let new ← appended
  let rest:=Builtin.zeroCells (← zeroValue elem).cells (newCap - need)
  Pure.pure (.slice (some (← newRow elem (old++new++rest))) need newCap)
def appN (elem:TypeId) (size sLen sCap:Nat) (base:Option Addr) (x:Value) (zeros:Bool):Sem Value:=do
 let n ← if zeros then do
  let l:=IntKind.i64.wrap (← asInt x)
  if l<0 then runtimePanic (.error "makeslice: len out of range")
  if l*(← typeInfo elem).bytes > 2 ^ 48 then
   let made ← choose (.extern "append.ofMake.carriedOut" 2)
   runtimePanic (.error (if made==1 then "makeslice: len out of range" else "growslice: len out of range"))
  Pure.pure l.toNat
  else Builtin.lenOf x
 appRest elem size sLen sCap base x zeros n
def appAll (ts:Array TypeId) (elem:TypeId) (sLen sCap:Nat) (base:Option Addr) (x:Value):Sem Value:=do
 let size ← sizeOf elem
 let zeros ← match ts[1]? with
  | some xType=>do Pure.pure ((← underlying xType) matches .int _)
  | none=>Pure.pure false
 appN elem size sLen sCap base x zeros
def appd (elem:TypeId) (size n:Nat) (x:Value) (zeros:Bool):Sem (Array Value) :=
 if !zeros then Builtin.firstCells size n x else if n*size=0 then Pure.pure #[] else do Pure.pure (Builtin.zeroCells (← zeroValue elem).cells n)
theorem s_appended (hz:ZeroOk Q) (elem:TypeId) (he:elem<Q.types.size) (size n:Nat) {x x':Value} (hx:VRel p x x') (zeros:Bool) (hn:zeros=false→∀ a,x=.slice (some a) 0 0→n=0):SRel Q (wf Q F) ARel p
  (appd elem size n x zeros) (appd elem size n x' zeros):=by
 cases zeros with
 | false=>exact s_firstCells size n hx (hn rfl)
 | true =>
   show SRel _ _ _ _ (if n*size=0 then Pure.pure #[] else _) (if n*size=0 then Pure.pure #[] else _)
   split
   · exact .pure (ARel.empty p)
   · refine SRel.bind (s_zeroValue hz elem he) ?_
     rintro q _ z _ ⟨rfl,hc⟩;exact .pure (ARel.zeroCells hc.cells q n)
theorem s_appended0 (elem:TypeId) (size:Nat) {x x':Value} (hx:VRel p x x') (zeros:Bool):SRel Q (wf Q F) (fun _ c c'=>c=#[]∧c'=#[]) p (appd elem size 0 x zeros) (appd elem size 0 x' zeros):=by
 cases zeros with
 | false =>
   have e0:∀ (a:Addr) (l c:Nat),Builtin.firstCells size 0 (.slice (some a) l c)=Pure.pure #[]:=fun a l c=>by
    show loadCells a (0*size)=_
    rw [Nat.zero_mul];rfl
   show SRel _ _ _ _ (Builtin.firstCells size 0 x) (Builtin.firstCells size 0 x')
   cases hx
   case slice0=>exact .pure ⟨rfl,rfl⟩
   case slice=>rw [e0,e0];exact .pure ⟨rfl,rfl⟩
   case slice00=>rw [e0,e0];exact .pure ⟨rfl,rfl⟩
   case string s =>
    have e1:((s.extract 0 0).data.map fun b=>Value.int .u8 b.toNat)=#[]:=by
     exact Array.eq_empty_of_size_eq_zero (by simp [ByteArray.extract,ByteArray.copySlice])
    exact .pure ⟨e1,e1⟩
   all_goals exact .stuck _
 | true =>
   have e:∀ y,appd elem size 0 y true=Pure.pure #[]:=fun y=>by
    unfold appd;rw [Nat.zero_mul];rfl
   rw [e,e];exact .pure ⟨rfl,rfl⟩
theorem s_appRest (hz:ZeroOk Q) (elem:TypeId) (he:elem<Q.types.size) (size sLen sCap:Nat) {b b':Option Addr} (hb:BaseR p sLen sCap b b') {x x':Value} (hx:VRel p x x') (zeros:Bool) (n:Nat) (hn:zeros=false→∀ a,x=.slice (some a) 0 0→n=0):SRel Q (wf Q F) VRel p (appRest elem size sLen sCap b x zeros n) (appRest elem size sLen sCap b' x' zeros n):=by
 unfold appRest;dsimp only;split
 · rename_i hle
   cases hb with
   | dang ha h1 h2 =>
     subst h1;subst h2;obtain rfl:n=0:=by omega
     refine SRel.bind (s_appended0 elem size hx zeros) ?_;rintro q hq _ _ ⟨rfl,rfl⟩;exact .pure ((VRel.slice00 ha).mono hq)
   | none =>
     refine SRel.bind (s_appended hz elem he size n hx zeros hn) ?_;intro q hq cs cs' hcs;exact .pure (.slice0 _ _)
   | some ha =>
     refine SRel.bind (s_appended hz elem he size n hx zeros hn) ?_;intro q hq cs cs' hcs;refine SRel.bind (s_storeCells ((ha.mono hq).add _) _ _ 0 (by simpa using hcs)) ?_;rintro q2 hq2 _ _ _;exact .pure (((ha.mono hq).mono hq2).slice _ _)
 · have grow:∀ q,p.le q→SRel Q (wf Q F) VRel q (do
    let newCap ← choose (.appendCap (sLen+n) sCap elem)
    askRoom (newCap*(← typeInfo elem).bytes)
    let old ← Builtin.firstCells size sLen (.slice b sLen sCap)
    let new ← appd elem size n x zeros
    let rest:=Builtin.zeroCells (← zeroValue elem).cells (newCap - (sLen+n))
    Pure.pure (Value.slice (some (← newRow elem (old++new++rest))) (sLen+n) newCap)) (do
    let newCap ← choose (.appendCap (sLen+n) sCap elem)
    askRoom (newCap*(← typeInfo elem).bytes)
    let old ← Builtin.firstCells size sLen (.slice b' sLen sCap)
    let new ← appd elem size n x' zeros
    let rest:=Builtin.zeroCells (← zeroValue elem).cells (newCap - (sLen+n))
    Pure.pure (Value.slice (some (← newRow elem (old++new++rest))) (sLen+n) newCap)):=by
    intro q hq;refine SRel.bind (s_choose _) ?_;rintro q1 hq1 cp _ rfl;refine SRel.bind (s_typeInfo elem) ?_;rintro q2 hq2 i _ ⟨rfl,_⟩;refine SRel.bind (s_askRoom _) ?_;rintro q3 hq3 _ _ _;have l3:p.le q3:=Inj.le_trans hq (Inj.le_trans hq1 (Inj.le_trans hq2 hq3));refine SRel.bind (s_firstCells size sLen (hb.mono l3).slice (fun a e=>by injection e)) ?_;intro q4 hq4 old old' hold;refine SRel.bind (s_appended hz elem he size n ((hx.mono l3).mono hq4) zeros hn) ?_;intro q5 hq5 new new' hnew;refine SRel.bind (s_zeroValue hz elem he) ?_;rintro q6 hq6 z _ ⟨rfl,hc⟩;refine SRel.bind (s_newRow elem ((((hold.mono hq5).append hnew).mono hq6).append (ARel.zeroCells hc.cells q6 _))) ?_;intro q7 _ a a' ha;exact .pure (ha.slice _ _)
   have big:∀ q,p.le q→SRel Q (wf Q F) (fun _ (_ _:Unit)=>False) q (if zeros then runtimePanic (.error "growslice: len out of range") else do
    if !(← Builtin.mayShare size sLen n b x) then mark .noRoom
    unsupported (.resourceLimit "append: a slice or a string whose bytes no memory bears")) (if zeros then runtimePanic (.error "growslice: len out of range") else do
    if !(← Builtin.mayShare size sLen n b' x') then mark .noRoom
    unsupported (.resourceLimit "append: a slice or a string whose bytes no memory bears")):=by
    intro q hq;split
    · exact s_runtimePanic (.error "growslice: len out of range") trivial
    · refine SRel.dead (dead_share (fun r=>?_) size sLen n b x)
      cases r
      · exact dead_mark (.halt (by intro g;simp))
      · exact .halt (by intro g;simp)
   refine SRel.bind (s_typeInfo elem) ?_;rintro q1 hq1 i _ ⟨rfl,_⟩;split
   · exact s_rp (.error "growslice: len out of range") trivial
   · refine SRel.bind (s_typeInfo elem) ?_
     rintro q2 hq2 i2 _ ⟨rfl,_⟩;split
     · exact SRel.bind (big q2 (Inj.le_trans hq1 hq2)) (fun _ _ _ _ h=>h.elim)
     · exact grow q2 (Inj.le_trans hq1 hq2)
theorem s_appN (hz:ZeroOk Q) (elem:TypeId) (he:elem<Q.types.size) (size sLen sCap:Nat) {b b':Option Addr} (hb:BaseR p sLen sCap b b') {x x':Value} (hx:VRel p x x') (zeros:Bool):SRel Q (wf Q F) VRel p (appN elem size sLen sCap b x zeros) (appN elem size sLen sCap b' x' zeros):=by
 unfold appN;cases zeros with
 | false =>
   refine SRel.bind (s_lenOf0 hx) ?_;rintro q hq n _ ⟨rfl,hn⟩;exact s_appRest hz elem he size sLen sCap (hb.mono hq) (hx.mono hq) false n (fun _=>hn)
 | true =>
   refine SRel.bind (s_asInt hx) ?_;rintro q hq l _ rfl;dsimp only;split
   · exact s_rp (.error "makeslice: len out of range") trivial
   · refine SRel.bind (s_typeInfo elem) ?_
     rintro q2 hq2 i _ ⟨rfl,_⟩;split
     · refine SRel.bind (s_choose _) ?_
       rintro q3 _ n _ rfl;exact s_rp (.error _) trivial
     · exact s_appRest hz elem he size sLen sCap ((hb.mono hq).mono hq2) ((hx.mono hq).mono hq2) true _ (fun e=>by cases e)
theorem s_appAll (hz:ZeroOk Q) (ts:Array TypeId) (elem:TypeId) (he:elem<Q.types.size) (sLen sCap:Nat) {b b':Option Addr} (hb:BaseR p sLen sCap b b') {x x':Value} (hx:VRel p x x'):SRel Q (wf Q F) VRel p (appAll ts elem sLen sCap b x) (appAll ts elem sLen sCap b' x'):=by
 refine SRel.bind (s_sizeOf elem) ?_;rintro q hq size _ rfl;dsimp only;cases ts[1]? with
 | none=>exact s_appN hz elem he size sLen sCap (hb.mono hq) (hx.mono hq) false
 | some t1 =>
   refine SRel.bind (s_underlying t1) ?_;rintro q2 hq2 d _ ⟨rfl,hd⟩;clear hd;exact s_appN hz elem he size sLen sCap ((hb.mono hq).mono hq2) ((hx.mono hq).mono hq2) (match d with | .int _=>true | _=>false)
theorem s_append (hz:ZeroOk Q) (ts:Array TypeId) (hts:∀ t0,ts[0]? = some t0→TyOk Q t0) (t:TypeId) {xs xs':Array Value} (h:ARel p xs xs'):SRel Q (wf Q F) VRel p (Builtin.append_ ts t xs) (Builtin.append_ ts t xs'):=by
 unfold Builtin.append_;cases e0:ts[0]? with
 | none=>exact .stuck _
 | some t0 =>
 rcases s_arg h 0 with ⟨e1,e2⟩ | ⟨v,v',e1,e2,hv⟩
 · rw [e1,e2];exact .stuck _
 rcases s_arg h 1 with ⟨f1,f2⟩ | ⟨x,x',f1,f2,hx⟩
 · rw [e1,e2,f1,f2];exact .stuck _
 rw [e1,e2,f1,f2];refine SRel.bind (s_underlying t0) ?_;rintro q hq d _ ⟨rfl,hde⟩;cases d
 case slice elem =>
  have hd:=hde;cases hv
  case slice0 n c=>exact s_appAll hz ts elem (hts t0 e0 elem hd) n c .none (hx.mono hq)
  case slice b b' o s n c hb=>exact s_appAll hz ts elem (hts t0 e0 elem hd) n c (b:=some ⟨b,o,s⟩) (b':=some ⟨b',o,s⟩) (.some ⟨hq.r _ _ hb,rfl,rfl⟩) (hx.mono hq)
  case slice00 a x hd=>exact s_appAll hz ts elem (hts t0 e0 elem hde) 0 0 (b:=some a) (b':=some x) (.dang (hq.dg ▸ hd) rfl rfl) (hx.mono hq)
  all_goals exact .stuck _
 all_goals exact .stuck _
end
open Go
def Alive (Q:Program) (F:Array Func) (f:FuncId):Prop:=∃ fn fn',Q.funcs[f]? = some fn∧F[f]? = some fn'∧(fn.name== "runtime.NumGoroutine")=false∧(fn'.name== "runtime.NumGoroutine")=false∧fn.body.isNone=false∧fn'.body.isNone=false
inductive NRel (Q:Program) (F:Array Func) (p:Inj):Next→Next→Prop
 | value {v v':Value}:VRel p v v'→NRel Q F p (.value v) (.value v')
 | skip:NRel Q F p .skip .skip
 | enter (f:FuncId) {xs xs':Array Value}:Alive Q F f→ARel p xs xs'→NRel Q F p (.enter f xs) (.enter f xs')
 | round {l l':Nat} (f:FuncId) {xs xs':Array Value} (a b:Code):p.r l l'→ARel p xs xs'→p.ok a→p.ok b→NRel Q F p (.round l f xs a b) (.round l' f xs' a b)
structure FunOk (Q:Program) (F:Array Func) (f:FuncId):Prop where
 ok:(∀ xs,DeadEnd Q (callFunc f xs))∨Alive Q F f
theorem Alive.not_dead {Q:Program} {F:Array Func} {f:FuncId} (h:Alive Q F f) (hd:∀ xs,DeadEnd Q (callFunc f xs)):False:=by
 obtain ⟨fn,fn',h1,h2,h3,h4,h5,h6⟩:=h;obtain ⟨x,w',es',hr,_⟩:=hd #[] default #[];have e:callFunc f #[]=program >>= fun P=>match P.funcs[f]? with
  | none=>stuck "call: no such function"
  | some fn => if fn.name == "runtime.NumGoroutine" then Pure.pure .numGoroutine
    else if fn.body.isNone then do
     mark (.extern f)
     if let some e:=Extern.findNext fn then return ← e #[]
     match Extern.find fn with
     | some e=>Pure.pure (.value (← e #[]))
     | none =>
       if fn.name.endsWith ".init"&&!fn.name.startsWith "("&&!fn.name.startsWith "gosem." then Pure.pure (.value (.tuple #[]))
       else unsupported (.extern fn.name)
    else Pure.pure (.enter f #[]):=rfl
 rw [e] at hr;have e2:(program >>= fun P=>match P.funcs[f]? with
  | none=>stuck "call: no such function"
  | some fn => if fn.name == "runtime.NumGoroutine" then Pure.pure .numGoroutine
    else if fn.body.isNone then do
     mark (.extern f)
     if let some e:=Extern.findNext fn then return ← e #[]
     match Extern.find fn with
     | some e=>Pure.pure (.value (← e #[]))
     | none =>
       if fn.name.endsWith ".init"&&!fn.name.startsWith "("&&!fn.name.startsWith "gosem." then Pure.pure (.value (.tuple #[]))
       else unsupported (.extern fn.name)
    else (Pure.pure (.enter f #[]):Sem Next)).runT Q default #[]=((Pure.pure (.enter f #[]):Sem Next).runT Q default #[]):=by
  show (match Q.funcs[f]? with
  | none=>stuck "call: no such function"
  | some fn=>_:Sem Next).runT Q default #[]=_
  rw [h1];simp only [h3,h5,Bool.false_eq_true,if_false]
 rw [e2] at hr;cases hr
section
variable {Q:Program} {F:Array Func} {p:Inj}
theorem s_callFunc (hf:∀ f,FunOk Q F f) (f:FuncId) {xs xs':Array Value} (h:ARel p xs xs'):SRel Q (wf Q F) (NRel Q F) p (callFunc f xs) (callFunc f xs'):=by
 rcases (hf f).ok with hd | ⟨fn,fn',h1,h2,h3,h4,h5,h6⟩
 · exact .dead (hd xs)
 · refine s_prog ?_
   show SRel _ _ _ _ (match Q.funcs[f]? with | none=>stuck "call: no such function" | some fn=>_) (match F[f]? with | none=>stuck "call: no such function" | some fn=>_)
   rw [h1,h2];simp only [h3,h4,h5,h6,Bool.false_eq_true,if_false];exact .pure (.enter f ⟨fn,fn',h1,h2,h3,h4,h5,h6⟩ h)
theorem s_getLoop {l l':Nat} (h:p.r l l'):SRel Q (wf Q F) LRel p (Instr.getLoop l) (Instr.getLoop l'):=by
 refine SRel.bind (s_getObj h) ?_;intro q _ o o' ho;cases ho with
 | loop hl=>exact .pure hl
 | _=>exact .stuck _
theorem foldl_params:∀ (ps:List Tmp) (l l':List Value) {cs cs':Array Value},ARel p l.toArray l'.toArray→ARel p cs cs' →
  ARel p ((ps.zip l).foldl (fun cs (x:Tmp × Value)=>cs.setIfInBounds x.1 x.2) cs) ((ps.zip l').foldl (fun cs (x:Tmp × Value)=>cs.setIfInBounds x.1 x.2) cs'):=by
 intro ps
 induction ps with
 | nil=>intro l l' cs cs' _ hc;simpa using hc
 | cons t ps ih =>
   intro l l' cs cs' hl hc;cases l with
   | nil =>
     have:l'=[]:=by have:=hl.size;simp at this;exact (List.eq_nil_of_length_eq_zero this.symm)
     subst this
     simpa using hc
   | cons v l =>
     cases l' with
     | nil=>have:=hl.size;simp at this
     | cons v' l' =>
       simp only [List.zip_cons_cons,List.foldl_cons];exact ih l l' ⟨by have:=hl.size;simpa using this,fun j a a' h1 h2=>hl.get (j+1) a a' (by simpa using h1) (by simpa using h2)⟩ (hc.set (hl.get 0 v v' (by simp) (by simp)) _)
theorem s_yield {l l':Nat} (h:p.r l l') {xs xs':Array Value} (hx:ARel p xs xs'):SRel Q (wf Q F) (NRel Q F) p (Instr.yield l xs) (Instr.yield l' xs'):=by
 refine SRel.bind (s_getLoop h) ?_;intro q hq r r' hr;have hxq:=hx.mono hq;by_cases e:xs.size≠r.params.size
 · rw [if_pos e]
   exact .stuck _
 · rw [if_neg e,if_neg (by rw [← hr.params,← hx.size];exact e)]
   refine .pure ?_;rw [← hr.fn,← hr.params,← hr.assign,← hr.body];refine .round _ _ _ (hq.r _ _ h) ?_ hr.okA hr.okB;have:=foldl_params r.params.toList xs.toList xs'.toList (by simpa using hxq) hr.tmps;rw [← Array.foldl_toList,← Array.foldl_toList,Array.toList_zip,Array.toList_zip];exact this
theorem s_callValue (hf:∀ f,FunOk Q F f) {v v':Value} (hv:VRel p v v') {xs xs':Array Value} (hx:ARel p xs xs') :
  SRel Q (wf Q F) (NRel Q F) p (Deferred.ofValue v xs >>= fun d=>invoke d.target d.args) (Deferred.ofValue v' xs' >>= fun d=>invoke d.target d.args):=by
 cases hv
 case func fn fn' xs xs' ys ys' hfn h1 h2 h3 h4 =>
  cases hfn with
  | func f=>exact s_callFunc hf f (((ARel.mk h1 h2).append hx).append (ARel.mk h3 h4))
  | yield hl=>exact s_yield hl ((ARel.mk h1 h2).append hx)
 case nilFunc=>exact s_runtimePanic .nilDeref trivial
 case veil =>
  refine .dead ?_;have e:(#[Value.nilFunc,v']++xs)[0]? = some Value.nilFunc:=by rw [Array.getElem?_append_left (show 0<2 by omega)];rfl
  show DeadEnd Q (match (#[Value.nilFunc,v']++xs)[0]? with
   | some recv=>callMethod recv "" ((#[Value.nilFunc,v']++xs).extract 1 (#[Value.nilFunc,v']++xs).size)
   | _=>stuck "call: a method without a receiver")
  rw [e];exact .halt trivial
 all_goals exact .stuck _
def CallOk (Q:Program) (G:Nat→Prop) (c:Call):Prop:=(∀ x∈c.args,OpdOk G x)∧match c.callee with
 | .value f=>OpdOk G f
 | .builtin .len | .builtin .max=>True
 | .builtin .append=>∀ t0,c.argTypes[0]? = some t0→TyOk Q t0
 | _=>False
theorem s_call (hz:ZeroOk Q) (hf:∀ f,FunOk Q F f) {G:Nat→Prop} {c:Call} (hc:CallOk Q G c) {ρ ρ':Operand→Value} (h:ERel G p ρ ρ') (t:TypeId) :
  SRel Q (wf Q F) (NRel Q F) p (do let d ← resolve ρ c t;invoke d.target d.args) (do let d ← resolve ρ' c t;invoke d.target d.args):=by
 obtain ⟨callee,args,argTypes⟩:=c;obtain ⟨ha,hcal⟩:=hc;simp only at ha hcal;have hargs:ARel p (args.map ρ) (args.map ρ'):=ARel.map_of _ fun x hx=>h x (ha x hx)
 cases callee with
 | invoke recv name=>exact hcal.elim
 | builtin b =>
   cases b <;> first | exact hcal.elim | skip
   · show SRel Q (wf Q F) (NRel Q F) p (Builtin.append_ argTypes t (args.map ρ) >>= fun v=>Pure.pure (Next.value v)) (Builtin.append_ argTypes t (args.map ρ') >>= fun v=>Pure.pure (Next.value v))
     refine SRel.bind (s_append hz argTypes hcal t hargs) ?_;intro q _ v v' hv;exact .pure (.value hv)
   · show SRel Q (wf Q F) (NRel Q F) p (Builtin.len_ argTypes t (args.map ρ) >>= fun v=>Pure.pure (Next.value v)) (Builtin.len_ argTypes t (args.map ρ') >>= fun v=>Pure.pure (Next.value v))
     refine SRel.bind (s_len argTypes t hargs) ?_;intro q _ v v' hv;exact .pure (.value hv)
   · show SRel Q (wf Q F) (NRel Q F) p (Builtin.max_ argTypes t (args.map ρ) >>= fun v=>Pure.pure (Next.value v)) (Builtin.max_ argTypes t (args.map ρ') >>= fun v=>Pure.pure (Next.value v))
     refine SRel.bind (s_max argTypes t hargs) ?_;intro q _ v v' hv;exact .pure (.value hv)
 | value f =>
   exact s_callValue hf (h f hcal) hargs
def OkOp (Q:Program) (G:Nat→Prop):Op→Prop
 | .move x | .assign x | .box _ x | .load _ x | .fieldAddr _ x _ | .field _ x _ | .extract x _ | .unOp _ _ x=>OpdOk G x
 | .pick c a b=>OpdOk G c∧OpdOk G a∧OpdOk G b
 | .alloc e=>e<Q.types.size
 | .build t ps=>t<Q.types.size∧∀ x∈ps,OpdOk G x.2
 | .buildSlice t _ ps=>TyOk Q t∧∀ x∈ps,OpdOk G x.2
 | .store _ a x=>OpdOk G a∧OpdOk G x
 | .binOp op t x y _=>BinOk Q op t=true∧OpdOk G x∧OpdOk G y
 | .convert s d x=>ConvOk Q s d=true∧OpdOk G x
 | .makeFunc (.func _) first captured=>(∀ x∈first,OpdOk G x)∧∀ x∈captured,OpdOk G x
 | .makeSlice t l c=>TyOk Q t∧OpdOk G l∧OpdOk G c
 | .slice _ x lo hi mx=>OpdOk G x∧(∀ y,lo=some y→OpdOk G y)∧(∀ y,hi=some y→OpdOk G y)∧∀ y,mx=some y→OpdOk G y
 | .indexAddr _ x i | .index _ x i=>OpdOk G x∧OpdOk G i
 | .call c=>CallOk Q G c
 | _=>False
theorem optR_map {G:Nat→Prop} {ρ ρ':Operand→Value} (h:ERel G p ρ ρ') {o:Option Operand} (ho:∀ y,o=some y→OpdOk G y):OptR p (o.map ρ) (o.map ρ'):=by
 cases o with
 | none=>exact .none
 | some y=>exact .some (h y (ho y rfl))
theorem pl_map {G:Nat→Prop} {ρ ρ':Operand→Value} (h:ERel G p ρ ρ') {ps:Array (Nat × Operand)} (hp:∀ x∈ps,OpdOk G x.2):PL p (ps.map fun (i,x)=>(i,ρ x)).toList (ps.map fun (i,x)=>(i,ρ' x)).toList:=by
 refine ⟨by simp,fun i x x' h1 h2=>?_⟩;simp only [Array.toList_map,List.getElem?_map,Array.getElem?_toList] at h1 h2;cases e:ps[i]? with
 | none=>rw [e] at h1;cases h1
 | some y =>
   rw [e] at h1 h2;cases h1;cases h2;exact ⟨rfl,h _ (hp y (Array.mem_of_getElem? e))⟩
theorem s_value {s s':Sem Value} (h:SRel Q (wf Q F) VRel p s s'):SRel Q (wf Q F) (NRel Q F) p (do Pure.pure (Next.value (← s))) (do Pure.pure (Next.value (← s'))) :=
 SRel.bind h fun _ _ _ _ hv=>.pure (.value hv)
theorem s_unit {s s':Sem Unit} (h:SRel Q (wf Q F) EqR p s s'):SRel Q (wf Q F) (NRel Q F) p (do s;Pure.pure Next.skip) (do s';Pure.pure Next.skip) :=
 SRel.bind h fun _ _ _ _ _=>.pure .skip
theorem s_execOp (hg:p.g=Q.globals.size) (hz:ZeroOk Q) (hf:∀ f,FunOk Q F f) {G:Nat→Prop} {o:Oper} (ho:OkOp Q G o.op) {ρ ρ':Operand→Value} (h:ERel G p ρ ρ'):SRel Q (wf Q F) (NRel Q F) p (execOp ρ o) (execOp ρ' o):=by
 unfold execOp;generalize o.op=op at ho ⊢;cases op
 case move x=>exact .pure (.value (h x ho))
 case assign x=>exact .pure (.value (h x ho))
 case pick c a b =>
  show SRel Q (wf Q F) (NRel Q F) p (do Pure.pure (Next.value (if ← asBool (ρ c) then ρ a else ρ b))) (do Pure.pure (Next.value (if ← asBool (ρ' c) then ρ' a else ρ' b)))
  refine SRel.bind (s_asBool (h c ho.1)) ?_;rintro q hq x _ rfl;cases x
  · exact .pure (.value ((h b ho.2.2).mono hq))
  · exact .pure (.value ((h a ho.2.1).mono hq))
 case alloc e=>exact s_value (s_alloc hz e ho)
 case box e x=>exact s_value (s_box e (h x ho))
 case build t ps=>exact s_value (s_build hz t ho.1 (pl_map h ho.2))
 case buildSlice t n ps=>exact s_value (s_buildSlice hz t ho.1 n (pl_map h ho.2))
 case load t x=>exact s_value (s_loadAt t (h x ho))
 case store t a x=>exact s_unit (s_storeAt t (h a ho.1) (h x ho.2))
 case binOp op t x y u=>exact s_value (s_guarded hg op t ho.1 x y (h x ho.2.1) (h y ho.2.2))
 case unOp op t x=>exact s_value (s_unary op (h x ho))
 case convert s d x=>exact s_value (s_convert ho.1 (h x ho.2))
 case makeFunc fn first captured =>
  cases fn
  case func f =>
   have h1:ARel p (first.map ρ) (first.map ρ'):=ARel.map_of _ fun x hx=>h x (ho.1 x hx)
   have h2:ARel p (captured.map ρ) (captured.map ρ'):=ARel.map_of _ fun x hx=>h x (ho.2 x hx)
   exact .pure (.value (.func (.func f) h1.size h1.get h2.size h2.get))
  all_goals exact ho.elim
 case makeSlice t l c=>exact s_value (s_makeSlice hz t ho.1 (h l ho.2.1) (h c ho.2.2))
 case slice t x lo hi mx=>exact s_value (s_sliceAt t (h x ho.1) (optR_map h ho.2.1) (optR_map h ho.2.2.1) (optR_map h ho.2.2.2))
 case fieldAddr s x f=>exact s_value (s_fieldAt s (h x ho) f)
 case field t x f=>exact s_value (s_field t (h x ho) f)
 case indexAddr t x i=>exact s_value (s_indexAt t (h x ho.1) (h i ho.2))
 case index t x i=>exact s_value (s_index t (h x ho.1) (h i ho.2))
 case extract x i=>exact s_value (s_extract (h x ho) i)
 case call c=>exact s_call hz hf ho h _
 all_goals exact ho.elim
inductive MarkR (p:Inj):List Deferred→List Deferred→Prop
 | nil:MarkR p [] []
 | cons {r r':Nat} {ds ds':List Deferred}:p.r r r'→MarkR p ds ds'→MarkR p ({ target:=.collected r,args:=#[] }::ds) ({ target:=.collected r',args:=#[] }::ds')
theorem MarkR.mono {q:Inj} (h:p.le q) {ds ds':List Deferred} (hd:MarkR p ds ds'):MarkR q ds ds':=by
 induction hd with
 | nil=>exact .nil
 | cons hr _ ih=>exact .cons (h.r _ _ hr) ih
theorem MarkR.append {ds ds' es es':List Deferred} (hd:MarkR p ds ds') (he:MarkR p es es'):MarkR p (ds++es) (ds'++es'):=by
 induction hd with
 | nil=>exact he
 | cons hr _ ih=>exact .cons hr ih
inductive RoundR (p:Inj):Option Nat→Option Nat→Prop
 | none:RoundR p none none
 | some {l l':Nat}:p.r l l'→RoundR p (some l) (some l')
theorem RoundR.mono {q:Inj} (h:p.le q) {o o':Option Nat} (ho:RoundR p o o'):RoundR q o o':=by
 cases ho with
 | none=>exact .none
 | some hr=>exact .some (h.r _ _ hr)
theorem s_enterLoop (f:FuncId) {xs xs':Array Value} (hx:ARel p xs xs') (ps:Array Tmp) (a b:Code) (h1:p.ok a) (h2:p.ok b) {o o':Option Nat} (ho:RoundR p o o') :
  SRel Q (wf Q F) (fun q x y=>q.r x.1 y.1∧MarkR q x.2 y.2) p (Instr.enterLoop f xs ps a b o) (Instr.enterLoop f xs' ps a b o'):=by
 have key:∀ q,p.le q→∀ (d d':Nat) (m m':List Deferred),q.r d d'→MarkR q m m'→SRel Q (wf Q F) (fun q x y=>q.r x.1 y.1∧MarkR q x.2 y.2) q
  (do Pure.pure (← newObj (.loop { state:=.ready,pending:=none,fn:=f,tmps:=xs,params:=ps,assign:=a,body:=b,defers:=d }),m))
  (do Pure.pure (← newObj (.loop { state:=.ready,pending:=none,fn:=f,tmps:=xs',params:=ps,assign:=a,body:=b,defers:=d' }),m')):=by
  intro q hq d d' m m' hd hm;refine SRel.bind (s_newObj (.loop ⟨rfl,rfl,rfl,hx.mono hq,rfl,rfl,rfl,hd,hq.ok ▸ h1,hq.ok ▸ h2,.inl rfl⟩)) ?_;intro q2 hq2 r r' hr;exact .pure ⟨hr,hm.mono hq2⟩
 cases ho with
 | none =>
   refine SRel.bind (s_newObj .deferred1) ?_;intro q hq r r' hr;exact key q hq r r' _ _ hr (.cons hr .nil)
 | some hl =>
   refine SRel.bind (s_getLoop hl) ?_;intro q hq r r' hr;exact key q hq _ _ _ _ hr.defers .nil
theorem s_beginRound {l l':Nat} (h:p.r l l'):SRel Q (wf Q F) EqR p (Instr.beginRound l) (Instr.beginRound l'):=by
 refine SRel.bind (s_getLoop h) ?_;intro q hq r r' hr;refine SRel.bind (s_setObj (hq.r _ _ h) (.loop ⟨rfl,hr.pending,hr.fn,hr.tmps,hr.params,hr.assign,hr.body,hr.defers,hr.okA,hr.okB,hr.jump⟩)) ?_;rintro q2 _ _ _ _;rw [← hr.state];cases r.state
 · exact .pure rfl
 · exact s_runtimePanic (.error "range function continued iteration after loop body panic") trivial
 · exact s_runtimePanic (.error "range function continued iteration after function for loop body returned false") trivial
 · exact s_runtimePanic (.error "range function continued iteration after whole loop exit") trivial
theorem s_endRound {l l':Nat} (h:p.r l l') (jump:Option Code) (hj:jump=none∨jump=some .ret∨∃ id,jump=some (.exit id)):SRel Q (wf Q F) VRel p (Instr.endRound l jump) (Instr.endRound l' jump):=by
 refine SRel.bind (s_getLoop h) ?_;intro q hq r r' hr;refine SRel.bind (s_setObj (hq.r _ _ h) (.loop ⟨rfl,rfl,hr.fn,hr.tmps,hr.params,hr.assign,hr.body,hr.defers,hr.okA,hr.okB,hj⟩)) ?_;rintro q2 _ _ _ _;exact .pure (.bool _)
theorem s_endLoop {l l':Nat} (h:p.r l l'):SRel Q (wf Q F) (fun _ a b=>a=b∧(a=none∨a=some .ret∨∃ id,a=some (.exit id))) p (Instr.endLoop l) (Instr.endLoop l'):=by
 refine SRel.bind (s_getLoop h) ?_;intro q hq r r' hr;rw [← hr.state];split
 · exact s_rp (.error "range function recovered a loop body panic and did not resume panicking") trivial
 · refine SRel.bind (s_setObj (hq.r _ _ h) (.loop ⟨rfl,hr.pending,hr.fn,hr.tmps,hr.params,hr.assign,hr.body,hr.defers,hr.okA,hr.okB,hr.jump⟩)) ?_
   rintro q2 _ _ _ _;exact .pure ⟨hr.pending,hr.jump⟩
theorem s_takeDeferred {r r':Nat} (h:p.r r r'):SRel Q (wf Q F) (fun _ a b=>a=[]∧b=[]) p (Instr.takeDeferred r) (Instr.takeDeferred r'):=by
 refine SRel.bind (s_getObj h) ?_;intro q hq o o' ho;cases ho with
 | deferred1 =>
   refine SRel.bind (s_setObj (hq.r _ _ h) .deferred0) ?_;rintro q2 _ _ _ _;exact .pure ⟨rfl,rfl⟩
 | _=>exact .stuck _
theorem s_results (fn fn':Func) (he:fn'.results=fn.results) {xs xs':Array Value} (hx:ARel p xs xs'):SRel Q (wf Q F) VRel p (results fn xs) (results fn' xs'):=by
 unfold results;rw [he];refine SRel.bind (R:=ARel) ?_ ?_
 · rw [Array.mapM_eq_mapM_toList,Array.mapM_eq_mapM_toList]
   refine s_map (R:=fun q (a b:List Value)=>ARel q a.toArray b.toArray) ?_ (fun q a b h=>h);generalize fn.results.toList=l;clear he
   induction l generalizing p with
   | nil=>simp only [List.mapM_nil];exact .pure (ARel.empty _)
   | cons r l ih =>
     simp only [List.mapM_cons];refine SRel.bind (R:=VRel) ?_ ?_
     · cases r with
       | tmp t=>exact .pure (hx.getD t (VRel.undef p))
       | cell a t =>
         refine SRel.bind (s_asAddr (hx.getD a (VRel.undef p))) ?_;intro q _ b b' hb;exact s_loadVar t hb
     · intro q hq v v' hv
       refine SRel.bind (ih (hx.mono hq)) ?_;intro q2 hq2 vs vs' hvs;refine .pure ?_;have:=(ARel.one (hv.mono hq2)).append hvs
       simpa using this
 · intro q _ vs vs' hvs
   refine .pure ?_;by_cases h1:vs.size=1
   · have h1':vs'.size=1:=by rw [← hvs.size];exact h1
     rw [dif_pos h1,dif_pos h1'];exact hvs.get 0 _ _ (Array.getElem?_eq_getElem (by omega)) (Array.getElem?_eq_getElem (by omega))
   · have h1':¬ vs'.size=1:=by rw [← hvs.size];exact h1
     rw [dif_neg h1,dif_neg h1'];exact hvs.tuple
end
open Go
inductive CRel (Q:Program) (G:Nat→Prop):Code→Code→Prop
 | refuse (why:String) (c:Code):CRel Q G (.refuse why) c
 | skip:CRel Q G .skip .skip
 | ret:CRel Q G .ret .ret
 | exit (id:Nat):CRel Q G (.exit id) (.exit id)
 | seq {a a' b b':Code}:CRel Q G a a'→CRel Q G b b'→CRel Q G (.seq a b) (.seq a' b')
 | cond {c:Operand} {a a' b b':Code}:OpdOk G c→CRel Q G a a'→CRel Q G b b'→CRel Q G (.cond c a b) (.cond c a' b')
 | block (id:Nat) {a a':Code}:CRel Q G a a'→CRel Q G (.block id a) (.block id a')
 | loop {a a':Code}:CRel Q G a a'→CRel Q G (.loop a) (.loop a')
 | region (id:Nat) {ops:Array Oper} (d:Bool):(∀ o∈ops,OkOp Q G o.op)→CRel Q G (.region id ops d) (.region id ops d)
 | rangeFunc {f:Operand} (ps:Array Tmp) {a b:Code}:OpdOk G f→CRel Q G a a→CRel Q G b b→CRel Q G (.rangeFunc f ps a b) (.rangeFunc f ps a b)
inductive IRel (Q:Program) (G:Nat→Prop) (p:Inj):Item→Item→Prop
 | code {c c':Code}:CRel Q G c c'→IRel Q G p (.code c) (.code c')
 | inBlock (id:Nat):IRel Q G p (.inBlock id) (.inBlock id)
 | inLoop {c c':Code}:CRel Q G c c'→IRel Q G p (.inLoop c) (.inLoop c')
 | inRegion {ops:Array Oper} (t:List Nat):(∀ o∈ops,OkOp Q G o.op)→IRel Q G p (.inRegion ops t) (.inRegion ops t)
 | inRangeFunc {l l':Nat}:p.r l l'→IRel Q G p (.inRangeFunc l) (.inRangeFunc l')
 | endRangeFunc {l l':Nat}:p.r l l'→IRel Q G p (.endRangeFunc l) (.endRangeFunc l')
 | beginRound:IRel Q G p .beginRound .beginRound
inductive TRel (Q:Program) (G:Nat→Prop) (p:Inj):List Item→List Item→Prop
 | nil:TRel Q G p [] []
 | cons {i i':Item} {k k':List Item}:IRel Q G p i i'→TRel Q G p k k'→TRel Q G p (i::k) (i'::k')
section
variable {Q:Program} {F:Array Func} {G:Nat→Prop} {p q:Inj}
theorem IRel.mono (h:p.le q) {i i':Item} (hi:IRel Q G p i i'):IRel Q G q i i':=by
 cases hi with
 | code hc=>exact .code hc
 | inBlock id=>exact .inBlock id
 | inLoop hc=>exact .inLoop hc
 | inRegion t ho=>exact .inRegion t ho
 | inRangeFunc hl=>exact .inRangeFunc (h.r _ _ hl)
 | endRangeFunc hl=>exact .endRangeFunc (h.r _ _ hl)
 | beginRound=>exact .beginRound
theorem TRel.mono (h:p.le q) {k k':List Item} (hk:TRel Q G p k k'):TRel Q G q k k':=by
 induction hk with
 | nil=>exact .nil
 | cons hi _ ih=>exact .cons (hi.mono h) ih
theorem TRel.exitTo (id:Nat) {k k':List Item} (h:TRel Q G p k k'):(exitTo id k=none∧exitTo id k'=none)∨∃ j j',exitTo id k=some j∧exitTo id k'=some j'∧TRel Q G p j j':=by
 induction h with
 | nil=>exact .inl ⟨rfl,rfl⟩
 | @cons i i' k k' hi hk ih =>
   cases hi with
   | inBlock id' =>
     simp only [Go.exitTo];by_cases e:(id'==id)=true
     · rw [if_pos e,if_pos e];exact .inr ⟨_,_,rfl,rfl,hk⟩
     · rw [if_neg e,if_neg e];exact ih
   | _=>exact ih
inductive ModeR:FrameMode→FrameMode→Prop
 | run:ModeR .run .run
 | returning:ModeR .returning .returning
structure FRel (Q:Program) (F:Array Func) (G:Nat→Prop) (p:Inj) (D:List Deferred) (fr fr':Frame):Prop where
 fn:fr.fn=fr'.fn
 tmps:ARel p fr.tmps fr'.tmps
 todo:TRel Q G p fr.todo fr'.todo
 mode:ModeR fr.mode fr'.mode
 kind:fr.kind=.normal
 kind':fr'.kind=.normal
 round:RoundR p fr.roundOf fr'.roundOf
 defers:∃ ms,MarkR p fr.defers ms∧fr'.defers=ms++D
 ret:fr.mode=.returning→fr.roundOf=none
 func:fr.roundOf=none→∃ fn fn',Q.funcs[fr.fn]? = some fn∧F[fr.fn]? = some fn'∧fn'.results=fn.results
theorem FRel.mono {D:List Deferred} (h:p.le q) {fr fr':Frame} (hf:FRel Q F G p D fr fr'):FRel Q F G q D fr fr' :=
 ⟨hf.fn,hf.tmps.mono h,hf.todo.mono h,hf.mode,hf.kind,hf.kind',hf.round.mono h,hf.defers.imp fun _ x=>⟨x.1.mono h,x.2⟩,hf.ret,hf.func⟩
theorem FRel.eval {D:List Deferred} {fr fr':Frame} (h:FRel Q F G p D fr fr') (hG:∀ g,G g→p.r g g):ERel G p fr.eval fr'.eval:=by
 intro x hx;cases x with
 | tmp t=>exact h.tmps.getD t (VRel.undef p)
 | const v=>exact hx p
 | global g=>exact .ptr 0 none (hG g hx)
 | func f=>exact .func (.func f) rfl (fun i a a' h=>by simp at h) rfl (fun i a a' h=>by simp at h)
theorem FRel.finish {D:List Deferred} {fr fr':Frame} (h:FRel Q F G p D fr fr') {v v':Value} (hv:VRel p v v'):FRel Q F G p D (fr.finish v) (fr'.finish v'):=by
 obtain ⟨fn,tmps,todo,defers,mode,kind,roundOf⟩:=fr;obtain ⟨fn',tmps',todo',defers',mode',kind',roundOf'⟩:=fr';obtain ⟨h1,h2,h3,h4,h5,h6,h7,h8,h9,h10⟩:=h;simp only at h1 h2 h3 h4 h5 h6 h7 h8 h9 h10;cases h3 with
 | nil=>exact ⟨h1,h2,.nil,h4,h5,h6,h7,h8,h9,h10⟩
 | cons hi hk =>
   cases hi with
   | inRegion t ho =>
     cases t with
     | nil=>exact ⟨h1,h2,.cons (.inRegion [] ho) hk,h4,h5,h6,h7,h8,h9,h10⟩
     | cons i rest =>
       rename_i ops
       simp only [Frame.finish];refine ⟨h1, ?_,.cons (.inRegion rest ho) hk,h4,h5,h6,h7,h8,h9,h10⟩;cases (ops[i]?).bind (·.dst) with
       | none=>exact h2
       | some d=>exact h2.set hv d
   | inRangeFunc hl=>exact ⟨h1,h2,.cons (.endRangeFunc hl) hk,h4,h5,h6,h7,h8,h9,h10⟩
   | beginRound=>exact ⟨h1,h2,hk,h4,h5,h6,h7,h8,h9,h10⟩
   | code hc=>exact ⟨h1,h2,.cons (.code hc) hk,h4,h5,h6,h7,h8,h9,h10⟩
   | inBlock id=>exact ⟨h1,h2,.cons (.inBlock id) hk,h4,h5,h6,h7,h8,h9,h10⟩
   | inLoop hc=>exact ⟨h1,h2,.cons (.inLoop hc) hk,h4,h5,h6,h7,h8,h9,h10⟩
   | endRangeFunc hl=>exact ⟨h1,h2,.cons (.endRangeFunc hl) hk,h4,h5,h6,h7,h8,h9,h10⟩
theorem FRel.withTodo {D:List Deferred} {fr fr':Frame} (h:FRel Q F G p D fr fr') {k k':List Item} (hk:TRel Q G p k k'):FRel Q F G p D { fr with todo:=k } { fr' with todo:=k' } :=
 ⟨h.fn,h.tmps,hk,h.mode,h.kind,h.kind',h.round,h.defers,h.ret,h.func⟩
theorem FRel.leave {D:List Deferred} {fr fr':Frame} (h:FRel Q F G p D fr fr') (hr:fr.roundOf=none):FRel Q F G p D { fr with mode:=.returning } { fr' with mode:=.returning } :=
 ⟨h.fn,h.tmps,h.todo,.returning,h.kind,h.kind',h.round,h.defers,fun _=>hr,h.func⟩
theorem yielded_rel {tmps tmps':Array Value} (h:ARel p tmps tmps') (ops:Array Oper):yielded ops tmps=yielded ops tmps':=by
 funext j
 unfold yielded;cases (ops[j]?).bind (·.dst) with
 | none=>rfl
 | some d =>
   simp only [Option.bind_some];cases e:tmps[d]? with
   | none=>rw [h.none e]
   | some v =>
     obtain ⟨v',h1,h2⟩:=h.some e;rw [h1];cases h2
     case veil k1 k2 k3=>cases v' <;> first | rfl | exact absurd rfl (k3 _)
     all_goals rfl
theorem FRel.enter {f:FuncId} {fn fn':Func} (h1:Q.funcs[f]? = some fn) (h2:F[f]? = some fn') (hn:fn'.ntmps=fn.ntmps) (hr:fn'.results=fn.results) {c c':Code} (hb:fn.body=some c) (hb':fn'.body=some c') (hc:CRel Q G c c')
  {xs xs':Array Value} (hx:ARel p xs xs'):FRel Q F G p [] (Frame.enter Q f xs .normal) (Frame.enter (wf Q F) f xs' .normal):=by
 have e1:(wf Q F).funcs[f]? = some fn':=h2;simp only [Frame.enter,h1,e1,hb,hb',hn,Option.map_some,Option.getD_some,Option.bind_some];refine ⟨rfl,hx.append ?_,.cons (.code hc) .nil,.run,rfl,rfl,.none,⟨[],.nil,rfl⟩,fun h=>(by cases h),fun _=>⟨fn,fn',h1,h2,hr⟩⟩;show ARel p (Array.replicate (fn.ntmps - xs.size) undef) (Array.replicate (fn.ntmps - xs'.size) undef)
 rw [← hx.size];exact ARel.replicate (VRel.undef p) _
end
open Go
structure Floor (Q:Program) (c0:Frame):Prop where
 defers:c0.defers=[]
 catches:c0.catches Q=true
 back:∀ v,(c0.finish v).mode=.run∧∃ row args k,(c0.finish v).todo=.extern row args::k∧Extern.next row=none
inductive Stk (Q:Program) (F:Array Func) (G:Nat→Prop) (p:Inj) (D:List Deferred) (c0:Frame) (cs0:List Frame):Frame→List Frame→Frame→List Frame→Prop
 | base {fr fr':Frame}:FRel Q F G p D fr fr'→fr.roundOf=none→Stk Q F G p D c0 cs0 fr [c0] fr' cs0
 | up {fr fr' c c':Frame} {k k':List Frame}:FRel Q F G p [] fr fr'→Stk Q F G p D c0 cs0 c k c' k'→Stk Q F G p D c0 cs0 fr (c::k) fr' (c'::k')
inductive PStk (p:Inj) (c0:Frame):Frame→List Frame→Prop
 | base {fr:Frame}:(∃ ds,MarkR p fr.defers ds)→(∀ d b r s k,fr.todo≠.call d b r s::k)→PStk p c0 fr [c0]
 | up {fr c:Frame} {k:List Frame}:(∃ ds,MarkR p fr.defers ds)→(∀ d b r s k,fr.todo≠.call d b r s::k)→PStk p c0 c k→PStk p c0 fr (c::k)
section
variable {Q:Program} {F:Array Func} {G:Nat→Prop} {p q:Inj} {D:List Deferred} {c0:Frame} {cs0:List Frame}
theorem Stk.mono (h:p.le q) {fr fr':Frame} {cs cs':List Frame} (hs:Stk Q F G p D c0 cs0 fr cs fr' cs'):Stk Q F G q D c0 cs0 fr cs fr' cs':=by
 induction hs with
 | base hf hr=>exact .base (hf.mono h) hr
 | up hf _ ih=>exact .up (hf.mono h) ih
theorem TRel.noCall {k k':List Item} (h:TRel Q G p k k'):∀ d b r s j,k≠.call d b r s::j:=by
 intro d b r s j e;subst e;cases h with
 | cons hi _=>cases hi
theorem FRel.pstk {fr fr':Frame} (h:FRel Q F G p D fr fr'):(∃ ds,MarkR p fr.defers ds)∧∀ d b r s k,fr.todo≠.call d b r s::k :=
 ⟨let ⟨ms,h1,_⟩:=h.defers;⟨ms,h1⟩,h.todo.noCall⟩
theorem Stk.pstk {fr fr':Frame} {cs cs':List Frame} (hs:Stk Q F G p D c0 cs0 fr cs fr' cs'):PStk p c0 fr cs:=by
 induction hs with
 | base hf _=>exact .base hf.pstk.1 hf.pstk.2
 | up hf _ ih=>exact .up hf.pstk.1 hf.pstk.2 ih
theorem PStk.mono (h:p.le q) {fr:Frame} {cs:List Frame} (hs:PStk p c0 fr cs):PStk q c0 fr cs:=by
 induction hs with
 | base h1 h2=>exact .base (h1.imp fun _ x=>x.mono h) h2
 | up h1 h2 _ ih=>exact .up (h1.imp fun _ x=>x.mono h) h2 ih
theorem PStk.raise {fr:Frame} {cs:List Frame} (hs:PStk p c0 fr cs) (ch:List PanicEntry):PStk p c0 (fr.raise ch) cs:=by
 have e1:(fr.raise ch).defers=fr.defers:=by unfold Frame.raise;cases fr.mode <;> rfl
 have e2:(fr.raise ch).todo=fr.todo:=by unfold Frame.raise;cases fr.mode <;> rfl
 cases hs with
 | base h1 h2=>exact .base (by rw [e1];exact h1) (by rw [e2];exact h2)
 | up h1 h2 h3=>exact .up (by rw [e1];exact h1) (by rw [e2];exact h2) h3
theorem raise_mode (fr:Frame) (ch:List PanicEntry):∃ chain,(fr.raise ch).mode=.panicking chain:=by
 unfold Frame.raise;cases fr.mode <;> exact ⟨_,rfl⟩
end
structure Panics (c0:Frame) (fr:Frame) (cs:List Frame) (gw:World):Prop where
 mode:∃ chain,fr.mode=.panicking chain
 rows:∃ q w,WRel q gw w∧PStk q c0 fr cs
structure Enters (Q:Program) (F:Array Func) (G:Nat→Prop) (Sp:FuncId→Prop) (p:Inj) (D:List Deferred) (c0:Frame) (cs0:List Frame) (fr:Frame) (cs:List Frame) (fr':Frame) (cs':List Frame):Prop where
 ex:∃ f xs xs' c k c' k',Sp f∧ARel p xs xs'∧fr=Frame.enter Q f xs .normal∧fr'=Frame.enter (wf Q F) f xs' .normal∧cs=c::k∧cs'=c'::k'∧Stk Q F G p D c0 cs0 c k c' k'
inductive Out (Q:Program) (F:Array Func) (G:Nat→Prop) (Sp:FuncId→Prop) (p:Inj) (D:List Deferred) (c0:Frame) (cs0:List Frame) (gs:World→GStep) (rs:GStep) (gw w:World):Prop
 | ended {o:Outcome} {w1:World} {es:Array Event}:gs gw=.ended o w1 es→Out Q F G Sp p D c0 cs0 gs rs gw w
 | panics {fr:Frame} {cs:List Frame} {w1:World} {es:Array Event}:gs gw=.go (Conc.G fr cs) w1 es→Panics c0 fr cs w1→Out Q F G Sp p D c0 cs0 gs rs gw w
 | on {q:Inj} {fr fr':Frame} {cs cs':List Frame} {gw1 w1:World} {es es':Array Event}:gs gw=.go (Conc.G fr cs) gw1 es→rs=.go (Conc.G fr' cs') w1 es'→p.le q →
  (Stk Q F G q D c0 cs0 fr cs fr' cs'∨Enters Q F G Sp q D c0 cs0 fr cs fr' cs')→WRel q gw1 w1→TA gw1 w1→Fr p q w w1→(∀ e∈es',EvIn q e)→gw.drawn≤gw1.drawn→gw1.tape=gw.tape →
  (∀ τ,(∀ i,gw.drawn≤i→i<gw1.drawn→τ i=gw.tape i)→gs (gw.retape τ)=.go (Conc.G fr cs) (gw1.retape τ) es)→Out Q F G Sp p D c0 cs0 gs rs gw w
section
variable {Q:Program} {F:Array Func} {G:Nat→Prop} {Sp:FuncId→Prop} {p:Inj} {D:List Deferred} {c0:Frame} {cs0:List Frame} {gs:World→GStep} {rs:GStep} {gw w:World}
theorem Out.move {fr fr':Frame} {cs cs':List Frame} (hW:WRel p gw w) (hT:TA gw w) (h1:∀ w,gs w=.go (Conc.G fr cs) w) (h2:rs=.go (Conc.G fr' cs') w) (hs:Stk Q F G p D c0 cs0 fr cs fr' cs'):Out Q F G Sp p D c0 cs0 gs rs gw w :=
 .on (h1 gw) h2 (Inj.le_refl _) (.inl hs) hW hT (Fr.refl _ _) (by simp) (Nat.le_refl _) rfl (fun τ _=>h1 _)
theorem Out.sem {α β:Type} {R:Inj→α→β→Prop} {s:Sem α} {s':Sem β} (hs:SRel Q (wf Q F) R p s s') (hW:WRel p gw w) (hT:TA gw w) {fr:Frame} {cs:List Frame} (hp:PStk p c0 fr cs)
  (ok:α→Goroutine) (ok':β→Goroutine) (f f':Array Event→Array Event) (hf':∀ es,∀ e∈f' es,e∈es)
  (hgs:∀ w1 a w2 es,s.runT Q w1 #[]=(.ok a w2,es)→(∃ q b,R q a b)→gs w1=.go (ok a) w2 (f es))
  (hgh:∀ x w2 es,s.runT Q gw #[]=(.halt x w2,es)→DeadHalt x→(∃ o w3 es,gs gw=.ended o w3 es)∨∃ ch es,gs gw=.go (Conc.G (fr.raise ch) cs) w2 es)
  (hrs:∀ b w2 es,s'.runT (wf Q F) w #[]=(.ok b w2,es)→(∃ q a,R q a b)→rs=.go (ok' b) w2 (f' es))
  (hK:∀ q a b,p.le q→R q a b→∃ fr1 cs1 fr1' cs1',ok a=Conc.G fr1 cs1∧ok' b=Conc.G fr1' cs1'∧(Stk Q F G q D c0 cs0 fr1 cs1 fr1' cs1'∨Enters Q F G Sp q D c0 cs0 fr1 cs1 fr1' cs1')):Out Q F G Sp p D c0 cs0 gs rs gw w:=by
 cases hr:s.runT Q gw #[] with
 | mk r es =>
   cases r with
   | halt x w2 =>
     obtain ⟨hx,q,w',hq,hW'⟩:=hs.halts _ _ hW hT hr;rcases hgh x w2 es hr hx with ⟨o,w3,es,h⟩ | ⟨ch,es,h⟩
     · exact .ended h
     · exact .panics h ⟨raise_mode _ _,q,w',hW',(hp.raise ch).mono hq⟩
   | ok a gw1 =>
     obtain ⟨q,b,w1,new,hR⟩:=hs.run _ _ #[] hW hT hr;obtain ⟨fr1,cs1,fr1',cs1',e1,e2,hst⟩:=hK q a b hR.le hR.rel;have h1:=hgs gw a gw1 es hr ⟨q,b,hR.rel⟩;have h2:=hrs b w1 _ hR.run ⟨q,a,hR.rel⟩;rw [e1] at h1;rw [e2] at h2;refine .on h1 h2 hR.le hst hR.wrel hR.ta hR.fr (fun e he=>hR.ev e ?_) hR.drawn hR.tape (fun τ hτ=>?_)
     · have:=hf' _ e he
       simpa using this
     · have:=hgs _ _ _ _ (hR.retape τ hτ) ⟨q,b,hR.rel⟩
       rw [e1] at this;exact this
end
open Go
structure Funs (Q:Program) (F:Array Func) (G:Nat→Prop) (Sp:FuncId→Prop):Prop where
 zero:ZeroOk Q
 all:∀ f,(∀ xs,DeadEnd Q (callFunc f xs))∨∃ fn fn' c c',Q.funcs[f]? = some fn∧F[f]? = some fn'∧(fn.name== "runtime.NumGoroutine")=false∧(fn'.name== "runtime.NumGoroutine")=false∧fn.body=some c∧fn'.body=some c' ∧
  (Sp f∨(fn'.ntmps=fn.ntmps∧fn'.results=fn.results∧CRel Q G c c'))
section
variable {Q:Program} {F:Array Func} {G:Nat→Prop} {Sp:FuncId→Prop} {p:Inj} {D:List Deferred} {c0:Frame} {cs0:List Frame} {gw w:World}
theorem Funs.ok (S:Funs Q F G Sp) (f:FuncId):FunOk Q F f:=by
 refine ⟨?_⟩;rcases S.all f with h | ⟨fn,fn',c,c',h1,h2,h3,h4,h5,h6,_⟩
 · exact .inl h
 · exact .inr ⟨fn,fn',h1,h2,h3,h4,by rw [h5];rfl,by rw [h6];rfl⟩
inductive Top (Q:Program) (F:Array Func) (G:Nat→Prop) (p:Inj) (D:List Deferred) (c0:Frame) (cs0:List Frame):List Deferred→Frame→List Frame→Frame→List Frame→Prop
 | base {fr fr':Frame}:FRel Q F G p D fr fr'→fr.roundOf=none→Top Q F G p D c0 cs0 D fr [c0] fr' cs0
 | up {fr fr' c c':Frame} {k k':List Frame}:FRel Q F G p [] fr fr'→Stk Q F G p D c0 cs0 c k c' k'→Top Q F G p D c0 cs0 [] fr (c::k) fr' (c'::k')
theorem Stk.top {fr fr':Frame} {cs cs':List Frame} (h:Stk Q F G p D c0 cs0 fr cs fr' cs'):∃ E,FRel Q F G p E fr fr'∧Top Q F G p D c0 cs0 E fr cs fr' cs':=by
 cases h with
 | base hf hr=>exact ⟨_,hf,.base hf hr⟩
 | up hf hs=>exact ⟨_,hf,.up hf hs⟩
theorem Top.put {E:List Deferred} {fr fr':Frame} {cs cs':List Frame} (h:Top Q F G p D c0 cs0 E fr cs fr' cs') {q:Inj} (hq:p.le q) {x x':Frame} (hx:FRel Q F G q E x x') (hr:x.roundOf=fr.roundOf):Stk Q F G q D c0 cs0 x cs x' cs':=by
 cases h with
 | base _ h=>exact .base hx (hr.trans h)
 | up _ h=>exact .up hx (h.mono hq)
theorem call_kind (k:List Item):(∀ d b r s j,k≠.call d b r s::j)→(match k with | .call _ true _ _::_=>CallKind.wrapped | _=>CallKind.normal)=CallKind.normal:=by
 intro h;cases k with
 | nil=>rfl
 | cons i j =>
   cases i <;> first | rfl | exact absurd rfl (h _ _ _ _ _)
theorem TRel.noCall' {k k':List Item} (h:TRel Q G p k k'):∀ d b r s j,k'≠.call d b r s::j:=by
 intro d b r s j e;subst e;cases h with
 | cons hi _=>cases hi
def okN (Q:Program) (fr:Frame) (cs:List Frame):Next→Goroutine
 | .value v=>Conc.G (fr.finish v) cs
 | .skip=>Conc.G (fr.finish undef) cs
 | .enter f xs=>Conc.G (Frame.enter Q f xs .normal) (fr::cs)
 | .round l f xs a b=>Conc.G (Frame.round l f xs a b .normal) (fr::cs)
 | _=>default
theorem finish_round (fr:Frame) (v:Value):(fr.finish v).roundOf=fr.roundOf:=by
 unfold Frame.finish;split <;> rfl
theorem apply_ok {P:Program} {fr:Frame} {cs:List Frame} {s:Sem Next} {w w2:World} {n n':Next} {es:Array Event} {q:Inj} (hk:fr.kind=.normal) (hc:∀ d b r s j,fr.todo≠.call d b r s::j) (h:s.runT P w #[]=(.ok n w2,es)) {F:Array Func} (hn:NRel P F q n n') :
  stepG.apply P true fr cs none s w=.go (okN P fr cs n) w2 (seen P fr.fn es):=by
 unfold stepG.apply;simp only [if_true,h,hk];cases hn
 case enter=>simp [GStep.after,okN,Conc.G];exact congrArg (Frame.enter P _ _) (call_kind _ hc)
 all_goals simp [GStep.after,okN,Conc.G]
theorem apply_ok' {P:Program} {fr:Frame} {cs:List Frame} {s:Sem Next} {w w2:World} {n n':Next} {es:Array Event} {q:Inj} (hk:fr.kind=.normal) (hc:∀ d b r s j,fr.todo≠.call d b r s::j) (h:s.runT P w #[]=(.ok n w2,es)) {P':Program} {F:Array Func} (hn:NRel P' F q n' n) :
  stepG.apply P true fr cs none s w=.go (okN P fr cs n) w2 (seen P fr.fn es):=by
 unfold stepG.apply;simp only [if_true,h,hk];cases hn
 case enter=>simp [GStep.after,okN,Conc.G];exact congrArg (Frame.enter P _ _) (call_kind _ hc)
 all_goals simp [GStep.after,okN,Conc.G]
theorem apply_halt {P:Program} {fr:Frame} {cs:List Frame} {s:Sem Next} {w w2:World} {x:Halt} {es:Array Event} (h:s.runT P w #[]=(.halt x w2,es)) (hx:DeadHalt x) :
  (∃ o w3 es,stepG.apply P true fr cs none s w=.ended o w3 es)∨∃ ch es,stepG.apply P true fr cs none s w=.go (Conc.G (fr.raise ch) cs) w2 es:=by
 unfold stepG.apply;simp only [if_true,h];cases x with
 | stuck s=>exact .inl ⟨_,_,_,rfl⟩
 | panic v=>exact .inr ⟨_,_,rfl⟩
 | unsupported u =>
   cases u with
   | initOrder g=>exact absurd rfl (hx g)
   | _=>exact .inl ⟨_,_,_,rfl⟩
 | _=>exact hx.elim
theorem Out.apply (S:Funs Q F G Sp) (hok:p.ok=fun c=>CRel Q G c c) {s s':Sem Next} (hs:SRel Q (wf Q F) (NRel Q F) p s s') (hW:WRel p gw w) (hT:TA gw w) {fr fr':Frame} {cs cs':List Frame} (h:Stk Q F G p D c0 cs0 fr cs fr' cs') :
  Out Q F G Sp p D c0 cs0 (fun w=>stepG.apply Q true fr cs none s w) (stepG.apply (wf Q F) true fr' cs' none s' w) gw w:=by
 obtain ⟨E,hf,ht⟩:=h.top;refine Out.sem hs hW hT h.pstk (okN Q fr cs) (okN (wf Q F) fr' cs') (seen Q fr.fn) (seen (wf Q F) fr'.fn) (fun es e he=>Conc.mem_seen he) ?_ ?_ ?_ ?_
 · intro w1 a w2 es hr ⟨q,b,hn⟩
   exact apply_ok hf.kind hf.todo.noCall hr hn
 · intro x w2 es hr hx
   exact apply_halt hr hx
 · intro b w2 es hr ⟨q,a,hn⟩
   exact apply_ok' hf.kind' hf.todo.noCall' hr hn
 · intro q a b hq hn
   cases hn with
   | value hv=>exact ⟨_,_,_,_,rfl,rfl,.inl (ht.put hq ((hf.mono hq).finish hv) (finish_round _ _))⟩
   | skip=>exact ⟨_,_,_,_,rfl,rfl,.inl (ht.put hq ((hf.mono hq).finish (VRel.undef q)) (finish_round _ _))⟩
   | enter f hal hx =>
     rcases S.all f with hd | ⟨fn,fn',c,c',h1,h2,h3,h4,h5,h6,h7⟩
     · exact (hal.not_dead hd).elim
     · rcases h7 with hsp | ⟨h7,h8,h9⟩
       · exact ⟨_,_,_,_,rfl,rfl,.inr ⟨f,_,_,_,_,_,_,hsp,hx,rfl,rfl,rfl,rfl,h.mono hq⟩⟩
       · exact ⟨_,_,_,_,rfl,rfl,.inl (.up (FRel.enter h1 h2 h7 h8 h5 h6 h9 hx) (h.mono hq))⟩
   | round f a b hl hx ha hb =>
     rw [hq.ok,hok] at ha hb;exact ⟨_,_,_,_,rfl,rfl,.inl (.up ⟨rfl,hx,.cons (.code ha) (.cons .beginRound (.cons (.code hb) .nil)),.run,rfl,rfl,.some hl,⟨[],.nil,rfl⟩,fun e=>(by cases e),fun e=>(by cases e)⟩ (h.mono hq))⟩
theorem step_exec {P:Program} {main:Bool} {fr:Frame} {cs:List Frame} {w:World} (h:fr.mode=.run):stepG P main (Conc.G fr cs) w=stepG.exec P main true fr cs none w:=by
 obtain ⟨fn,tmps,todo,defers,mode,kind,ro⟩:=fr;simp only at h;subst h;rfl
theorem step_unwind {P:Program} {main:Bool} {fr:Frame} {cs:List Frame} {w:World} (h:fr.mode≠.run):stepG P main (Conc.G fr cs) w=unwind P main fr cs none w:=by
 obtain ⟨fn,tmps,todo,defers,mode,kind,ro⟩:=fr;simp only at h;cases mode with
 | run=>exact absurd rfl h
 | _=>rfl
theorem FRel.mode_run {E:List Deferred} {fr fr':Frame} (h:FRel Q F G p E fr fr') (hm:fr.mode=.run):fr'.mode=.run:=by
 have:=h.mode;rw [hm] at this;generalize fr'.mode=x at this;cases this;rfl
theorem FRel.mode_ret {E:List Deferred} {fr fr':Frame} (h:FRel Q F G p E fr fr') (hm:fr.mode=.returning):fr'.mode=.returning:=by
 have:=h.mode;rw [hm] at this;generalize fr'.mode=x at this;cases this;rfl
theorem Stk.finish {fr fr':Frame} {cs cs':List Frame} (h:Stk Q F G p D c0 cs0 fr cs fr' cs') {v v':Value} (hv:VRel p v v'):Stk Q F G p D c0 cs0 (fr.finish v) cs (fr'.finish v') cs':=by
 cases h with
 | base hf hr=>exact .base (hf.finish hv) ((finish_round _ _).trans hr)
 | up hf hs=>exact .up (hf.finish hv) hs
def leaveG (P:Program) (main:Bool) (fr:Frame) (cs:List Frame) (jump:Option Code) (w:World):GStep :=
 match fr.roundOf with
 | none=>if jump matches none | some .ret then .go (Conc.G { fr with mode:=.returning } cs) w else .ended (.stuck "exit, goto: no such block or label" (fr.pos P)) w
 | some l =>
   let (r,es):=(Instr.endRound l jump).runT P w #[]
   GStep.after (seen P fr.fn es) <| match r with
   | .ok v w=>doReturn P main fr cs none v w
   | .halt _ w=>.ended (.stuck "range over a function: no such loop" (fr.pos P)) w
theorem leave_out {fr fr':Frame} {cs cs':List Frame} {E:List Deferred} (hf:FRel Q F G p E fr fr') (ht:Top Q F G p D c0 cs0 E fr cs fr' cs') (hW:WRel p gw w) (hT:TA gw w) (hp:PStk p c0 fr cs)
  (jump:Option Code) (hj:jump=none∨jump=some .ret∨∃ id,jump=some (.exit id)) (main:Bool) :
  Out Q F G Sp p D c0 cs0 (fun w=>leaveG Q true fr cs jump w) (leaveG (wf Q F) main fr' cs' jump w) gw w:=by
 have hr:=hf.round;generalize e1:fr.roundOf=x at hr;generalize e2:fr'.roundOf=x' at hr;cases hr with
 | none =>
   rcases hj with rfl | rfl | ⟨id,rfl⟩
   · exact Out.move hW hT (fun w=>by simp [leaveG,e1]) (by simp [leaveG,e2]) (ht.put (Inj.le_refl _) (hf.leave e1) rfl)
   · exact Out.move hW hT (fun w=>by simp [leaveG,e1]) (by simp [leaveG,e2]) (ht.put (Inj.le_refl _) (hf.leave e1) rfl)
   · exact .ended (o:=.stuck "exit, goto: no such block or label" (fr.pos Q)) (w1:=gw) (es:=#[]) (by simp [leaveG,e1])
 | @some l l' hl =>
   cases ht with
   | base _ h=>rw [h] at e1;cases e1
   | @up _ _ c c' k k' _ hs =>
     refine Out.sem (s_endRound hl jump hj) hW hT hp (fun v=>Conc.G (c.finish v) k) (fun v=>Conc.G (c'.finish v) k') (seen Q fr.fn) (seen (wf Q F) fr'.fn) (fun es e he=>Conc.mem_seen he) ?_ ?_ ?_ ?_
     · intro w1 a w2 es hr _
       simp [-Sem.runT_eq,leaveG,e1,hr,GStep.after,doReturn,hf.kind,Conc.G]
     · intro y w2 es hr _
       exact .inl ⟨.stuck "range over a function: no such loop" (fr.pos Q),w2,seen Q fr.fn es,by simp [-Sem.runT_eq,leaveG,e1,hr,GStep.after]⟩
     · intro b w2 es hr _
       simp [-Sem.runT_eq,leaveG,e2,hr,GStep.after,doReturn,hf.kind',Conc.G]
     · intro q a b hq hv
       exact ⟨_,_,_,_,rfl,rfl,.inl ((hs.mono hq).finish hv)⟩
theorem exec_nil {P:Program} {main:Bool} {fr:Frame} {cs:List Frame} {w:World} (h:fr.todo=[]):stepG.exec P main true fr cs none w=leaveG P main fr cs none w:=by
 simp only [stepG.exec,h,leaveG];cases fr.roundOf with
 | none=>simp [Conc.G]
 | some l=>simp [-Sem.runT_eq];rfl
theorem exec_ret {P:Program} {main:Bool} {fr:Frame} {cs:List Frame} {w:World} {k:List Item} (h:fr.todo=.code .ret::k):stepG.exec P main true fr cs none w=leaveG P main fr cs (some .ret) w:=by
 simp only [stepG.exec,h,leaveG];cases fr.roundOf with
 | none=>simp [Conc.G]
 | some l=>simp [-Sem.runT_eq];rfl
theorem exec_exit0 {P:Program} {main:Bool} {fr:Frame} {cs:List Frame} {w:World} {k:List Item} {id:Nat} (h:fr.todo=.code (.exit id)::k) (he:exitTo id k=none):stepG.exec P main true fr cs none w=leaveG P main fr cs (some (.exit id)) w:=by
 simp only [stepG.exec,h,he,leaveG];cases fr.roundOf with
 | none=>simp
 | some l=>simp [-Sem.runT_eq];rfl
theorem exec_exit1 {P:Program} {main:Bool} {fr:Frame} {cs:List Frame} {w:World} {k j:List Item} {id:Nat} (h:fr.todo=.code (.exit id)::k) (he:exitTo id k=some j):stepG.exec P main true fr cs none w=.go (Conc.G { fr with todo:=j } cs) w:=by
 simp only [stepG.exec,h,he];rfl
theorem exec_oper {P:Program} {main:Bool} {fr:Frame} {cs:List Frame} {w:World} {k:List Item} {ops:Array Oper} {i:Nat} {rest:List Nat} {o:Oper} (h:fr.todo=.inRegion ops (i::rest)::k) (ho:ops[i]? = some o) (hw:Region.wanted o (yielded ops fr.tmps)=true) (hd:∀ c,o.op≠.defer c) :
  stepG.exec P main true fr cs none w=stepG.apply P true fr cs none (execOp fr.eval o) w:=by
 simp only [stepG.exec,h,ho,Option.map_some,Option.getD_some,hw,if_true,stepG.oper,Frame.oper?];cases fr.roundOf with
 | none=>rfl
 | some l =>
   cases hop:o.op <;> first | rfl | exact absurd hop (hd _)
theorem step_out (S:Funs Q F G Sp) (hG:∀ g,G g→p.r g g) (hg:p.g=Q.globals.size) (hok:p.ok=fun c=>CRel Q G c c) {fr fr':Frame} {cs cs':List Frame} (hS:Stk Q F G p D c0 cs0 fr cs fr' cs') (hW:WRel p gw w) (hT:TA gw w)
  (hnl:¬ (cs=[c0]∧fr.mode=.returning∧fr.defers=[])) (main:Bool) :
  Out Q F G Sp p D c0 cs0 (fun w=>stepG Q true (Conc.G fr cs) w) (stepG (wf Q F) main (Conc.G fr' cs') w) gw w:=by
 obtain ⟨E,hf,ht⟩:=hS.top;have ht0:=hT;cases hm:fr.mode with
 | panicking ch=>have:=hf.mode;rw [hm] at this;cases this
 | returning =>
   have hm':=hf.mode_ret hm;have n1:fr.mode≠.run:=by rw [hm];simp
   have n2:fr'.mode≠.run:=by rw [hm'];simp
   simp only [step_unwind n1,step_unwind n2];obtain ⟨ms,hms,hds⟩:=hf.defers;generalize e1:fr.defers=ds at hms;cases hms with
   | @cons r r' ds ds' hr hms =>
     have hds':fr'.defers={ target:=.collected r',args:=#[] }::(ds'++E):=hds;refine Out.sem (s_takeDeferred hr) hW hT hS.pstk (fun c=>Conc.G { fr with defers:=c++ds } cs) (fun c=>Conc.G { fr' with defers:=c++(ds'++E) } cs') (seen Q fr.fn) (seen (wf Q F) fr'.fn) (fun es e he=>Conc.mem_seen he) ?_ ?_ ?_ ?_
     · intro w1 a w2 es hr _
       simp [-Sem.runT_eq,unwind,e1,hr,GStep.after,Conc.G]
     · intro y w2 es hr hy
       exact .inl ⟨.stuck "the deferred calls of a range-over-func loop have been taken" (fr.pos Q),w2,seen Q fr.fn es,by simp [-Sem.runT_eq,unwind,e1,hr,GStep.after]⟩
     · intro b w2 es hr _
       simp [-Sem.runT_eq,unwind,hds',hr,GStep.after,Conc.G]
     · rintro q a b hq ⟨rfl,rfl⟩
       exact ⟨_,_,_,_,rfl,rfl,.inl (ht.put hq (x:={ fr with defers:=[]++ds }) (x':={ fr' with defers:=[]++(ds'++E) }) ⟨hf.fn,hf.tmps.mono hq,hf.todo.mono hq,hf.mode,hf.kind,hf.kind',hf.round.mono hq,⟨ds',hms.mono hq,rfl⟩,hf.ret,hf.func⟩ rfl)⟩
   | nil =>
     cases ht with
     | base _ _=>exact absurd ⟨rfl,hm,e1⟩ hnl
     | @up _ _ c c' k k' _ hs =>
       have hds':fr'.defers=[]:=hds;obtain ⟨fn,fn',h1,h2,h3⟩:=hf.func (hf.ret hm);have h1':(wf Q F).funcs[fr'.fn]? = some fn':=by rw [← hf.fn];exact h2
       refine Out.sem (s_results fn fn' h3 hf.tmps) hW hT hS.pstk (fun v=>Conc.G (c.finish v) k) (fun v=>Conc.G (c'.finish v) k') (seen Q fr.fn) (seen (wf Q F) fr'.fn) (fun es e he=>Conc.mem_seen he) ?_ ?_ ?_ ?_
       · intro w1 a w2 es hr _
         simp [-Sem.runT_eq,unwind,e1,hm,h1,hr,GStep.after,doReturn,hf.kind,Conc.G]
       · intro y w2 es hr hy
         cases y with
         | stuck s=>exact .inl ⟨.stuck s (fr.pos Q),w2,seen Q fr.fn es,by simp [-Sem.runT_eq,unwind,e1,hm,h1,hr,GStep.after]⟩
         | _=>exact .inl ⟨.stuck "return: the result variables cannot be read" (fr.pos Q),w2,seen Q fr.fn es,by simp [-Sem.runT_eq,unwind,e1,hm,h1,hr,GStep.after]⟩
       · intro b w2 es hr _
         simp [-Sem.runT_eq,unwind,hds',hm',h1',hr,GStep.after,doReturn,hf.kind',Conc.G]
       · intro q a b hq hv
         exact ⟨_,_,_,_,rfl,rfl,.inl ((hs.mono hq).finish hv)⟩
 | run =>
   have hm':=hf.mode_run hm;simp only [step_exec hm,step_exec hm'];have htd:=hf.todo;have move:∀ {x x':Frame},FRel Q F G p E x x'→x.roundOf=fr.roundOf→(∀ w,stepG.exec Q true true fr cs none w=.go (Conc.G x cs) w)→stepG.exec (wf Q F) main true fr' cs' none w=.go (Conc.G x' cs') w→Out Q F G Sp p D c0 cs0 (fun w=>stepG.exec Q true true fr cs none w) (stepG.exec (wf Q F) main true fr' cs' none w) gw w :=
    fun hx hr h1 h2=>Out.move hW hT h1 h2 (ht.put (Inj.le_refl _) hx hr)
   cases hk:fr.todo with
   | nil =>
     have hk':fr'.todo=[]:=by have:=hf.todo;rw [hk] at this;generalize fr'.todo=x at this;cases this;rfl
     simp only [exec_nil hk,exec_nil hk'];exact leave_out hf ht hW hT hS.pstk none (.inl rfl) main
   | cons i k =>
     have hk':∃ i' k',fr'.todo=i'::k':=by have:=hf.todo;rw [hk] at this;generalize fr'.todo=x at this;cases this;exact ⟨_,_,rfl⟩
     obtain ⟨i',k',hk'⟩:=hk';rw [hk,hk'] at htd;cases htd with
     | cons hi hkk =>
       cases hi with
       | inBlock id=>exact move (hf.withTodo hkk) rfl (fun w=>by simp [stepG.exec,hk,Conc.G]) (by simp [stepG.exec,hk',Conc.G])
       | inLoop hc=>exact move (hf.withTodo (.cons (.code hc) (.cons (.inLoop hc) hkk))) rfl (fun w=>by simp [stepG.exec,hk,Conc.G]) (by simp [stepG.exec,hk',Conc.G])
       | code hc =>
         cases hc with
         | refuse why c=>exact .ended (o:=.unsupported _ (fr.pos Q)) (w1:=gw) (es:=#[]) (by simp only [stepG.exec,hk];exact rfl)
         | skip=>exact move (hf.withTodo hkk) rfl (fun w=>by simp [stepG.exec,hk,Conc.G]) (by simp [stepG.exec,hk',Conc.G])
         | seq h1 h2=>exact move (hf.withTodo (.cons (.code h1) (.cons (.code h2) hkk))) rfl (fun w=>by simp [stepG.exec,hk,Conc.G]) (by simp [stepG.exec,hk',Conc.G])
         | block id h1=>exact move (hf.withTodo (.cons (.code h1) (.cons (.inBlock id) hkk))) rfl (fun w=>by simp [stepG.exec,hk,Conc.G]) (by simp [stepG.exec,hk',Conc.G])
         | loop h1=>exact move (hf.withTodo (.cons (.code h1) (.cons (.inLoop h1) hkk))) rfl (fun w=>by simp [stepG.exec,hk,Conc.G]) (by simp [stepG.exec,hk',Conc.G])
         | @cond c a a' b b' hc h1 h2 =>
           have hv:=hf.eval hG c hc;generalize e1:fr.eval c=x at hv;generalize e2:fr'.eval c=x' at hv;cases hv with
           | bool t =>
             cases t with
             | true=>exact move (hf.withTodo (.cons (.code h1) hkk)) rfl (fun w=>by simp [stepG.exec,hk,Conc.G,e1]) (by simp [stepG.exec,hk',Conc.G,e2])
             | false=>exact move (hf.withTodo (.cons (.code h2) hkk)) rfl (fun w=>by simp [stepG.exec,hk,Conc.G,e1]) (by simp [stepG.exec,hk',Conc.G,e2])
           | _=>exact .ended (o:=.stuck "cond: bool expected" (fr.pos Q)) (w1:=gw) (es:=#[]) (by simp [stepG.exec,hk,e1])
         | ret =>
           simp only [exec_ret hk,exec_ret hk'];exact leave_out hf ht hW hT hS.pstk (some .ret) (.inr (.inl rfl)) main
         | exit id =>
           rcases hkk.exitTo id with ⟨e1,e2⟩ | ⟨j,j',e1,e2,hj⟩
           · simp only [exec_exit0 hk e1,exec_exit0 hk' e2]
             exact leave_out hf ht hW hT hS.pstk (some (.exit id)) (.inr (.inr ⟨id,rfl⟩)) main
           · exact move (hf.withTodo hj) rfl (fun w=>exec_exit1 hk e1) (exec_exit1 hk' e2)
         | @region id ops d ho =>
           cases d with
           | false=>exact move (hf.withTodo (.cons (.inRegion (List.range ops.size) ho) hkk)) rfl (fun w=>by simp [stepG.exec,hk,Conc.G]) (by simp [stepG.exec,hk',Conc.G])
           | true =>
             have draw:∀ (P:Program) (b:Bool) (x:Frame) (y:List Frame) (j:List Item) (w:World),x.todo=.code (.region id ops true)::j →
              stepG.exec P b true x y none w=.go (Conc.G { x with todo:=.inRegion ops (Region.schedule (P.follows .mixedOrders) ops (w.tape w.drawn (.order x.fn id)))::j } y) { w with drawn:=w.drawn+1 }:=by
              intro P b x y j w h;simp [stepG.exec,h,choose,Sem.run,Question.forced,Question.cut,Conc.G]
             have e0:gw.tape gw.drawn (.order fr.fn id)=w.tape w.drawn (.order fr'.fn id):=by
              have:=ht0 0;simp only [Nat.add_zero] at this;rw [this,hf.fn]
             refine .on (draw Q true fr cs k gw hk) (draw (wf Q F) main fr' cs' k' w hk') (Inj.le_refl _) (.inl (ht.put (Inj.le_refl _) (hf.withTodo (.cons ?_ hkk)) rfl)) (hW.of_heap rfl rfl) (fun i=>by have:=hT (i+1);simpa [Nat.add_assoc,Nat.add_comm 1 i] using this)
              ⟨Nat.le_refl _,fun _ _ _=>rfl,fun c h1 h2=>absurd h2 (Nat.not_lt.2 h1),fun _ _ h=>.inl h,rfl,rfl,rfl⟩ (by simp) (Nat.le_succ _) rfl (fun τ hτ=>?_)
             · rw [e0];exact .inRegion _ ho
             · rw [draw Q true fr cs k (gw.retape τ) hk]
               have:(gw.retape τ).tape (gw.retape τ).drawn=gw.tape gw.drawn:=hτ gw.drawn (Nat.le_refl _) (by simp);rw [this];rfl
         | @rangeFunc f ps a b h1 h2 h3 =>
           have e:∀ (P:Program) (bb:Bool) (x:Frame) (y:List Frame) (j:List Item) (w:World),x.todo=.code (.rangeFunc f ps a b)::j→∀ l mark w2 es,(Instr.enterLoop x.fn x.tmps ps a b x.roundOf).runT P w #[]=(.ok (l,mark) w2,es) →
            stepG.exec P bb true x y none w=GStep.after (seen P x.fn es) (stepG.apply P true { x with todo:=.inRangeFunc l::j,defers:=mark++x.defers } y none (do let d ← resolve x.eval { callee:=.value f,args:=#[.const (.func (.yield l) #[] #[])],argTypes:=#[] } 0;invoke d.target d.args) w2):=by
            intro P bb x y j w h l mark w2 es hr;simp only [stepG.exec,h,hr];rfl
           have eh:∀ x1 w2 es,(Instr.enterLoop fr.fn fr.tmps ps a b fr.roundOf).runT Q gw #[]=(.halt x1 w2,es)→stepG.exec Q true true fr cs none gw=.ended (.stuck "range over a function: no such loop" (fr.pos Q)) w2 (seen Q fr.fn es):=by
            intro x1 w2 es hr;simp [-Sem.runT_eq,stepG.exec,hk,hr,GStep.after]
           have hs1:=s_enterLoop (Q:=Q) (F:=F) (p:=p) fr.fn hf.tmps ps a b (by rw [hok];exact h2) (by rw [hok];exact h3) hf.round;cases hr:(Instr.enterLoop fr.fn fr.tmps ps a b fr.roundOf).runT Q gw #[] with
           | mk r es =>
             cases r with
             | halt x1 w2=>exact .ended (eh x1 w2 es hr)
             | ok lm gw1 =>
               obtain ⟨q,lm',w1,new,hR⟩:=hs1.run _ _ #[] hW hT hr;obtain ⟨l,mark⟩:=lm;obtain ⟨l',mark'⟩:=lm';obtain ⟨hl,hmk⟩:=hR.rel;simp only at hl hmk;have hfq:=hf.mono hR.le;have hfr2:FRel Q F G q E { fr with todo:=.inRangeFunc l::k,defers:=mark++fr.defers } { fr' with todo:=.inRangeFunc l'::k',defers:=mark'++fr'.defers }:=by
                obtain ⟨ms,hms,hds⟩:=hfq.defers;exact ⟨hfq.fn,hfq.tmps,.cons (.inRangeFunc hl) (hkk.mono hR.le),hfq.mode,hfq.kind,hfq.kind',hfq.round,⟨mark'++ms,hmk.append hms,by show mark'++fr'.defers=_;rw [hds,List.append_assoc]⟩,hfq.ret,hfq.func⟩
               have hS2:Stk Q F G q D c0 cs0 { fr with todo:=.inRangeFunc l::k,defers:=mark++fr.defers } cs { fr' with todo:=.inRangeFunc l'::k',defers:=mark'++fr'.defers } cs':=ht.put hR.le hfr2 rfl;have hcall:SRel Q (wf Q F) (NRel Q F) q (do let d ← resolve fr.eval { callee:=.value f,args:=#[.const (.func (.yield l) #[] #[])],argTypes:=#[] } 0;invoke d.target d.args) (do let d ← resolve fr'.eval { callee:=.value f,args:=#[.const (.func (.yield l') #[] #[])],argTypes:=#[] } 0;invoke d.target d.args):=by
                have harg:ARel q (#[Operand.const (.func (.yield l) #[] #[])].map fr.eval) (#[Operand.const (.func (.yield l') #[] #[])].map fr'.eval):=by
                 have:ARel q #[Value.func (.yield l) #[] #[]] #[Value.func (.yield l') #[] #[]]:=ARel.one (.func (.yield hl) rfl (fun i a a' h=>by simp at h) rfl (fun i a a' h=>by simp at h))
                 simpa [Frame.eval] using this
                exact s_callValue S.ok (hfq.eval (fun g hg=>hR.le.r _ _ (hG g hg)) f h1) harg
               have hok2:q.ok=fun c=>CRel Q G c c:=hR.le.ok.trans hok
               have hrun':(Instr.enterLoop fr'.fn fr'.tmps ps a b fr'.roundOf).runT (wf Q F) w #[]=(.ok (l',mark') w1,new):=by
                have:=hR.run;rw [hf.fn] at this
                simpa [-Sem.runT_eq] using this
               have e1:=e Q true fr cs k gw hk l mark gw1 es hr;have e2:=e (wf Q F) main fr' cs' k' w hk' l' mark' w1 new hrun';have hout:=Out.apply S hok2 hcall hR.wrel hR.ta hS2;cases hout with
               | ended h=>exact .ended (by rw [e1];exact congrArg (GStep.after _) h)
               | panics h hp=>exact .panics (by rw [e1];exact congrArg (GStep.after _) h) hp
               | @on q2 fr1 fr1' cs1 cs1' gw2 w2 es2 es2' ha hb hq2 hst hW2 hT2 hF2 hev hd2 ht2 hre =>
                 refine .on (by rw [e1];exact congrArg (GStep.after _) ha) (by rw [e2,hb];rfl) (Inj.le_trans hR.le hq2) hst hW2 hT2 (hR.fr.trans hF2 hq2) ?_ (Nat.le_trans hR.drawn hd2) (ht2.trans hR.tape) (fun τ hτ=>?_)
                 · intro ev hev'
                   rcases Array.mem_append.1 hev' with h | h
                   · exact (hR.ev ev (Conc.mem_seen h)).mono hq2
                   · exact hev ev h
                 · have r1:=hR.retape τ (fun i h1 h2=>hτ i h1 (Nat.lt_of_lt_of_le h2 hd2))
                   have r2:=hre τ (fun i h1 h2=>by rw [hR.tape];exact hτ i (Nat.le_trans hR.drawn h1) h2);rw [e Q true fr cs k (gw.retape τ) hk l mark (gw1.retape τ) es r1];exact congrArg (GStep.after _) r2
       | @inRegion ops t ho =>
         cases t with
         | nil=>exact move (hf.withTodo hkk) rfl (fun w=>by simp [stepG.exec,hk,Conc.G]) (by simp [stepG.exec,hk',Conc.G])
         | cons i rest =>
           cases hi:ops[i]? with
           | none=>exact move (hf.finish (VRel.undef p)) (finish_round _ _) (fun w=>by simp [stepG.exec,hk,Conc.G,hi]) (by simp [stepG.exec,hk',Conc.G,hi])
           | some o =>
             have hoo:=ho o (Array.mem_of_getElem? hi);have hd:∀ c,o.op≠.defer c:=by
              intro c e;rw [e] at hoo;exact hoo
             have hy:=yielded_rel hf.tmps ops;cases hwn:Region.wanted o (yielded ops fr.tmps) with
             | false =>
               have hwn':Region.wanted o (yielded ops fr'.tmps)=false:=by rw [← hy];exact hwn
               exact move (hf.finish (VRel.undef p)) (finish_round _ _) (fun w=>by simp [stepG.exec,hk,Conc.G,hi,hwn]) (by simp [stepG.exec,hk',Conc.G,hi,hwn'])
             | true =>
               have hwn':Region.wanted o (yielded ops fr'.tmps)=true:=by rw [← hy];exact hwn
               simp only [exec_oper hk hi hwn hd,exec_oper hk' hi hwn' hd];exact Out.apply S hok (s_execOp hg S.zero S.ok hoo (hf.eval hG)) hW hT hS
       | inRangeFunc hl=>exact .ended (o:=.unsupported (.noEntry "a range function without a Go body that blocks") (fr.pos Q)) (w1:=gw) (es:=#[]) (by simp [stepG.exec,hk])
       | @endRangeFunc l l' hl =>
         refine Out.sem (s_endLoop hl) hW hT hS.pstk (fun j=>Conc.G { fr with todo:=(j.map Item.code).toList++k } cs) (fun j=>Conc.G { fr' with todo:=(j.map Item.code).toList++k' } cs') (seen Q fr.fn) (seen (wf Q F) fr'.fn) (fun es e he=>Conc.mem_seen he) ?_ ?_ ?_ ?_
         · intro w1 a w2 es hr _
           simp [-Sem.runT_eq,stepG.exec,hk,hr,GStep.after,Conc.G]
         · intro y w2 es hr hy
           cases y with
           | panic v=>exact .inr ⟨[{ v,recovered:=false }],seen Q fr.fn es,by simp [-Sem.runT_eq,stepG.exec,hk,hr,GStep.after,Conc.G]⟩
           | _=>exact .inl ⟨.stuck "range over a function: no such loop" (fr.pos Q),w2,seen Q fr.fn es,by simp [-Sem.runT_eq,stepG.exec,hk,hr,GStep.after]⟩
         · intro b w2 es hr _
           simp [-Sem.runT_eq,stepG.exec,hk',hr,GStep.after,Conc.G]
         · rintro q a _ hq ⟨rfl,hj⟩
           refine ⟨_,_,_,_,rfl,rfl,.inl (ht.put hq ((hf.mono hq).withTodo ?_) rfl)⟩;rcases hj with rfl | rfl | ⟨id,rfl⟩
           · exact hkk.mono hq
           · exact .cons (.code .ret) (hkk.mono hq)
           · exact .cons (.code (.exit id)) (hkk.mono hq)
       | beginRound =>
         have e:∀ (P:Program) (b:Bool) (x:Frame) (y:List Frame) (j:List Item) (w:World),x.todo=.beginRound::j→stepG.exec P b true x y none w=stepG.apply P true x y none (do x.roundOf.elim (stuck "beginRound: no round") Instr.beginRound;Pure.pure .skip) w:=by
          intro P b x y j w h;simp only [stepG.exec,h]
         simp only [e Q true fr cs k _ hk,e (wf Q F) main fr' cs' k' _ hk'];refine Out.apply S hok (s_unit ?_) hW hT hS;have hr:=hf.round;generalize fr.roundOf=x at hr;generalize fr'.roundOf=x' at hr;cases hr with
         | none=>exact .stuck _
         | some hl=>exact s_beginRound hl
end
end Go.Pt
