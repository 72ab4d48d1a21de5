/- Layer 9: sets of states as numbers: their bits one by one. No condition; no program in sight. -/
import Derived.Calls
import Derived.Laws.Bits64
import Derived.Laws.BitsLemmas
import Derived.Test.YtnceajabigdleaaDoorPtQ3
import Derived.Test.YtnceajabigdleaaDoorPtH2
import Derived.RangeFuncNested
import Derived.RangeFuncBox
import Derived.RangeFuncBound
import Derived.RangeFuncCalls
import Derived.RangeFuncLeaves
import Derived.WalkKit
import Derived.OwnWalkIn
import Derived.TacticsInMore
import Derived.LoopNIn
import Derived.LoopIn
namespace Prb
open Go
def Asc:List Nat→Prop
 | []=>True
 | x::r=>(∀ y∈r,x<y)∧Asc r
def setS:List Nat→Nat
 | []=>0
 | x::r=>2 ^ x+setS r
theorem setS_div:∀ {x:Nat} {r:List Nat},(∀ y∈r,x<y)→∃ m,setS r=2 ^ (x+1)*m
 | x,[],_=>⟨0,by simp [setS]⟩
 | x, y :: r, h => by
   obtain ⟨m,hm⟩:=setS_div (x:=x) (r:=r) fun z hz=>h z (List.mem_cons_of_mem _ hz)
   have hy:x+1≤y:=h y List.mem_cons_self;refine ⟨2 ^ (y - (x+1))+m, ?_⟩;rw [setS,hm,Nat.mul_add,← Nat.pow_add,show x+1+(y - (x+1))=y by omega]
theorem setS_lt:∀ {l:List Nat} {k n:Nat},Asc l→(∀ y∈l,k≤y∧y<n)→setS l+2 ^ k≤2 ^ n∨l=[]
 | [],_,_,_,_=>.inr rfl
 | x :: r, k, n, ha, hb => by
   left
   have hx:=hb x List.mem_cons_self;have hk:(2:Nat) ^ k≤2 ^ x:=Nat.pow_le_pow_right (by decide) hx.1;have hx2:(2:Nat) ^ (x+1)=2 ^ x+2 ^ x:=by rw [Nat.pow_succ];omega
   rcases setS_lt (l:=r) (k:=x+1) (n:=n) ha.2 (fun y hy=>⟨ha.1 y hy,(hb y (List.mem_cons_of_mem _ hy)).2⟩) with h | h
   · simp only [setS];omega
   · subst h
     have:(2:Nat) ^ (x+1)≤2 ^ n:=Nat.pow_le_pow_right (by decide) hx.2;simp only [setS];omega
theorem setS_lt64 {l:List Nat} (ha:Asc l) (hb:∀ y∈l,y<64):setS l<18446744073709551616:=by
 rcases setS_lt (k:=0) (n:=64) ha (fun y hy=>⟨Nat.zero_le _,hb y hy⟩) with h | rfl
 · have:(2:Nat) ^ 64=18446744073709551616:=by decide
   omega
 · decide
section
variable {x m:Nat}
theorem bitA (j:Nat):(2 ^ (x+1)*m+2 ^ x).testBit j=if j<x+1 then decide (x=j) else m.testBit (j - (x+1)):=by
 rw [Nat.testBit_two_pow_mul_add m (by rw [Nat.pow_succ];have:=Nat.two_pow_pos x;omega) j];simp only [Nat.testBit_two_pow]
theorem bitB (j:Nat):(2 ^ (x+1)*m+(2 ^ x - 1)).testBit j=if j<x+1 then decide (j<x) else m.testBit (j - (x+1)):=by
 rw [Nat.testBit_two_pow_mul_add m (by rw [Nat.pow_succ];have:=Nat.two_pow_pos x;omega) j];simp only [Nat.testBit_two_pow_sub_one]
theorem and_pred:(2 ^ (x+1)*m+2 ^ x) &&& (2 ^ (x+1)*m+(2 ^ x - 1))=2 ^ (x+1)*m:=by
 refine Nat.eq_of_testBit_eq fun j=>?_
 rw [Nat.testBit_and,bitA,bitB];have h0:=Nat.testBit_two_pow_mul_add m (show 0<2 ^ (x+1) from Nat.two_pow_pos _) j;rw [Nat.add_zero] at h0;rw [h0];by_cases h:j<x+1
 · rw [if_pos h,if_pos h,if_pos h,Nat.zero_testBit]
   by_cases h1:x=j
   · subst h1;simp
   · simp [h1]
 · rw [if_neg h,if_neg h,if_neg h,Bool.and_self]
theorem and_neg (hA:2 ^ (x+1)*m+2 ^ x<2 ^ 64):(2 ^ (x+1)*m+2 ^ x) &&& (2 ^ 64 - (2 ^ (x+1)*m+2 ^ x))=2 ^ x:=by
 have hp:=Nat.two_pow_pos x;have e:2 ^ (x+1)*m+2 ^ x=(2 ^ (x+1)*m+(2 ^ x - 1))+1:=by omega
 have hx:x<64:=by
  rcases Nat.lt_or_ge x 64 with h | h
  · exact h
  · have:=Nat.pow_le_pow_right (n:=2) (by decide) h
    omega
 refine Nat.eq_of_testBit_eq fun j=>?_
 rw [Nat.testBit_and,Nat.testBit_two_pow];have h2:(2 ^ 64 - (2 ^ (x+1)*m+2 ^ x)).testBit j=(decide (j<64)&&!(2 ^ (x+1)*m+(2 ^ x - 1)).testBit j):=by
  rw [e];exact Nat.testBit_two_pow_sub_succ (by omega) j
 rw [h2,bitA,bitB];by_cases h:j<x+1
 · rw [if_pos h,if_pos h]
   by_cases h1:x=j
   · subst h1;simp [hx]
   · simp [h1]
 · rw [if_neg h,if_neg h]
   have:x≠j:=by omega
   cases m.testBit (j - (x+1)) <;> simp [this]
end
theorem u64_wrap {n:Int} (h0:0≤n) (h1:n<2 ^ 64):IntKind.u64.wrap n=n:=by
 rw [IntKind.wrap_u64];exact Int.emod_eq_of_lt h0 (by simpa using h1)
theorem u64_and (a b:Nat) (ha:a<2 ^ 64) (hb:b<2 ^ 64):bits .and .u64 (a:Int) (b:Int)=((a &&& b:Nat):Int):=(bits_nat .u64 64 (by decide) (fun n h0 h1=>u64_wrap h0 h1) a b ha hb).1
theorem set_next {x:Nat} {r:List Nat} (ha:Asc (x::r)) (hb:∀ y∈x::r,y<64):bits .and .u64 (setS (x::r):Int) ((setS (x::r) - 1:Nat):Int)=(setS r:Nat):=by
 have hlt:=setS_lt64 ha hb;have h64:(2:Nat) ^ 64=18446744073709551616:=by decide
 have hp:=Nat.two_pow_pos x;obtain ⟨m,hm⟩:=setS_div ha.1;rw [u64_and _ _ (by omega) (by omega)];have e1:setS (x::r)=2 ^ (x+1)*m+2 ^ x:=by rw [setS,hm];omega
 have e2:setS (x::r) - 1=2 ^ (x+1)*m+(2 ^ x - 1):=by rw [e1];omega
 rw [e2,e1,and_pred,hm]
theorem set_low {x:Nat} {r:List Nat} (ha:Asc (x::r)) (hb:∀ y∈x::r,y<64):bits .and .u64 (setS (x::r):Int) (IntKind.u64.wrap (-(setS (x::r):Int)))=((2 ^ x:Nat):Int):=by
 have hlt:=setS_lt64 ha hb;have h64:(2:Nat) ^ 64=18446744073709551616:=by decide
 have hp:=Nat.two_pow_pos x;obtain ⟨m,hm⟩:=setS_div ha.1;have e1:setS (x::r)=2 ^ (x+1)*m+2 ^ x:=by rw [setS,hm];omega
 have e2:IntKind.u64.wrap (-(setS (x::r):Int))=((2 ^ 64 - setS (x::r):Nat):Int):=by
  rw [IntKind.wrap_u64];omega
 rw [e2,u64_and _ _ (by omega) (by omega),e1,and_neg (by rw [← e1];omega)]
theorem set_ne {x:Nat} {r:List Nat}:setS (x::r)≠0:=by have:=Nat.two_pow_pos x;simp only [setS];omega
def debN:List Nat:=[0,1,56,2,57,49,28,3,61,58,42,50,38,29,17,4,62,47,59,36,45,43,51,22,53,39,33,30,24,18,12,5,63,55,48,27,60,41,37,16,46,35,44,21,52,32,23,11,54,26,40,15,34,20,31,10,25,14,19,9,13,8,7,6]
theorem deb_at:∀ x,x<64→debN[(2 ^ x*285870213051353865 % 18446744073709551616) / 2 ^ 58]? = some x:=by decide +kernel
theorem setS_snoc:∀ (l:List Nat) (x:Nat),setS (l++[x])=setS l+2 ^ x
 | [],x=>by simp [setS]
 | y::r,x=>by simp only [List.cons_append,setS,setS_snoc r x];omega
theorem asc_snoc:∀ {l:List Nat} {x:Nat},Asc l→(∀ y∈l,y<x)→Asc (l++[x])
 | [],_,_,_=>⟨fun _ h=>(by cases h),trivial⟩
 | y::r,x,ha,hb=>⟨fun z hz=>by
  rcases List.mem_append.1 hz with h | h
  · exact ha.1 z h
  · obtain rfl:=List.mem_singleton.1 h;exact hb y List.mem_cons_self,asc_snoc ha.2 fun z hz=>hb z (List.mem_cons_of_mem _ hz)⟩
theorem set_or {l:List Nat} {x:Nat} (ha:Asc l) (hb:∀ y∈l,y<x) (hx:x<64):bits .or .u64 (setS l:Int) ((2 ^ x:Nat):Int)=(setS (l++[x]):Nat):=by
 have hl:setS l<2 ^ x:=by
  rcases setS_lt (k:=0) (n:=x) ha (fun y hy=>⟨Nat.zero_le _,hb y hy⟩) with h | rfl
  · omega
  · exact Nat.two_pow_pos x
 have h64:(2:Nat) ^ x<2 ^ 64:=Nat.pow_lt_pow_right (by decide) hx;have h:=(bits_nat .u64 64 (by decide) (fun n h0 h1=>u64_wrap h0 h1) (setS l) (2 ^ x) (by omega) h64).2;rw [setS_snoc];have e:setS l ||| 2 ^ x=setS l+2 ^ x:=by
  have:=Nat.two_pow_add_eq_or_of_lt (i:=x) hl 1;rw [Nat.mul_one] at this;rw [Nat.or_comm,← this,Nat.add_comm]
 first | (rw [h.1,e]) | (rw [h,e]) | (rw [h.2,e])
end Prb
namespace Go.Proofs.Qm
open Go Go.Pt Go.RowKit Prb
def DebAt (w:World):Prop:=0<w.heap.size∧∀ (i z:Nat),debN[i]? = some z→w.cell? ⟨0,i,none⟩=some (.int .u8 z)
theorem DebAt.below {w w':World} (h:DebAt w) (hg:Below w.heap.size w w'):DebAt w':=by
 refine ⟨Nat.lt_of_lt_of_le h.1 hg.size,fun i z hz=>?_⟩;have:=h.2 i z hz;simp only [World.cell?] at this ⊢;rw [hg.block 0 h.1];exact this
set_option maxRecDepth 100000 in
set_option maxHeartbeats 1600000 in
theorem tz_any {x:Nat} {r:List Nat} (ha:Asc (x::r)) (hb:∀ y∈x::r,y<64) (w:World) (hD:DebAt w) :
  Calls prog 72 #[.int .u64 (setS (x::r))] w fun e w'=>e=.returned (.int .i64 x)∧w'=w:=by
 have h1:=set_low ha hb;have hx:x<64:=hb x List.mem_cons_self;have h0:((setS (x::r):Int)==0)=false:=by rw [beq_eq_false_iff_ne];have:=set_ne (x:=x) (r:=r);omega
 have hd:=hD.2 _ _ (deb_at x hx);have hz:=hD.1;obtain ⟨S,hS⟩:∃ S,setS (x::r)=S:=⟨_,rfl⟩;obtain ⟨T,hT⟩:∃ T:Nat,2 ^ x=T:=⟨_,rfl⟩;rw [hS] at h0 h1 ⊢;rw [hT] at h1 hd;obtain ⟨p,hp⟩:∃ p,T*285870213051353865 % 18446744073709551616=p:=⟨_,rfl⟩;rw [hp,show (2:Nat) ^ 58=288230376151711744 from by decide] at hd;obtain ⟨k,hk⟩:∃ k,p / 288230376151711744=k:=⟨_,rfl⟩;rw [hk] at hd;have hk64:k<64:=by omega
 have hm:IntKind.u64.wrap ((T:Int)*285870213051353865)=(p:Int):=by rw [IntKind.wrap_u64];omega
 have hpp:(p:Int) / 288230376151711744=(k:Int):=by omega
 clear hD ha hb hS hT hk hp;go_enter func72,ntmps72
 go_wp2_with fail
 exact bodyPost_ret (v:=.int .i64 x) (by simp [results,go_sem]) rfl ⟨rfl,rfl⟩
open Go Go.RowKit
attribute [local go_sem] Oper.semAt_some
section
variable {α:Type} {P:Program}
def Runs (n:Nat) (P:Program) (g:Nat) (lb:Array Value) (bs ks:List Nat) (encs:α→Array Value) (xs:List α) (w0:World):Prop :=
 ∀ (l:Nat) (J:List α→World→Prop) (W:World),(∀ b∈ks,W.heap[b]? = w0.heap[b]?)→Below w0.heap.size w0 W →
  (∀ pre A B b,J pre A→b∈bs→A.grownBy B (some b)→J pre B) →
  (∀ pre x W1,J pre W1→(∃ r,xs=pre++x::r)→YieldAt Fence.wide (n - 1) P l (encs x) W1 fun e W'=>e=.returned (.bool true)∧J (pre++[x]) W'∧∀ b∈ks,W'.heap[b]? = W1.heap[b]?) →
  J [] W→CallsIn Fence.wide n P g (#[.func (.yield l) #[] #[]]++lb) W fun e W'=>(∃ v,e=.returned v)∧J xs W'
def runPost (B:Nat) (ks:List Nat) (I:List α→World→Prop) (xs:List α) (W:World):Exit→Act→World→Prop
 | .normal,_,W'=>KeepsFrom B W W'∧(∀ b∈ks,W'.heap[b]? = W.heap[b]?)∧I xs W'
 | _,_,_=>False
def Steady (B:Nat) (bs:List Nat) (I:List α→World→Prop):Prop :=
 ∀ pre X Y row,I pre X→X.grownBy Y row→(∀ r,row=some r→r∈bs∨(B≤r∧∃ o:Obj,X.heap[r]? = some o∧o.isCells=false))→I pre Y
theorem wpIn_rangeFunc_run {n:Nat} {g:Operand} {ps:Array Tmp} {assign body:Code} {Q:Exit→Act→World→Prop} {a:Act} {w:World} (h1:1≤n)
  {gf:Nat} {lb:Array Value} (hg:a.eval g=.func (.func gf) #[] lb) (eg:∀ args w,(callFunc gf args).run P w=.ok (.enter gf args) w)
  {bs ks:List Nat} {encs:α→Array Value} {xs:List α} (hseq:Runs (n - 1) P gf lb bs ks encs xs w) (hbs:∀ b∈bs,b<w.heap.size) (hks:∀ b∈ks,b<w.heap.size) (hps:∀ x,(encs x).size=ps.size)
  (I:List α→World→Prop) (hI:Steady w.heap.size bs I) (h0:I [] w) (a₁:α→Act)
  (hassign:∀ (l:Nat) (x:α) (W:World) (K:Act→World→Prop),K (a₁ x) W →
    assign.wpIn (Fence.wide.inRound l) (n - 1 - 1) P (Exit.then K (fun _ _ _=>False)) { tmps:=(ps.zip (encs x)).foldl (fun t (p,v)=>t.setIfInBounds p v) a.tmps,defers:=[] } W)
  (hbody:∀ (l:Nat) (pre:List α) (x:α) (W:World),I pre W→(∃ r,xs=pre++x::r)→body.wpIn (Fence.wide.inRound l) (n - 1 - 1) P (runPost w.heap.size ks I (pre++[x]) W) (a₁ x) W)
  (hdone:∀ (D:Nat) (W:World),w.heap.size≤D→I xs W→W.heap[D]? = some (.deferred (some []))→Q .normal { a with defers:={ target:=.collected D,args:=#[] }::a.defers } W) :
  (Code.rangeFunc g ps assign body).wpIn Fence.wide n P Q a w:=by
 refine wpIn_rangeFunc ?_;intro fn hfn;rw [show Fence.wide.round=none from rfl];obtain ⟨rec,hrec⟩:∃ rec:LoopState→Loop,rec=fun st=>{ state:=st,pending:=none,fn,tmps:=a.tmps,params:=ps,assign,body,defers:=w.heap.size }:=⟨_,rfl⟩
 obtain ⟨W1,hW1⟩:∃ W1,(w.alloc (.deferred (some []))).alloc (.loop (rec .ready))=W1:=⟨_,rfl⟩;have hL1:W1.heap[w.heap.size+1]? = some (.loop (rec .ready)):=by
  have:=World.alloc_heap_new (w.alloc (.deferred (some []))) (.loop (rec .ready));rw [World.size_alloc] at this;rw [← hW1];exact this
 have hK1:W1.heap[w.heap.size]? = some (.deferred (some [])):=by
  rw [← hW1];exact (Below.heap_alloc _ _ _ (by simp)).trans (World.alloc_heap_new w _)
 have hgr:w.grownBy W1 none:=by
  rw [← hW1];exact (((Grew.refl w).alloc _).alloc _).grownBy none
 have hI1:I [] W1:=hI _ _ _ none h0 hgr (fun _ e=>by cases e);have hb1:Below w.heap.size w W1:=(Below.refl _ w).grown hgr (Nat.le_refl _) (fun _ e=>by cases e);refine ⟨w.heap.size+1,[{ target:=.collected w.heap.size,args:=#[] }],W1, { target:=.fn (.func gf) lb,args:=#[.func (.yield (w.heap.size+1)) #[] #[]] },W1,gf,
  #[.func (.yield (w.heap.size+1)) #[] #[]]++lb,W1, ?_, ?_, ?_, ?_,fun _=>h1, ?_⟩
 · rw [← hW1,hrec]
   exact run_enterLoop_outer _ _ _ _ _
 · simp only [resolve,hg]
   simp [go_sem]
 · intro _ _
   trivial
 · simp [invoke,go_sem,eg]
 refine (hseq (w.heap.size+1) (fun pre W=>I pre W∧W.heap[w.heap.size+1]? = some (.loop (rec .ready))∧W.heap[w.heap.size]? = some (.deferred (some []))) W1 (fun b hb=>hb1.block b (hks b hb)) hb1 ?_ ?_ ⟨hI1,hL1,hK1⟩).mono ?_
 · rintro pre A B b ⟨hi,hl,hk⟩ hb hg'
   have hlt:=hbs b hb;exact ⟨hI _ _ _ _ hi hg' (fun r e=>by cases e;exact .inl hb),(hg'.block _ (Array.getElem?_eq_some_iff.1 hl).1 (fun e=>by injection e with e;omega)).trans hl,(hg'.block _ (Array.getElem?_eq_some_iff.1 hk).1 (fun e=>by injection e with e;omega)).trans hk⟩
 · rintro pre x W ⟨hi,hl,hk⟩ hr
   have hlt:w.heap.size+1<W.heap.size:=(Array.getElem?_eq_some_iff.1 hl).1;have hy:=run_yield (P:=P) (args:=encs x) hl (by rw [hrec];exact hps x);rw [hrec] at hy;have put:∀ {V:World} {o o':Obj},V.heap[w.heap.size+1]? = some o→o.isCells=false→∀ {p:List α},I p V→I p (V.putObj (w.heap.size+1) o'):=fun {V o o'} ho hc {p} hp =>
    hI _ _ _ _ hp (grownBy_putObj' V (w.heap.size+1) o') (fun r e=>by cases e;exact .inr ⟨by omega,_,ho,hc⟩)
   refine ⟨fn,_,assign,body,hy,roundIn_of_wpIn hfn (hassign _ x W _ ⟨_,run_beginRound hl (by rw [hrec]), ?_⟩)⟩;have hl2:(W.putObj (w.heap.size+1) (.loop { rec .ready with state:=.busy })).heap[w.heap.size+1]? = some (.loop { rec .ready with state:=.busy }):=World.putObj_heap_same hlt;have hk2:(W.putObj (w.heap.size+1) (.loop { rec .ready with state:=.busy })).heap[w.heap.size]? = some (.deferred (some [])):=(World.putObj_heap_other (by omega)).trans hk;refine wpIn_mono (hbody _ pre x _ (put hl rfl hi) hr) ?_;rintro e a3 W3 hp;cases e with
   | normal =>
     obtain ⟨hk3,hb3,hi3⟩:=hp;have hl3:=hk3.same _ _ (by omega) hl2 rfl;have he:=run_endRound (P:=P) none hl3;rw [hrec] at he hl3;have hl4:(W3.putObj (w.heap.size+1) (.loop (rec .ready))).heap[w.heap.size+1]? = some (.loop (rec .ready)):=World.putObj_heap_same (Array.getElem?_eq_some_iff.1 hl3).1;have hk4:(W3.putObj (w.heap.size+1) (.loop (rec .ready))).heap[w.heap.size]? = some (.deferred (some [])):=(World.putObj_heap_other (by omega)).trans (hk3.same _ _ (Nat.le_refl _) hk2 rfl);refine ⟨_,_,he,rfl,⟨put hl3 rfl hi3, ?_, ?_⟩,fun b hb=>?_⟩
     · rw [hrec] at hl4
       rw [hrec];exact hl4
     · rw [hrec] at hk4
       exact hk4
     · have hne:b≠w.heap.size+1:=by have:=hks b hb;omega
       exact (World.putObj_heap_other (by omega)).trans ((hb3 b hb).trans (World.putObj_heap_other (by omega)))
   | _=>exact hp.elim
 · rintro e W2 ⟨⟨v,rfl⟩,hi,hl,hk⟩
   have he:=run_endLoop (P:=P) hl (by rw [hrec];simp);rw [hrec] at he;exact ⟨none,_,he,hdone _ _ (Nat.le_refl _) (hI _ _ _ _ hi (grownBy_putObj' W2 (w.heap.size+1) _) (fun r e=>by cases e;exact .inr ⟨by omega,_,hl,rfl⟩)) ((World.putObj_heap_other (by omega)).trans hk)⟩
end
theorem box_set {b:Nat} {w:World} {v v':Value} {t:TypeId} (h:w.heap[b]? = some (.cells #[v] t (0,0))):(w.setCell ⟨b,0,none⟩ v').heap[b]? = some (.cells #[v'] t (0,0)):=by
 unfold World.setCell;rw [Array.getElem?_modify,if_pos rfl,h];rfl
open Go Go.Pt Go.RowKit Prb
attribute [local go_sem] Oper.semAt_some
def encX (x:Nat):Array Value:=#[.int .i64 x]
def leftN (b:Nat) (w:World):Nat:=match w.cell? ⟨b,0,none⟩ with | some (.int _ n)=>n.toNat | _=>0
theorem leftN_eq {b:Nat} {w:World} {n:Nat} (h:w.heap[b]? = some (.cells #[.int .u64 n] 69 (0,0))):leftN b w=n:=by
 unfold leftN;have:w.cell? ⟨b,0,none⟩=some (.int .u64 n):=by simp [World.cell?,h]
 rw [this];simp
theorem DebAt.of_block {w w':World} (h:DebAt w) (hb:w'.heap[0]? = w.heap[0]?):DebAt w':=by
 have h0:w.heap[0]? = some (w.heap[0]'h.1):=Array.getElem?_eq_getElem h.1;refine ⟨(Array.getElem?_eq_some_iff.1 (hb.trans h0)).1,fun i z hz=>?_⟩;have:=h.2 i z hz;simp only [World.cell?] at this ⊢;rw [hb];exact this
theorem heap_setCell_ne (w:World) {b k:Nat} (h:k≠b) (i:Nat) (v:Value):(w.setCell ⟨b,i,none⟩ v).heap[k]? = w.heap[k]? := by
 unfold World.setCell;rw [Array.getElem?_modify,if_neg (fun e=>h e.symm)]
set_option maxRecDepth 100000 in
set_option maxHeartbeats 4000000 in
theorem all_runs (n:Nat) (hn:1≤n) (bS:Nat) (l:List Nat) (ha:Asc l) (hl:∀ y∈l,y<64) (w:World) (hD:DebAt w) (hx:w.heap[bS]? = some (.cells #[.int .u64 (setS l)] 69 (0,0))) :
  Runs n prog 71 #[.pointer (some ⟨bS,0,none⟩)] [bS] [bS,0] encX l w:=by
 intro lp J W hbW hW hJ hY h0;have hb0:=(hbW bS (by simp)).trans hx;have hD0:=hD.of_block (hbW 0 (by simp));have h0S:(0:Nat)≠bS:=by
  rintro rfl;have h1:=hD.2 0 0 (by decide);simp [World.cell?,hx] at h1
 clear hbW hW hx hD;refine callsIn_of_wp func71 rfl trivial ?_ rfl;simp only [ntmps71,List.size_toArray,List.length_cons,List.length_nil,Nat.reduceAdd,Nat.reduceSub,Array.replicate_succ,Array.replicate_zero,List.push_toArray,List.append_toArray,List.nil_append,List.cons_append]
 gi_wp2
 gi_loopw [3] (fun _ wr=>∃ (pre r:List Nat),l=pre++r∧Asc r∧(∀ y∈r,y<64)∧wr.heap[bS]? = some (.cells #[.int .u64 (setS r)] 69 (0,0))∧DebAt wr∧J pre wr) (fun _ wr=>leftN bS wr)
 case atStart=>exact ⟨[],l,rfl,ha,hl,hb0,hD0,h0⟩
 case round =>
  obtain ⟨pre,r,hpr,har,hlr,hb,hDr,hJr⟩:=hrel;have hc:wr.cell? ⟨bS,0,none⟩=some (.int .u64 (setS r)):=by simp [World.cell?,hb]
  have hbl:=(Array.getElem?_eq_some_iff.1 hb).1;cases r with
  | nil =>
    have HJR:=hid hJr;have HPR:=hid hpr;rw [show setS []=0 from rfl] at hc;clear hb hJr hpr h0 hb0 hD0 hDr hlr har hl ha hY hJ
    gi_wp2
    go_end0
    refine ⟨⟨_,rfl⟩, ?_⟩;have:=HPR.out;rw [List.append_nil] at this;rw [this];exact HJR.out
  | cons x r =>
    have hS0:((setS (x::r):Int) != 0)=true:=by rw [bne_iff_ne];have:=set_ne (x:=x) (r:=r);omega
    have HT:=hid fun w' (h:DebAt w')=>tz_any har hlr w' h
    have HN:=hid (set_next har hlr);have HP:=hid (show IntKind.u64.wrap ((setS (x::r):Int) - 1)=((setS (x::r) - 1:Nat):Int) by
     have:=setS_lt64 har hlr;have:=set_ne (x:=x) (r:=r);rw [IntKind.wrap_u64];omega)
    have HL:=hid (show setS r<setS (x::r) by have:=Nat.two_pow_pos x;simp only [setS];omega);obtain ⟨fn,tmps,assign,body,hy,hR⟩:=hY pre x wr hJr ⟨r,hpr⟩;simp only [encX] at hy;have HB:=hid hb;have HPR:=hid hpr;have HA:=hid har.2;have HLR:=hid fun y hy=>hlr y (List.mem_cons_of_mem x hy)
    have HD:=hid hDr;have HM:=hid (leftN_eq hb);obtain ⟨S,hS⟩:∃ S,setS (x::r)=S:=⟨_,rfl⟩;obtain ⟨R,hRR⟩:∃ R,setS r=R:=⟨_,rfl⟩;rw [hS] at hc hS0 HT HN HP HL HM HB;rw [hRR] at HN HL;obtain ⟨D,hDD⟩:∃ D,S - 1=D:=⟨_,rfl⟩;rw [hDD] at HN HP;have HRR:=hid hRR;clear hb hJr hpr h0 hb0 hD0 hDr hlr har hl ha hS hRR hY hDD
    gi_wp2
    refine ⟨trivial,(callsIn_wide.2 (HT.out _ HD.out)).mono ?_⟩;rintro e w' ⟨rfl,rfl⟩
    gi_wp2
    refine hR.mono ?_;rintro e W3 ⟨rfl,hJ3,hk3⟩;have hb3:=(hk3 bS (by simp)).trans HB.out;have c3:W3.cell? ⟨bS,0,none⟩=some (.int .u64 S):=by simp [World.cell?,hb3]
    have f3:W3.frozen? ⟨bS,0,none⟩=false:=by simp [World.frozen?,hb3]
    have HD3:=hid (HD.out.of_block (hk3 0 (by simp)));have HB3:=hid hb3;have HJ3:=hid hJ3;have hb3l:=(Array.getElem?_eq_some_iff.1 hb3).1;have hN:=HN.out;have hP:=HP.out;clear hb3 hJ3 hk3 hR hy
    gi_wp2
    have hnew:=box_set (v':=.int .u64 (R:Nat)) HB3.out;go_roundw
    case rel=>exact ⟨pre++[x],r,by rw [HPR.out,List.append_assoc];rfl,HA.out,HLR.out,by rw [HRR.out];exact hnew,HD3.out.of_block (heap_setCell_ne _ h0S _ _),hJ _ _ _ bS HJ3.out (List.mem_singleton.2 rfl) (grownBy_set _ _ _ _)⟩
    case measure=>rw [leftN_eq hnew,HM.out];exact HL.out
end Go.Proofs.Qm
