/- How many bits a number has: the steps of the adding one by one. No condition; no program in sight. -/
import Derived.Test.YtnceajabigdleaaDoorPtQ6
import Derived.Test.YtnceajabigdleaaDoorPtQ95
import Derived.Test.YtnceajabigdleaaDoorPtQ98
import Derived.Test.YtnceajabigdleaaDoorPtQ983
namespace Prb
open Go
end Prb
namespace Go.Proofs.Qm
open Go Go.Pt Go.RowKit Prb
open Go Go.Pt Go.RowKit Prb
structure Fd where
 b:List Bool
 i:Int
 o:Int
def fdOf (z:Tq):Fd:=⟨z.b,z.t.i,z.t.o⟩
theorem fold_cnt (f:Nat→Nat) (i:Nat):∀ (l:List Nat) (cs:List Int),i<cs.length→(l.foldl (fun cs s=>bump cs (f s)) cs).getD i 0=cs.getD i 0+((l.filter fun s=>decide (f s=i)).length:Int)
 | [],cs,_=>by simp
 | x :: r, cs, h => by
   rw [List.foldl_cons,fold_cnt f i r (bump cs (f x)) (by rw [bump_len];exact h),bump_getD,List.filter_cons];by_cases hx:f x=i
   · rw [if_pos ⟨hx,h⟩,if_pos (by simpa using hx),List.length_cons]
     omega
   · rw [if_neg (fun h=>hx h.1),if_neg (by simpa using hx)]
theorem cntL_get (n:Nat) (f:Nat→Nat) (l:List Nat) (i:Nat) (hi:i<n):(cntL n f l)[i]? = some ((l.filter fun s=>decide (f s=i)).length:Int):=by
 have h:=fold_cnt f i l (List.replicate n 0) (by simpa using hi);have e:(cntL n f l).getD i 0=((l.filter fun s=>decide (f s=i)).length:Int):=by
  unfold cntL;rw [h,List.getD_eq_getElem?_getD,List.getElem?_replicate];split <;> simp
 rw [List.getD_eq_getElem?_getD,List.getElem?_eq_getElem (by rw [cntL_len];exact hi)] at e;rw [List.getElem?_eq_getElem (by rw [cntL_len];exact hi)];exact congrArg some e
theorem fold_max:∀ (cs:List Int) (m:Int),m≤cs.foldl max m∧∀ c∈cs,c≤cs.foldl max m
 | [],m=>⟨Int.le_refl _,fun c h=>by cases h⟩
 | x :: r, m => by
   have h:=fold_max r (max m x);refine ⟨by have:=h.1;simp only [List.foldl_cons];omega,fun c hc=>?_⟩;rcases List.mem_cons.1 hc with rfl | hc
   · have:=h.1;simp only [List.foldl_cons];omega
   · exact h.2 c hc
theorem grL_ge {cs:List Int} {c:Int} (h:c∈cs):c≤grL cs:=(fold_max cs 0).2 c h
def bstX (n:Int) (m:Nat) (L:List Nat) (l:List Tq):Nat:=(bstI (gOf n m L l) l.length).1.toNat
def stopF (n:Int) (m:Nat) (L:List Nat) (l:List Tq):Bool:=decide (l.length=0)||decide ((L.length:Int)≤(bstI (gOf n m L l) l.length).2)
def ansF (n:Int) (s:Nat) (z:Tq):Nat:=refA n (thB s z.b) z.t.i.toNat
def nxtF (n:Int) (s:Nat) (z:Tq) (L:List Nat):List Nat:=L.filter (agP n z.b z.t.i.toNat (ansF n s z:Nat))
def finF (n:Int) (m s:Nat) (l:List Tq):Nat→List Nat→List Fd→List Nat × List Fd
 | 0,L,fl=>(L,fl)
 | k + 1, L, fl => if stopF n m L l then (L, fl) else match l[bstX n m L l]? with
   | none=>(L,fl)
   | some z=>finF n m s l k (nxtF n s z L) (fl++[⟨z.b,z.t.i,(ansF n s z:Nat)⟩])
theorem finF_stop {n:Int} {m s:Nat} {l:List Tq} {k:Nat} {L:List Nat} {fl:List Fd} (h:stopF n m L l=true):finF n m s l k L fl=(L,fl):=by
 cases k with
 | zero=>rfl
 | succ k=>rw [finF,if_pos h]
theorem finF_step {n:Int} {m s:Nat} {l:List Tq} {k:Nat} {L:List Nat} {fl:List Fd} {z:Tq} (h:stopF n m L l=false) (hz:l[bstX n m L l]? = some z):finF n m s l (k+1) L fl=finF n m s l k (nxtF n s z L) (fl++[⟨z.b,z.t.i,(ansF n s z:Nat)⟩]):=by
 rw [finF,if_neg (by rw [h];simp),hz]
theorem nxtF_lt {n:Int} {m s:Nat} {z:Tq} {L:List Nat} (hA:ansF n s z<m) (hw:wrst n m L z<L.length):(nxtF n s z L).length<L.length:=by
 have h1:=cntL_get m (fun s=>refA n (thB s z.b) z.t.i.toNat) L (ansF n s z) hA;have h2:=grL_ge (List.mem_of_getElem? h1);unfold wrst at hw;have e:nxtF n s z L=L.filter fun y=>decide (refA n (thB y z.b) z.t.i.toNat=ansF n s z):=by
  unfold nxtF;refine List.filter_congr fun y _=>?_
  unfold agP;by_cases h:refA n (thB y z.b) z.t.i.toNat=ansF n s z
  · rw [decide_eq_true h,decide_eq_true (by rw [h])]
  · rw [decide_eq_false h,decide_eq_false (by omega)]
 rw [e];omega
theorem setS_filter (p:Nat→Bool):∀ L:List Nat,setS (L.filter p)≤setS L∧((L.filter p).length<L.length→setS (L.filter p)<setS L)
 | []=>⟨Nat.le_refl _,fun h=>by simp at h⟩
 | x :: r => by
   have ih:=setS_filter p r;have hp:=Nat.two_pow_pos x;rw [List.filter_cons];split
   · refine ⟨by simp only [setS];omega,fun h=>?_⟩
     have:=ih.2 (by simpa using h);simp only [setS];omega
   · exact ⟨by simp only [setS];omega,fun _=>by simp only [setS];omega⟩
theorem ints_nat (L:List Nat):(ints L).map Int.toNat=L:=by
 unfold ints;rw [List.map_map];conv=>rhs;rw [← List.map_id L]
 exact List.map_congr_left fun z _=>by show (Int.ofNat z).toNat=z;simp
theorem ok_ints {N:Nat}:∀ {L:List Nat} {lo:Int},Asc L→(∀ y∈L,y<N)→(∀ y∈L,lo≤(y:Int))→okFrom N lo (ints L)=true
 | [],_,_,_,_=>rfl
 | x :: r, lo, ha, hl, h => by
   have h1:=hl x List.mem_cons_self;have h2:=h x List.mem_cons_self;show okFrom N lo ((x:Int)::ints r)=true
   rw [okFrom,ok_ints (lo:=(x:Int)+1) ha.2 (fun y hy=>hl y (List.mem_cons_of_mem _ hy)) (fun y hy=>by have:=ha.1 y hy;omega)];simp;omega
open Go Go.Pt Go.RowKit Prb
def BlkB (w:World) (g:Nat) (l:List Bool):Prop:=∃ (cs:Array Value) (fz:Nat × Nat),w.heap[g]? = some (.cells cs 4 fz)∧∀ (i:Nat) (x:Bool),l[i]? = some x→cs[i]? = some (Value.bool x)
theorem BlkB.lt {w:World} {g:Nat} {l:List Bool} (h:BlkB w g l):g<w.heap.size:=by
 obtain ⟨cs,fz,h,_⟩:=h;exact (Array.getElem?_eq_some_iff.1 h).1
theorem BlkB.at {w:World} {g:Nat} {l:List Bool} (h:BlkB w g l):BlsAt w g 0 l:=fun i x hx=>by
 obtain ⟨cs,fz,h1,h2⟩:=h;rw [Nat.zero_add];simp only [World.cell?,h1];exact h2 i x hx
def KeepB (w w':World):Prop:=∀ (g:Nat) (cs:Array Value) (fz:Nat × Nat),w.heap[g]? = some (.cells cs 4 fz)→w'.heap[g]? = w.heap[g]?
theorem BlkB.kept {w w':World} {g:Nat} {l:List Bool} (h:BlkB w g l) (hk:KeepB w w'):BlkB w' g l:=by
 obtain ⟨cs,fz,h1,h2⟩:=h;exact ⟨cs,fz,(hk g cs fz h1).trans h1,h2⟩
theorem KeepB.below {w w':World} (h:Below w.heap.size w w'):KeepB w w':=fun g _ _ h1=>h.block g (Array.getElem?_eq_some_iff.1 h1).1
theorem KeepB.grew {w w':World} (h:Grew w w'):KeepB w w':=fun g _ _ h1=>h.block g (Array.getElem?_eq_some_iff.1 h1).1
theorem KeepB.trans {w w2 w':World} (h:KeepB w w2) (k:KeepB w2 w'):KeepB w w':=fun g cs fz h1=>by
 have e:=h g cs fz h1;exact (k g cs fz (e.trans h1)).trans e
theorem KeepB.set {w:World} {b i:Nat} {v:Value} (hb:∀ (cs:Array Value) (fz:Nat × Nat),w.heap[b]? ≠ some (.cells cs 4 fz)):KeepB w (w.setCell ⟨b,i,none⟩ v):=fun g cs fz h=>heap_setCell_ne w (fun e=>hb cs fz (by rw [← e];exact h)) i v
theorem KeepB.row {w w':World} {base:Nat} {e:TypeId} {size k:Nat} {v:Value} {xs:List Value} (ho:w.ownsRow base e size v k xs) (he:4≠e) (hg:w.grownBy w' v.ownBlock):KeepB w w':=fun g _ _ h =>
 hg.block g (Array.getElem?_eq_some_iff.1 h).1 fun e'=>own_ne ho h he e'.symm
def bCells (l:List Bool):List Value:=l.map .bool
theorem info_b:(prog.info? 4).map (fun i=>(i.zero,i.size,i.bytes))=some (some (.bool false),1,1):=by rw [p_info];kernel_rfl
theorem und_b:prog.underlying 23=some (.slice 4):=(p_underlying 23).trans Tryd.underlying23
theorem eql_bls_nil (a:Option Addr) (n c:Nat) (w:World):(binOp .eql 23 (.slice a n c) (.slice none 0 0)).run prog w=.ok (.bool a.isNone) w:=run_eql_slice_nil w 23 4 a n c und_b
attribute [local go_sem high] eql_bls_nil
def tqC (z:Tq):List Value:=[.slice z.t.a z.t.len z.t.cap,.int .i64 z.t.i,.int .i64 z.t.o]
def tqCells (l:List Tq):List Value:=l.flatMap tqC
theorem tqCells_len (l:List Tq):(tqCells l).length=l.length*3:=by
 induction l with
 | nil=>rfl
 | cons p r ih=>simp only [tqCells,List.flatMap_cons,List.length_append,List.length_cons,tqC,List.length_nil] at ih ⊢;omega
theorem tqCells_one {l:List Tq} {u:Value} (hu:u∈tqCells l):u.oneCell'=true:=by
 obtain ⟨p,_,h⟩:=List.mem_flatMap.1 hu;simp only [tqC,List.mem_cons,List.not_mem_nil,or_false] at h;rcases h with rfl | rfl | rfl <;> rfl
theorem tqCells_at:∀ {l:List Tq} {i:Nat} {z:Tq},l[i]? = some z→(tqCells l)[i*3]? = some (.slice z.t.a z.t.len z.t.cap)∧(tqCells l)[i*3+1]? = some (.int .i64 z.t.i)∧(tqCells l)[i*3+2]? = some (.int .i64 z.t.o)
 | [],_,_,h=>by cases h
 | q :: r, 0, z, h => by
   obtain rfl:=Option.some.inj h;exact ⟨rfl,rfl,rfl⟩
 | q :: r, i + 1, z, h => by
   have:=tqCells_at (l:=r) (i:=i) (z:=z) h;rw [show (i+1)*3=i*3+3 by omega];exact this
def TurnO (w:World) (z:Tq):Prop:=z.t.len=z.b.length∧∃ g,z.t.a=some ⟨g,0,none⟩∧BlkB w g z.b
theorem TurnO.turn {w:World} {z:Tq} (h:TurnO w z):TurnAt w z.t.a z.t.len z.b:=by
 obtain ⟨h1,g,h2,h3⟩:=h;exact ⟨h1,.inr ⟨g,0,h2,h3.lt,h3.at⟩⟩
def OwnT (w:World) (base:Nat) (a0:Option Addr) (k0:Nat) (l:List Tq):Prop:=w.ownsRow base 48 3 (.slice a0 l.length k0) l.length (tqCells l)∧∀ z∈l,TurnO w z
theorem OwnT.nil (w:World) (base:Nat):OwnT w base none 0 []:=⟨World.ownsRow_nil w base 48 3,fun z h=>by cases h⟩
theorem TurnO.kept {w w':World} {z:Tq} (h:TurnO w z) (hk:KeepB w w'):TurnO w' z:=by
 obtain ⟨h1,g,h2,h3⟩:=h;exact ⟨h1,g,h2,h3.kept hk⟩
theorem OwnT.grew {w w':World} {base:Nat} {a0:Option Addr} {k0:Nat} {l:List Tq} (h:OwnT w base a0 k0 l) (g:Grew w w'):OwnT w' base a0 k0 l:=⟨World.ownsRow.grew h.1 g,fun z hz=>(h.2 z hz).kept (KeepB.grew g)⟩
theorem below_by {w w':World} (h:Below w.heap.size w w'):w.grownBy w' none:=⟨h.os,h.tape,h.output,h.size,fun k hk _=>h.block k hk⟩
theorem OwnT.below {w w':World} {base:Nat} {a0:Option Addr} {k0:Nat} {l:List Tq} (h:OwnT w base a0 k0 l) (g:Below w.heap.size w w'):OwnT w' base a0 k0 l:=⟨World.ownsRow.kept h.1 (below_by g) (by cases (Value.slice a0 l.length k0).ownBlock with | none=>exact .inl rfl | some k=>exact .inr (by simp)),fun z hz=>(h.2 z hz).kept (KeepB.below g)⟩
theorem OwnT.set {w:World} {base:Nat} {a0:Option Addr} {k0:Nat} {l:List Tq} (h:OwnT w base a0 k0 l) {b i:Nat} {v:Value} (hb:∀ (cs:Array Value) (fz:Nat × Nat),w.heap[b]? ≠ some (.cells cs 4 fz)) (hn:(Value.slice a0 l.length k0).ownBlock≠some b):OwnT (w.setCell ⟨b,i,none⟩ v) base a0 k0 l :=
 ⟨World.ownsRow.kept h.1 (grownBy_set w b i v) (by cases hk:(Value.slice a0 l.length k0).ownBlock with | none=>exact .inl rfl | some k=>exact .inr (fun e=>hn (by rw [hk,e]))),fun z hz=>(h.2 z hz).kept (KeepB.set hb)⟩
theorem OwnT.tqAt {w:World} {base k0:Nat} {a0:Option Addr} {l:List Tq} (h:OwnT w base a0 k0 l) (hm:∀ z∈l,z.b.length≤6):TqAt w a0 l:=fun i z hz=>by
 have hi:i<l.length:=(List.getElem?_eq_some_iff.1 hz).1;have hzm:=List.mem_of_getElem? hz;have ht:=(h.2 z hzm).turn;have h6:=hm z hzm;rcases h.1.2 with ⟨h1,h2⟩ | ⟨g,cap,cur,h1,h2,h3,h4⟩
 · omega
 · have e:=h1
   injection e with e1 e2 e3;subst e1;subst e3;obtain ⟨c0,c1,c2⟩:=tqCells_at hz;refine ⟨g,0,rfl,(Array.getElem?_eq_some_iff.1 h3).1,⟨?_, ?_, ?_⟩,by rw [ht.1];omega,ht⟩
   · rw [Nat.zero_add,World.ownsRow.cellAt h.1 (i*3) (by omega)];exact c0
   · rw [Nat.zero_add,World.ownsRow.cellAt h.1 (i*3+1) (by omega)];exact c1
   · rw [Nat.zero_add,World.ownsRow.cellAt h.1 (i*3+2) (by omega)];exact c2
theorem info_t:(prog.info? 48).map (fun i=>(i.zero,i.size,i.bytes))=some (some (.agg #[.slice none 0 0,.int .i64 0,.int .i64 0]),3,40):=by rw [p_info];kernel_rfl
theorem und_t:prog.underlying 30=some (.slice 48):=(p_underlying 30).trans Tryd.underlying30
theorem wpList_append_t {w:World} {ops:Array Oper} {rest:List Oper} {o:Oper} {a:Act} {Q:Exit→Act→World→Prop} (hgd:o.guard=none) (s x:Operand)
  (ho:o.op=.call { callee:=.builtin .append,args:=#[s,x],argTypes:=#[30,30] })
  (base:Nat) (a0:Option Addr) (k0:Nat) (xs:List Tq) (hs:a.eval s=.slice a0 xs.length k0) (hown:OwnT w base a0 k0 xs)
  (b c:Nat) (z:Tq) (hx:a.eval x=.slice (some ⟨b,0,none⟩) 1 c) (hz:w.cell? ⟨b,0,none⟩=some (.slice z.t.a z.t.len z.t.cap)∧w.cell? ⟨b,1,none⟩=some (.int .i64 z.t.i)∧w.cell? ⟨b,2,none⟩=some (.int .i64 z.t.o)) (ht:TurnO w z)
  (hmax:xs.length≤100000) (hbase:base≤w.heap.size)
  (h:∀ a2 k2 w',OwnT w' base a2 k2 (xs++[z])→w.grownBy w' (Value.slice a0 xs.length k0).ownBlock→w.drawn≤w'.drawn→wpList prog ops Q rest (a.put o.dst (.slice a2 (xs++[z]).length k2)) w') :
  wpList prog ops Q (o::rest) a w:=by
 obtain ⟨i0,hi,hz0,hz1,hz2⟩:=info_parts info_t;refine wpList_append_behind hgd s x 30 ho base 48 i0 (.agg #[.slice none 0 0,.int .i64 0,.int .i64 0]) 3 40 und_t hi hz0 hz1 hz2 rfl (by decide) _ _ (tqCells xs) hs hown.1 ⟨b,0,none⟩ 1 c (tqC z) hx rfl ?_ (fun u hu=>tqCells_one (l:=[z]) (by simpa [tqCells] using hu)) (by unfold maxLen;omega) (by omega) hbase fun v' w' hown' hgrow _ hdr=>?_
 · intro j u hj
   match j,hj with
   | 0,hj=>simp [tqC] at hj;subst hj;simpa [Addr.add] using hz.1
   | 1,hj=>simp [tqC] at hj;subst hj;simpa [Addr.add] using hz.2.1
   | 2,hj=>simp [tqC] at hj;subst hj;simpa [Addr.add] using hz.2.2
   | _+3,hj=>simp [tqC] at hj
 · obtain ⟨a2,k2,rfl⟩:=ownsRow_slice hown'
   have hk:=KeepB.row hown.1 (by decide) hgrow;rw [show xs.length+1=(xs++[z]).length by simp,show tqCells xs++tqC z=tqCells (xs++[z]) by simp [tqCells]] at hown';rw [show xs.length+1=(xs++[z]).length by simp];refine h a2 k2 w' ⟨hown',fun y hy=>?_⟩ hgrow hdr;rcases List.mem_append.1 hy with hy | hy
   · exact (hown.2 y hy).kept hk
   · obtain rfl:=List.mem_singleton.1 hy
     exact ht.kept hk
end Go.Proofs.Qm
