/- House lemmas on regions that draw their order, within a round of a range over a function. No condition; no program in sight. -/
import Derived.Test.YtnceajabigdleaaDoorPtH3
import Derived.OrdersIn
import Derived.TacticsIn
namespace Go.R5
open Go Go.RowKit
theorem steps_round {r:Nat} {P:Program} {m m':Machine} (h:Steps P m m'):StepsIn (Machine.fenced P (Fence.wide.inRound r)) P m m' :=
 (StepsIn.of_steps h).mono fun m _=>fenced_wide P m
theorem comes_round {r:Nat} {P:Program} {m m':Machine} {e:Ending} (h:Comes P m m' e):ComesIn (Machine.fenced P (Fence.wide.inRound r)) P m m' e:=by
 cases e with
 | returned v=>exact steps_round h
 | panicked chain=>exact steps_round h
 | outgrown=>exact h
theorem calls_round {r n:Nat} {P:Program} {f:FuncId} {args:Array Value} {w:World} {R:Ending→World→Prop} (h:Calls P f args w R):CallsIn (Fence.wide.inRound r) n P f args w R :=
 ⟨trivial,fun cs _=>let ⟨e,w',fr,r,s,x⟩:=h cs;⟨e,w',fr,r,comes_round s,x⟩⟩
theorem rows_round {r n:Nat} {P:Program} {row:String} {args:Array Value} {w:World} {R:Value→World→Prop} (h:Rows P row args w R):RowsIn (Fence.wide.inRound r) n P row args w R :=
 fun c cs _=>let ⟨v,w',r,s⟩:=h c cs;⟨v,w',r,steps_round s⟩
def calmO (o:Oper):Bool:=match o.op with | .defer _=>false | _=>true
theorem op_round {r n:Nat} {P:Program} {o:Oper} {a:Act} {w:World} {K K':Act→World→Prop} {Q:Exit→Act→World→Prop} (hd:calmO o=true) (hK:∀ a w,K a w→K' a w) (h:o.wp P a w K Q):o.wpIn (Fence.wide.inRound r) n P a w K' Q:=by
 refine ⟨fun _ _=>trivial, ?_⟩;have e:o.semAt (Fence.wide.inRound r).round a.eval=execOp a.eval o:=Oper.semAt_eq _ _ _ fun c hc=>by
  unfold calmO at hd;rw [hc] at hd;cases hd
 rw [e];unfold Oper.wp at h;generalize (execOp a.eval o).run P w=q at h;cases q with
 | ok x w' =>
   cases x <;> simp only [Oper.upon] at h <;> simp only [Oper.uponIn]
   case value v=>exact hK _ _ h
   case skip=>exact hK _ _ h
   case defer d=>exact hK _ _ h
   case enter f args=>exact ⟨fun hh=>by simp [Fence.wide,Fence.inRound] at hh,CallsIn.mono (calls_round h) (fun e w'' he=>by cases e <;> first | exact hK _ _ he | exact he)⟩
   case row row args=>exact ⟨fun hh=>by simp [Fence.wide,Fence.inRound] at hh,RowsIn.mono (rows_round h) fun _ _ he=>hK _ _ he⟩
 | halt x w'=>cases x <;> simp only [Oper.upon] at h <;> simp only [Oper.uponIn] <;> exact h
theorem any_round {r n:Nat} {P:Program} {ops:Array Oper} {Q:Exit→Act→World→Prop} (hd:ops.toList.all calmO=true) (hL:¬ LetsOut Q):∀ (fuel:Nat) (listed:Array Bool) (a:Act) (w:World),wpAny P .any ops Q fuel listed a w→wpAnyIn (Fence.wide.inRound r) n P .any ops Q fuel listed a w
 | 0,_,_,_,h=>h
 | fuel + 1, listed, a, w, h => by
   refine ⟨h.1,fun i hi=>?_⟩;have h2:=h.2 i hi;unfold wpOp at h2;unfold wpOpIn;cases ho:ops[i]? with
   | none =>
     simp only [ho] at h2;exact any_round hd hL fuel _ _ _ h2
   | some o =>
     simp only [ho] at h2 ⊢;split
     · rename_i hw
       rw [if_pos hw] at h2;refine op_round ?_ (any_round hd hL fuel _) (h2.resolve_right fun h3=>hL h3.2);rw [List.all_eq_true] at hd;exact hd o (List.mem_of_getElem? (by simpa using ho))
     · rename_i hw
       rw [if_neg hw] at h2;exact ⟨fun _ _=>trivial,any_round hd hL fuel _ _ _ h2⟩
end Go.R5
namespace Go.R3
open Go Go.RowKit Go.R5
section
variable {P:Program} {l:List Oper} {n:Nat}
theorem wpIn_region_gentle_tail {r n1:Nat} {id:Nat} {Q:Exit→Act→World→Prop} {a:Act} {w:World} (n:Nat) (hm:P.follows .mixedOrders=true) (hd:l.toArray.toList.all calmO=true) (hL:¬ LetsOut Q) (h:tailB n l=true) (hB:Region.lexB .any (strike n l).toArray=true)
  (hw:wpQuiet P l.toArray (fun w'=>∃ p:GN,w'=(w.grow p.g).drewN p.n) (fun a'=>∀ w',Grew w w'→wpList P l.toArray Q (l.drop n) a' w') (l.take n) a):(Code.region id l.toArray true).wpIn (Fence.wide.inRound r) n1 P Q a w:=by
 have hw:=wpQuiet_imp (Q':=fun a'=>∀ w',(∃ p:GN,w'=(w.grow p.g).drewN p.n)→wpList P l.toArray Q (l.drop n) a' w') (fun _ (h:∀ w',Grew w w'→wpList P l.toArray Q (l.drop n) _ w') w' (hw':(∃ p:GN,w'=(w.grow p.g).drewN p.n))=>h w' (Grew.pair hw')) _ _ hw;refine wpIn_region_any hm (any_round hd hL _ _ _ _ ?_);have hC:(fun w'=>∃ p:GN,w'=(w.grow p.g).drewN p.n) { w with drawn:=w.drawn+1 }:=⟨⟨[],1⟩,by rw [World.grow_nil];rfl⟩;have hsz:l.toArray.size=l.length:=by simp
 rw [hsz];refine head_run (n:=n) (C:=fun w'=>∃ p:GN,w'=(w.grow p.g).drewN p.n) h _ _ _ _ hC (by simp) (fun i o ho hi=>by have:=(List.getElem?_eq_some_iff.1 ho).1;simp [this] at hi) (fun j _ hj=>by simp [hj]) ?_;simp only [Region.lexB,Bool.and_eq_true] at hB;have key:wpAnyQ P .any (strike n l).toArray (fun w'=>∃ p:GN,w'=(w.grow p.g).drewN p.n) (fun a'=>∀ w',(∃ p:GN,w'=(w.grow p.g).drewN p.n)→wpList P l.toArray Q (l.drop n) a' w') (strike n l).length (Array.replicate (strike n l).length false) a:=by
  refine wpAnyQ_lex hB.1 (strike n l) 0 _ _ (by simp) (by simpa using hB.2) ?_;unfold strike;have nops:∀ (t:List Oper) (a:Act) (Q:Act→Prop),Q a→wpQuiet P (l.take n++(l.drop n).map strikeOp).toArray (fun w'=>∃ p:GN,w'=(w.grow p.g).drewN p.n) Q (t.map strikeOp) a:=by
   intro t
   induction t with
   | nil=>intro a Q hQ;exact hQ
   | cons o t ih =>
     intro a Q hQ;simp only [List.map_cons,wpQuiet,strikeOp,Region.wanted,if_true];exact ⟨undef,fun w' _=>⟨rfl,rfl⟩,ih _ _ hQ⟩
  have pre:∀ (t:List Oper) (i:Nat) (a:Act) (Q:Act→Prop),(∀ j o,t[j]? = some o→l[i+j]? = some o∧i+j<n)→wpQuiet P l.toArray (fun w'=>∃ p:GN,w'=(w.grow p.g).drewN p.n) Q t a →
   wpQuiet P (strike n l).toArray (fun w'=>∃ p:GN,w'=(w.grow p.g).drewN p.n) Q (t++(l.drop n).map strikeOp) a:=by
   intro t
   induction t with
   | nil=>intro i a Q _ hq;exact nops _ _ _ hq
   | cons o t ih =>
     intro i a Q ht hq;have h0:=ht 0 o rfl;have ht':∀ j o,t[j]? = some o→l[i+1+j]? = some o∧i+1+j<n:=fun j o hj=>by
      have:=ht (j+1) o (by simpa using hj)
      rwa [show i+1+j=i+(j+1) by omega]
     simp only [List.cons_append,wpQuiet] at hq ⊢;rw [wanted_strike h (by omega) h0.1];split
     · rename_i hwant
       rw [if_pos hwant] at hq;exact Oper.quiet_mono (fun a'=>ih (i+1) a' Q ht') hq
     · rename_i hwant
       rw [if_neg hwant] at hq;exact ih (i+1) _ Q ht' hq
  exact pre (l.take n) 0 a _ (fun j o hj=>by
   have hjn:j<n:=by
    have:=(List.getElem?_eq_some_iff.1 hj).1;simp at this;omega
   rw [List.getElem?_take_of_lt hjn] at hj;exact ⟨by simpa using hj,by omega⟩) hw
 rwa [strike_length] at key
end
end Go.R3
namespace Go.R4
open Go Go.RowKit Go.R5
section
variable {P:Program} {l:List Oper}
end
end Go.R4
