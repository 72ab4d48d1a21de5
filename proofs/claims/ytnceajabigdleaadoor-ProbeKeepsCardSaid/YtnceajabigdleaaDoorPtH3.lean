/- House lemmas on regions that draw their order: reads and calls that only make new memory come up in whatever order, blocks are made among them, stores stand behind them. No condition; no program in sight. -/
import Derived.Test.YtnceajabigdleaaDoorPtH1
namespace Go
open Go.RowKit
def strikeOp (o:Oper):Oper:={ o with dst:=none,op:=.move (.const undef),guard:=none }
def strike (n:Nat) (l:List Oper):List Oper:=l.take n++(l.drop n).map strikeOp
def tailB (n:Nat) (l:List Oper):Bool :=
 l.zipIdx.all fun (o,i)=>(o.after.all fun e=>!Region.binds .any e||decide (e.on<i))&&(decide (i<n)||(List.range i).all fun j=>o.after.any fun e=>Region.binds .any e&&e.on==j) &&
  (decide (n≤i)||match o.guard with | none=>true | some (j,_)=>decide (j<n))
section
variable {P:Program} {n:Nat} {l:List Oper}
theorem strike_get_lt {i:Nat} (h:i<n):(strike n l)[i]? = l[i]? := by
 unfold strike;by_cases hi:i<l.length
 · rw [List.getElem?_append_left (by simp;omega),List.getElem?_take_of_lt h]
 · rw [List.getElem?_eq_none (by simp;omega),List.getElem?_eq_none (by omega)]
theorem strike_get_ge {i:Nat} (h:n≤i):(strike n l)[i]? = l[i]?.map strikeOp:=by
 unfold strike;by_cases hi:i<l.length
 · rw [List.getElem?_append_right (by simp;omega)]
   simp only [List.length_take,List.getElem?_map,List.getElem?_drop]
   congr 2;omega
 · rw [List.getElem?_eq_none (by simp;omega),List.getElem?_eq_none (by omega)];rfl
theorem strike_length:(strike n l).length=l.length:=by simp [strike];omega
theorem tailB_at (h:tailB n l=true) {i:Nat} {o:Oper} (ho:l[i]? = some o) :
  (∀ e∈o.after,Region.binds .any e=true→e.on<i)∧(n≤i→∀ j,j<i→∃ e∈o.after,Region.binds .any e=true∧e.on=j)∧(i<n→∀ j b,o.guard=some (j,b)→j<n):=by
 unfold tailB at h;rw [List.all_eq_true] at h;have:=h (o,i) (by rw [List.mem_zipIdx_iff_getElem?];exact ho);simp only [Bool.and_eq_true,Bool.or_eq_true,decide_eq_true_eq,Array.all_eq_true_iff_forall_mem,Bool.not_eq_true',List.all_eq_true,List.mem_range] at this;obtain ⟨⟨h1,h2⟩,h3⟩:=this;refine ⟨fun e he hb=>?_,fun hn j hj=>?_,fun hn j b hg=>?_⟩
 · rcases h1 e he with h | h
   · rw [hb] at h;cases h
   · exact h
 · rcases h2 with h | h
   · omega
   · obtain ⟨e,he,hb⟩:=Array.any_eq_true'.1 (h j hj)
     simp only [Bool.and_eq_true,beq_iff_eq] at hb;exact ⟨e,he,hb.1,hb.2⟩
 · rcases h3 with h | h
   · omega
   · simpa [hg] using h
theorem ready_strike {listed:Array Bool} {i:Nat}:i∈Region.ready .any (strike n l).toArray listed↔i∈Region.ready .any l.toArray listed:=by
 rw [mem_ready,mem_ready];simp only [List.getElem?_toArray];by_cases h:i<n
 · rw [strike_get_lt h]
 · rw [strike_get_ge (by omega)]
   cases l[i]? with
   | none=>simp
   | some o=>simp [strikeOp]
theorem ready_some (h:tailB n l=true) {listed:Array Bool}:∀ (i:Nat),i<l.length→listed.getD i true=false→listed.size=l.length→Region.ready .any l.toArray listed≠[]:=by
 intro i
 induction i using Nat.strongRecOn with
 | _ i ih =>
   intro hi hun hsz;by_cases hall:∀ j,j<i→listed.getD j true=true
   · have ho:l[i]? = some l[i]:=List.getElem?_eq_getElem hi
     have hm:i∈Region.ready .any l.toArray listed:=by
      rw [mem_ready];refine ⟨hun,l[i],by simp [hi],fun e he hb=>?_⟩;have hlt:=(tailB_at h ho).1 e he hb;have:=hall e.on hlt;have hs:e.on<listed.size:=by omega
      simpa [hs] using this
     intro h0;rw [h0] at hm;cases hm
   · have ⟨j,hj⟩:=Classical.not_forall.1 hall
     have ⟨hj1,hj2⟩:=Classical.not_imp.1 hj;exact ih j hj1 (by omega) (by simpa using hj2) hsz
def Upto (k:Nat) (listed:Array Bool):Prop:=listed.size=l.length∧∀ j,j<l.length→listed.getD j true=decide (j<k)
theorem Upto.ready {k:Nat} {listed:Array Bool} (h:tailB n l=true) (hk:n≤k) (hu:Upto (l:=l) k listed) {i:Nat} (hi:i∈Region.ready .any l.toArray listed):i=k:=by
 obtain ⟨h0,o,ho,hall⟩:=mem_ready.1 hi;have hil:i<l.length:=by
  have:=(Array.getElem?_eq_some_iff.1 ho).1
  simpa using this
 have hl:l[i]? = some o:=by simpa using ho
 rw [hu.2 i hil] at h0;have hki:k≤i:=by simpa using h0
 by_cases he:i=k
 · exact he
 · obtain ⟨e,he1,he2,he3⟩:=(tailB_at h hl).2.1 (by omega) k (by omega)
   have:=hall e he1 he2;rw [he3] at this;have hks:k<listed.size:=by rw [hu.1];omega
   have h4:=hu.2 k (by omega);simp [hks] at this h4;rw [this] at h4;cases h4
theorem Upto.set {k:Nat} {listed:Array Bool} (hu:Upto (l:=l) k listed) (hk:k<l.length):Upto (l:=l) (k+1) (listed.setIfInBounds k true):=by
 refine ⟨by simp [hu.1],fun j hj=>?_⟩;by_cases hjk:k=j
 · subst hjk
   simp [hu.1,hk]
 · rw [getD_set_ne true hjk,hu.2 j hj]
   congr 1
   simp only [eq_iff_iff];omega
theorem Upto.none_ready {k:Nat} {listed:Array Bool} (h:tailB n l=true) (hk:n≤k) (hkl:l.length≤k) (hu:Upto (l:=l) k listed):Region.ready .any l.toArray listed=[]:=by
 cases hr:Region.ready .any l.toArray listed with
 | nil=>rfl
 | cons i t =>
   have hi:i∈Region.ready .any l.toArray listed:=by rw [hr];exact List.mem_cons_self
   have:=hu.ready h hk hi;obtain ⟨_,o,ho,_⟩:=mem_ready.1 hi;have:=(Array.getElem?_eq_some_iff.1 ho).1;simp at this;omega
theorem ready_none_strike {listed:Array Bool}:Region.ready .any (strike n l).toArray listed=[]↔Region.ready .any l.toArray listed=[]:=by
 constructor
 · intro h0
   cases hr:Region.ready .any l.toArray listed with
   | nil=>rfl
   | cons i t =>
     have hi:i∈Region.ready .any l.toArray listed:=by rw [hr];exact List.mem_cons_self
     have:=(ready_strike (n:=n)).2 hi;rw [h0] at this;cases this
 · intro h0
   cases hr:Region.ready .any (strike n l).toArray listed with
   | nil=>rfl
   | cons i t =>
     have hi:i∈Region.ready .any (strike n l).toArray listed:=by rw [hr];exact List.mem_cons_self
     have:=ready_strike.1 hi;rw [h0] at this;cases this
theorem tail_run (h:tailB n l=true) {Q:Exit→Act→World→Prop}:∀ (fuel k:Nat) (listed:Array Bool) (a:Act) (w:World),n≤k→l.length≤k+fuel→Upto (l:=l) k listed →
  wpList P l.toArray Q (l.drop k) a w→wpAny P .any l.toArray Q fuel listed a w:=by
 intro fuel
 induction fuel with
 | zero =>
   intro k listed a w hk hf hu hw;rw [List.drop_of_length_le (by omega)] at hw;exact ⟨hu.none_ready h hk (by omega),hw⟩
 | succ fuel ih =>
   intro k listed a w hk hf hu hw;rcases Nat.lt_or_ge k l.length with hkl | hkl
   case inr =>
    rw [List.drop_of_length_le hkl] at hw;have h0:=hu.none_ready h hk hkl;exact ⟨fun _=>hw,fun i hi=>by rw [h0] at hi;cases hi⟩
   refine ⟨fun h0=>absurd h0 (ready_some h k hkl (by rw [hu.2 k hkl];simp) hu.1),fun i hi=>?_⟩;have hik:=hu.ready h hk hi;subst hik;rw [List.drop_eq_getElem_cons hkl] at hw;unfold wpOp;rw [show l.toArray[i]? = some l[i] by simp [hkl]];simp only;unfold wpList at hw;split
   · rename_i hwant
     rw [if_pos hwant] at hw;rcases hw with hw | hw
     · exact .inl (Oper.wp_mono (fun a w hh=>ih (i+1) _ a w (by omega) (by omega) (hu.set hkl) hh) hw)
     · exact .inr hw
   · rename_i hwant
     rw [if_neg hwant] at hw;exact ih (i+1) _ _ w (by omega) (by omega) (hu.set hkl) hw
theorem nops_done (h:tailB n l=true) {C:World→Prop} {Q:Act→Prop}:∀ (fuel k:Nat) (listed:Array Bool) (a:Act),n≤k→Upto (l:=l) k listed →
  wpAnyQ P .any (strike n l).toArray C Q fuel listed a→Q a∧l.length≤k+fuel:=by
 intro fuel
 induction fuel with
 | zero =>
   intro k listed a hk hu hw;refine ⟨hw.2, ?_⟩;rcases Nat.lt_or_ge k l.length with hkl | hkl
   · exact absurd (ready_none_strike.1 hw.1) (ready_some h k hkl (by rw [hu.2 k hkl];simp) hu.1)
   · omega
 | succ fuel ih =>
   intro k listed a hk hu hw;rcases Nat.lt_or_ge k l.length with hkl | hkl
   case inr=>exact ⟨hw.1 (ready_none_strike.2 (hu.none_ready h hk hkl)),by omega⟩
   have hr:k∈Region.ready .any (strike n l).toArray listed:=by
    rw [ready_strike];cases hr:Region.ready .any l.toArray listed with
    | nil=>exact absurd hr (ready_some h k hkl (by rw [hu.2 k hkl];simp) hu.1)
    | cons i t =>
      have hi:i∈Region.ready .any l.toArray listed:=by rw [hr];exact List.mem_cons_self
      have:=hu.ready h hk hi;subst this;exact List.mem_cons_self
   have h1:=hw.2 k hr;unfold qOp at h1;rw [show (strike n l).toArray[k]? = some (strikeOp l[k]) by simp [strike_get_ge hk,hkl]] at h1;simp only [strikeOp,Region.wanted,if_true] at h1;obtain ⟨v,_,h2⟩:=h1;have:=ih (k+1) _ _ (by omega) (hu.set hkl) h2;exact ⟨this.1,by omega⟩
theorem yielded_strike {tmps:Array Value} {j:Nat} (h:j<n):yielded (strike n l).toArray tmps j=yielded l.toArray tmps j:=by
 unfold yielded;simp only [List.getElem?_toArray,strike_get_lt h]
theorem wanted_strike (h:tailB n l=true) {i:Nat} {o:Oper} (hi:i<n) (ho:l[i]? = some o) {tmps:Array Value}:Region.wanted o (yielded (strike n l).toArray tmps)=Region.wanted o (yielded l.toArray tmps):=by
 unfold Region.wanted;cases hg:o.guard with
 | none=>rfl
 | some p =>
   obtain ⟨j,b⟩:=p;simp only [yielded_strike ((tailB_at h ho).2.2 hi j b hg)]
theorem head_run (h:tailB n l=true) {C:World→Prop} {Q:Exit→Act→World→Prop}:∀ (fuel:Nat) (listed:Array Bool) (a:Act) (w:World),C w→listed.size=l.length→(∀ j,n≤j→j<l.length→listed.getD j true=false) →
  wpAnyQ P .any (strike n l).toArray C (fun a'=>∀ w',C w'→wpList P l.toArray Q (l.drop n) a' w') fuel listed a→wpAny P .any l.toArray Q fuel listed a w:=by
 intro fuel
 induction fuel with
 | zero =>
   intro listed a w hC hsz ht hw;have hr:Region.ready .any l.toArray listed=[]:=ready_none_strike.1 hw.1;refine ⟨hr, ?_⟩;have hn:l.length≤n:=by
    rcases Nat.lt_or_ge n l.length with h' | h'
    · exact absurd hr (ready_some h n h' (ht n (Nat.le_refl _) h') hsz)
    · exact h'
   have:=hw.2 w hC
   rwa [List.drop_of_length_le hn] at this
 | succ fuel ih =>
   intro listed a w hC hsz ht hw;refine ⟨fun h0=>?_,fun i hi=>?_⟩
   · have hn:l.length≤n:=by
      rcases Nat.lt_or_ge n l.length with h' | h'
      · exact absurd h0 (ready_some h n h' (ht n (Nat.le_refl _) h') hsz)
      · exact h'
     have:=hw.1 (ready_none_strike.2 h0) w hC
     rwa [List.drop_of_length_le hn] at this
   · obtain ⟨h0,o,ho,hall⟩:=mem_ready.1 hi
     have hl:l[i]? = some o:=by simpa using ho
     have hil:i<l.length:=(List.getElem?_eq_some_iff.1 hl).1;rcases Nat.lt_or_ge i n with hin | hin
     · have h1:=hw.2 i (ready_strike.2 hi)
       unfold qOp at h1;rw [show (strike n l).toArray[i]? = some o by simp [strike_get_lt hin,hl]] at h1;simp only [wanted_strike h hin hl] at h1;unfold wpOp;rw [ho];simp only;have next:∀ a' w',C w'→wpAnyQ P .any (strike n l).toArray C (fun a'=>∀ w',C w'→wpList P l.toArray Q (l.drop n) a' w') fuel (listed.setIfInBounds i true) a'→wpAny P .any l.toArray Q fuel (listed.setIfInBounds i true) a' w' :=
        fun a' w' hC' hq=>ih _ a' w' hC' (by simp [hsz]) (fun j hj hjl=>by rw [getD_set_ne true (by omega)];exact ht j hj hjl) hq
       split
       · rename_i hwant
         rw [if_pos hwant] at h1;exact .inl (Oper.wp_of_quiet hC next h1)
       · rename_i hwant
         rw [if_neg hwant] at h1;exact next _ _ hC h1
     · have hbefore:∀ j,j<i→listed.getD j false=true:=fun j hj=>by
        obtain ⟨e,he1,he2,he3⟩:=(tailB_at h hl).2.1 hin j hj;have:=hall e he1 he2
        rwa [he3] at this
       have hin':i=n:=by
        rcases Nat.lt_or_ge n i with h' | h'
        · have h1:=hbefore n h'
          have h2:=ht n (Nat.le_refl _) (by omega);have hns:n<listed.size:=by omega
          simp [hns] at h1 h2;rw [h1] at h2;cases h2
        · omega
       subst hin';have hu:Upto (l:=l) i listed:=by
        refine ⟨hsz,fun j hj=>?_⟩;by_cases hjn:j<i
        · have h1:=hbefore j hjn
          have hjs:j<listed.size:=by omega
          simp [hjs] at h1;simp [hjs,hjn,h1]
        · rw [ht j (by omega) hj];simp;omega
       have hd:=nops_done h (fuel+1) i listed a (Nat.le_refl _) hu hw;exact (tail_run h (fuel+1) i listed a w (Nat.le_refl _) hd.2 hu (hd.1 w hC)).2 i hi
theorem wp_region_gentle_tail {id:Nat} {Q:Exit→Act→World→Prop} {a:Act} {w:World} (n:Nat) (hm:P.follows .mixedOrders=true) (h:tailB n l=true) (hB:Region.lexB .any (strike n l).toArray=true)
  (hw:wpQuiet P l.toArray (fun w'=>∃ p:GN,w'=(w.grow p.g).drewN p.n) (fun a'=>∀ w',Grew w w'→wpList P l.toArray Q (l.drop n) a' w') (l.take n) a):(Code.region id l.toArray true).wp P Q a w:=by
 have hw:=wpQuiet_imp (Q':=fun a'=>∀ w',(∃ p:GN,w'=(w.grow p.g).drewN p.n)→wpList P l.toArray Q (l.drop n) a' w') (fun _ (h:∀ w',Grew w w'→wpList P l.toArray Q (l.drop n) _ w') w' (hw':(∃ p:GN,w'=(w.grow p.g).drewN p.n))=>h w' (Grew.pair hw')) _ _ hw;refine wp_region_any hm ?_;have hC:(fun w'=>∃ p:GN,w'=(w.grow p.g).drewN p.n) { w with drawn:=w.drawn+1 }:=⟨⟨[],1⟩,by rw [World.grow_nil];rfl⟩;have hsz:l.toArray.size=l.length:=by simp
 rw [hsz];refine head_run (n:=n) (C:=fun w'=>∃ p:GN,w'=(w.grow p.g).drewN p.n) h _ _ _ _ hC (by simp) (fun j _ hj=>by simp [hj]) ?_;simp only [Region.lexB,Bool.and_eq_true] at hB;have key:wpAnyQ P .any (strike n l).toArray (fun w'=>∃ p:GN,w'=(w.grow p.g).drewN p.n) (fun a'=>∀ w',(∃ p:GN,w'=(w.grow p.g).drewN p.n)→wpList P l.toArray Q (l.drop n) a' w') (strike n l).length (Array.replicate (strike n l).length false) a:=by
  refine wpAnyQ_lex hB.1 (strike n l) 0 _ _ (by simp) (by simpa using hB.2) ?_;unfold strike;have nops:∀ (t:List Oper) (a:Act) (Q:Act→Prop),Q a→wpQuiet P (l.take n++(l.drop n).map strikeOp).toArray (fun w'=>∃ p:GN,w'=(w.grow p.g).drewN p.n) Q (t.map strikeOp) a:=by
   intro t
   induction t with
   | nil=>intro a Q hQ;exact hQ
   | cons o t ih =>
     intro a Q hQ;simp only [List.map_cons,wpQuiet,strikeOp,Region.wanted,if_true];exact ⟨undef,fun w' _=>⟨rfl,rfl⟩,ih _ _ hQ⟩
  have pre:∀ (t:List Oper) (i:Nat) (a:Act) (Q:Act→Prop),(∀ j o,t[j]? = some o→l[i+j]? = some o∧i+j<n)→wpQuiet P l.toArray (fun w'=>∃ p:GN,w'=(w.grow p.g).drewN p.n) Q t a →
   wpQuiet P (strike n l).toArray (fun w'=>∃ p:GN,w'=(w.grow p.g).drewN p.n) Q (t++(l.drop n).map strikeOp) a:=by
   intro t
   induction t with
   | nil=>intro i a Q _ hq;exact nops _ _ _ hq
   | cons o t ih =>
     intro i a Q ht hq;have h0:=ht 0 o rfl;have ht':∀ j o,t[j]? = some o→l[i+1+j]? = some o∧i+1+j<n:=fun j o hj=>by
      have:=ht (j+1) o (by simpa using hj)
      rwa [show i+1+j=i+(j+1) by omega]
     simp only [List.cons_append,wpQuiet] at hq ⊢;rw [wanted_strike h (by omega) h0.1];split
     · rename_i hwant
       rw [if_pos hwant] at hq;exact Oper.quiet_mono (fun a'=>ih (i+1) a' Q ht') hq
     · rename_i hwant
       rw [if_neg hwant] at hq;exact ih (i+1) _ Q ht' hq
  exact pre (l.take n) 0 a _ (fun j o hj=>by
   have hjn:j<n:=by
    have:=(List.getElem?_eq_some_iff.1 hj).1;simp at this;omega
   rw [List.getElem?_take_of_lt hjn] at hj;exact ⟨by simpa using hj,by omega⟩) hw
 rwa [strike_length] at key
end
def Oper.gentleUpon (P:Program) (w:World) (v:Value):Result Next→Prop
 | .ok (.value u) w'=>w'=w∧u=v
 | .ok .skip w'=>w'=w∧v=undef
 | .ok (.enter f args) w'=>w'=w∧Calls P f args w (fun e w''=>e=.returned v∧Grew w w'')
 | _=>False
def Oper.gentleAt (P:Program) (o:Oper) (a:Act) (w:World) (v:Value):Prop:=Oper.gentleUpon P w v ((execOp a.eval o).run P w)
attribute [go_sem] Oper.gentleUpon Oper.gentleAt
def putsL (ps:List (Oper × Value)) (a:Act):Act:=ps.foldl (fun a p=>a.put p.1.dst p.2) a
theorem put_size (a:Act) (d:Option Tmp) (v:Value):(a.put d v).tmps.size=a.tmps.size:=by cases d <;> simp [Act.put]
theorem put_defers' (a:Act) (d:Option Tmp) (v:Value):(a.put d v).defers=a.defers:=by cases d <;> rfl
theorem put_old (a:Act) (d:Option Tmp) (v:Value) (t:Nat) (h:d≠some t):(a.put d v).tmps[t]? = a.tmps[t]? := by
 cases d with
 | none=>rfl
 | some e =>
   have:e≠t:=fun he=>h (he ▸ rfl)
   simp [Act.put,Array.getElem?_setIfInBounds_ne this]
theorem put_new (a:Act) (d:Nat) (v:Value) (h:d<a.tmps.size):(a.put (some d) v).tmps[d]? = some v:=by
 simp [Act.put,h]
theorem puts_size:∀ (ps:List (Oper × Value)) (a:Act),(putsL ps a).tmps.size=a.tmps.size
 | [],_=>rfl
 | p::ps,a=>by unfold putsL;simp only [List.foldl_cons];exact (puts_size ps _).trans (put_size _ _ _)
theorem puts_defers:∀ (ps:List (Oper × Value)) (a:Act),(putsL ps a).defers=a.defers
 | [],_=>rfl
 | p::ps,a=>by unfold putsL;simp only [List.foldl_cons];exact (puts_defers ps _).trans (put_defers' _ _ _)
theorem puts_old (t:Nat):∀ (ps:List (Oper × Value)) (a:Act),(∀ p∈ps,p.1.dst≠some t)→(putsL ps a).tmps[t]? = a.tmps[t]?
 | [],_,_=>rfl
 | p :: ps, a, h => by
   unfold putsL;simp only [List.foldl_cons];exact (puts_old t ps _ fun q hq=>h q (List.mem_cons_of_mem _ hq)).trans (put_old _ _ _ _ (h p List.mem_cons_self))
theorem puts_new (d:Nat) (o:Oper) (v:Value) (hd:o.dst=some d):∀ (ps:List (Oper × Value)) (a:Act) (i:Nat),ps[i]? = some (o,v)→(∀ j p,ps[j]? = some p→j≠i→p.1.dst≠some d)→d<a.tmps.size→(putsL ps a).tmps[d]? = some v
 | [],_,i,h,_,_=>by simp at h
 | p :: ps, a, 0, h, hn, hs => by
   simp at h;subst h;unfold putsL;simp only [List.foldl_cons];refine (puts_old d ps _ fun q hq=>?_).trans (by rw [hd];exact put_new _ _ _ hs);obtain ⟨j,hj⟩:=List.getElem?_of_mem hq;exact hn (j+1) q (by simpa using hj) (by omega)
 | p :: ps, a, i + 1, h, hn, hs => by
   unfold putsL;simp only [List.foldl_cons];exact puts_new d o v hd ps _ i (by simpa using h) (fun j q hj hne=>hn (j+1) q (by simpa using hj) (by omega)) (by rw [put_size];exact hs)
theorem exec_agree {ops:Array Oper} {o:Oper} (hs:∀ cs b,o.op≠.select cs b) {x y:Act} (h:∀ t,t∈o.looksAt ops→x.tmps[t]? = y.tmps[t]?) :
  execOp x.eval o=execOp y.eval o∧Region.wanted o (yielded ops x.tmps)=Region.wanted o (yielded ops y.tmps):=by
 constructor
 · refine execOp_congr o hs fun p hp=>?_
   cases p with
   | tmp t =>
     have:=h t (List.mem_append_left _ (List.mem_filterMap.2 ⟨.tmp t,by simpa using hp,rfl⟩));simp only [Act.eval,Array.getD_eq_getD_getElem?,this]
   | _=>rfl
 · unfold Region.wanted
   cases hg:o.guard with
   | none=>rfl
   | some p =>
     obtain ⟨j,b⟩:=p;simp only;have:yielded ops x.tmps j=yielded ops y.tmps j:=by
      unfold yielded;cases hd:(ops[j]?).bind (·.dst) with
      | none=>rfl
      | some d =>
        have:=h d (List.mem_append_right _ (by simp [hg,hd]));simp only [Option.bind_some,this]
     rw [this]
def gentB (n m:Nat) (l:List Oper):Bool :=
 decide (n≤m)&&l.zipIdx.all fun (o,i) =>
  (o.after.all fun e=>!Region.binds .any e||decide (e.on<i)) &&
  (decide (i<m)||(List.range i).all fun j=>o.after.any fun e=>Region.binds .any e&&e.on==j) &&
  (decide (m≤i)||l.zipIdx.all fun (o',j)=>decide (m≤j)||decide (i=j)||match o'.dst with
    | none=>true
    | some d=>o.dst != some d&&(decide (n≤i)||!(o.looksAt l.toArray).contains d||(decide (j<i)&&o.after.any fun e=>Region.binds .any e&&e.on==j))) &&
  (decide (n≤i)||match o.op with | .select ..=>false | _=>true) &&
  (decide (i<n)||decide (m≤i)||(o.guard.isNone&&o.dst.isSome))
section
variable {P:Program} {n m:Nat} {l:List Oper}
structure GentAt (n m:Nat) (l:List Oper) (i:Nat) (o:Oper):Prop where
 back:∀ e∈o.after,Region.binds .any e=true→e.on<i
 waits:m≤i→∀ j,j<i→∃ e∈o.after,Region.binds .any e=true∧e.on=j
 dst:i<m→∀ j o',l[j]? = some o'→j<m→i≠j→∀ d,o'.dst=some d→o.dst≠some d
 looks:i<n→∀ j o',l[j]? = some o'→j<m→i≠j→∀ d,o'.dst=some d→d∈o.looksAt l.toArray→j<i∧∃ e∈o.after,Region.binds .any e=true∧e.on=j
 sel:i<n→∀ cs b,o.op≠.select cs b
 mkr:n≤i→i<m→o.guard=none∧∃ d,o.dst=some d
theorem gentB_at (h:gentB n m l=true) {i:Nat} {o:Oper} (ho:l[i]? = some o):n≤m∧GentAt n m l i o:=by
 unfold gentB at h;rw [Bool.and_eq_true,List.all_eq_true] at h;obtain ⟨hnm,h⟩:=h;have hnm:n≤m:=by simpa using hnm
 have:=h (o,i) (by rw [List.mem_zipIdx_iff_getElem?];exact ho);simp only [Bool.and_eq_true,Bool.or_eq_true,decide_eq_true_eq,Array.all_eq_true_iff_forall_mem,Bool.not_eq_true',List.all_eq_true,List.mem_range] at this;obtain ⟨⟨⟨⟨h1,h2⟩,h3⟩,h4⟩,h5⟩:=this;refine ⟨hnm,⟨fun e he hb=>?_,fun hm j hj=>?_,fun hi j o' hj hjm hne d hd=>?_,fun hi j o' hj hjm hne d hd hl=>?_,fun hi cs b he=>?_,fun h6 h7=>?_⟩⟩
 · rcases h1 e he with h | h
   · rw [hb] at h;cases h
   · exact h
 · rcases h2 with h | h
   · omega
   · obtain ⟨e,he,hb⟩:=Array.any_eq_true'.1 (h j hj)
     simp only [Bool.and_eq_true,beq_iff_eq] at hb;exact ⟨e,he,hb.1,hb.2⟩
 · rcases h3 with h | h
   · omega
   · have:=h (o',j) (by rw [List.mem_zipIdx_iff_getElem?];exact hj)
     simp only [hd] at this;rcases this with (h | h) | h
     · omega
     · exact absurd h hne
     · simp only [Bool.and_eq_true,bne_iff_ne] at h
       exact h.1
 · rcases h3 with h | h
   · omega
   · have:=h (o',j) (by rw [List.mem_zipIdx_iff_getElem?];exact hj)
     simp only [hd] at this;rcases this with (h | h) | h
     · omega
     · exact absurd h hne
     · simp only [Bool.and_eq_true,Bool.or_eq_true,decide_eq_true_eq,Bool.not_eq_true',List.contains_eq_mem,decide_eq_false_iff_not] at h
       rcases h.2 with (h | h) | h
       · omega
       · exact absurd hl h
       · obtain ⟨e,he,hb⟩:=Array.any_eq_true'.1 h.2
         simp only [Bool.and_eq_true,beq_iff_eq] at hb;exact ⟨h.1,e,he,hb.1,hb.2⟩
 · rcases h4 with h | h
   · omega
   · simp [he] at h
 · rcases h5 with (h | h) | h
   · omega
   · omega
   · simp only [Option.isNone_iff_eq_none,Option.isSome_iff_exists] at h
     exact h
theorem gent_upto (h:gentB n m l=true) {k:Nat} {listed:Array Bool} (hk:m≤k) (hu:Upto (l:=l) k listed) {i:Nat} (hi:i∈Region.ready .any l.toArray listed):i=k:=by
 obtain ⟨h0,o,ho,hall⟩:=mem_ready.1 hi;have hl:l[i]? = some o:=by simpa using ho
 have hil:i<l.length:=(List.getElem?_eq_some_iff.1 hl).1;rw [hu.2 i hil] at h0;have hki:k≤i:=by simpa using h0
 by_cases he:i=k
 · exact he
 · obtain ⟨e,he1,he2,he3⟩:=(gentB_at h hl).2.waits (by omega) k (by omega)
   have:=hall e he1 he2;rw [he3] at this;have hks:k<listed.size:=by rw [hu.1];omega
   have h4:=hu.2 k (by omega);simp [hks] at this h4;rw [this] at h4;cases h4
def cnt (listed:Array Bool) (N:Nat):Nat:=((List.range N).filter fun i=>!listed.getD i true).length
theorem cnt_set {listed:Array Bool} {N i:Nat} (hi:i<N) (hun:listed.getD i true=false) (hs:i<listed.size):cnt (listed.setIfInBounds i true) N+1=cnt listed N:=by
 unfold cnt
 induction N with
 | zero=>omega
 | succ N ih =>
   rw [List.range_succ,List.filter_append,List.filter_append,List.length_append,List.length_append];by_cases hiN:i=N
   · subst hiN
     have e:(List.range i).filter (fun j=>!(listed.setIfInBounds i true).getD j true)=(List.range i).filter (fun j=>!listed.getD j true):=by
      refine List.filter_congr fun j hj=>?_
      have:=List.mem_range.1 hj;rw [getD_set_ne true (by omega)]
     rw [e];have h1:(listed.setIfInBounds i true).getD i true=true:=by simp [hs]
     have h2:[i].filter (fun j=>!(listed.setIfInBounds i true).getD j true)=[]:=by
      rw [List.filter_cons,h1];rfl
     have h3:[i].filter (fun j=>!listed.getD j true)=[i]:=by
      rw [List.filter_cons,hun];rfl
     rw [h2,h3];rfl
   · have:=ih (by omega)
     have e:[N].filter (fun j=>!(listed.setIfInBounds i true).getD j true)=[N].filter (fun j=>!listed.getD j true):=by
      rw [List.filter_cons,List.filter_cons,getD_set_ne true hiN];rfl
     rw [e];omega
structure Amid (n m:Nat) (l:List Oper) (B:Nat→Obj) (w0:World) (a0:Act) (vals:Nat→Value) (p:Nat→Nat) (listed:Array Bool) (x:Act) (w:World):Prop where
 size:listed.size=l.length
 grew:Grew w0 w
 tail:∀ j,m≤j→j<l.length→listed.getD j true=false
 defers:x.defers=a0.defers
 tsize:x.tmps.size=a0.tmps.size
 old:∀ t,(∀ i o,i<m→l[i]? = some o→listed.getD i false=true→o.dst≠some t)→x.tmps[t]? = a0.tmps[t]?
 new:∀ i o d,i<m→l[i]? = some o→listed.getD i false=true→o.dst=some d→d<a0.tmps.size→x.tmps[d]? = some (if i<n then vals i else .pointer (some ⟨p i,0,none⟩))
 blocks:∀ i,n≤i→i<m→listed.getD i false=true→w0.heap.size≤p i∧p i<w.heap.size∧w.heap[p i]? = some (B i)
 apart:∀ i j,n≤i→i<m→n≤j→j<m→listed.getD i false=true→listed.getD j false=true→i≠j→p i≠p j
theorem getD_set_iff {listed:Array Bool} {k i:Nat} (h:(listed.setIfInBounds k true).getD i false=true):i=k∨listed.getD i false=true:=by
 by_cases hk:k=i
 · exact .inl hk.symm
 · rw [getD_set_ne false hk] at h;exact .inr h
theorem Amid.put (h:gentB n m l=true) {B:Nat→Obj} {w0:World} {a0:Act} {vals:Nat→Value} {p:Nat→Nat} {listed:Array Bool} {x:Act} {w w':World} (A:Amid n m l B w0 a0 vals p listed x w)
  {k:Nat} {o:Oper} (hk:k<m) (ho:l[k]? = some o) {v:Value} {p':Nat→Nat} (hp:∀ i,i≠k→p' i=p i) (hv:v=if k<n then vals k else .pointer (some ⟨p' k,0,none⟩)) (hg:Grew w w')
  (hun:listed.getD k true=false) (hb:n≤k→w0.heap.size≤p' k∧w.heap.size≤p' k∧p' k<w'.heap.size∧w'.heap[p' k]? = some (B k)) :
  Amid n m l B w0 a0 vals p' (listed.setIfInBounds k true) (x.put o.dst v) w':=by
 have hkl:k<l.length:=(List.getElem?_eq_some_iff.1 ho).1;have G:=(gentB_at h ho).2;have hset:(listed.setIfInBounds k true).getD k false=true:=by simp [A.size,hkl]
 refine ⟨by simp [A.size],A.grew.trans hg,fun j hj hjl=>by rw [getD_set_ne true (by omega)];exact A.tail j hj hjl,(put_defers' _ _ _).trans A.defers,(put_size _ _ _).trans A.tsize,fun t ht=>?_,fun i o' d hi ho' hl hd hds=>?_,fun i hi1 hi2 hl=>?_,fun i j hi1 hi2 hj1 hj2 hli hlj hne=>?_⟩
 · rw [put_old _ _ _ _ (ht k o hk ho hset)]
   refine A.old t fun i o' hi ho' hl=>ht i o' hi ho' ?_
   by_cases hki:k=i
   · subst hki;exact hset
   · rw [getD_set_ne false hki];exact hl
 · rcases getD_set_iff hl with rfl | hl
   · obtain rfl:o'=o:=Option.some.inj (ho'.symm.trans ho)
     rw [hd,put_new _ _ _ (by rw [A.tsize];exact hds),hv]
   · by_cases hki:k=i
     · subst hki
       obtain rfl:o'=o:=Option.some.inj (ho'.symm.trans ho);rw [hd,put_new _ _ _ (by rw [A.tsize];exact hds),hv]
     · rw [put_old _ _ _ _ (G.dst hk i o' ho' hi hki d hd),A.new i o' d hi ho' hl hd hds,hp i (Ne.symm hki)]
 · rcases getD_set_iff hl with rfl | hl
   · exact ⟨(hb hi1).1,(hb hi1).2.2.1,(hb hi1).2.2.2⟩
   · by_cases hki:k=i
     · subst hki;exact ⟨(hb hi1).1,(hb hi1).2.2.1,(hb hi1).2.2.2⟩
     · rw [hp i (Ne.symm hki)]
       obtain ⟨h1,h2,h3⟩:=A.blocks i hi1 hi2 hl;exact ⟨h1,Nat.lt_of_lt_of_le h2 hg.size,by rw [hg.block _ h2];exact h3⟩
 · have other:∀ i,n≤i→i<m→n≤k→(listed.setIfInBounds k true).getD i false=true→i≠k→p' i≠p' k:=fun i h1 h2 h3 h4 h5=>by
    rcases getD_set_iff h4 with h6 | h6
    · exact absurd h6 h5
    · rw [hp i h5]
      have:=(A.blocks i h1 h2 h6).2.1;have:=(hb h3).2.1;omega
   by_cases hik:i=k
   · subst hik;exact Ne.symm (other j hj1 hj2 hi1 hlj (Ne.symm hne))
   · by_cases hjk:j=k
     · subst hjk;exact other i hi1 hi2 hj1 hli hne
     · rw [hp i hik,hp j hjk]
       exact A.apart i j hi1 hi2 hj1 hj2 ((getD_set_iff hli).resolve_left hik) ((getD_set_iff hlj).resolve_left hjk) hne
end
section
variable {P:Program} {n m:Nat} {l:List Oper}
theorem cnt_zero {listed:Array Bool} {N:Nat} (h:cnt listed N=0) {i:Nat} (hi:i<N):listed.getD i true=true:=by
 unfold cnt at h;have:=List.eq_nil_of_length_eq_zero h;rw [List.filter_eq_nil_iff] at this;have:=this i (List.mem_range.2 hi)
 simpa using this
theorem cnt_upto {listed:Array Bool} {k:Nat} (hu:Upto (l:=l) k listed):cnt listed l.length=l.length - k:=by
 have:∀ N,N≤l.length→cnt listed N=N - k:=by
  intro N
  induction N with
  | zero=>intro _;simp [cnt]
  | succ N ih =>
    intro hN;have h1:=ih (by omega);unfold cnt at *
    rw [List.range_succ,List.filter_append,List.length_append,h1,List.filter_cons,hu.2 N (by omega)];by_cases hk:N<k
    · simp [hk];omega
    · simp [hk];omega
 exact this _ (Nat.le_refl _)
end
section
variable {P:Program} {l:List Oper}
end
end Go
namespace Go.R2
open Go Go.RowKit
def edgesOf (l:List Oper) (i:Nat):List Nat:=match l[i]? with | some o=>(o.after.toList.filter (Region.binds .any)).map (·.on) | none=>[]
def closeDown (l:List Oper):Nat→List Nat→List Nat
 | 0,S=>S
 | k+1,S=>if S.contains k then closeDown l k (edgesOf l k++S) else closeDown l k S
def Closed (l:List Oper) (listed:Array Bool):Prop:=∀ j o,l[j]? = some o→listed.getD j false=true→∀ e∈o.after,Region.binds .any e=true→listed.getD e.on false=true
theorem edges_listed {l:List Oper} {listed:Array Bool} (hc:Closed l listed) {k:Nat} (hk:listed.getD k false=true):∀ s∈edgesOf l k,listed.getD s false=true:=by
 intro s hs;unfold edgesOf at hs;split at hs
 · rename_i o ho
   obtain ⟨e,he,rfl⟩:=List.mem_map.1 hs;obtain ⟨he1,he2⟩:=List.mem_filter.1 he;exact hc k o ho hk e (Array.mem_toList_iff.1 he1) he2
 · cases hs
theorem close_listed {l:List Oper} {listed:Array Bool} (hc:Closed l listed):∀ (k:Nat) (S:List Nat),(∀ s∈S,listed.getD s false=true)→∀ s∈closeDown l k S,listed.getD s false=true
 | 0,S,h=>h
 | k + 1, S, h => by
   unfold closeDown;split
   · rename_i hk
     refine close_listed hc k _ fun s hs=>?_
     rcases List.mem_append.1 hs with hs | hs
     · exact edges_listed hc (h k (by simpa using hk)) s hs
     · exact h s hs
   · exact close_listed hc k _ h
def gentB (n m:Nat) (l:List Oper):Bool :=
 decide (n≤m)&&l.zipIdx.all fun (o,i) =>
  (o.after.all fun e=>!Region.binds .any e||decide (e.on<i)) &&
  (decide (i<m)||(List.range i).all fun j=>(closeDown l i (edgesOf l i)).contains j) &&
  (decide (m≤i)||l.zipIdx.all fun (o',j)=>decide (m≤j)||decide (i=j)||match o'.dst with
    | none=>true
    | some d=>o.dst != some d&&(decide (n≤i)||!(o.looksAt l.toArray).contains d||(decide (j<i)&&o.after.any fun e=>Region.binds .any e&&e.on==j))) &&
  (decide (n≤i)||match o.op with | .select ..=>false | _=>true) &&
  (decide (i<n)||decide (m≤i)||(o.guard.isNone&&o.dst.isSome))
section
variable {P:Program} {n m:Nat} {l:List Oper}
structure GentAt (n m:Nat) (l:List Oper) (i:Nat) (o:Oper):Prop where
 back:∀ e∈o.after,Region.binds .any e=true→e.on<i
 waits:m≤i→∀ j,j<i→j∈closeDown l i (edgesOf l i)
 dst:i<m→∀ j o',l[j]? = some o'→j<m→i≠j→∀ d,o'.dst=some d→o.dst≠some d
 looks:i<n→∀ j o',l[j]? = some o'→j<m→i≠j→∀ d,o'.dst=some d→d∈o.looksAt l.toArray→j<i∧∃ e∈o.after,Region.binds .any e=true∧e.on=j
 sel:i<n→∀ cs b,o.op≠.select cs b
 mkr:n≤i→i<m→o.guard=none∧∃ d,o.dst=some d
theorem gentB_at (h:gentB n m l=true) {i:Nat} {o:Oper} (ho:l[i]? = some o):n≤m∧GentAt n m l i o:=by
 unfold gentB at h;rw [Bool.and_eq_true,List.all_eq_true] at h;obtain ⟨hnm,h⟩:=h;have hnm:n≤m:=by simpa using hnm
 have:=h (o,i) (by rw [List.mem_zipIdx_iff_getElem?];exact ho);simp only [Bool.and_eq_true,Bool.or_eq_true,decide_eq_true_eq,Array.all_eq_true_iff_forall_mem,Bool.not_eq_true',List.all_eq_true,List.mem_range] at this;obtain ⟨⟨⟨⟨h1,h2⟩,h3⟩,h4⟩,h5⟩:=this;refine ⟨hnm,⟨fun e he hb=>?_,fun hm j hj=>?_,fun hi j o' hj hjm hne d hd=>?_,fun hi j o' hj hjm hne d hd hl=>?_,fun hi cs b he=>?_,fun h6 h7=>?_⟩⟩
 · rcases h1 e he with h | h
   · rw [hb] at h;cases h
   · exact h
 · rcases h2 with h | h
   · omega
   · simpa using h j hj
 · rcases h3 with h | h
   · omega
   · have:=h (o',j) (by rw [List.mem_zipIdx_iff_getElem?];exact hj)
     simp only [hd] at this;rcases this with (h | h) | h
     · omega
     · exact absurd h hne
     · simp only [Bool.and_eq_true,bne_iff_ne] at h
       exact h.1
 · rcases h3 with h | h
   · omega
   · have:=h (o',j) (by rw [List.mem_zipIdx_iff_getElem?];exact hj)
     simp only [hd] at this;rcases this with (h | h) | h
     · omega
     · exact absurd h hne
     · simp only [Bool.and_eq_true,Bool.or_eq_true,decide_eq_true_eq,Bool.not_eq_true',List.contains_eq_mem,decide_eq_false_iff_not] at h
       rcases h.2 with (h | h) | h
       · omega
       · exact absurd hl h
       · obtain ⟨e,he,hb⟩:=Array.any_eq_true'.1 h.2
         simp only [Bool.and_eq_true,beq_iff_eq] at hb;exact ⟨h.1,e,he,hb.1,hb.2⟩
 · rcases h4 with h | h
   · omega
   · simp [he] at h
 · rcases h5 with (h | h) | h
   · omega
   · omega
   · simp only [Option.isNone_iff_eq_none,Option.isSome_iff_exists] at h
     exact h
theorem gent_before (h:gentB n m l=true) {listed:Array Bool} (hc:Closed l listed) {i:Nat} (hi:i∈Region.ready .any l.toArray listed) (hm:m≤i):∀ j,j<i→listed.getD j false=true:=by
 obtain ⟨h0,o,ho,hall⟩:=mem_ready.1 hi;have hl:l[i]? = some o:=by simpa using ho
 intro j hj;refine close_listed hc i _ (fun s hs=>?_) j ((gentB_at h hl).2.waits hm j hj);unfold edgesOf at hs;rw [hl] at hs;obtain ⟨e,he,rfl⟩:=List.mem_map.1 hs;obtain ⟨he1,he2⟩:=List.mem_filter.1 he;exact hall e (Array.mem_toList_iff.1 he1) he2
theorem upto_closed (h:gentB n m l=true) {k:Nat} {listed:Array Bool} (hu:Upto (l:=l) k listed):Closed l listed:=by
 intro j o hj hl e he hb;have hjl:j<l.length:=(List.getElem?_eq_some_iff.1 hj).1;have hlt:=(gentB_at h hj).2.back e he hb;have h1:=hu.2 j hjl;have hjs:j<listed.size:=by rw [hu.1];exact hjl
 have hes:e.on<listed.size:=by omega
 have h2:=hu.2 e.on (by omega);simp [hjs] at h1 hl;simp [hes] at h2 ⊢;rw [h2];rw [hl] at h1;have h3:j<k:=by simpa using h1.symm
 simp;omega
theorem gent_upto (h:gentB n m l=true) {k:Nat} {listed:Array Bool} (hk:m≤k) (hu:Upto (l:=l) k listed) {i:Nat} (hi:i∈Region.ready .any l.toArray listed):i=k:=by
 obtain ⟨h0,o,ho,hall⟩:=mem_ready.1 hi;have hl:l[i]? = some o:=by simpa using ho
 have hil:i<l.length:=(List.getElem?_eq_some_iff.1 hl).1;rw [hu.2 i hil] at h0;have hki:k≤i:=by simpa using h0
 by_cases he:i=k
 · exact he
 · have:=gent_before h (upto_closed h hu) hi (by omega) k (by omega)
   have hks:k<listed.size:=by rw [hu.1];omega
   have h4:=hu.2 k (by omega);simp [hks] at this h4;rw [this] at h4;cases h4
def cnt (listed:Array Bool) (N:Nat):Nat:=((List.range N).filter fun i=>!listed.getD i true).length
theorem cnt_set {listed:Array Bool} {N i:Nat} (hi:i<N) (hun:listed.getD i true=false) (hs:i<listed.size):cnt (listed.setIfInBounds i true) N+1=cnt listed N:=by
 unfold cnt
 induction N with
 | zero=>omega
 | succ N ih =>
   rw [List.range_succ,List.filter_append,List.filter_append,List.length_append,List.length_append];by_cases hiN:i=N
   · subst hiN
     have e:(List.range i).filter (fun j=>!(listed.setIfInBounds i true).getD j true)=(List.range i).filter (fun j=>!listed.getD j true):=by
      refine List.filter_congr fun j hj=>?_
      have:=List.mem_range.1 hj;rw [getD_set_ne true (by omega)]
     rw [e];have h1:(listed.setIfInBounds i true).getD i true=true:=by simp [hs]
     have h2:[i].filter (fun j=>!(listed.setIfInBounds i true).getD j true)=[]:=by
      rw [List.filter_cons,h1];rfl
     have h3:[i].filter (fun j=>!listed.getD j true)=[i]:=by
      rw [List.filter_cons,hun];rfl
     rw [h2,h3];rfl
   · have:=ih (by omega)
     have e:[N].filter (fun j=>!(listed.setIfInBounds i true).getD j true)=[N].filter (fun j=>!listed.getD j true):=by
      rw [List.filter_cons,List.filter_cons,getD_set_ne true hiN];rfl
     rw [e];omega
structure Amid (n m:Nat) (l:List Oper) (B:Nat→Obj) (w0:World) (a0:Act) (vals:Nat→Value) (p:Nat→Nat) (listed:Array Bool) (x:Act) (w:World):Prop where
 size:listed.size=l.length
 grew:Grew w0 w
 tail:∀ j,m≤j→j<l.length→listed.getD j true=false
 defers:x.defers=a0.defers
 tsize:x.tmps.size=a0.tmps.size
 old:∀ t,(∀ i o,i<m→l[i]? = some o→listed.getD i false=true→o.dst≠some t)→x.tmps[t]? = a0.tmps[t]?
 new:∀ i o d,i<m→l[i]? = some o→listed.getD i false=true→o.dst=some d→d<a0.tmps.size→x.tmps[d]? = some (if i<n then vals i else .pointer (some ⟨p i,0,none⟩))
 blocks:∀ i,n≤i→i<m→listed.getD i false=true→w0.heap.size≤p i∧p i<w.heap.size∧w.heap[p i]? = some (B i)
 apart:∀ i j,n≤i→i<m→n≤j→j<m→listed.getD i false=true→listed.getD j false=true→i≠j→p i≠p j
 closed:Closed l listed
theorem getD_set_iff {listed:Array Bool} {k i:Nat} (h:(listed.setIfInBounds k true).getD i false=true):i=k∨listed.getD i false=true:=by
 by_cases hk:k=i
 · exact .inl hk.symm
 · rw [getD_set_ne false hk] at h;exact .inr h
theorem Amid.put (h:gentB n m l=true) {B:Nat→Obj} {w0:World} {a0:Act} {vals:Nat→Value} {p:Nat→Nat} {listed:Array Bool} {x:Act} {w w':World} (A:Amid n m l B w0 a0 vals p listed x w)
  {k:Nat} {o:Oper} (hk:k<m) (ho:l[k]? = some o) {v:Value} {p':Nat→Nat} (hp:∀ i,i≠k→p' i=p i) (hv:v=if k<n then vals k else .pointer (some ⟨p' k,0,none⟩)) (hg:Grew w w')
  (hun:listed.getD k true=false) (hdep:∀ e∈o.after,Region.binds .any e=true→listed.getD e.on false=true) (hb:n≤k→w0.heap.size≤p' k∧w.heap.size≤p' k∧p' k<w'.heap.size∧w'.heap[p' k]? = some (B k)) :
  Amid n m l B w0 a0 vals p' (listed.setIfInBounds k true) (x.put o.dst v) w':=by
 have hkl:k<l.length:=(List.getElem?_eq_some_iff.1 ho).1;have G:=(gentB_at h ho).2;have hset:(listed.setIfInBounds k true).getD k false=true:=by simp [A.size,hkl]
 refine ⟨by simp [A.size],A.grew.trans hg,fun j hj hjl=>by rw [getD_set_ne true (by omega)];exact A.tail j hj hjl,(put_defers' _ _ _).trans A.defers,(put_size _ _ _).trans A.tsize,fun t ht=>?_,fun i o' d hi ho' hl hd hds=>?_,fun i hi1 hi2 hl=>?_,fun i j hi1 hi2 hj1 hj2 hli hlj hne=>?_,fun j o' hj hl e he hb'=>?_⟩
 · rw [put_old _ _ _ _ (ht k o hk ho hset)]
   refine A.old t fun i o' hi ho' hl=>ht i o' hi ho' ?_
   by_cases hki:k=i
   · subst hki;exact hset
   · rw [getD_set_ne false hki];exact hl
 · rcases getD_set_iff hl with rfl | hl
   · obtain rfl:o'=o:=Option.some.inj (ho'.symm.trans ho)
     rw [hd,put_new _ _ _ (by rw [A.tsize];exact hds),hv]
   · by_cases hki:k=i
     · subst hki
       obtain rfl:o'=o:=Option.some.inj (ho'.symm.trans ho);rw [hd,put_new _ _ _ (by rw [A.tsize];exact hds),hv]
     · rw [put_old _ _ _ _ (G.dst hk i o' ho' hi hki d hd),A.new i o' d hi ho' hl hd hds,hp i (Ne.symm hki)]
 · rcases getD_set_iff hl with rfl | hl
   · exact ⟨(hb hi1).1,(hb hi1).2.2.1,(hb hi1).2.2.2⟩
   · by_cases hki:k=i
     · subst hki;exact ⟨(hb hi1).1,(hb hi1).2.2.1,(hb hi1).2.2.2⟩
     · rw [hp i (Ne.symm hki)]
       obtain ⟨h1,h2,h3⟩:=A.blocks i hi1 hi2 hl;exact ⟨h1,Nat.lt_of_lt_of_le h2 hg.size,by rw [hg.block _ h2];exact h3⟩
 · have other:∀ i,n≤i→i<m→n≤k→(listed.setIfInBounds k true).getD i false=true→i≠k→p' i≠p' k:=fun i h1 h2 h3 h4 h5=>by
    rcases getD_set_iff h4 with h6 | h6
    · exact absurd h6 h5
    · rw [hp i h5]
      have:=(A.blocks i h1 h2 h6).2.1;have:=(hb h3).2.1;omega
   by_cases hik:i=k
   · subst hik;exact Ne.symm (other j hj1 hj2 hi1 hlj (Ne.symm hne))
   · by_cases hjk:j=k
     · subst hjk;exact other i hi1 hi2 hj1 hli hne
     · rw [hp i hik,hp j hjk]
       exact A.apart i j hi1 hi2 hj1 hj2 ((getD_set_iff hli).resolve_left hik) ((getD_set_iff hlj).resolve_left hjk) hne
 · refine getD_set_true ?_
   rcases getD_set_iff hl with rfl | hl
   · obtain rfl:o'=o:=Option.some.inj (hj.symm.trans ho)
     exact hdep e he hb'
   · by_cases hjk:j=k
     · subst hjk
       obtain rfl:o'=o:=Option.some.inj (hj.symm.trans ho);exact hdep e he hb'
     · exact A.closed j o' hj hl e he hb'
end
section
variable {P:Program} {n m:Nat} {l:List Oper}
theorem cnt_zero {listed:Array Bool} {N:Nat} (h:cnt listed N=0) {i:Nat} (hi:i<N):listed.getD i true=true:=by
 unfold cnt at h;have:=List.eq_nil_of_length_eq_zero h;rw [List.filter_eq_nil_iff] at this;have:=this i (List.mem_range.2 hi)
 simpa using this
theorem cnt_upto {listed:Array Bool} {k:Nat} (hu:Upto (l:=l) k listed):cnt listed l.length=l.length - k:=by
 have:∀ N,N≤l.length→cnt listed N=N - k:=by
  intro N
  induction N with
  | zero=>intro _;simp [cnt]
  | succ N ih =>
    intro hN;have h1:=ih (by omega);unfold cnt at *
    rw [List.range_succ,List.filter_append,List.length_append,h1,List.filter_cons,hu.2 N (by omega)];by_cases hk:N<k
    · simp [hk];omega
    · simp [hk];omega
 exact this _ (Nat.le_refl _)
end
section
variable {P:Program} {l:List Oper}
end
end Go.R2
namespace Go.R3
open Go Go.RowKit
inductive Reach (l:List Oper):Nat→Nat→Prop
 | one {i:Nat} {o:Oper} {e:Edge}:l[i]? = some o→e∈o.after→Region.binds .any e=true→Reach l i e.on
 | more {i j:Nat} {o:Oper} {e:Edge}:l[i]? = some o→e∈o.after→Region.binds .any e=true→Reach l e.on j→Reach l i j
def maskGo (acc:List Nat):List Edge→Nat→Nat
 | [],m=>m
 | e::t,m=>maskGo acc t (if Region.binds .any e=true then (m ||| (2 ^ e.on ||| acc.getD e.on 0)) else m)
def masksGo:List Oper→List Nat→List Nat
 | [],acc=>acc
 | o::t,acc=>masksGo t (acc++[maskGo acc o.after.toList 0])
theorem maskGo_bit (acc:List Nat) (j:Nat):∀ (t:List Edge) (m:Nat),(maskGo acc t m).testBit j=true→m.testBit j=true∨∃ e∈t,Region.binds .any e=true∧(e.on=j∨(acc.getD e.on 0).testBit j=true)
 | [],m,h=>.inl h
 | e :: t, m, h => by
   unfold maskGo at h;rcases maskGo_bit acc j t _ h with h1 | ⟨e',h1,h2⟩
   · split at h1
     · rename_i hb
       rw [Nat.testBit_or,Nat.testBit_or,Bool.or_eq_true,Bool.or_eq_true,Nat.testBit_two_pow,decide_eq_true_eq] at h1;rcases h1 with h1 | h1
       · exact .inl h1
       · exact .inr ⟨e,List.mem_cons_self,hb,h1⟩
     · exact .inl h1
   · exact .inr ⟨e',List.mem_cons_of_mem _ h1,h2⟩
theorem masksGo_reach (full:List Oper):∀ (t:List Oper) (pre:List Oper) (acc:List Nat),full=pre++t→acc.length=pre.length→(∀ i j,(acc.getD i 0).testBit j=true→Reach full i j)→∀ i j,((masksGo t acc).getD i 0).testBit j=true→Reach full i j
 | [],_,_,_,_,h=>h
 | o :: t, pre, acc, hf, hl, h => by
   unfold masksGo;refine masksGo_reach full t (pre++[o]) _ (by rw [hf,List.append_assoc];rfl) (by simp [hl]) fun i j hb=>?_
   rcases Nat.lt_trichotomy i acc.length with hi | hi | hi
   · rw [List.getD_eq_getElem?_getD,List.getElem?_append_left hi,← List.getD_eq_getElem?_getD] at hb
     exact h i j hb
   · subst hi
     rw [List.getD_eq_getElem?_getD,List.getElem?_append_right (Nat.le_refl _),Nat.sub_self] at hb;have ho:full[acc.length]? = some o:=by rw [hf,hl,List.getElem?_append_right (Nat.le_refl _),Nat.sub_self];rfl
     rcases maskGo_bit acc j _ _ hb with h1 | ⟨e,he,hbi,h1⟩
     · rw [Nat.zero_testBit] at h1;cases h1
     · rw [Array.mem_toList_iff] at he
       rcases h1 with h1 | h1
       · rw [← h1];exact .one ho he hbi
       · exact .more ho he hbi (h _ _ h1)
   · rw [List.getD_eq_getElem?_getD,List.getElem?_eq_none (by simp;omega)] at hb
     rw [show (none:Option Nat).getD 0=0 from rfl,Nat.zero_testBit] at hb;cases hb
def tailB (n:Nat) (l:List Oper):Bool :=
 l.zipIdx.all fun (o,i)=>(o.after.all fun e=>!Region.binds .any e||decide (e.on<i))&&(decide (i<n)||(masksGo l []).getD i 0==2 ^ i - 1) &&
  (decide (n≤i)||match o.guard with | none=>true | some (j,_)=>decide (j<n))
def Down (l:List Oper) (listed:Array Bool):Prop:=∀ i o,l[i]? = some o→listed.getD i false=true→∀ e∈o.after,Region.binds .any e=true→listed.getD e.on false=true
theorem Down.reach {l:List Oper} {listed:Array Bool} (h:Down l listed):∀ {i j:Nat},Reach l i j→(∀ o,l[i]? = some o→∀ e∈o.after,Region.binds .any e=true→listed.getD e.on false=true)→listed.getD j false=true:=by
 intro i j hr
 induction hr with
 | one ho he hb=>intro hp;exact hp _ ho _ he hb
 | more ho he hb _ ih =>
   intro hp;have h1:=hp _ ho _ he hb;exact ih fun o' ho' e' he' hb'=>h _ _ ho' h1 _ he' hb'
section
variable {P:Program} {n:Nat} {l:List Oper}
theorem tailB_at (h:tailB n l=true) {i:Nat} {o:Oper} (ho:l[i]? = some o) :
  (∀ e∈o.after,Region.binds .any e=true→e.on<i)∧(n≤i→∀ j,j<i→Reach l i j)∧(i<n→∀ j b,o.guard=some (j,b)→j<n):=by
 unfold tailB at h;rw [List.all_eq_true] at h;have:=h (o,i) (by rw [List.mem_zipIdx_iff_getElem?];exact ho);simp only [Bool.and_eq_true,Bool.or_eq_true,decide_eq_true_eq,Array.all_eq_true_iff_forall_mem,Bool.not_eq_true'] at this;obtain ⟨⟨h1,h2⟩,h3⟩:=this;refine ⟨fun e he hb=>?_,fun hn j hj=>?_,fun hn j b hg=>?_⟩
 · rcases h1 e he with h | h
   · rw [hb] at h;cases h
   · exact h
 · rcases h2 with h | h
   · omega
   · refine masksGo_reach l l [] [] rfl rfl (fun i j hb=>?_) i j ?_
     · rw [show (([]:List Nat).getD i 0)=0 by simp,Nat.zero_testBit] at hb;cases hb
     · rw [beq_iff_eq.1 h,Nat.testBit_two_pow_sub_one];exact decide_eq_true hj
 · rcases h3 with h | h
   · omega
   · simpa [hg] using h
theorem ready_strike {listed:Array Bool} {i:Nat}:i∈Region.ready .any (strike n l).toArray listed↔i∈Region.ready .any l.toArray listed:=by
 rw [mem_ready,mem_ready];simp only [List.getElem?_toArray];by_cases h:i<n
 · rw [strike_get_lt h]
 · rw [strike_get_ge (by omega)]
   cases l[i]? with
   | none=>simp
   | some o=>simp [strikeOp]
theorem ready_some (h:tailB n l=true) {listed:Array Bool}:∀ (i:Nat),i<l.length→listed.getD i true=false→listed.size=l.length→Region.ready .any l.toArray listed≠[]:=by
 intro i
 induction i using Nat.strongRecOn with
 | _ i ih =>
   intro hi hun hsz;by_cases hall:∀ j,j<i→listed.getD j true=true
   · have ho:l[i]? = some l[i]:=List.getElem?_eq_getElem hi
     have hm:i∈Region.ready .any l.toArray listed:=by
      rw [mem_ready];refine ⟨hun,l[i],by simp [hi],fun e he hb=>?_⟩;have hlt:=(tailB_at h ho).1 e he hb;have:=hall e.on hlt;have hs:e.on<listed.size:=by omega
      simpa [hs] using this
     intro h0;rw [h0] at hm;cases hm
   · have ⟨j,hj⟩:=Classical.not_forall.1 hall
     have ⟨hj1,hj2⟩:=Classical.not_imp.1 hj;exact ih j hj1 (by omega) (by simpa using hj2) hsz
def Upto (k:Nat) (listed:Array Bool):Prop:=listed.size=l.length∧∀ j,j<l.length→listed.getD j true=decide (j<k)
theorem Upto.down {k:Nat} {listed:Array Bool} (h:tailB n l=true) (hu:Upto (l:=l) k listed):Down l listed:=by
 intro i o ho hi e he hb;have hil:=(List.getElem?_eq_some_iff.1 ho).1;have hlt:=(tailB_at h ho).1 e he hb;have his:i<listed.size:=by rw [hu.1];exact hil
 have h1:=hu.2 i hil;simp [his] at hi h1;rw [hi] at h1;have hik:i<k:=by simpa using h1.symm
 have hes:e.on<listed.size:=by omega
 have h2:=hu.2 e.on (by omega);simp [hes] at h2 ⊢;rw [h2]
 simpa using Nat.lt_trans hlt hik
theorem Upto.ready {k:Nat} {listed:Array Bool} (h:tailB n l=true) (hk:n≤k) (hu:Upto (l:=l) k listed) {i:Nat} (hi:i∈Region.ready .any l.toArray listed):i=k:=by
 obtain ⟨h0,o,ho,hall⟩:=mem_ready.1 hi;have hil:i<l.length:=by
  have:=(Array.getElem?_eq_some_iff.1 ho).1
  simpa using this
 have hl:l[i]? = some o:=by simpa using ho
 rw [hu.2 i hil] at h0;have hki:k≤i:=by simpa using h0
 by_cases he:i=k
 · exact he
 · have hr:=(tailB_at h hl).2.1 (by omega) k (by omega)
   have:=(hu.down h).reach hr fun o' ho' e he hb=>by
    rw [hl] at ho';obtain rfl:=Option.some.inj ho';exact hall e he hb
   have hks:k<listed.size:=by rw [hu.1];omega
   have h4:=hu.2 k (by omega);simp [hks] at this h4;rw [this] at h4;cases h4
theorem Upto.set {k:Nat} {listed:Array Bool} (hu:Upto (l:=l) k listed) (hk:k<l.length):Upto (l:=l) (k+1) (listed.setIfInBounds k true):=by
 refine ⟨by simp [hu.1],fun j hj=>?_⟩;by_cases hjk:k=j
 · subst hjk
   simp [hu.1,hk]
 · rw [getD_set_ne true hjk,hu.2 j hj]
   congr 1
   simp only [eq_iff_iff];omega
theorem Upto.none_ready {k:Nat} {listed:Array Bool} (h:tailB n l=true) (hk:n≤k) (hkl:l.length≤k) (hu:Upto (l:=l) k listed):Region.ready .any l.toArray listed=[]:=by
 cases hr:Region.ready .any l.toArray listed with
 | nil=>rfl
 | cons i t =>
   have hi:i∈Region.ready .any l.toArray listed:=by rw [hr];exact List.mem_cons_self
   have:=hu.ready h hk hi;obtain ⟨_,o,ho,_⟩:=mem_ready.1 hi;have:=(Array.getElem?_eq_some_iff.1 ho).1;simp at this;omega
theorem ready_none_strike {listed:Array Bool}:Region.ready .any (strike n l).toArray listed=[]↔Region.ready .any l.toArray listed=[]:=by
 constructor
 · intro h0
   cases hr:Region.ready .any l.toArray listed with
   | nil=>rfl
   | cons i t =>
     have hi:i∈Region.ready .any l.toArray listed:=by rw [hr];exact List.mem_cons_self
     have:=(ready_strike (n:=n)).2 hi;rw [h0] at this;cases this
 · intro h0
   cases hr:Region.ready .any (strike n l).toArray listed with
   | nil=>rfl
   | cons i t =>
     have hi:i∈Region.ready .any (strike n l).toArray listed:=by rw [hr];exact List.mem_cons_self
     have:=ready_strike.1 hi;rw [h0] at this;cases this
theorem tail_run (h:tailB n l=true) {Q:Exit→Act→World→Prop}:∀ (fuel k:Nat) (listed:Array Bool) (a:Act) (w:World),n≤k→l.length≤k+fuel→Upto (l:=l) k listed →
  wpList P l.toArray Q (l.drop k) a w→wpAny P .any l.toArray Q fuel listed a w:=by
 intro fuel
 induction fuel with
 | zero =>
   intro k listed a w hk hf hu hw;rw [List.drop_of_length_le (by omega)] at hw;exact ⟨hu.none_ready h hk (by omega),hw⟩
 | succ fuel ih =>
   intro k listed a w hk hf hu hw;rcases Nat.lt_or_ge k l.length with hkl | hkl
   case inr =>
    rw [List.drop_of_length_le hkl] at hw;have h0:=hu.none_ready h hk hkl;exact ⟨fun _=>hw,fun i hi=>by rw [h0] at hi;cases hi⟩
   refine ⟨fun h0=>absurd h0 (ready_some h k hkl (by rw [hu.2 k hkl];simp) hu.1),fun i hi=>?_⟩;have hik:=hu.ready h hk hi;subst hik;rw [List.drop_eq_getElem_cons hkl] at hw;unfold wpOp;rw [show l.toArray[i]? = some l[i] by simp [hkl]];simp only;unfold wpList at hw;split
   · rename_i hwant
     rw [if_pos hwant] at hw;rcases hw with hw | hw
     · exact .inl (Oper.wp_mono (fun a w hh=>ih (i+1) _ a w (by omega) (by omega) (hu.set hkl) hh) hw)
     · exact .inr hw
   · rename_i hwant
     rw [if_neg hwant] at hw;exact ih (i+1) _ _ w (by omega) (by omega) (hu.set hkl) hw
theorem nops_done (h:tailB n l=true) {C:World→Prop} {Q:Act→Prop}:∀ (fuel k:Nat) (listed:Array Bool) (a:Act),n≤k→Upto (l:=l) k listed →
  wpAnyQ P .any (strike n l).toArray C Q fuel listed a→Q a∧l.length≤k+fuel:=by
 intro fuel
 induction fuel with
 | zero =>
   intro k listed a hk hu hw;refine ⟨hw.2, ?_⟩;rcases Nat.lt_or_ge k l.length with hkl | hkl
   · exact absurd (ready_none_strike.1 hw.1) (ready_some h k hkl (by rw [hu.2 k hkl];simp) hu.1)
   · omega
 | succ fuel ih =>
   intro k listed a hk hu hw;rcases Nat.lt_or_ge k l.length with hkl | hkl
   case inr=>exact ⟨hw.1 (ready_none_strike.2 (hu.none_ready h hk hkl)),by omega⟩
   have hr:k∈Region.ready .any (strike n l).toArray listed:=by
    rw [ready_strike];cases hr:Region.ready .any l.toArray listed with
    | nil=>exact absurd hr (ready_some h k hkl (by rw [hu.2 k hkl];simp) hu.1)
    | cons i t =>
      have hi:i∈Region.ready .any l.toArray listed:=by rw [hr];exact List.mem_cons_self
      have:=hu.ready h hk hi;subst this;exact List.mem_cons_self
   have h1:=hw.2 k hr;unfold qOp at h1;rw [show (strike n l).toArray[k]? = some (strikeOp l[k]) by simp [strike_get_ge hk,hkl]] at h1;simp only [strikeOp,Region.wanted,if_true] at h1;obtain ⟨v,_,h2⟩:=h1;have:=ih (k+1) _ _ (by omega) (hu.set hkl) h2;exact ⟨this.1,by omega⟩
theorem yielded_strike {tmps:Array Value} {j:Nat} (h:j<n):yielded (strike n l).toArray tmps j=yielded l.toArray tmps j:=by
 unfold yielded;simp only [List.getElem?_toArray,strike_get_lt h]
theorem wanted_strike (h:tailB n l=true) {i:Nat} {o:Oper} (hi:i<n) (ho:l[i]? = some o) {tmps:Array Value}:Region.wanted o (yielded (strike n l).toArray tmps)=Region.wanted o (yielded l.toArray tmps):=by
 unfold Region.wanted;cases hg:o.guard with
 | none=>rfl
 | some p =>
   obtain ⟨j,b⟩:=p;simp only [yielded_strike ((tailB_at h ho).2.2 hi j b hg)]
theorem Down.set {listed:Array Bool} {i:Nat} {o:Oper} (hd:Down l listed) (ho:l[i]? = some o) (hp:∀ e∈o.after,Region.binds .any e=true→listed.getD e.on false=true):Down l (listed.setIfInBounds i true):=by
 have mono:∀ j,listed.getD j false=true→(listed.setIfInBounds i true).getD j false=true:=fun j hj=>by
  by_cases hij:i=j
  · subst hij
    have:i<listed.size:=by
     rcases Nat.lt_or_ge i listed.size with h' | h'
     · exact h'
     · simp [Array.getElem?_eq_none h'] at hj
    simp [this]
  · rw [getD_set_ne false hij];exact hj
 intro i' o' ho' hi' e he hb;by_cases hii:i=i'
 · subst hii
   rw [ho] at ho';obtain rfl:=Option.some.inj ho';exact mono _ (hp e he hb)
 · rw [getD_set_ne false hii] at hi'
   exact mono _ (hd _ _ ho' hi' e he hb)
theorem head_run (h:tailB n l=true) {C:World→Prop} {Q:Exit→Act→World→Prop}:∀ (fuel:Nat) (listed:Array Bool) (a:Act) (w:World),C w→listed.size=l.length→Down l listed→(∀ j,n≤j→j<l.length→listed.getD j true=false) →
  wpAnyQ P .any (strike n l).toArray C (fun a'=>∀ w',C w'→wpList P l.toArray Q (l.drop n) a' w') fuel listed a→wpAny P .any l.toArray Q fuel listed a w:=by
 intro fuel
 induction fuel with
 | zero =>
   intro listed a w hC hsz hdn ht hw;have hr:Region.ready .any l.toArray listed=[]:=ready_none_strike.1 hw.1;refine ⟨hr, ?_⟩;have hn:l.length≤n:=by
    rcases Nat.lt_or_ge n l.length with h' | h'
    · exact absurd hr (ready_some h n h' (ht n (Nat.le_refl _) h') hsz)
    · exact h'
   have:=hw.2 w hC
   rwa [List.drop_of_length_le hn] at this
 | succ fuel ih =>
   intro listed a w hC hsz hdn ht hw;refine ⟨fun h0=>?_,fun i hi=>?_⟩
   · have hn:l.length≤n:=by
      rcases Nat.lt_or_ge n l.length with h' | h'
      · exact absurd h0 (ready_some h n h' (ht n (Nat.le_refl _) h') hsz)
      · exact h'
     have:=hw.1 (ready_none_strike.2 h0) w hC
     rwa [List.drop_of_length_le hn] at this
   · obtain ⟨h0,o,ho,hall⟩:=mem_ready.1 hi
     have hl:l[i]? = some o:=by simpa using ho
     have hil:i<l.length:=(List.getElem?_eq_some_iff.1 hl).1;rcases Nat.lt_or_ge i n with hin | hin
     · have h1:=hw.2 i (ready_strike.2 hi)
       unfold qOp at h1;rw [show (strike n l).toArray[i]? = some o by simp [strike_get_lt hin,hl]] at h1;simp only [wanted_strike h hin hl] at h1;unfold wpOp;rw [ho];simp only;have next:∀ a' w',C w'→wpAnyQ P .any (strike n l).toArray C (fun a'=>∀ w',C w'→wpList P l.toArray Q (l.drop n) a' w') fuel (listed.setIfInBounds i true) a'→wpAny P .any l.toArray Q fuel (listed.setIfInBounds i true) a' w' :=
        fun a' w' hC' hq=>ih _ a' w' hC' (by simp [hsz]) (hdn.set hl fun e he hb=>hall e he hb) (fun j hj hjl=>by rw [getD_set_ne true (by omega)];exact ht j hj hjl) hq
       split
       · rename_i hwant
         rw [if_pos hwant] at h1;exact .inl (Oper.wp_of_quiet hC next h1)
       · rename_i hwant
         rw [if_neg hwant] at h1;exact next _ _ hC h1
     · have hbefore:∀ j,j<i→listed.getD j false=true:=fun j hj=>by
        exact hdn.reach ((tailB_at h hl).2.1 hin j hj) fun o' ho' e he hb=>by
         rw [hl] at ho';obtain rfl:=Option.some.inj ho';exact hall e he hb
       have hin':i=n:=by
        rcases Nat.lt_or_ge n i with h' | h'
        · have h1:=hbefore n h'
          have h2:=ht n (Nat.le_refl _) (by omega);have hns:n<listed.size:=by omega
          simp [hns] at h1 h2;rw [h1] at h2;cases h2
        · omega
       subst hin';have hu:Upto (l:=l) i listed:=by
        refine ⟨hsz,fun j hj=>?_⟩;by_cases hjn:j<i
        · have h1:=hbefore j hjn
          have hjs:j<listed.size:=by omega
          simp [hjs] at h1;simp [hjs,hjn,h1]
        · rw [ht j (by omega) hj];simp;omega
       have hd:=nops_done h (fuel+1) i listed a (Nat.le_refl _) hu hw;exact (tail_run h (fuel+1) i listed a w (Nat.le_refl _) hd.2 hu (hd.1 w hC)).2 i hi
theorem wp_region_gentle_tail {id:Nat} {Q:Exit→Act→World→Prop} {a:Act} {w:World} (n:Nat) (hm:P.follows .mixedOrders=true) (h:tailB n l=true) (hB:Region.lexB .any (strike n l).toArray=true)
  (hw:wpQuiet P l.toArray (fun w'=>∃ p:GN,w'=(w.grow p.g).drewN p.n) (fun a'=>∀ w',Grew w w'→wpList P l.toArray Q (l.drop n) a' w') (l.take n) a):(Code.region id l.toArray true).wp P Q a w:=by
 have hw:=wpQuiet_imp (Q':=fun a'=>∀ w',(∃ p:GN,w'=(w.grow p.g).drewN p.n)→wpList P l.toArray Q (l.drop n) a' w') (fun _ (h:∀ w',Grew w w'→wpList P l.toArray Q (l.drop n) _ w') w' (hw':(∃ p:GN,w'=(w.grow p.g).drewN p.n))=>h w' (Grew.pair hw')) _ _ hw;refine wp_region_any hm ?_;have hC:(fun w'=>∃ p:GN,w'=(w.grow p.g).drewN p.n) { w with drawn:=w.drawn+1 }:=⟨⟨[],1⟩,by rw [World.grow_nil];rfl⟩;have hsz:l.toArray.size=l.length:=by simp
 rw [hsz];refine head_run (n:=n) (C:=fun w'=>∃ p:GN,w'=(w.grow p.g).drewN p.n) h _ _ _ _ hC (by simp) (fun i o ho hi=>by have:=(List.getElem?_eq_some_iff.1 ho).1;simp [this] at hi) (fun j _ hj=>by simp [hj]) ?_;simp only [Region.lexB,Bool.and_eq_true] at hB;have key:wpAnyQ P .any (strike n l).toArray (fun w'=>∃ p:GN,w'=(w.grow p.g).drewN p.n) (fun a'=>∀ w',(∃ p:GN,w'=(w.grow p.g).drewN p.n)→wpList P l.toArray Q (l.drop n) a' w') (strike n l).length (Array.replicate (strike n l).length false) a:=by
  refine wpAnyQ_lex hB.1 (strike n l) 0 _ _ (by simp) (by simpa using hB.2) ?_;unfold strike;have nops:∀ (t:List Oper) (a:Act) (Q:Act→Prop),Q a→wpQuiet P (l.take n++(l.drop n).map strikeOp).toArray (fun w'=>∃ p:GN,w'=(w.grow p.g).drewN p.n) Q (t.map strikeOp) a:=by
   intro t
   induction t with
   | nil=>intro a Q hQ;exact hQ
   | cons o t ih =>
     intro a Q hQ;simp only [List.map_cons,wpQuiet,strikeOp,Region.wanted,if_true];exact ⟨undef,fun w' _=>⟨rfl,rfl⟩,ih _ _ hQ⟩
  have pre:∀ (t:List Oper) (i:Nat) (a:Act) (Q:Act→Prop),(∀ j o,t[j]? = some o→l[i+j]? = some o∧i+j<n)→wpQuiet P l.toArray (fun w'=>∃ p:GN,w'=(w.grow p.g).drewN p.n) Q t a →
   wpQuiet P (strike n l).toArray (fun w'=>∃ p:GN,w'=(w.grow p.g).drewN p.n) Q (t++(l.drop n).map strikeOp) a:=by
   intro t
   induction t with
   | nil=>intro i a Q _ hq;exact nops _ _ _ hq
   | cons o t ih =>
     intro i a Q ht hq;have h0:=ht 0 o rfl;have ht':∀ j o,t[j]? = some o→l[i+1+j]? = some o∧i+1+j<n:=fun j o hj=>by
      have:=ht (j+1) o (by simpa using hj)
      rwa [show i+1+j=i+(j+1) by omega]
     simp only [List.cons_append,wpQuiet] at hq ⊢;rw [wanted_strike h (by omega) h0.1];split
     · rename_i hwant
       rw [if_pos hwant] at hq;exact Oper.quiet_mono (fun a'=>ih (i+1) a' Q ht') hq
     · rename_i hwant
       rw [if_neg hwant] at hq;exact ih (i+1) _ Q ht' hq
  exact pre (l.take n) 0 a _ (fun j o hj=>by
   have hjn:j<n:=by
    have:=(List.getElem?_eq_some_iff.1 hj).1;simp at this;omega
   rw [List.getElem?_take_of_lt hjn] at hj;exact ⟨by simpa using hj,by omega⟩) hw
 rwa [strike_length] at key
end
end Go.R3
namespace Go.R4
open Go Go.RowKit Go.R3
def needs (o:Oper):List Nat:=(o.after.toList.filter fun e=>Region.binds .any e&&(match e.ground with | .data=>true | .guard=>true | _=>false)).map fun e=>e.on
def waits (o:Oper):List Nat:=(o.after.toList.filter fun e=>Region.binds .any e).map fun e=>e.on
theorem waits_mem {o:Oper} {j:Nat} (h:j∈waits o):∃ e∈o.after,Region.binds .any e=true∧e.on=j:=by
 unfold waits at h;simp only [List.mem_map,List.mem_filter,Array.mem_toList_iff] at h;obtain ⟨e,⟨h1,h2⟩,h3⟩:=h;exact ⟨e,h1,h2,h3⟩
def slotG (n:Nat) (l:List Oper):Bool :=
 R3.tailB n l&&l.zipIdx.all fun (o,i)=>decide (n≤i) ||
  ((match o.op with | .select ..=>false | _=>true) &&
    l.zipIdx.all fun (o',j)=>decide (n≤j)||decide (i=j)||match o'.dst with
     | none=>true
     | some d=>o.dst != some d&&(!(o.looksAt l.toArray).contains d||(needs o).contains j))
def slotB (n:Nat) (l:List Oper):Bool:=slotG n l&&l.zipIdx.all fun (o,i)=>decide (n≤i)||o.guard.isNone
theorem slotB_none {n:Nat} {l:List Oper} (h:slotB n l=true) {i:Nat} {o:Oper} (hi:i<n) (ho:l[i]? = some o):o.guard=none:=by
 unfold slotB at h;rw [Bool.and_eq_true,List.all_eq_true] at h;have:=h.2 (o,i) (by rw [List.mem_zipIdx_iff_getElem?];exact ho);simp only [Bool.or_eq_true,decide_eq_true_eq] at this;rcases this with h1 | h1
 · omega
 · simpa using h1
structure SlotAt (n:Nat) (l:List Oper) (i:Nat) (o:Oper):Prop where
 sel:∀ cs b,o.op≠.select cs b
 dst:∀ j o',l[j]? = some o'→j<n→i≠j→∀ d,o'.dst=some d→o.dst≠some d
 looks:∀ j o',l[j]? = some o'→j<n→i≠j→∀ d,o'.dst=some d→d∈o.looksAt l.toArray→j∈needs o
theorem slotB_at {n:Nat} {l:List Oper} (h:slotG n l=true) {i:Nat} {o:Oper} (hi:i<n) (ho:l[i]? = some o):SlotAt n l i o:=by
 unfold slotG at h;rw [Bool.and_eq_true,List.all_eq_true] at h;have:=h.2 (o,i) (by rw [List.mem_zipIdx_iff_getElem?];exact ho);simp only [Bool.or_eq_true,decide_eq_true_eq,Bool.and_eq_true,List.all_eq_true] at this;rcases this with h1 | ⟨h2,h3⟩
 · omega
 refine ⟨fun cs b he=>by simp [he] at h2,fun j o' hj hjn hne d hd=>?_,fun j o' hj hjn hne d hd hl=>?_⟩
 · have:=h3 (o',j) (by rw [List.mem_zipIdx_iff_getElem?];exact hj)
   simp only [hd] at this;rcases this with (h | h) | h
   · omega
   · exact absurd h hne
   · simp only [Bool.and_eq_true,bne_iff_ne] at h
     exact h.1
 · have:=h3 (o',j) (by rw [List.mem_zipIdx_iff_getElem?];exact hj)
   simp only [hd] at this;rcases this with (h | h) | h
   · omega
   · exact absurd h hne
   · simp only [Bool.and_eq_true,Bool.or_eq_true,Bool.not_eq_true',List.contains_eq_mem,decide_eq_false_iff_not,decide_eq_true_eq] at h
     rcases h.2 with h | h
     · exact absurd hl h
     · exact h
theorem needs_mem {o:Oper} {j:Nat} (h:j∈needs o):∃ e∈o.after,Region.binds .any e=true∧e.on=j:=by
 unfold needs at h;simp only [List.mem_map,List.mem_filter,Array.mem_toList_iff,Bool.and_eq_true] at h;obtain ⟨e,⟨h1,h2,_⟩,h3⟩:=h;exact ⟨e,h1,h2,h3⟩
def Oper.slotUpon (P:Program) (V:Value→World→Prop):Result Next→Prop
 | .ok (.value v) w'=>V v w'
 | .ok .skip w'=>V undef w'
 | .ok (.enter f args) w'=>Calls P f args w' (fun e w''=>∃ v,e=.returned v∧V v w'')
 | _=>False
def Oper.slotAt (P:Program) (o:Oper) (a:Act) (w:World) (V:Value→World→Prop):Prop:=Oper.slotUpon P V ((execOp a.eval o).run P w)
attribute [go_sem] Oper.slotUpon Oper.slotAt
theorem wp_of_slot {P:Program} {o:Oper} {a x:Act} {w:World} {V:Value→World→Prop} {K:Act→World→Prop} {Q:Exit→Act→World→Prop} (he:execOp x.eval o=execOp a.eval o) (hh:Oper.slotAt P o a w V) (h:∀ v w',V v w'→K (x.put o.dst v) w'):o.wp P x w K Q:=by
 unfold Oper.slotAt at hh;rw [← he] at hh;unfold Oper.wp;generalize (execOp x.eval o).run P w=r at *
 cases r with
 | ok k w' =>
   cases k <;> simp only [Oper.slotUpon] at hh <;> simp only [Oper.upon]
   case value u=>exact h _ _ hh
   case skip=>exact h _ _ hh
   case enter f args=>exact hh.mono fun e w'' ⟨v,he,hv⟩=>by subst he;exact h _ _ hv
 | halt x w'=>simp only [Oper.slotUpon] at hh
def upd (vs:Nat→Value) (k:Nat) (v:Value):Nat→Value:=fun i=>if i=k then v else vs i
theorem upd_same (vs:Nat→Value) (k:Nat) (v:Value):upd vs k v k=v:=by simp [upd]
theorem upd_other (vs:Nat→Value) {k i:Nat} (v:Value) (h:i≠k):upd vs k v i=vs i:=by simp [upd,h]
def NewBlk (B:Nat) (T:TypeId) (k:Nat) (v:Value) (w:World):Prop:=∃ (b:Nat) (cs:Array Value),v=.pointer (some ⟨b,0,none⟩)∧B≤b∧cs.size=k∧w.heap[b]? = some (.cells cs T)
theorem NewBlk.grew {B:Nat} {T:TypeId} {k:Nat} {v:Value} {w w':World} (h:NewBlk B T k v w) (g:Grew w w'):NewBlk B T k v w':=by
 obtain ⟨b,cs,h1,h2,h3,h4⟩:=h;exact ⟨b,cs,h1,h2,h3,(g.block b (Array.getElem?_eq_some_iff.1 h4).1).trans h4⟩
theorem NewBlk.fresh {B:Nat} {T:TypeId} {cs:Array Value} {w:World} {b:Nat} (hb:b=w.heap.size) (hB:B≤w.heap.size):NewBlk B T cs.size (.pointer (some ⟨b,0,none⟩)) (w.alloc (.cells cs T)):=by
 subst hb;refine ⟨_,cs,rfl,hB,rfl, ?_⟩;show (w.heap.push _)[w.heap.size]? = _
 simp
def HasBlk (o:Obj) (v:Value) (w:World):Prop:=∃ b:Nat,v=.pointer (some ⟨b,0,none⟩)∧w.heap[b]? = some o
theorem HasBlk.grew {o:Obj} {v:Value} {w w':World} (h:HasBlk o v w) (g:Grew w w'):HasBlk o v w':=by
 obtain ⟨b,h1,h4⟩:=h;exact ⟨b,h1,(g.block b (Array.getElem?_eq_some_iff.1 h4).1).trans h4⟩
theorem NewBlk.other {B:Nat} {T:TypeId} {k:Nat} {v:Value} {w w':World} {b:Nat} {cs cs':Array Value} {T':TypeId} (h:NewBlk B T k v w) (hw:∀ j,j≠b→w'.heap[j]? = w.heap[j]?) (hb:w.heap[b]? = some (.cells cs T')) (hb':w'.heap[b]? = some (.cells cs' T')) (hs:cs'.size=cs.size):NewBlk B T k v w':=by
 obtain ⟨c,ds,h1,h2,h3,h4⟩:=h;by_cases hc:c=b
 · subst hc
   rw [hb] at h4;injection h4 with h4;injection h4 with h5 h6;subst h5;subst h6;exact ⟨c,cs',h1,h2,hs.trans h3,hb'⟩
 · exact ⟨c,ds,h1,h2,h3,(hw c hc).trans h4⟩
section
variable {P:Program} {n:Nat} {l:List Oper}
structure Mid (n:Nat) (l:List Oper) (V:Nat→(Nat→Value)→World→Prop) (C:(Nat→Prop)→World→Prop) (a0:Act) (vs:Nat→Value) (listed:Array Bool) (x:Act) (w:World):Prop where
 size:listed.size=l.length
 cls:C (fun j=>listed.getD j false=true) w
 down:Down l listed
 tail:∀ j,n≤j→j<l.length→listed.getD j true=false
 defers:x.defers=a0.defers
 tsize:x.tmps.size=a0.tmps.size
 old:∀ t,(∀ i o,i<n→l[i]? = some o→listed.getD i false=true→o.dst≠some t)→x.tmps[t]? = a0.tmps[t]?
 new:∀ i o d,i<n→l[i]? = some o→listed.getD i false=true→o.dst=some d→d<a0.tmps.size→x.tmps[d]? = some (vs i)
 good:∀ i,i<n→i<l.length→listed.getD i false=true→V i vs w
theorem Mid.put (h:slotG n l=true) {V:Nat→(Nat→Value)→World→Prop} (hdep:∀ i o vs vs' w,i<n→l[i]? = some o→V i vs w→vs' i=vs i→(∀ j∈needs o,vs' j=vs j)→V i vs' w) {C:(Nat→Prop)→World→Prop} {a0:Act} {vs:Nat→Value} {listed:Array Bool} {x:Act} {w w':World} (A:Mid n l V C a0 vs listed x w)
  {k:Nat} {o:Oper} (hk:k<n) (ho:l[k]? = some o) {v:Value} (hg:C (fun j=>listed.getD j false=true∨j=k) w') (hv:V k (upd vs k v) w') (hpr:∀ j,j<n→listed.getD j false=true→V j vs w') (hun:listed.getD k true=false) (hp:∀ e∈o.after,Region.binds .any e=true→listed.getD e.on false=true) :
  Mid n l V C a0 (upd vs k v) (listed.setIfInBounds k true) (x.put o.dst v) w':=by
 have hkl:k<l.length:=(List.getElem?_eq_some_iff.1 ho).1;have G:=slotB_at h hk ho;have hset:(listed.setIfInBounds k true).getD k false=true:=by simp [A.size,hkl]
 have hcl:(fun j=>(listed.setIfInBounds k true).getD j false=true)=(fun j=>listed.getD j false=true∨j=k):=by
  funext j
  simp only [eq_iff_iff];constructor
  · intro h'
    exact (getD_set_iff h').elim .inr .inl
  · rintro (h' | rfl)
    · by_cases hjk:k=j
      · subst hjk;exact hset
      · rw [getD_set_ne false hjk];exact h'
    · exact hset
 refine ⟨by simp [A.size],by rw [hcl];exact hg,A.down.set ho hp,fun j hj hjl=>by rw [getD_set_ne true (by omega)];exact A.tail j hj hjl,(put_defers' _ _ _).trans A.defers,(put_size _ _ _).trans A.tsize,fun t ht=>?_,fun i o' d hi ho' hl hd hds=>?_,fun i hi hil hl=>?_⟩
 · rw [put_old _ _ _ _ (ht k o hk ho hset)]
   refine A.old t fun i o' hi ho' hl=>ht i o' hi ho' ?_
   by_cases hki:k=i
   · subst hki;exact hset
   · rw [getD_set_ne false hki];exact hl
 · by_cases hki:i=k
   · subst hki
     obtain rfl:o'=o:=Option.some.inj (ho'.symm.trans ho);rw [hd,put_new _ _ _ (by rw [A.tsize];exact hds),upd_same]
   · rw [upd_other _ _ hki]
     rcases getD_set_iff hl with h1 | hl
     · exact absurd h1 hki
     · rw [put_old _ _ _ _ (G.dst i o' ho' hi (Ne.symm hki) d hd),A.new i o' d hi ho' hl hd hds]
 · by_cases hki:i=k
   · subst hki;exact hv
   · rcases getD_set_iff hl with h1 | hl2
     · exact absurd h1 hki
     · have ho':l[i]? = some l[i]:=List.getElem?_eq_getElem hil
       refine hdep i l[i] vs _ w' hi ho' (hpr i hi hl2) (upd_other _ _ hki) fun j hj=>upd_other _ _ fun hjk=>?_
       subst hjk;obtain ⟨e,he1,he2,he3⟩:=needs_mem hj;have:=A.down i _ ho' hl2 e he1 he2;rw [he3] at this;have hjs:j<listed.size:=by rw [A.size];exact hkl
       simp [hjs] at this hun;rw [this] at hun;cases hun
def putsV (n:Nat) (l:List Oper) (vs:Nat→Value) (a:Act):Act:=putsL ((l.take n).zipIdx.map fun q=>(q.1,vs q.2)) a
def putsN (l:List Oper) (o:Oper) (vs:Nat→Value) (a:Act):Act:=putsL ((needs o).map fun j=>(l.getD j o,vs j)) a
theorem mid_end (h:slotG n l=true) {V:Nat→(Nat→Value)→World→Prop} {C:(Nat→Prop)→World→Prop} {a0:Act} {vs:Nat→Value} {listed:Array Bool} {x:Act} {w:World} (A:Mid n l V C a0 vs listed x w) (hall:∀ i,i<n→i<l.length→listed.getD i false=true) :
  x=putsV n l vs a0:=by
 have hsz:(putsV n l vs a0).tmps.size=a0.tmps.size:=puts_size _ _;have hdf:(putsV n l vs a0).defers=a0.defers:=puts_defers _ _
 suffices ht:x.tmps=(putsV n l vs a0).tmps by
  have hd:=A.defers.trans hdf.symm;cases x;cases hz:putsV n l vs a0;rw [hz] at ht hd;simp only at ht hd;rw [ht,hd]
 apply Array.ext_getElem?;intro t;rcases Nat.lt_or_ge t a0.tmps.size with hts | hts
 case inr=>rw [Array.getElem?_eq_none (by rw [A.tsize];exact hts),Array.getElem?_eq_none (by rw [hsz];exact hts)]
 have get:∀ (k:Nat) (q:Oper × Value),((l.take n).zipIdx.map fun q=>(q.1,vs q.2))[k]? = some q→l[k]? = some q.1∧k<n∧q.2=vs k:=fun k q hq=>by
  rw [List.getElem?_map,Option.map_eq_some_iff] at hq;obtain ⟨⟨o,i⟩,h1,h2⟩:=hq;rw [List.getElem?_zipIdx,Option.map_eq_some_iff] at h1;obtain ⟨o',h3,h4⟩:=h1;simp only [Prod.mk.injEq] at h4;obtain ⟨rfl,rfl⟩:=h4;subst h2;have hk:k<n:=by
   have:=(List.getElem?_eq_some_iff.1 h3).1;simp at this;omega
  rw [List.getElem?_take_of_lt hk] at h3;exact ⟨h3,hk,by simp⟩
 by_cases hex:∃ i o,i<n∧l[i]? = some o∧o.dst=some t
 · obtain ⟨i,o,hin,ho,hd⟩:=hex
   have hil:i<l.length:=(List.getElem?_eq_some_iff.1 ho).1;rw [A.new i o t hin ho (hall i hin hil) hd hts];refine (puts_new t o (vs i) hd _ a0 i ?_ (fun j q hj hne=>?_) hts).symm
   · rw [List.getElem?_map,Option.map_eq_some_iff]
     refine ⟨(o,i), ?_,rfl⟩;rw [List.getElem?_zipIdx,Option.map_eq_some_iff];exact ⟨o,by rw [List.getElem?_take_of_lt hin];exact ho,by simp⟩
   · obtain ⟨h1,h2,_⟩:=get j q hj
     exact fun he=>(slotB_at h hin ho).dst j q.1 h1 h2 (Ne.symm hne) t he hd
 · have hno:∀ i o,i<n→l[i]? = some o→o.dst≠some t:=fun i o him ho hd=>hex ⟨i,o,him,ho,hd⟩
   rw [A.old t fun i o him ho _=>hno i o him ho];refine (puts_old t _ _ fun q hq=>?_).symm;obtain ⟨k,hk⟩:=List.getElem?_of_mem hq;obtain ⟨h1,h2,_⟩:=get k q hk;exact hno _ _ h2 h1
theorem mid_agree (h:slotG n l=true) {V:Nat→(Nat→Value)→World→Prop} {C:(Nat→Prop)→World→Prop} {a0:Act} {vs:Nat→Value} {listed:Array Bool} {x:Act} {w:World} (A:Mid n l V C a0 vs listed x w) {i:Nat} {o:Oper} (hin:i<n) (ho:l[i]? = some o) (hun:listed.getD i false=false)
  (hp:∀ e∈o.after,Region.binds .any e=true→listed.getD e.on false=true):∀ t,t∈o.looksAt l.toArray→x.tmps[t]? = (putsN l o vs a0).tmps[t]? := by
 intro t ht;have hT:=(slotB_at h hin ho);have hB:R3.tailB n l=true:=by unfold slotG at h;rw [Bool.and_eq_true] at h;exact h.1
 have get:∀ (k:Nat) (q:Oper × Value),((needs o).map fun j=>(l.getD j o,vs j))[k]? = some q→∃ j,(needs o)[k]? = some j∧j<i∧l[j]? = some q.1∧q.2=vs j:=fun k q hq=>by
  rw [List.getElem?_map,Option.map_eq_some_iff] at hq;obtain ⟨j,h1,rfl⟩:=hq;obtain ⟨e,he1,he2,he3⟩:=needs_mem (List.mem_of_getElem? h1);have hlt:=(R3.tailB_at hB ho).1 e he1 he2;have hil:i<l.length:=(List.getElem?_eq_some_iff.1 ho).1;refine ⟨j,h1,by omega, ?_,rfl⟩;have:j<l.length:=by omega
  simp [this]
 by_cases hex:∃ j o',j<n∧j≠i∧l[j]? = some o'∧o'.dst=some t
 · obtain ⟨j,o',hjn,hji,hj,hd⟩:=hex
   have hne:=hT.looks j o' hj hjn (Ne.symm hji) t hd ht;obtain ⟨e,he1,he2,he3⟩:=needs_mem hne;have hlj:listed.getD j false=true:=by have:=hp e he1 he2;rwa [he3] at this
   rcases Nat.lt_or_ge t a0.tmps.size with hts | hts
   case inr=>rw [Array.getElem?_eq_none (by rw [A.tsize];exact hts),Array.getElem?_eq_none (by rw [putsN,puts_size];exact hts)]
   rw [A.new j o' t hjn hj hlj hd hts];have key:∀ (N:List Nat) (a:Act),(∀ q∈N,q<i)→(∀ q∈N,q=j∨∀ o2,l[q]? = some o2→o2.dst≠some t)→t<a.tmps.size→(j∈N∨a.tmps[t]? = some (vs j))→(putsL (N.map fun j=>(l.getD j o,vs j)) a).tmps[t]? = some (vs j):=by
    intro N
    induction N with
    | nil=>intro a _ _ _ hj;exact hj.resolve_left (by simp)
    | cons q N ih =>
      intro a h1 h2 h3 h4;unfold putsL;simp only [List.map_cons,List.foldl_cons];refine ih _ (fun q hq=>h1 q (List.mem_cons_of_mem _ hq)) (fun q hq=>h2 q (List.mem_cons_of_mem _ hq)) (by rw [put_size];exact h3) ?_;have hil:i<l.length:=(List.getElem?_eq_some_iff.1 ho).1;have hq:q<l.length:=by have:=h1 q List.mem_cons_self;omega
      rcases h2 q List.mem_cons_self with rfl | h5
      · right
        have:l.getD q o=o':=by simp [hj]
        rw [this,hd];exact put_new _ _ _ h3
      · have hqd:(l.getD q o).dst≠some t:=by
         have:l[q]? = some (l.getD q o):=by simp [hq]
         exact h5 _ this
        rcases h4 with h4 | h4
        · rcases List.mem_cons.1 h4 with rfl | h4
          · exact absurd hd (h5 _ hj)
          · exact .inl h4
        · right
          rw [put_old _ _ _ _ hqd];exact h4
   refine (key (needs o) a0 (fun q hq=>?_) (fun q hq=>?_) hts (.inl hne)).symm
   · obtain ⟨e,he1,he2,he3⟩:=needs_mem hq
     have:=(R3.tailB_at hB ho).1 e he1 he2;omega
   · by_cases hqj:q=j
     · exact .inl hqj
     · right
       intro o2 ho2 hd2;obtain ⟨e,he1,he2,he3⟩:=needs_mem hq;have hlt:=(R3.tailB_at hB ho).1 e he1 he2;exact (slotB_at h hjn hj).dst q o2 ho2 (by omega) (Ne.symm hqj) t hd2 hd
 · have hno:∀ j o',j<n→j≠i→l[j]? = some o'→o'.dst≠some t:=fun j o' h1 h2 h3 h4=>hex ⟨j,o',h1,h2,h3,h4⟩
   rw [A.old t fun j o' hjn hj hlj=>by
    by_cases hji:j=i
    · subst hji;rw [hun] at hlj;cases hlj
    · exact hno j o' hjn hji hj]
   refine (puts_old t _ _ fun q hq=>?_).symm;obtain ⟨k,hk⟩:=List.getElem?_of_mem hq;obtain ⟨j,_,h2,h3,_⟩:=get k q hk;exact hno j q.1 (by omega) (by omega) h3
theorem mid_run (h:slotG n l=true) {V:Nat→(Nat→Value)→World→Prop} {C:(Nat→Prop)→World→Prop} (hst:∀ i vs w w',V i vs w→Grew w w'→V i vs w') (hdep:∀ i o vs vs' w,i<n→l[i]? = some o→V i vs w→vs' i=vs i→(∀ j∈needs o,vs' j=vs j)→V i vs' w) {a0:Act} {Q:Exit→Act→World→Prop}
  (hop:∀ i o,i<n→l[i]? = some o→∀ (vs:Nat→Value) (W:World) (L:Nat→Prop),C L W→¬ L i→(∀ j∈needs o,L j∧V j vs W)→(∀ j,j<n→L j→V j vs W)→(∀ j o',l[j]? = some o'→L j→∀ e∈o'.after,Region.binds .any e=true→L e.on) →
    if Region.wanted o (yielded l.toArray (putsN l o vs a0).tmps)=true then Oper.slotAt P o (putsN l o vs a0) W (fun v W'=>C (fun j=>L j∨j=i) W'∧V i (upd vs i v) W'∧(Grew W W'∨∀ j,j<n→L j→V j vs W')) else C (fun j=>L j∨j=i) W∧V i (upd vs i undef) W)
  (hQ:∀ (vs:Nat→Value) (W:World),C (fun j=>j<n∧j<l.length) W→(∀ i,i<n→i<l.length→V i vs W)→wpList P l.toArray Q (l.drop n) (putsV n l vs a0) W) :
  ∀ (fuel:Nat) (vs:Nat→Value) (listed:Array Bool) (x:Act) (w:World),Mid n l V C a0 vs listed x w→cnt listed l.length≤fuel→wpAny P .any l.toArray Q fuel listed x w:=by
 have hB:R3.tailB n l=true:=by unfold slotG at h;rw [Bool.and_eq_true] at h;exact h.1
 have isT:∀ {listed:Array Bool} {i:Nat},listed.size=l.length→i<l.length→listed.getD i true=true→listed.getD i false=true:=fun {listed i} hs hi ht=>by
  have hh:i<listed.size:=by rw [hs];exact hi
  simpa [hh] using ht
 have fin:∀ (vs:Nat→Value) (listed:Array Bool) (x:Act) (w:World),Mid n l V C a0 vs listed x w→(∀ i,i<n→i<l.length→listed.getD i false=true)→wpList P l.toArray Q (l.drop n) x w:=fun vs listed x w A hall=>by
  rw [mid_end h A hall];have hcl:(fun j=>listed.getD j false=true)=(fun j=>j<n∧j<l.length):=by
   funext j
   simp only [eq_iff_iff];constructor
   · intro hj
     have hjl:j<l.length:=by
      rcases Nat.lt_or_ge j listed.size with h' | h'
      · rw [A.size] at h';exact h'
      · simp [Array.getElem?_eq_none h'] at hj
     rcases Nat.lt_or_ge j n with h' | h'
     · exact ⟨h',hjl⟩
     · have h1:=A.tail j h' hjl
       have hjs:j<listed.size:=by rw [A.size];exact hjl
       simp [hjs] at hj h1;rw [hj] at h1;cases h1
   · intro hj;exact hall j hj.1 hj.2
  have:=A.cls;rw [hcl] at this;exact hQ vs w this fun i h1 h2=>A.good i h1 h2 (hall i h1 h2)
 have done:∀ (vs:Nat→Value) (listed:Array Bool) (x:Act) (w:World),Mid n l V C a0 vs listed x w→(∀ i,i<l.length→listed.getD i true=true)→Q .normal x w:=fun vs listed x w A hall=>by
  have:=fin vs listed x w A fun i _ hi=>isT A.size hi (hall i hi)
  have hml:l.length≤n:=by
   rcases Nat.lt_or_ge n l.length with h' | h'
   · have h1:=A.tail n (Nat.le_refl _) h'
     rw [hall n h'] at h1;cases h1
   · exact h'
  rwa [List.drop_of_length_le hml] at this
 intro fuel
 induction fuel with
 | zero =>
   intro vs listed x w A hc;have hall:∀ i,i<l.length→listed.getD i true=true:=fun i hi=>cnt_zero (by omega) hi
   refine ⟨?_,done vs listed x w A hall⟩;cases hr:Region.ready .any l.toArray listed with
   | nil=>rfl
   | cons i t =>
     have hi:i∈Region.ready .any l.toArray listed:=by rw [hr];exact List.mem_cons_self
     obtain ⟨h0,o,ho,_⟩:=mem_ready.1 hi;have:=(Array.getElem?_eq_some_iff.1 ho).1;rw [hall i (by simpa using this)] at h0;cases h0
 | succ fuel ih =>
   intro vs listed x w A hc;refine ⟨fun h0=>done vs listed x w A fun i hi=>?_,fun i hi=>?_⟩
   · cases hu:listed.getD i true with
     | true=>rfl
     | false=>exact absurd h0 (R3.ready_some hB i hi hu A.size)
   obtain ⟨hun,o,ho,hall⟩:=mem_ready.1 hi;have hl:l[i]? = some o:=by simpa using ho
   have hil:i<l.length:=(List.getElem?_eq_some_iff.1 hl).1;have hc':cnt (listed.setIfInBounds i true) l.length≤fuel:=by
    have:=cnt_set (N:=l.length) hil hun (by rw [A.size];exact hil);omega
   have notl:listed.getD i false=false:=by
    have:i<listed.size:=by rw [A.size];exact hil
    simpa [this] using hun
   rcases Nat.lt_or_ge i n with hin | hin
   · have G:=slotB_at h hin hl
     have agree:=mid_agree h A hin hl notl hall;obtain ⟨he,hwant⟩:=exec_agree G.sel agree;unfold wpOp;rw [ho];simp only;have hA:∀ j∈needs o,listed.getD j false=true∧V j vs w:=fun j hj=>by
      obtain ⟨e,he1,he2,he3⟩:=needs_mem hj;have hlt:=(R3.tailB_at hB hl).1 e he1 he2;have:=hall e he1 he2;rw [he3] at this hlt;exact ⟨this,A.good j (by omega) (by omega) this⟩
     have hG:∀ j,j<n→listed.getD j false=true→V j vs w:=fun j hj hlj=>by
      refine A.good j hj ?_ hlj;rcases Nat.lt_or_ge j listed.size with h' | h'
      · rw [A.size] at h';exact h'
      · simp [Array.getElem?_eq_none h'] at hlj
     have H:=hop i o hin hl vs w (fun j=>listed.getD j false=true) A.cls (by rw [notl];exact Bool.false_ne_true) hA hG (fun j o' ho' hlj e he hb=>A.down j o' ho' hlj e he hb);rw [hwant];by_cases hw:Region.wanted o (yielded l.toArray (putsN l o vs a0).tmps)=true
     · rw [if_pos hw] at H ⊢
       refine .inl (wp_of_slot he H fun v w' hv=>?_);obtain ⟨h3,h1,h2⟩:=hv;have h4:∀ j,j<n→listed.getD j false=true→V j vs w':=fun j hj hlj=>by
        rcases h2 with h2 | h2
        · exact hst _ _ _ _ (hG j hj hlj) h2
        · exact h2 j hj hlj
       exact ih _ _ _ _ (A.put h hdep hin hl h3 h1 h4 hun hall) hc'
     · rw [if_neg hw] at H ⊢
       exact ih _ _ _ _ (A.put h hdep hin hl H.1 H.2 hG hun hall) hc'
   · have hbefore:∀ j,j<i→listed.getD j false=true:=fun j hj=>by
      exact A.down.reach ((R3.tailB_at hB hl).2.1 hin j hj) fun o' ho' e he hb=>by
       rw [hl] at ho';obtain rfl:=Option.some.inj ho';exact hall e he hb
     have hin':i=n:=by
      rcases Nat.lt_or_ge n i with h' | h'
      · have h1:=hbefore n h'
        have h2:=A.tail n (Nat.le_refl _) (by omega);have hns:n<listed.size:=by rw [A.size];omega
        simp [hns] at h1 h2;rw [h1] at h2;cases h2
      · omega
     subst hin';have hu:R3.Upto (l:=l) i listed:=by
      refine ⟨A.size,fun j hj=>?_⟩;by_cases hjn:j<i
      · have h1:=hbefore j hjn
        have hjs:j<listed.size:=by rw [A.size];omega
        simp [hjs] at h1;simp [hjs,hjn,h1]
      · rw [A.tail j (by omega) hj];simp;omega
     have hcu:cnt listed l.length=l.length - i:=Go.cnt_upto (l:=l) ⟨hu.1,hu.2⟩;exact (R3.tail_run hB (fuel+1) i listed x w (Nat.le_refl _) (by omega) hu (fin vs listed x w A fun j hj _=>hbefore j hj)).2 i hi
theorem wp_region_slotsG {id:Nat} {Q:Exit→Act→World→Prop} {a0:Act} {w:World} (n:Nat) (V:Nat→(Nat→Value)→World→Prop) (C:(Nat→Prop)→World→Prop) (hm:P.follows .mixedOrders=true) (h:slotG n l=true)
  (hst:∀ i vs w w',V i vs w→Grew w w'→V i vs w')
  (hdep:∀ i o vs vs' w,i<n→l[i]? = some o→V i vs w→vs' i=vs i→(∀ j∈needs o,vs' j=vs j)→V i vs' w)
  (h0:C (fun _=>False) w.drew)
  (hop:∀ i o,i<n→l[i]? = some o→∀ (vs:Nat→Value) (W:World) (L:Nat→Prop),C L W→¬ L i→(∀ j∈needs o,L j∧V j vs W)→(∀ j,j<n→L j→V j vs W)→(∀ j o',l[j]? = some o'→L j→∀ e∈o'.after,Region.binds .any e=true→L e.on) →
    if Region.wanted o (yielded l.toArray (putsN l o vs a0).tmps)=true then Oper.slotAt P o (putsN l o vs a0) W (fun v W'=>C (fun j=>L j∨j=i) W'∧V i (upd vs i v) W'∧(Grew W W'∨∀ j,j<n→L j→V j vs W')) else C (fun j=>L j∨j=i) W∧V i (upd vs i undef) W)
  (hQ:∀ (vs:Nat→Value) (W:World),C (fun j=>j<n∧j<l.length) W→(∀ i,i<n→i<l.length→V i vs W)→wpList P l.toArray Q (l.drop n) (putsV n l vs a0) W):(Code.region id l.toArray true).wp P Q a0 w:=by
 refine wp_region_any hm ?_;have hsz:l.toArray.size=l.length:=by simp
 rw [hsz];have no:∀ (N i:Nat),(Array.replicate N false).getD i false=false:=fun N i=>by
  rcases Nat.lt_or_ge i N with h | h
  · simp [h]
  · simp [h]
 refine mid_run h hst hdep hop hQ _ (fun _=>undef) _ _ _ ⟨by simp, ?_,fun i o _ hl=>?_,fun j _ hj=>by simp [hj],rfl,rfl,fun _ _=>rfl,fun i o d _ _ hl=>?_,fun i _ _ hl=>?_⟩ ?_
 · have:(fun j=>(Array.replicate l.length false).getD j false=true)=(fun _=>False):=by
    funext j
    rw [no];simp
   rw [this];exact h0
 · rw [no] at hl;cases hl
 · rw [no] at hl;cases hl
 · rw [no] at hl;cases hl
 · unfold cnt
   exact Nat.le_trans (List.length_filter_le _ _) (by simp)
theorem wp_region_slotsC {id:Nat} {Q:Exit→Act→World→Prop} {a0:Act} {w:World} (n:Nat) (V:Nat→(Nat→Value)→World→Prop) (C:(Nat→Prop)→World→Prop) (hm:P.follows .mixedOrders=true) (h:slotB n l=true)
  (hst:∀ i vs w w',V i vs w→Grew w w'→V i vs w')
  (hdep:∀ i o vs vs' w,i<n→l[i]? = some o→V i vs w→vs' i=vs i→(∀ j∈needs o,vs' j=vs j)→V i vs' w)
  (h0:C (fun _=>False) w.drew)
  (hop:∀ i o,i<n→l[i]? = some o→∀ (vs:Nat→Value) (W:World) (L:Nat→Prop),C L W→¬ L i→(∀ j∈needs o,L j∧V j vs W)→(∀ j,j<n→L j→V j vs W)→(∀ j o',l[j]? = some o'→L j→∀ e∈o'.after,Region.binds .any e=true→L e.on) →
    Oper.slotAt P o (putsN l o vs a0) W (fun v W'=>C (fun j=>L j∨j=i) W'∧V i (upd vs i v) W'∧(Grew W W'∨∀ j,j<n→L j→V j vs W')))
  (hQ:∀ (vs:Nat→Value) (W:World),C (fun j=>j<n∧j<l.length) W→(∀ i,i<n→i<l.length→V i vs W)→wpList P l.toArray Q (l.drop n) (putsV n l vs a0) W):(Code.region id l.toArray true).wp P Q a0 w:=by
 refine wp_region_slotsG n V C hm (by unfold slotB at h;rw [Bool.and_eq_true] at h;exact h.1) hst hdep h0 (fun i o hi ho vs W L h1 h2 h3 h4 h5=>?_) hQ;rw [if_pos (by simp [Region.wanted,slotB_none h hi ho])];exact hop i o hi ho vs W L h1 h2 h3 h4 h5
theorem wp_region_slots {id:Nat} {Q:Exit→Act→World→Prop} {a:Act} {w:World} (n:Nat) (V:Nat→(Nat→Value)→World→Prop) (hm:P.follows .mixedOrders=true) (h:slotB n l=true)
  (hst:∀ i vs w w',V i vs w→Grew w w'→V i vs w')
  (hdep:∀ i o vs vs' w,i<n→l[i]? = some o→V i vs w→vs' i=vs i→(∀ j∈needs o,vs' j=vs j)→V i vs' w)
  (hop:∀ i o,i<n→l[i]? = some o→∀ (vs:Nat→Value) (W:World) (L:Nat→Prop),Grew w W→¬ L i→(∀ j∈needs o,L j∧V j vs W)→(∀ j,j<n→L j→V j vs W)→Oper.slotAt P o (putsN l o vs a) W (fun v W'=>V i (upd vs i v) W'∧(Grew W W'∨(Grew w W'∧∀ j,j<n→L j→V j vs W'))))
  (hQ:∀ (vs:Nat→Value) (W:World),Grew w W→(∀ i,i<n→i<l.length→V i vs W)→wpList P l.toArray Q (l.drop n) (putsV n l vs a) W):(Code.region id l.toArray true).wp P Q a w:=by
 refine wp_region_slotsC n V (fun _ W=>Grew w W) hm h hst hdep (Grew.refl w).drew (fun i o hi ho vs W L hg hL hn hall _=>?_) hQ;have:=hop i o hi ho vs W L hg hL hn hall;unfold Oper.slotAt at this ⊢;generalize (execOp (putsN l o vs a).eval o).run P W=r at *
 have key:∀ v W',(V i (upd vs i v) W'∧(Grew W W'∨(Grew w W'∧∀ j,j<n→L j→V j vs W')))→Grew w W'∧V i (upd vs i v) W'∧(Grew W W'∨∀ j,j<n→L j→V j vs W'):=fun v W' ⟨h1,h2⟩ =>
  ⟨h2.elim (fun h=>hg.trans h) (fun h=>h.1),h1,h2.imp (fun h=>h) (fun h=>h.2)⟩
 cases r with
 | ok k w' =>
   cases k <;> simp only [Oper.slotUpon] at this ⊢
   case value u=>exact key _ _ this
   case skip=>exact key _ _ this
   case enter f args=>exact this.mono fun e w'' ⟨v,he,hv⟩=>⟨v,he,key _ _ hv⟩
 | halt x w'=>simp only [Oper.slotUpon] at this
end
end Go.R4
