/- Layer 9: what the law ProbeKeeps wants: plain facts of tests with a state's answers, and what it calls. Condition: the tests lie in memory. -/
import Derived.Test.YtnceajabigdleaaDoorPtQ988
import Derived.Test.YtnceajabigdleaaDoorPtQ987
import Derived.Test.YtnceajabigdleaaDoorPtQ4
namespace Go.Proofs.Qm
open Go Go.Pt Go.RowKit Prb
def sumL:List Int→Int
 | []=>0
 | x::r=>x+sumL r
theorem sumL_app:∀ a b:List Int,sumL (a++b)=sumL a+sumL b
 | [],b=>by simp [sumL]
 | x::r,b=>by rw [List.cons_append,sumL,sumL,sumL_app r b];omega
theorem sumL_take {cs:List Int} {j:Nat} {c:Int} (h:cs[j]? = some c):sumL (cs.take (j+1))=sumL (cs.take j)+c:=by
 rw [List.take_add_one,h,Option.toList_some,sumL_app];simp [sumL]
theorem sumL_pos:∀ {cs:List Int},(∀ c∈cs,0≤c)→0≤sumL cs
 | [],_=>Int.le_refl _
 | x :: r, h => by
   have:=sumL_pos (cs:=r) fun c hc=>h c (List.mem_cons_of_mem _ hc)
   have:=h x List.mem_cons_self;rw [sumL];omega
theorem sumL_pre {cs:List Int} (h:∀ c∈cs,0≤c) (j:Nat):0≤sumL (cs.take j)∧sumL (cs.take j)≤sumL cs:=by
 have h1:=sumL_pos (cs:=cs.take j) fun c hc=>h c (List.mem_of_mem_take hc)
 have h2:=sumL_pos (cs:=cs.drop j) fun c hc=>h c (List.mem_of_mem_drop hc)
 have h3:=sumL_app (cs.take j) (cs.drop j);rw [List.take_append_drop] at h3;omega
theorem sumL_bump:∀ (cs:List Int) (j:Nat),j<cs.length→sumL (bump cs j)=sumL cs+1
 | [],j,h=>absurd h (Nat.not_lt_zero j)
 | x :: r, 0, _ => by
   unfold bump;simp [sumL];omega
 | x :: r, j + 1, h => by
   have:=sumL_bump r j (by simpa using h);unfold bump at *
   simp [sumL] at *
   omega
theorem sum_fold (f:Nat→Nat):∀ (l:List Nat) (cs:List Int),(∀ s∈l,f s<cs.length)→sumL (l.foldl (fun cs s=>bump cs (f s)) cs)=sumL cs+l.length
 | [],cs,_=>by simp
 | x :: r, cs, h => by
   rw [List.foldl_cons,sum_fold f r _ fun s hs=>by rw [bump_len];exact h s (List.mem_cons_of_mem _ hs),sumL_bump _ _ (h x List.mem_cons_self),List.length_cons];omega
theorem sum_zero:∀ n:Nat,sumL (List.replicate n 0)=0
 | 0=>rfl
 | n+1=>by rw [List.replicate_succ,sumL,sum_zero n];rfl
theorem cnt_sum (n:Nat) (f:Nat→Nat) (l:List Nat) (h:∀ s∈l,f s<n):sumL (cntL n f l)=l.length:=by
 unfold cntL;rw [sum_fold f l _ (by simpa using h),sum_zero];omega
structure AnsT (n:Int) (N m S:Nat) (Ft:List Tq):Prop where
 fit:tqsB n Ft=true
 ans:∀ z∈Ft,z.t.o=(ansF n S z:Nat)
 lt:∀ z∈Ft,∀ y,refA n (thB y z.b) z.t.i.toNat<m
 len:Ft.length≤40
theorem ansT {n:Int} {N m S:Nat} (hn:(n=2∧N=2∧m=2)∨(n=4∧N=64∧m=4)) {w w':World} {a a':Option Addr} {l Ft:List Tq} (hl:l.length≤40) (hc:AqAt w a l) (h:asksB n l=true) (hF:TqAt w' a' Ft) (hm:Ft.map fdOf=l.map (anF n S)):AnsT n N m S Ft:=by
 have each:∀ z∈Ft,z.t.o=(ansF n S z:Nat)∧fitB n z.t.len z.t.i=true∧TurnAt w' z.t.a z.t.len z.b:=fun z hz=>by
  obtain ⟨y,hy,e⟩:=List.mem_map.1 (hm ▸ List.mem_map.2 ⟨z,hz,rfl⟩:fdOf z∈l.map (anF n S));have e1:y.b=z.b:=congrArg Fd.b e;have e2:y.t.i=z.t.i:=congrArg Fd.i e;have e3:((ansF n S y:Nat):Int)=z.t.o:=congrArg Fd.o e;obtain ⟨i,hi⟩:=List.mem_iff_getElem?.1 hy;obtain ⟨_,_,_,_,_,_,hty⟩:=hc i y hi;obtain ⟨j,hj⟩:=List.mem_iff_getElem?.1 hz;obtain ⟨_,_,_,_,_,_,htz⟩:=hF j z hj;have hv:=List.all_eq_true.1 h y hy;unfold ansB at hv;rw [Bool.and_eq_true] at hv;refine ⟨?_, ?_,htz⟩
  · rw [← e3];unfold ansF;rw [e1,e2]
  · rw [htz.1,← e1,← hty.1,← e2];exact hv.2
 have hnm:n=(m:Int):=by rcases hn with ⟨rfl,_,rfl⟩ | ⟨rfl,_,rfl⟩ <;> rfl
 have lt:∀ z∈Ft,∀ y,refA n (thB y z.b) z.t.i.toNat<m:=fun z hz y=>by
  obtain ⟨_,h2,h3⟩:=each z hz;have hB:ansB n 0 z.t.len z.t.i=true:=by
   unfold ansB;rw [h2,Bool.and_true];rcases hn with ⟨rfl,_,_⟩ | ⟨rfl,_,_⟩ <;> rfl
  obtain ⟨_,_,I,_,_,_,_,hI,hIm,hk⟩:=ask_open hn h3 hB;rw [hI,Int.toNat_natCast];exact refA_lt n N m _ hk _ I hIm
 have hlen:Ft.length=l.length:=by have:=congrArg List.length hm;simpa using this
 refine ⟨?_,fun z hz=>(each z hz).1,lt,by omega⟩;unfold tqsB tstsB;rw [List.all_eq_true];intro t ht;obtain ⟨z,hz,rfl⟩:=List.mem_map.1 ht;obtain ⟨h1,h2,_⟩:=each z hz;unfold tstB;rw [h2,h1,Bool.true_and];have:ansF n S z<m:=lt z hz S;simp;omega
theorem AnsT.mem {n:Int} {N m S:Nat} {Ft:List Tq} (h:AnsT n N m S Ft) (hS:S<N):∀ i,i≤Ft.length→S∈leftL n N (Ft.take i)
 | 0,_=>by simpa [leftL] using hS
 | i + 1, hi => by
   obtain ⟨z,hz⟩:∃ z,Ft[i]? = some z:=⟨Ft[i],List.getElem?_eq_getElem (by omega)⟩;rw [leftL_take hz];refine List.mem_filter.2 ⟨h.mem hS i (by omega), ?_⟩;unfold agP;rw [h.ans z (List.mem_of_getElem? hz)];exact decide_eq_true rfl
theorem left_len (n:Int) {N:Nat} (hN:N≤64) (l:List Tq):(leftL n N l).length≤64:=by
 rw [leftD_of,leftD_eq];exact Nat.le_trans (List.length_filter_le _ _) (by rw [List.length_range];exact hN)
theorem AnsT.parts {n:Int} {N m S:Nat} {Ft:List Tq} (h:AnsT n N m S Ft) {i:Nat} {z:Tq} (hz:Ft[i]? = some z) :
  ∃ cs,cntL m (fun s=>refA n (thB s z.b) z.t.i.toNat) (leftL n N (Ft.take i))=cs∧cs.length=m∧cs[ansF n S z]? = some ((leftL n N (Ft.take (i+1))).length:Int)∧sumL cs=(leftL n N (Ft.take i)).length∧(∀ c∈cs,0≤c)∧∀ y∈leftL n N (Ft.take (i+1)),y∈leftL n N (Ft.take i):=by
 have hzm:=List.mem_of_getElem? hz;refine ⟨_,rfl,cntL_len _ _ _, ?_,cnt_sum _ _ _ fun s _=>h.lt z hzm s,cnt_pos _ _ _,fun y hy=>?_⟩
 · rw [show ansF n S z=refA n (thB S z.b) z.t.i.toNat from rfl,cntL_get m _ _ _ (h.lt z hzm S),leftL_take hz]
   congr 2
   congr 1
   refine List.filter_congr fun y _=>?_
   unfold agP;rw [h.ans z hzm];by_cases hq:refA n (thB y z.b) z.t.i.toNat=ansF n S z
   · exact (decide_eq_true hq).trans (decide_eq_true (by rw [hq])).symm
   · exact (decide_eq_false hq).trans (decide_eq_false (by omega)).symm
 · rw [leftL_take hz] at hy
   exact (List.mem_filter.1 hy).1
theorem TqAt.take {w:World} {a:Option Addr} {l:List Tq} (h:TqAt w a l) (k:Nat):TqAt w a (l.take k):=fun i z hz=>by
 have hi:i<k:=by
  have:=(List.getElem?_eq_some_iff.1 hz).1;rw [List.length_take] at this;omega
 rw [List.getElem?_take_of_lt hi] at hz;exact h i z hz
theorem tqCells_get:∀ {l:List Tq} {j:Nat} {u:Value},(tqCells l)[j]? = some u→∃ (i:Nat) (z:Tq),l[i]? = some z∧((j=i*3∧u=.slice z.t.a z.t.len z.t.cap)∨(j=i*3+1∧u=.int .i64 z.t.i)∨(j=i*3+2∧u=.int .i64 z.t.o))
 | [],j,u,h=>by simp [tqCells] at h
 | q::r,0,u,h=>⟨0,q,rfl,.inl ⟨rfl,(Option.some.inj h).symm⟩⟩
 | q::r,1,u,h=>⟨0,q,rfl,.inr (.inl ⟨rfl,(Option.some.inj h).symm⟩)⟩
 | q::r,2,u,h=>⟨0,q,rfl,.inr (.inr ⟨rfl,(Option.some.inj h).symm⟩)⟩
 | q :: r, j + 3, u, h => by
   obtain ⟨i,z,h1,h2⟩:=tqCells_get (l:=r) (j:=j) (u:=u) h;refine ⟨i+1,z,h1, ?_⟩;rcases h2 with ⟨h2,h3⟩ | ⟨h2,h3⟩ | ⟨h2,h3⟩
   · exact .inl ⟨by omega,h3⟩
   · exact .inr (.inl ⟨by omega,h3⟩)
   · exact .inr (.inr ⟨by omega,h3⟩)
theorem TqAt.cells {w:World} {b off:Nat} {l:List Tq} (h:TqAt w (some ⟨b,off,none⟩) l):∀ j u,(tqCells l)[j]? = some u→w.cell? ((⟨b,off,none⟩:Addr).add j)=some u:=fun j u hj=>by
 obtain ⟨i,z,hz,hc⟩:=tqCells_get hj;obtain ⟨b',off',e,_,⟨c0,c1,c2⟩,_⟩:=h i z hz;cases e;have ad:(⟨b,off,none⟩:Addr).add j=⟨b,off+j,none⟩:=by unfold Addr.add;by_cases h1:j=0 <;> simp [h1]
 rw [ad];rcases hc with ⟨rfl,rfl⟩ | ⟨rfl,rfl⟩ | ⟨rfl,rfl⟩
 · exact c0
 · rw [← Nat.add_assoc];exact c1
 · rw [← Nat.add_assoc];exact c2
theorem empty_t {w:World} {b:Nat} (hb:b=w.heap.size):(w.alloc (.cells #[] 48)).ownsRow w.heap.size 48 3 (.slice (some ⟨b,0,none⟩) 0 0) 0 []:=by
 subst hb;exact World.ownsRow_lit (base:=w.heap.size) (e:=48) (size:=3) w #[] 0 (Nat.le_refl _) (by decide) rfl
theorem row_tqAt {w:World} {base k0:Nat} {a0:Option Addr} {l:List Tq} (h:w.ownsRow base 48 3 (.slice a0 l.length k0) l.length (tqCells l)) (ht:∀ z∈l,z.t.len≤9223372036854775807∧TurnAt w z.t.a z.t.len z.b):TqAt w a0 l:=fun i z hz=>by
 have hi:i<l.length:=(List.getElem?_eq_some_iff.1 hz).1;obtain ⟨hzl,htz⟩:=ht z (List.mem_of_getElem? hz);rcases h.2 with ⟨h1,h2⟩ | ⟨g,cap,cur,h1,h2,h3,h4,h5,h6,h7⟩
 · omega
 · have e:=h1
   injection e with e1 e2 e3;subst e1;subst e3;obtain ⟨c0,c1,c2⟩:=tqCells_at hz;refine ⟨g,0,rfl,(Array.getElem?_eq_some_iff.1 h3).1,⟨?_, ?_, ?_⟩,hzl,htz⟩
   · rw [Nat.zero_add,World.ownsRow.cellAt h (i*3) (by omega)];exact c0
   · rw [Nat.zero_add,World.ownsRow.cellAt h (i*3+1) (by omega)];exact c1
   · rw [Nat.zero_add,World.ownsRow.cellAt h (i*3+2) (by omega)];exact c2
structure KpC (n:Int) (N m S:Nat) (Ft:List Tq) (a1:Option Addr) (w1:World):Prop where
 agr:∀ (i:Nat) (z:Tq),Ft[i]? = some z→∀ w',Below w1.heap.size w1 w'→Calls prog 24 #[.int .i64 n,.int .i64 (S:Nat),.agg #[.slice z.t.a z.t.len z.t.cap,.int .i64 z.t.i,.int .i64 (ansF n S z:Nat)]] w' fun e w''=>e=.returned (.tuple #[.bool true,.int .i64 0])∧Grew w' w''
 left:∀ (i:Nat),i≤Ft.length→∀ w' a k,Below w1.heap.size w1 w'→TqAt w' a (Ft.take i)→Calls prog 14 #[.int .i64 n,.slice a i k] w' fun e w''=>∃ (a2:Option Addr) (k2:Nat),e=.returned (.tuple #[.slice a2 (leftL n N (Ft.take i)).length k2,.int .i64 0])∧NsA w'' a2 (ints (leftL n N (Ft.take i)))∧Below w'.heap.size w' w''∧Below w1.heap.size w1 w''
 parts:∀ (i:Nat) (z:Tq),Ft[i]? = some z→∀ w' a k,Below w1.heap.size w1 w'→NsA w' a (ints (leftL n N (Ft.take i)))→Calls prog 10 #[.int .i64 n,.slice a (leftL n N (Ft.take i)).length k,.slice z.t.a z.t.len z.t.cap,.int .i64 z.t.i] w' fun e w''=>∃ (a2:Option Addr) (k2:Nat),e=.returned (.tuple #[.slice a2 m k2,.int .i64 0])∧NsA w'' a2 (cntL m (fun s=>refA n (thB s z.b) z.t.i.toNat) (leftL n N (Ft.take i)))∧Below w'.heap.size w' w''∧Below w1.heap.size w1 w''
 has:∀ (i x:Nat),x∈leftL n N (Ft.take i)→∀ w' a k,NsA w' a (ints (leftL n N (Ft.take i)))→Calls prog 25 #[.slice a (leftL n N (Ft.take i)).length k,.int .i64 (x:Nat)] w' fun e w''=>e=.returned (.bool true)∧Grew w' w''
theorem kpC {n:Int} {N m S:Nat} {Ft:List Tq} {a1:Option Addr} {w1:World} (hn:(n=2∧N=2∧m=2)∨(n=4∧N=64∧m=4)) (hS:S<N) (h:AnsT n N m S Ft) (hF:TqAt w1 a1 Ft) (hD:DebAt w1):KpC n N m S Ft a1 w1:=by
 have hN:N≤64:=by omega
 refine ⟨fun i z hz w' hg=>?_,fun i hi w' a k hg ht=>?_,fun i z hz w' a k hg ha=>?_,fun i x hx w' a k ha=>?_⟩
 · have hzm:=List.mem_of_getElem? hz
   obtain ⟨_,_,_,_,_,_,htz⟩:=hF.below hg i z hz;have hv:=tqsB_at h.fit z hzm;obtain ⟨tb,toff,I,e1,hb,hbl,e2,e3,hI,hk⟩:=tq_open hn htz hv;obtain ⟨_,_,_,h4,h5⟩:=tq_fits (hn.imp (fun h=>h.1) (fun h=>h.1)) hv;have hq:=Agrees_yes n (ansF n S z:Nat) N m S I tb toff z.t.cap z.b w' hk hS hI (by rw [← h.ans z hzm];exact ⟨h4,h5⟩) hb hbl;rw [show (((refA n (thB S z.b) I:Nat):Int)==((ansF n S z:Nat):Int))=true by unfold ansF;rw [e3,Int.toNat_natCast];simp] at hq;rw [e1,e2,e3];exact hq
 · have hli:(Ft.take i).length=i:=by rw [List.length_take];omega
   have hL:=Left_yes n N m hn a k (Ft.take i) w' (by have:=h.len;omega) ht (by
    have:=h.fit;unfold tqsB tstsB at this ⊢;rw [List.all_eq_true] at this ⊢;intro t ht;obtain ⟨z,hz,rfl⟩:=List.mem_map.1 ht;exact this z.t (List.mem_map.2 ⟨z,List.mem_of_mem_take hz,rfl⟩)) (hD.of_block (hg.block 0 hD.1))
   rw [hli] at hL;refine hL.mono ?_;rintro e w'' ⟨a2,k2,rfl,h2,h3⟩;rw [ints_len];exact ⟨a2,k2,rfl,h2,h3,hg.trans (h3.mono hg.size)⟩
 · have hzm:=List.mem_of_getElem? hz
   obtain ⟨_,_,_,_,_,_,htz⟩:=hF.below hg i z hz;obtain ⟨tb,toff,I,e1,hb,hbl,e2,e3,hI,hk⟩:=tq_open hn htz (tqsB_at h.fit z hzm);obtain ⟨k1,k2⟩:=leftL_ok n N (Ft.take i);have hP:=Parts_yes n N m I tb toff z.t.cap k z.b a (ints (leftL n N (Ft.take i))) w' hk hI (by rw [ints_len];have:=left_len n hN (Ft.take i);omega) ha hb hbl (hD.of_block (hg.block 0 hD.1)) (ok_ints k1 k2 fun y _=>by omega);rw [ints_len,ints_nat] at hP;rw [e1,e2,e3,Int.toNat_natCast];refine hP.mono ?_;rintro e w'' ⟨a2,k2,rfl,h2,h3⟩;rw [cntL_len];exact ⟨a2,k2,rfl,h2,h3,hg.trans (h3.mono hg.size)⟩
 · have hq:=has_any a k (ints (leftL n N (Ft.take i))) (x:Nat) w' (by rw [ints_len];have:=left_len n hN (Ft.take i);omega) ha
   rw [ints_len,decide_eq_true (mem_ints.2 hx)] at hq;exact hq
end Go.Proofs.Qm
