/- Layer 9: what the finding leaves, plain: the state and its twins; its tests leave just these; they are fewer than the states and than the tries. No condition; no program in sight. -/
import Derived.Test.YtnceajabigdleaaDoorPtQ986
import Derived.Test.YtnceajabigdleaaDoorPtQ7
import Derived.Test.YtnceajabigdleaaDoorPtQ8
import Derived.Test.YtnceajabigdleaaDoorPtQ5
namespace Go.Proofs.Qm
open Go Go.Pt Go.RowKit Prb
def leftD (n:Int) (N:Nat) (l:List Fd):List Nat:=l.foldl (fun L f=>L.filter (agP n f.b f.i.toNat f.o)) (List.range N)
theorem leftD_of (n:Int) (N:Nat) (l:List Tq):leftL n N l=leftD n N (l.map fdOf):=by
 unfold leftL leftD;rw [List.foldl_map];rfl
theorem leftD_snoc (n:Int) (N:Nat) (l:List Fd) (f:Fd):leftD n N (l++[f])=(leftD n N l).filter (agP n f.b f.i.toNat f.o):=by
 unfold leftD;rw [List.foldl_append];rfl
theorem fold_filter (n:Int):∀ (l:List Fd) (L:List Nat),l.foldl (fun L f=>L.filter (agP n f.b f.i.toNat f.o)) L=L.filter fun y=>l.all fun f=>agP n f.b f.i.toNat f.o y
 | [],L=>(List.filter_eq_self.2 fun _ _=>rfl).symm
 | f :: r, L => by
   rw [List.foldl_cons,fold_filter n r,List.filter_filter];refine List.filter_congr fun y _=>?_
   rw [List.all_cons,Bool.and_comm]
theorem leftD_eq (n:Int) (N:Nat) (l:List Fd):leftD n N l=(List.range N).filter fun y=>l.all fun f=>agP n f.b f.i.toNat f.o y:=fold_filter n l _
theorem fold_max_mem:∀ (cs:List Int) (m:Int),cs.foldl max m=m∨cs.foldl max m∈cs
 | [],m=>.inl rfl
 | x :: r, m => by
   rw [List.foldl_cons];rcases fold_max_mem r (max m x) with h | h
   · rw [h]
     by_cases hx:m≤x
     · exact .inr (by rw [show max m x=x by omega];exact List.mem_cons_self)
     · exact .inl (by omega)
   · exact .inr (List.mem_cons_of_mem _ h)
theorem filter_lt {α:Type} {p q:α→Bool} (h:∀ x,q x=true→p x=true):∀ {l:List α},(l.filter q).length≤(l.filter p).length∧∀ z∈l,p z=true→q z=false→(l.filter q).length<(l.filter p).length
 | []=>⟨Nat.le_refl _,fun z hz=>by cases hz⟩
 | x :: r => by
   have ih:=@filter_lt α p q h r;refine ⟨?_,fun z hz hp hq=>?_⟩
   · rw [List.filter_cons,List.filter_cons]
     cases hq:q x with
     | true=>rw [h x hq];simpa using ih.1
     | false=>cases hp:p x <;> simp <;> omega
   · rw [List.filter_cons,List.filter_cons]
     rcases List.mem_cons.1 hz with rfl | hz
     · rw [hp,hq]
       have:=ih.1;simp;omega
     · have h2:=ih.2 z hz hp hq
       cases hq:q x with
       | true=>rw [h x hq];simpa using h2
       | false=>cases hp:p x <;> simp <;> omega
def prtB (n:Int) (S:Nat) (L:List Nat) (z:Tq):Bool:=L.any fun y=>ptB n z S y
theorem cnt_full {m:Nat} {f:Nat→Nat} {L:List Nat} {S:Nat} (hS:S∈L) (h:(L.length:Int)≤grL (cntL m f L)):∀ y∈L,f y=f S:=by
 have hl:0<L.length:=List.length_pos_of_mem hS;rcases fold_max_mem (cntL m f L) 0 with h0 | h0
 · unfold grL at h
   omega
 · obtain ⟨i,hi⟩:=List.mem_iff_getElem?.1 h0
   have him:i<m:=by have:=(List.getElem?_eq_some_iff.1 hi).1;rwa [cntL_len] at this
   rw [cntL_get m f L i him] at hi;have e:=Option.some.inj hi;unfold grL at h;rw [← e] at h;have hle:=List.length_filter_le (fun s=>decide (f s=i)) L;have hall:=List.length_filter_eq_length_iff.1 (show (L.filter fun s=>decide (f s=i)).length=L.length by omega);intro y hy;have h1:=of_decide_eq_true (hall y hy);have h2:=of_decide_eq_true (hall S hS);rw [h1,h2]
theorem stop_all {n:Int} {m:Nat} {L:List Nat} {z:Tq} {S:Nat} (hS:S∈L) (h:(L.length:Int)≤wrst n m L z):∀ y∈L,ptB n z S y=false:=fun y hy=>by
 unfold ptB;rw [cnt_full (f:=fun s=>refA n (thB s z.b) z.t.i.toNat) hS h y hy];simp
theorem prt_of {n:Int} {m:Nat} {L:List Nat} {z:Tq} {S:Nat} (hA:refA n (thB S z.b) z.t.i.toNat<m) (h:wrst n m L z<L.length):prtB n S L z=true:=by
 cases hp:prtB n S L z with
 | true=>rfl
 | false =>
   unfold prtB at hp;rw [List.any_eq_false] at hp;have e:L.filter (fun s=>decide (refA n (thB s z.b) z.t.i.toNat=refA n (thB S z.b) z.t.i.toNat))=L:=List.filter_eq_self.2 fun y hy=>by
    have:=hp y hy;unfold ptB at this;simp at this
    simpa using this.symm
   have h1:=cntL_get m (fun s=>refA n (thB s z.b) z.t.i.toNat) L _ hA;rw [e] at h1;have h2:=grL_ge (List.mem_of_getElem? h1);unfold wrst at h;omega
theorem bstI_min (g:Nat→Int):∀ k i,i<k→(bstI g k).2≤g i
 | 0,i,h=>absurd h (Nat.not_lt_zero i)
 | k + 1, i, h => by
   rw [bstI];split
   · rename_i hc
     by_cases hi:i=k
     · subst hi;exact Int.le_refl _
     · have:=bstI_min g k i (by omega)
       rcases hc with hc | hc
       · omega
       · show g k≤g i
         omega
   · rename_i hc
     by_cases hi:i=k
     · subst hi
       omega
     · exact bstI_min g k i (by omega)
structure FinK (n:Int) (N S:Nat) (l:List Tq) (L:List Nat) (fl:List Fd):Prop where
 eq:L=leftD n N fl
 mem:S∈L
 tw:∀ y,y<N→twB n l S y=true→y∈L
 sum:fl.length+L.length≤N
 tries:fl.length+(l.filter (prtB n S L)).length≤l.length
 fit:∀ f∈fl,∃ z∈l,f.b=z.b∧f.i=z.t.i∧f.o=(ansF n S z:Nat)
theorem ag_iff {n:Int} {z:Tq} {S y:Nat}:agP n z.b z.t.i.toNat (ansF n S z:Nat) y=true↔ptB n z S y=false:=by
 unfold agP ptB ansF;simp only [decide_eq_true_eq,decide_eq_false_iff_not,Decidable.not_not];constructor
 · intro h;omega
 · intro h;omega
theorem finK_go (n:Int) (N m S:Nat) (l:List Tq) (hA:∀ z∈l,∀ y,refA n (thB y z.b) z.t.i.toNat<m):∀ (k:Nat) (L:List Nat) (fl:List Fd),FinK n N S l L fl→L.length≤k →
  FinK n N S l (finF n m S l k L fl).1 (finF n m S l k L fl).2∧∀ y∈(finF n m S l k L fl).1,twB n l S y=true
 | 0,L,fl,h,hk=>absurd (List.length_pos_of_mem h.mem) (by omega)
 | k + 1, L, fl, h, hk => by
   cases hs:stopF n m L l with
   | true =>
     rw [finF_stop hs];refine ⟨h,fun y hy=>?_⟩;unfold twB;rw [List.all_eq_true];intro z hz;obtain ⟨i,hi⟩:=List.mem_iff_getElem?.1 hz;have hil:=(List.getElem?_eq_some_iff.1 hi).1;unfold stopF at hs;rw [Bool.or_eq_true,decide_eq_true_eq,decide_eq_true_eq] at hs;have hm:=bstI_min (gOf n m L l) l.length i hil;rw [gOf_at hi] at hm;rw [stop_all (m:=m) h.mem (by omega) y hy];rfl
   | false =>
     obtain ⟨z,hz,_,_,hw⟩:=bstX_at hs;have hzl:z∈l:=List.mem_of_getElem? hz;rw [finF_step hs hz];have hlt:=nxtF_lt (s:=S) (hA z hzl S) hw;refine finK_go n N m S l hA k _ _ ⟨?_, ?_, ?_, ?_, ?_, ?_⟩ (by omega)
     · rw [leftD_snoc,← h.eq];rfl
     · unfold nxtF
       exact List.mem_filter.2 ⟨h.mem,ag_iff.2 (by unfold ptB;simp)⟩
     · intro y hy ht
       unfold nxtF;refine List.mem_filter.2 ⟨h.tw y hy ht,ag_iff.2 ?_⟩;unfold twB at ht;have:=List.all_eq_true.1 ht z hzl
       simpa using this
     · have:=h.sum
       rw [List.length_append,List.length_singleton];omega
     · have h1:=(@filter_lt Tq (prtB n S L) (prtB n S (nxtF n S z L)) (fun x hx=>by
        unfold prtB at *
        rw [List.any_eq_true] at *
        obtain ⟨y,hy,hp⟩:=hx;exact ⟨y,(List.mem_filter.1 hy).1,hp⟩) l).2 z hzl (prt_of (hA z hzl S) hw) (by
        unfold prtB;rw [List.any_eq_false];intro y hy;rw [ag_iff.1 (List.mem_filter.1 hy).2];simp)
       have:=h.tries;rw [List.length_append,List.length_singleton];omega
     · intro f hf
       rcases List.mem_append.1 hf with hf | hf
       · exact h.fit f hf
       · obtain rfl:=List.mem_singleton.1 hf
         exact ⟨z,hzl,rfl,rfl,rfl⟩
structure FinT (n:Int) (N S:Nat) (l:List Tq) (R:List Nat × List Fd):Prop where
 left:R.1=leftD n N R.2
 tw:R.1=(List.range N).filter (twB n l S)
 few:R.2.length<N
 tries:R.2.length≤l.length
 fit:∀ f∈R.2,∃ z∈l,f.b=z.b∧f.i=z.t.i∧f.o=(ansF n S z:Nat)
theorem finT (n:Int) (N m S:Nat) (l:List Tq) (hS:S<N) (hN:N≤64) (hA:∀ z∈l,∀ y,refA n (thB y z.b) z.t.i.toNat<m):FinT n N S l (finF n m S l 64 (List.range N) []):=by
 obtain ⟨h,ht⟩:=finK_go n N m S l hA 64 (List.range N) [] ⟨rfl,List.mem_range.2 hS,fun y hy _=>List.mem_range.2 hy,by simp,by have:=List.length_filter_le (prtB n S (List.range N)) l;simpa using this,fun f hf=>by cases hf⟩ (by simpa using hN);refine ⟨h.eq, ?_, ?_, ?_,h.fit⟩
 · have e:=h.eq
   rw [leftD_eq] at e;rw [e];refine List.filter_congr fun y hy=>?_
   have hy:=List.mem_range.1 hy;rw [Bool.eq_iff_iff];constructor
   · intro hb
     exact ht y (by rw [e];exact List.mem_filter.2 ⟨List.mem_range.2 hy,hb⟩)
   · intro hb
     have:=h.tw y hy hb;rw [e] at this;exact (List.mem_filter.1 this).2
 · have:=h.sum
   have:=List.length_pos_of_mem h.mem;omega
 · have:=h.tries
   omega
def tchB (S:Nat) (p:Nat × Nat):Bool:=decide (p.1=S)||decide (p.2=S)
theorem rowP_cons (tw:Nat→Nat→Bool) (x y:Nat) (r:List Nat):rowP tw x (y::r)=(if decide (x<y)&&tw x y then [(x,y)] else [])++rowP tw x r:=by
 unfold rowP;rw [List.filter_cons];split <;> simp_all
theorem row_self (tw:Nat→Nat→Bool) (S:Nat) (L:List Nat):((rowP tw S L).filter (tchB S)).length=(L.filter fun y=>decide (S<y)&&tw S y).length:=by
 rw [List.filter_eq_self.2 (fun p hp=>?_)]
 · unfold rowP;rw [List.length_map]
 · unfold rowP at hp
   obtain ⟨y,_,rfl⟩:=List.mem_map.1 hp;simp [tchB]
theorem row_other (tw:Nat→Nat→Bool) (S x:Nat) (hx:x≠S):∀ L:List Nat,((rowP tw x L).filter (tchB S)).length=if (decide (x<S)&&tw x S)=true then L.count S else 0
 | []=>by simp [rowP]
 | y :: r => by
   rw [rowP_cons,List.filter_append,List.length_append,row_other tw S x hx r,List.count_cons];by_cases hy:y=S
   · subst hy
     cases hc:(decide (x<y)&&tw x y)
     · simp
     · simp [tchB];omega
   · have e1:(y==S)=false:=by simpa using hy
     rw [e1];have e2:((if (decide (x<y)&&tw x y)=true then [(x,y)] else []).filter (tchB S)).length=0:=by
      split
      · simp [tchB,hx,hy]
      · rfl
     rw [e2];simp
theorem prs_touch (tw:Nat→Nat→Bool) (S:Nat) (L:List Nat) (hL:L.count S=1):∀ pre:List Nat,((prsP tw L pre).filter (tchB S)).length=(pre.filter fun x=>decide (x<S)&&tw x S).length+pre.count S*(L.filter fun y=>decide (S<y)&&tw S y).length
 | []=>by simp [prsP]
 | x :: r => by
   have ih:=prs_touch tw S L hL r;unfold prsP at *
   rw [List.flatMap_cons,List.filter_append,List.length_append,ih,List.filter_cons,List.count_cons];by_cases hx:x=S
   · subst hx
     rw [row_self];simp [Nat.add_mul];omega
   · have e1:(x==S)=false:=by simpa using hx
     rw [row_other tw S x hx,hL,e1];cases hc:(decide (x<S)&&tw x S) <;> simp <;> omega
theorem split_len (tw:Nat→Nat→Bool) (hsym:∀ x y,tw x y=tw y x) (S:Nat) (hr:tw S S=true):∀ L:List Nat,(L.filter (tw S)).length=(L.filter fun x=>decide (x<S)&&tw x S).length+L.count S+(L.filter fun y=>decide (S<y)&&tw S y).length
 | []=>rfl
 | x :: r => by
   have ih:=split_len tw hsym S hr r;rw [List.filter_cons,List.filter_cons,List.filter_cons,List.count_cons,hsym x S];rcases Nat.lt_trichotomy x S with h | h | h
   · have e1:(x==S)=false:=by simpa using Nat.ne_of_lt h
     have e2:decide (S<x)=false:=by simpa using Nat.le_of_lt h
     rw [e1,e2,decide_eq_true h];cases hc:tw S x <;> simp <;> omega
   · subst h
     rw [hr];simp;omega
   · have e1:(x==S)=false:=by simpa using Nat.ne_of_gt h
     have e2:decide (x<S)=false:=by simpa using Nat.le_of_lt h
     rw [e1,e2,decide_eq_true h];cases hc:tw S x <;> simp <;> omega
theorem count_range (S:Nat):∀ N:Nat,(List.range N).count S=if S<N then 1 else 0
 | 0=>rfl
 | N + 1 => by
   rw [List.range_succ,List.count_append,count_range S N,List.count_singleton];by_cases h:N=S
   · subst h;simp
   · have e:(N==S)=false:=by simpa using h
     rw [e];simp only [Bool.false_eq_true,if_false];split <;> split <;> omega
theorem touch_len (tw:Nat→Nat→Bool) (hsym:∀ x y,tw x y=tw y x) (N S:Nat) (hr:tw S S=true) (hS:S<N):1+((prsP tw (List.range N) (List.range N)).filter (tchB S)).length=((List.range N).filter (tw S)).length:=by
 have hc:(List.range N).count S=1:=(count_range S N).trans (if_pos hS);rw [prs_touch tw S _ hc,split_len tw hsym S hr,hc];omega
theorem tw_sym (n:Int) (l:List Tq) (x y:Nat):twB n l x y=twB n l y x:=by
 unfold twB ptB
 congr 1
 funext z
 congr 1
 by_cases h:refA n (thB x z.b) z.t.i.toNat=refA n (thB y z.b) z.t.i.toNat
 · rw [h]
 · rw [decide_eq_true h,decide_eq_true (Ne.symm h)]
theorem tw_self (n:Int) (l:List Tq) (x:Nat):twB n l x x=true:=by
 unfold twB ptB;simp
theorem prs_mem {tw:Nat→Nat→Bool} {L pre:List Nat} {p:Nat × Nat} (h:p∈prsP tw L pre):p.1∈pre∧p.2∈L∧p.1<p.2∧tw p.1 p.2=true:=by
 unfold prsP rowP at h;obtain ⟨x,hx,hp⟩:=List.mem_flatMap.1 h;obtain ⟨y,hy,rfl⟩:=List.mem_map.1 hp;obtain ⟨h1,h2⟩:=List.mem_filter.1 hy;rw [Bool.and_eq_true,decide_eq_true_eq] at h2;exact ⟨hx,h1,h2.1,h2.2⟩
open Go Go.Pt Go.RowKit Prb
theorem has_step {l:List Int} {i:Nat} {y x:Int} (hy:l[i]? = some y) (h:y≠x) (hp:x ∉ l.take i):x ∉ l.take (i+1):=by
 rw [List.take_add_one,hy,Option.toList_some,List.mem_append,List.mem_singleton];rintro (h1 | h1)
 · exact hp h1
 · exact h h1.symm
set_option maxHeartbeats 3200000 in
theorem has_any (a:Option Addr) (cap:Nat) (l:List Int) (x:Int) (w:World) (hl:l.length≤9223372036854775807) (hc:NsA w a l) :
  Calls prog 25 #[.slice a l.length cap,.int .i64 x] w fun e w'=>e=.returned (.bool (decide (x∈l)))∧Grew w w':=by
 have HC:=hid hc;clear hc;go_enter func25,ntmps25
 go_wp2_with fail
 go_loopw [9] (fun v wr=>∃ i:Nat,i≤l.length∧v=.int .i64 i∧Hid (x ∉ l.take i)∧Grew w wr) (fun v _=>l.length - (intOf v).toNat)
 case atStart=>exact ⟨0,Nat.zero_le _,rfl,hid (by simp),Grew.refl _⟩
 case round =>
  obtain ⟨i,hi,rfl,hp,g,k,rfl⟩:=hrel;by_cases hlt:i<l.length
  · obtain ⟨y,hy⟩:∃ y,l[i]? = some y:=⟨l[i],List.getElem?_eq_getElem hlt⟩
    obtain ⟨p,o,rfl,hq,c0⟩:=HC.out i y hy;have p1:=fun m0:Nat=>Nat.lt_add_right m0 hq
    by_cases hxy:y=x
    · subst hxy
      have HM:=hid (List.mem_of_getElem? hy);have e0:(y==y)=true:=by simp
      clear hy hp;go_wp2_with fail
      exact bodyPost_ret (v:=.bool true) (by simp [results,go_sem]) rfl ⟨by rw [decide_eq_true HM.out],gw0⟩
    · have e0:(y==x)=false:=by simpa using hxy
      have HN:=hid (has_step hy hxy hp.out);clear hy hp hxy;go_wp2_with fail
      go_roundw
      case rel=>exact ⟨i+1,by omega,by go_num,HN,gw0⟩
      case measure=>simp [intOf];omega
  · obtain rfl:i=l.length:=by omega
    have HN:Hid (x ∉ l):=hid (by have:=hp.out;rwa [List.take_length] at this);clear hp;go_wp2_with fail
    exact bodyPost_ret (v:=.bool false) (by simp [results,go_sem]) rfl ⟨by rw [decide_eq_false HN.out],gw0⟩
open Go Go.Pt Go.RowKit Prb
theorem finZ_yes {n s:Int} {l:List Tq} (h:finZ n s l=0):∃ N m S:Nat,((n=2∧N=2∧m=2)∨(n=4∧N=64∧m=4))∧S<N∧s=(S:Int)∧l.length≤40∧tqsB n l=true:=by
 have hk:stB n s=true:=by
  cases hk:stB n s with
  | true=>rfl
  | false=>rw [show finZ n s l=2 from if_pos hk] at h;cases h
 have hno:¬ (stB n s=false):=by rw [hk];simp
 have hf:(decide (l.length≤40)&&tqsB n l)=true:=by
  cases hf:(decide (l.length≤40)&&tqsB n l) with
  | true=>rfl
  | false=>rw [show finZ n s l=90 from (if_neg hno).trans (if_pos hf)] at h;cases h
 rw [Bool.and_eq_true,decide_eq_true_eq] at hf;by_cases h2:n=2
 · subst h2
   simp [stB] at hk;exact ⟨2,2,s.toNat,.inl ⟨rfl,rfl,rfl⟩,by omega,by omega,hf.1,hf.2⟩
 · by_cases h4:n=4
   · subst h4
     simp [stB] at hk;exact ⟨64,4,s.toNat,.inr ⟨rfl,rfl,rfl⟩,by omega,by omega,hf.1,hf.2⟩
   · simp [stB,h2,h4] at hk
theorem ans_lt {n:Int} {N m:Nat} (hn:(n=2∧N=2∧m=2)∨(n=4∧N=64∧m=4)) {w:World} {a:Option Addr} {l:List Tq} (hc:TqAt w a l) (h:tqsB n l=true):∀ z∈l,∀ y,refA n (thB y z.b) z.t.i.toNat<m:=fun z hz y=>by
 obtain ⟨i,hi⟩:=List.mem_iff_getElem?.1 hz;obtain ⟨b,off,_,_,_,_,ht⟩:=hc i z hi;obtain ⟨_,_,I,_,_,_,_,hI,hIm,hk⟩:=tq_open hn ht (tqsB_at h z hz);rw [hI,Int.toNat_natCast];exact refA_lt n N m _ hk _ I hIm
theorem tests_fit {n:Int} {N m S:Nat} (hn:(n=2∧N=2∧m=2)∨(n=4∧N=64∧m=4)) {w w':World} {a a':Option Addr} {l Ft:List Tq} (hc:TqAt w a l) (h:tqsB n l=true) (hF:TqAt w' a' Ft)
  (hd:∀ f∈Ft.map fdOf,∃ z∈l,f.b=z.b∧f.i=z.t.i∧f.o=(ansF n S z:Nat)):tqsB n Ft=true:=by
 unfold tqsB tstsB;rw [List.all_eq_true];intro t ht;obtain ⟨z,hz,rfl⟩:=List.mem_map.1 ht;obtain ⟨y,hy,e1,e2,e3⟩:=hd (fdOf z) (List.mem_map.2 ⟨z,hz,rfl⟩);have e1:z.b=y.b:=e1;have e2:z.t.i=y.t.i:=e2;have e3:z.t.o=(ansF n S y:Nat):=e3;obtain ⟨i,hi⟩:=List.mem_iff_getElem?.1 hy;obtain ⟨_,_,_,_,_,_,hty⟩:=hc i y hi;obtain ⟨j,hj⟩:=List.mem_iff_getElem?.1 hz;obtain ⟨_,_,_,_,_,_,htz⟩:=hF j z hj;have hv:=tqsB_at h y hy;have hA:ansF n S y<m:=ans_lt hn hc h y hy S;have hnm:n=(m:Int):=by rcases hn with ⟨rfl,_,rfl⟩ | ⟨rfl,_,rfl⟩ <;> rfl
 unfold tstB at hv ⊢;rw [htz.1,e1,e2,← hty.1,e3];rw [Bool.and_eq_true] at hv ⊢;refine ⟨hv.1, ?_⟩;simp;omega
theorem tqAt_nil (w:World):TqAt w none []:=fun i z hz=>by cases hz
structure TwC (n:Int) (N S:Nat) (a:Option Addr) (cap:Nat) (l:List Tq) (R:List Nat × List Fd) (w:World):Prop where
 find:∀ w',Grew w w'→Calls prog 26 #[.int .i64 n,.int .i64 S,.slice a l.length cap] w' fun e w''=>∃ (a1:Option Addr) (k1:Nat) (Ft:List Tq) (a2:Option Addr) (k2:Nat),e=.returned (.tuple #[.slice a1 R.2.length k1,.slice a2 R.1.length k2,.int .i64 0])∧TqAt w'' a1 Ft∧Ft.map fdOf=R.2∧NsA w'' a2 (ints R.1)∧Below w.heap.size w w''
 left:∀ w' a1 k1 Ft,Below w.heap.size w w'→TqAt w' a1 Ft→Ft.map fdOf=R.2→Calls prog 14 #[.int .i64 n,.slice a1 R.2.length k1] w' fun e w''=>∃ (a2:Option Addr) (k2:Nat),e=.returned (.tuple #[.slice a2 R.1.length k2,.int .i64 0])∧NsA w'' a2 (ints R.1)∧Below w'.heap.size w' w''∧Below w.heap.size w w''
 all:∀ w',Below w.heap.size w w'→Calls prog 14 #[.int .i64 n,.slice none 0 0] w' fun e w''=>∃ (a2:Option Addr) (k2:Nat),e=.returned (.tuple #[.slice a2 N k2,.int .i64 0])∧NsA w'' a2 (ints (List.range N))∧Below w'.heap.size w' w''∧Below w.heap.size w w''
 twins:∀ w' sa scap,Below w.heap.size w w'→NsA w' sa (ints (List.range N))→Calls prog 18 #[.int .i64 n,.slice sa N scap,.slice a l.length cap] w' fun e w''=>∃ (a2:Option Addr) (k2:Nat),e=.returned (.tuple #[.slice a2 (prsP (twB n l) (List.range N) (List.range N)).length k2,.int .i64 0])∧PsA w'' a2 (prsP (twB n l) (List.range N) (List.range N))∧Below w'.heap.size w' w''∧Below w.heap.size w w''
 same:∀ a b ka kb w',NsA w' a (ints R.1)→NsA w' b (ints R.1)→Calls prog 12 #[.slice a R.1.length ka,.slice b R.1.length kb] w' fun e w''=>e=.returned (.bool true)∧Grew w' w''
 has:∀ a k x w',NsA w' a (ints R.1)→Calls prog 25 #[.slice a R.1.length k,.int .i64 x] w' fun e w''=>e=.returned (.bool (decide (x∈ints R.1)))∧Grew w' w''
 hasAll:∀ a k x w',NsA w' a (ints (List.range N))→Calls prog 25 #[.slice a N k,.int .i64 x] w' fun e w''=>e=.returned (.bool (decide (x∈ints (List.range N))))∧Grew w' w''
 ans:∀ z∈l,∀ y,y<N→∀ w',Below w.heap.size w w'→Calls prog 29 #[.int .i64 n,.int .i64 (y:Nat),.slice z.t.a z.t.len z.t.cap,.int .i64 z.t.i] w' fun e w''=>e=.returned (.tuple #[.int .i64 (ansF n y z:Nat),.int .i64 0])∧Grew w' w''
theorem twC (n:Int) (N m S:Nat) (hn:(n=2∧N=2∧m=2)∨(n=4∧N=64∧m=4)) (hS:S<N) (a:Option Addr) (cap:Nat) (l:List Tq) (w:World) (hl:l.length≤40) (hc:TqAt w a l) (h:tqsB n l=true) (hD:DebAt w) :
  ∃ R,FinT n N S l R∧TwC n N S a cap l R w:=by
 have hA:=ans_lt hn hc h;have hN:N≤64:=by omega
 have hT:=finT n N m S l hS hN hA;have hF:=fun w' (hg:Below w.heap.size w w')=>Find_yes n N m S hn hS a cap l w' hl (hc.below hg) h (hD.of_block (hg.block 0 hD.1))
 obtain ⟨R,hR⟩:∃ R,finF n m S l 64 (List.range N) []=R:=⟨_,rfl⟩;rw [hR] at hT;rw [hR] at hF;have hR1:R.1.length≤64:=by rw [hT.tw];exact Nat.le_trans (List.length_filter_le _ _) (by rw [List.length_range];exact hN)
 refine ⟨R,hT,⟨fun w' hg=>?_,fun w' a1 k1 Ft hg ht he=>?_,fun w' hg=>?_,fun w' sa scap hg hs=>?_,fun a b ka kb w' h1 h2=>?_,fun a k x w' h1=>?_,fun a k x w' h1=>?_,fun z hz y hy w' hg=>?_⟩⟩
 · refine (hF w' hg.below).mono ?_
   rintro e w'' ⟨a1,k1,Ft,a2,k2,rfl,h2,h3,h4,h5⟩;exact ⟨a1,k1,Ft,a2,k2,by rw [← h3,List.length_map],h2,h3,h4,hg.below.trans (h5.mono hg.size)⟩
 · have q1:Ft.length=R.2.length:=by rw [← he,List.length_map]
   have hfit:=tests_fit hn hc h ht (by rw [he];exact hT.fit);have hL:=Left_yes n N m hn a1 k1 Ft w' (by rw [q1];exact Nat.le_trans hT.tries hl) ht hfit (hD.of_block (hg.block 0 hD.1));rw [q1,leftD_of,he,← hT.left] at hL;refine hL.mono ?_;rintro e w'' ⟨a2,k2,rfl,h2,h3⟩;rw [ints_len];exact ⟨a2,k2,rfl,h2,h3,hg.trans (h3.mono hg.size)⟩
 · have hL:=Left_yes n N m hn none 0 [] w' (by simp) (tqAt_nil w') rfl (hD.of_block (hg.block 0 hD.1))
   refine hL.mono ?_;rintro e w'' ⟨a2,k2,rfl,h2,h3⟩;rw [show leftL n N []=List.range N from rfl] at h2 ⊢;rw [ints_len,List.length_range];exact ⟨a2,k2,rfl,h2,h3,hg.trans (h3.mono hg.size)⟩
 · have hlr:(ints (List.range N)).length=N:=by rw [ints_len,List.length_range]
   have hW:=Twins_yes n N m hn sa scap (ints (List.range N)) a cap l w' (by rw [hlr];omega) hl hs (ok_ints (asc_range N) (fun y hy=>List.mem_range.1 hy) (fun y hy=>by omega)) (hc.below hg) h (hD.of_block (hg.block 0 hD.1));rw [hlr,ints_nat] at hW;refine hW.mono ?_;rintro e w'' ⟨a2,k2,rfl,h2,h3⟩;exact ⟨a2,k2,rfl,h2,h3,hg.trans (h3.mono hg.size)⟩
 · have hq:=same_any a b ka kb (ints R.1) w' (by rw [ints_len];omega) h1 h2
   rw [ints_len] at hq;exact hq
 · have hq:=has_any a k (ints R.1) x w' (by rw [ints_len];omega) h1
   rw [ints_len] at hq;exact hq
 · have hq:=has_any a k (ints (List.range N)) x w' (by rw [ints_len,List.length_range];omega) h1
   rw [ints_len,List.length_range] at hq;exact hq
 · obtain ⟨i,hi⟩:=List.mem_iff_getElem?.1 hz
   obtain ⟨b,off,_,_,_,_,ht⟩:=hc.below hg i z hi;obtain ⟨tb,toff,I,e1,hb,hbl,e2,e3,hI,hk⟩:=tq_open hn ht (tqsB_at h z hz);have hq:=Answer_yes n N m y I tb toff z.t.cap z.b w' hk hy hI hb hbl;unfold ansF;rw [e1,e2,e3,Int.toNat_natCast];exact hq
end Go.Proofs.Qm
