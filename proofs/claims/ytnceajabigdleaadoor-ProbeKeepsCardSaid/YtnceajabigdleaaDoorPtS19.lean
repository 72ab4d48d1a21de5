/- tables of main's ghost: the table, row behind row. No condition. -/
import Derived.Test.YtnceajabigdleaaDoorPtS18
namespace Go.Proofs.Qm
open Go Go.Pt Go.RowKit
theorem zok:ZOk prog:=⟨by rw [p_info];kernel_rfl,(p_underlying 22).trans Tryd.underlying22⟩
theorem wpList_append_new {P:Program} (H:ZOk P) {w:World} {ops:Array Oper} {rest:List Oper} {o:Oper} {a:Act} {Q:Exit→Act→World→Prop} (hgd:o.guard=none) (s x:Operand)
  (ho:o.op=.call { callee:=.builtin .append,args:=#[s,x],argTypes:=#[22,22] }) (hs:a.eval s=.slice none 0 0) (b n c:Nat) (zs:List Int) (hl:zs.length=n) (hn:0<n) (hsm:n≤1000)
  (hx:a.eval x=.slice (some ⟨b,0,none⟩) n c) (hz:∀ j z,zs[j]? = some z→w.cell? ⟨b,j,none⟩=some (.int .i64 z))
  (h:wpList P ops Q rest (a.put o.dst (.slice (some ⟨w.heap.size,0,none⟩) n (grownCap w n 0 3))) (w.drew.alloc (.cells (zFull zs (grownCap w n 0 3)).toArray 3))):wpList P ops Q (o::rest) a w:=by
 refine wpList_plain hgd fun K hK=>?_
 obtain ⟨i,hi,h0,h1,h2⟩:=info_parts H.info;have hnews:∀ j u,(zCells zs)[j]? = some u→w.cell? ((⟨b,0,none⟩:Addr).add j)=some u:=fun j u hj=>by
  rw [Addr.add_lit,Nat.zero_add];obtain ⟨z,hz1,rfl⟩:=List.mem_map.1 (List.mem_of_getElem? hj);have hj2:zs[j]? = some z:=by
   simp only [zCells,List.getElem?_map] at hj;obtain ⟨z',h3,h4⟩:=Option.map_eq_some_iff.1 hj;injection h4 with _ h4;rw [h3,h4]
  exact hz j z hj2
 have hr:=run_append_nil (P:=P) w 22 o.type 3 i (.int .i64 0) H.und hi h0 ⟨b,0,none⟩ n c (zCells zs) (by rw [h1];simp [zCells,hl]) hnews hn (by omega) (by rw [h2];omega);have e:(zCells zs).toArray++Builtin.zeroCells (Value.int .i64 0).cells (grownCap w n 0 3 - n)=(zFull zs (grownCap w n 0 3)).toArray:=by
  rw [zeros_full];simp [zFull,hl]
 rw [e] at hr;unfold Oper.wp execOp;simp only [ho,resolve,invoke,builtin,Sem.run_bind,Sem.run_pure,Result.andThen_ok,List.map_toArray,List.map_cons,List.map_nil,hs,hx,hr];exact hK _ _ h
theorem row4 (x0 t1 t2 t3 t5 t6 t7:Value) (tl:List Value) (z0 z1 z2 z3:Int) (k C N:Nat) (hk:k<N) (w:World) (u:Value) (hC:C<w.heap.size) (hc:w.cell? ⟨C,k,none⟩=some u) (hf:w.frozen? ⟨C,k,none⟩=false) (Q:Exit→Act→World→Prop)
  (h:∀ a5 a6 a7,Q .normal ⟨⟨x0::t1::t2::t3::.slice (some ⟨C,0,none⟩) N N::a5::a6::a7::tl⟩,[]⟩
    (((w.setCell ⟨C,k,none⟩ (.slice (some ⟨w.heap.size+1,0,none⟩) 4 (grownCap w 4 0 3))).alloc (.cells (zCells [z0,z1,z2,z3]).toArray 3)).alloc (.cells (zFull [z0,z1,z2,z3] (grownCap w 4 0 3)).toArray 3)).drew) :
  (rowC 22 73 4 [z0,z1,z2,z3] k).wp prog Q ⟨⟨x0::t1::t2::t3::.slice (some ⟨C,0,none⟩) N N::t5::t6::t7::tl⟩,[]⟩ w:=by
 have hlt:(k:Int)<(N:Int):=by omega
 have hi0:(0:Int)≤(k:Int):=by omega
 have q0:∀ a,C<w.heap.size+a:=fun _=>by omega
 have q1:∀ a c,C<w.heap.size+a+c:=fun _ _=>by omega
 have HH:=hid h;clear h;simp only [rowC,List.mapIdx_cons,List.mapIdx_nil,Nat.zero_add,Nat.reduceAdd];go_wp2_with (at_builtin;refine wpList_append_new zok rfl _ _ rfl rfl w.heap.size 4 _ [z0,z1,z2,z3] rfl (by omega) (by omega) rfl ?cz ?_)
 case cz =>
  intro j z hj;have hlt:j<4:=(List.getElem?_eq_some_iff.1 hj).1;have h1:=heap_alloc_new w (.cells (zCells [z0,z1,z2,z3]).toArray 3);have h2:(w.alloc (.cells (zCells [z0,z1,z2,z3]).toArray 3)).cell? ⟨w.heap.size,j,none⟩=some (.int .i64 z):=by
   simp only [World.cell?,h1];simp only [Option.isSome_none,Bool.false_eq_true,if_false,List.getElem?_toArray];exact zCells_at hj
  exact h2
 exact HH.out _ _ _
theorem row2 (x0 t1 t2 t3 t5 t6 t7:Value) (tl:List Value) (z0 z1:Int) (k C N:Nat) (hk:k<N) (w:World) (u:Value) (hC:C<w.heap.size) (hc:w.cell? ⟨C,k,none⟩=some u) (hf:w.frozen? ⟨C,k,none⟩=false) (Q:Exit→Act→World→Prop)
  (h:∀ a5 a6 a7,Q .normal ⟨⟨x0::t1::t2::t3::.slice (some ⟨C,0,none⟩) N N::a5::a6::a7::tl⟩,[]⟩
    (((w.setCell ⟨C,k,none⟩ (.slice (some ⟨w.heap.size+1,0,none⟩) 2 (grownCap w 2 0 3))).alloc (.cells (zCells [z0,z1]).toArray 3)).alloc (.cells (zFull [z0,z1] (grownCap w 2 0 3)).toArray 3)).drew) :
  (rowC 22 73 2 [z0,z1] k).wp prog Q ⟨⟨x0::t1::t2::t3::.slice (some ⟨C,0,none⟩) N N::t5::t6::t7::tl⟩,[]⟩ w:=by
 have hlt:(k:Int)<(N:Int):=by omega
 have hi0:(0:Int)≤(k:Int):=by omega
 have q0:∀ a,C<w.heap.size+a:=fun _=>by omega
 have q1:∀ a c,C<w.heap.size+a+c:=fun _ _=>by omega
 have HH:=hid h;clear h;simp only [rowC,List.mapIdx_cons,List.mapIdx_nil,Nat.zero_add];go_wp2_with (at_builtin;refine wpList_append_new zok rfl _ _ rfl rfl w.heap.size 2 _ [z0,z1] rfl (by omega) (by omega) rfl ?cz ?_)
 case cz =>
  intro j z hj;have hlt:j<2:=(List.getElem?_eq_some_iff.1 hj).1;have h1:=heap_alloc_new w (.cells (zCells [z0,z1]).toArray 3);have h2:(w.alloc (.cells (zCells [z0,z1]).toArray 3)).cell? ⟨w.heap.size,j,none⟩=some (.int .i64 z):=by
   simp only [World.cell?,h1];simp only [Option.isSome_none,Bool.false_eq_true,if_false,List.getElem?_toArray];exact zCells_at hj
  exact h2
 exact HH.out _ _ _
def capOf (n:Nat) (w0:World) (i:Nat):Nat:=n+w0.tape (w0.drawn+i) (.appendCap n 0 3) % (2 ^ 63 - n)
structure TInv (n:Nat) (L:Nat→List Int) (w0 w:World) (N k:Nat):Prop where
 grew:Grew w0 w
 size:w.heap.size=w0.heap.size+1+2*k
 drawn:w.drawn=w0.drawn+k
 tab:∃ rows:Array Value,w.heap[w0.heap.size]? = some (.cells rows 22)∧rows.size=N∧∀ i,i<k→rows[i]? = some (.slice (some ⟨w0.heap.size+2+2*i,0,none⟩) n (capOf n w0 i))
 row:∀ i,i<k→w.heap[w0.heap.size+2+2*i]? = some (.cells (zFull (L i) (capOf n w0 i)).toArray 3 (0,0))
theorem Grew.tape {w w':World} (h:Grew w w'):w'.tape=w.tape:=by obtain ⟨g,n,rfl⟩:=h;rfl
theorem TInv.cap {n:Nat} {L:Nat→List Int} {w0 w:World} {N k:Nat} (h:TInv n L w0 w N k):grownCap w n 0 3=capOf n w0 k:=by
 unfold grownCap capOf;rw [Grew.tape h.grew,h.drawn];rfl
theorem TInv.next {n:Nat} {L:Nat→List Int} {w0 w:World} {N k:Nat} (h:TInv n L w0 w N k) (hk:k<N) (A:Obj) :
  TInv n L w0 (((w.setCell ⟨w0.heap.size,k,none⟩ (.slice (some ⟨w.heap.size+1,0,none⟩) n (grownCap w n 0 3))).alloc A).alloc (.cells (zFull (L k) (grownCap w n 0 3)).toArray 3)).drew N (k+1):=by
 rw [h.cap];have hsz:=h.size;obtain ⟨rows,h1,h2,h3⟩:=h.tab;obtain ⟨v,hv⟩:∃ v:Value,.slice (some ⟨w.heap.size+1,0,none⟩) n (capOf n w0 k)=v:=⟨_,rfl⟩;rw [hv];have hA:=Go.Conc.aside_setCell w ⟨w0.heap.size,k,none⟩ v;have hs1:(w.setCell ⟨w0.heap.size,k,none⟩ v).heap.size=w.heap.size:=hA.size;have hset:(w.setCell ⟨w0.heap.size,k,none⟩ v).heap[w0.heap.size]? = some (.cells (rows.setIfInBounds k v) 22 (0,0)):=by
  rw [setCell_eq_setRow w w0.heap.size k rows 22 (0,0) _ h1,setRow_heap w w0.heap.size _ _ 22 _ h1]
 have hold:∀ b,b<w.heap.size→(((w.setCell ⟨w0.heap.size,k,none⟩ v).alloc A).alloc (.cells (zFull (L k) (capOf n w0 k)).toArray 3)).drew.heap[b]? = (w.setCell ⟨w0.heap.size,k,none⟩ v).heap[b]? := fun b hb=>by
  show (((w.setCell ⟨w0.heap.size,k,none⟩ v).alloc A).alloc _).heap[b]? = _
  rw [heap_alloc_old _ _ (show b<((w.setCell ⟨w0.heap.size,k,none⟩ v).alloc A).heap.size by simp;omega),heap_alloc_old _ _ (by rw [hs1];exact hb)]
 refine ⟨?_, ?_, ?_,⟨rows.setIfInBounds k v,(hold _ (by omega)).trans hset,by simpa using h2,fun i hi=>?_⟩,fun i hi=>?_⟩
 · have hg:Grew w0 (w.setCell ⟨w0.heap.size,k,none⟩ v):=Grew.by h.grew (grownBy_set w w0.heap.size k v) (Nat.le_refl _) (fun j hj=>by cases hj;exact Nat.le_refl _)
   exact ((hg.alloc _).alloc _).drew
 · show (((w.setCell ⟨w0.heap.size,k,none⟩ v).alloc A).alloc _).heap.size=_
   simp;omega
 · show w.drawn+1=_
   have:=h.drawn;omega
 · by_cases e:i=k
   · subst e
     rw [← hv];simp only [Array.getElem?_setIfInBounds_self,h2,hk,if_true];rw [show w.heap.size+1=w0.heap.size+2+2*i by omega]
   · rw [Array.getElem?_setIfInBounds_ne (by omega)]
     exact h3 i (by omega)
 · by_cases e:i=k
   · subst e
     have h4:=heap_alloc_new ((w.setCell ⟨w0.heap.size,i,none⟩ v).alloc A) (.cells (zFull (L i) (capOf n w0 i)).toArray 3);rw [show ((w.setCell ⟨w0.heap.size,i,none⟩ v).alloc A).heap.size=w0.heap.size+2+2*i by simp;omega] at h4;exact h4
   · have h5:w0.heap.size+2+2*i<w.heap.size:=by omega
     rw [hold _ h5,hA.block _ (show w0.heap.size+2+2*i≠w0.heap.size by omega)];exact h.row i (by omega)
theorem info_l:(prog.info? 22).map (fun i=>(i.zero,i.size,i.bytes))=some (some (.slice none 0 0),1,24):=by rw [p_info];exact YtnW.info_l
theorem run_mkQ (m:Nat) (hm:m≤100) (w:World):Sem.run prog (Instr.makeSlice 73 (.int .i64 m) (.int .i64 m)) w=.ok (.slice (some ⟨w.heap.size,0,none⟩) m m) (w.alloc (.cells (YtnW.nilC m) 22)):=by
 obtain ⟨i0,hi,hz0,hz1,hz2⟩:=info_parts info_l;have hr:=run_make (P:=prog) w 73 22 i0 (.slice none 0 0) ((p_underlying 73).trans Tryd.underlying73) hi hz0 .i64 .i64 m m (by omega) (Int.le_refl _) (by rw [hz2];omega) (by omega);rw [hz1,Int.toNat_natCast,YtnW.made22 m] at hr;exact hr
theorem TInv.zero (n:Nat) (L:Nat→List Int) (w0:World) (N:Nat):TInv n L w0 (w0.alloc (.cells (YtnW.nilC N) 22)) N 0 :=
 ⟨(Grew.refl _).alloc _,by simp,rfl,⟨_,heap_alloc_new w0 _,by simp [YtnW.nilC],fun i hi=>absurd hi (Nat.not_lt_zero i)⟩,fun i hi=>absurd hi (Nat.not_lt_zero i)⟩
def LT (n i:Nat):List Int:=Ghw.thr n (YtnW.bitsOf i)
theorem rowsT_eq (n N:Nat):rowsT n N=(List.range' 0 N).map (LT n):=by unfold rowsT LT;rw [List.range_eq_range']
theorem rows4_wp (w0:World) (x0 t1 t2 t3:Value) (tl:List Value) (X:Code) (Q:Exit→Act→World→Prop) (hX:∀ a5 a6 a7 w,TInv 4 (LT 4) w0 w 64 64→X.wp prog Q ⟨⟨x0::t1::t2::t3::.slice (some ⟨w0.heap.size,0,none⟩) 64 64::a5::a6::a7::tl⟩,[]⟩ w) :
  ∀ j k,k+j=64→∀ t5 t6 t7 w,TInv 4 (LT 4) w0 w 64 k→(rowsC 22 73 4 ((List.range' k j).map (LT 4)) k X).wp prog Q ⟨⟨x0::t1::t2::t3::.slice (some ⟨w0.heap.size,0,none⟩) 64 64::t5::t6::t7::tl⟩,[]⟩ w:=by
 intro j
 induction j with
 | zero =>
   intro k hk t5 t6 t7 w h;obtain rfl:k=64:=by omega
   exact hX _ _ _ _ h
 | succ j ih =>
   intro k hk t5 t6 t7 w h;rw [List.range'_succ,List.map_cons];simp only [rowsC];refine wp_seq_k fun K hK=>?_
   obtain ⟨rows,h1,h2,h3⟩:=h.tab;have hlt:k<rows.size:=by omega
   have hC:w0.heap.size<w.heap.size:=(Array.getElem?_eq_some_iff.1 h1).1;refine row4 x0 t1 t2 t3 t5 t6 t7 tl _ _ _ _ k w0.heap.size 64 (by omega) w (rows[k]'hlt) hC (by simp [World.cell?,h1,hlt]) (by simp [World.frozen?,h1]) _ fun a5 a6 a7=>?_
   exact hK _ _ (ih (k+1) (by omega) a5 a6 a7 _ (h.next (by omega) _))
set_option maxHeartbeats 1000000 in
theorem tables4_calls (xs:Array Value) (t1 t2 t3 t4 t5 t6 t7:Value) (tl:List Value) (hxs:xs++Array.replicate (22 - xs.size) undef=⟨.int .i64 4::t1::t2::t3::t4::t5::t6::t7::tl⟩) (w0:World) :
  Calls prog 34 xs w0 fun e w'=>∃ v,e=.returned v∧v=.slice (some ⟨w0.heap.size,0,none⟩) 64 64∧TInv 4 (LT 4) w0 w' 64 64:=by
 refine calls_of_wp at34 rfl ?_;rw [show own34.ntmps=22 from rfl,hxs];have hl2:(rowsT 2 2).length=2:=rfl;have hl4:(rowsT 4 64).length=64:=rfl;have w4:IntKind.i64.wrap 4=4:=by decide
 simp only [bodyT];go_wp2_with fail
 simp only [tabC,hl4];refine wp_seq_k fun K hK=>?_
 have HK:=hid hK;clear hK;have hmk:Sem.run prog (Instr.makeSlice 73 (.int .i64 64) (.int .i64 64)) w0=.ok (.slice (some ⟨w0.heap.size,0,none⟩) 64 64) (w0.alloc (.cells (YtnW.nilC 64) 22)):=run_mkQ 64 (by omega) w0;go_wp2_with fail
 refine HK.out _ _ ?_;rw [rowsT_eq];refine rows4_wp w0 _ _ _ _ tl _ _ (fun a5 a6 a7 w hT=>?_) 64 0 rfl _ _ _ _ (TInv.zero 4 (LT 4) w0 64);have HT:=hid hT;clear hT hmk;go_wp2_with fail
 exact bodyPost_ret (v:=.slice (some ⟨w0.heap.size,0,none⟩) 64 64) (by simp [results,own34,go_sem]) rfl ⟨_,rfl,rfl,HT.out⟩
theorem rows2_wp (w0:World) (x0 t1 t2 t3:Value) (tl:List Value) (X:Code) (Q:Exit→Act→World→Prop) (hX:∀ a5 a6 a7 w,TInv 2 (LT 2) w0 w 2 2→X.wp prog Q ⟨⟨x0::t1::t2::t3::.slice (some ⟨w0.heap.size,0,none⟩) 2 2::a5::a6::a7::tl⟩,[]⟩ w) :
  ∀ j k,k+j=2→∀ t5 t6 t7 w,TInv 2 (LT 2) w0 w 2 k→(rowsC 22 73 2 ((List.range' k j).map (LT 2)) k X).wp prog Q ⟨⟨x0::t1::t2::t3::.slice (some ⟨w0.heap.size,0,none⟩) 2 2::t5::t6::t7::tl⟩,[]⟩ w:=by
 intro j
 induction j with
 | zero =>
   intro k hk t5 t6 t7 w h;obtain rfl:k=2:=by omega
   exact hX _ _ _ _ h
 | succ j ih =>
   intro k hk t5 t6 t7 w h;rw [List.range'_succ,List.map_cons];simp only [rowsC];refine wp_seq_k fun K hK=>?_
   obtain ⟨rows,h1,h2,h3⟩:=h.tab;have hlt:k<rows.size:=by omega
   have hC:w0.heap.size<w.heap.size:=(Array.getElem?_eq_some_iff.1 h1).1;refine row2 x0 t1 t2 t3 t5 t6 t7 tl _ _ k w0.heap.size 2 (by omega) w (rows[k]'hlt) hC (by simp [World.cell?,h1,hlt]) (by simp [World.frozen?,h1]) _ fun a5 a6 a7=>?_
   exact hK _ _ (ih (k+1) (by omega) a5 a6 a7 _ (h.next (by omega) _))
set_option maxHeartbeats 1000000 in
theorem tables2_calls (xs:Array Value) (t1 t2 t3 t4 t5 t6 t7:Value) (tl:List Value) (hxs:xs++Array.replicate (22 - xs.size) undef=⟨.int .i64 2::t1::t2::t3::t4::t5::t6::t7::tl⟩) (w0:World) :
  Calls prog 34 xs w0 fun e w'=>∃ v,e=.returned v∧v=.slice (some ⟨w0.heap.size,0,none⟩) 2 2∧TInv 2 (LT 2) w0 w' 2 2:=by
 refine calls_of_wp at34 rfl ?_;rw [show own34.ntmps=22 from rfl,hxs];have hl2:(rowsT 2 2).length=2:=rfl;have hl4:(rowsT 4 64).length=64:=rfl;have w4:IntKind.i64.wrap 2=2:=by decide
 simp only [bodyT];go_wp2_with fail
 simp only [tabC,hl2];refine wp_seq_k fun K hK=>?_
 have HK:=hid hK;clear hK;have hmk:Sem.run prog (Instr.makeSlice 73 (.int .i64 2) (.int .i64 2)) w0=.ok (.slice (some ⟨w0.heap.size,0,none⟩) 2 2) (w0.alloc (.cells (YtnW.nilC 2) 22)):=run_mkQ 2 (by omega) w0;go_wp2_with fail
 refine HK.out _ _ ?_;rw [rowsT_eq];refine rows2_wp w0 _ _ _ _ tl _ _ (fun a5 a6 a7 w hT=>?_) 2 0 rfl _ _ _ _ (TInv.zero 2 (LT 2) w0 2);have HT:=hid hT;clear hT hmk;go_wp2_with fail
 exact bodyPost_ret (v:=.slice (some ⟨w0.heap.size,0,none⟩) 2 2) (by simp [results,own34,go_sem]) rfl ⟨_,rfl,rfl,HT.out⟩
open Go Go.Pt Go.Conc Go.RowKit Go.Conc.Lib Go.ConcR.Gen
theorem sur_step {Q:Program} {c0:Frame} {Rp:Frame→World→Prop} {fr fr':Frame} {cs cs':List Frame} {w w':World} {es:Array Event} (h:Sur Q (StopAt c0 Rp) fr cs w) (hm:fr.mode=.run) (hs:stepG Q true (G fr cs) w=.go (G fr' cs') w' es):Sur Q (StopAt c0 Rp) fr' cs' w':=by
 cases h with
 | stop h=>rw [h.2.1] at hm;cases hm
 | step nf h1 h2 =>
   have k1:=h1 w.tape (fun _ _=>rfl);have e:w.retape w.tape=w:=rfl;rw [e,hs] at k1;simp only [GStep.go.injEq,G,Goroutine.mk.injEq] at k1;obtain ⟨⟨g1,g2,_⟩,hw,_⟩:=k1;have:=h2 w.tape (fun _ _=>rfl);rw [← g1,← g2,← hw] at this;exact this
theorem sur_end {Q:Program} {c0:Frame} {Rp:Frame→World→Prop} {fr:Frame} {cs:List Frame} {w w':World} {o:Outcome} {es:Array Event} (h:Sur Q (StopAt c0 Rp) fr cs w) (hm:fr.mode=.run) (hs:stepG Q true (G fr cs) w=.ended o w' es):False:=by
 cases h with
 | stop h=>rw [h.2.1] at hm;cases hm
 | step nf h1 h2 =>
   have k1:=h1 w.tape (fun _ _=>rfl);have e:w.retape w.tape=w:=rfl;rw [e,hs] at k1;cases k1
def opM:Oper:={ dst:=some 1,op:=.binOp .mul 3 (.tmp 0) (.const (.int .i64 1)) 3,type:=3,pos:= "",after:=#[],guard:=none }
theorem mul_halts (T:Array Value) (h:∀ n,T.getD 0 undef≠.int .i64 n) (w:World):∃ x,(execOp (Act.eval ⟨T,[]⟩) opM).run prog w=.halt x w∧((∃ s,x=.stuck s)∨x=.unsupported .addressObserved):=by
 unfold execOp opM;simp only [Act.eval];generalize T.getD 0 undef=v0 at h ⊢;cases v0 with
 | int k n =>
   by_cases hk:k=.i64
   · subst hk
     exact absurd rfl (h n)
   · simp [eqGuard,binOp,hk]
 | _=>simp [eqGuard,binOp]
def opE (d:Nat) (z:Int):Oper:={ dst:=some d,op:=.binOp .eql 3 (.tmp 0) (.const (.int .i64 z)) 3,type:=0,pos:= "",after:=#[],guard:=none }
theorem list4 {l:List Value} (h:4≤l.length):∃ v0 v1 v2 v3 tl,l=v0::v1::v2::v3::tl:=by
 match l,h with
 | v0::v1::v2::v3::tl,_=>exact ⟨v0,v1,v2,v3,tl,rfl⟩
theorem enter_n {c0:Frame} {Rp:Frame→World→Prop} {xs:Array Value} {cs:List Frame} {gw:World} (h:Sur prog (StopAt c0 Rp) (Frame.enter prog 34 xs .normal) cs gw) :
  (xs++Array.replicate (22 - xs.size) undef).getD 0 undef=.int .i64 2∨(xs++Array.replicate (22 - xs.size) undef).getD 0 undef=.int .i64 4:=by
 rw [enter_at (c:=bodyT 22 73 3 (rowsT 2 2) (rowsT 4 64)) xs at34 rfl,show own34.ntmps=22 from rfl] at h;have hsz:4≤(xs++Array.replicate (22 - xs.size) undef).toList.length:=by simp;omega
 generalize xs++Array.replicate (22 - xs.size) undef=T at h hsz ⊢;obtain ⟨l⟩:=T;obtain ⟨v0,v1,v2,v3,tl,rfl⟩:=list4 hsz;clear hsz;have h1:=sur_step h rfl stepG_seq;have h2:=sur_step h1 rfl stepG_region;have h2':Sur prog (StopAt c0 Rp) ((base 34).at ⟨⟨v0::v1::v2::v3::tl⟩,[]⟩ (.inRegion #[opM,opE 2 2,opE 3 4] [0,1,2]::[.code (.cond (.tmp 2) (tabC 22 73 2 (rowsT 2 2)) (.cond (.tmp 3) (tabC 22 73 4 (rowsT 4 64)) (.refuse "no such network")))])) cs gw:=h2;clear h h1 h2;by_cases hn:∃ n,v0=.int .i64 n
 · obtain ⟨n,rfl⟩:=hn
   have h3:=sur_step h2' rfl (stepG_value (o:=opM) (v:=.int .i64 (IntKind.i64.wrap n)) (w':=gw) rfl rfl (base_kind 34) (by simp [opM,execOp,eqGuard,binOp,Op.intArith,Act.eval]));have h4:=sur_step h3 rfl (stepG_value (o:=opE 2 2) (v:=.bool (n==2)) (w':=gw) rfl rfl (base_kind 34) (by simp [opM,opE,execOp,eqGuard,binOp,Op.intCmp,Act.eval,Act.put]));have h5:=sur_step h4 rfl (stepG_value (o:=opE 3 4) (v:=.bool (n==4)) (w':=gw) rfl rfl (base_kind 34) (by simp [opM,opE,execOp,eqGuard,binOp,Op.intCmp,Act.eval,Act.put]));have h6:=sur_step h5 rfl stepG_region_end;have h7:=sur_step h6 rfl (stepG_cond (t:=n==2) rfl);cases e2:(n==2) with
   | true=>left;simp at e2;subst e2;rfl
   | false =>
     rw [e2] at h7;have h8:=sur_step h7 rfl (stepG_cond (t:=n==4) rfl);cases e4:(n==4) with
     | true=>right;simp at e4;subst e4;rfl
     | false =>
       rw [e4] at h8;exact (sur_end h8 rfl (by simp [G,stepG,stepG.exec,Frame.at];first | rfl | exact ⟨rfl,rfl,rfl⟩)).elim
 · exfalso
   obtain ⟨x,hx,hxx⟩:=mul_halts ⟨v0::v1::v2::v3::tl⟩ (fun n e=>hn ⟨n,e⟩) gw;have hst:=stepG_oper (P:=prog) (main:=true) (b:=base 34) (a:=⟨⟨v0::v1::v2::v3::tl⟩,[]⟩) (k:=[.code (.cond (.tmp 2) (tabC 22 73 2 (rowsT 2 2)) (.cond (.tmp 3) (tabC 22 73 4 (rowsT 4 64)) (.refuse "no such network")))]) (cs:=cs) (w:=gw) (ops:=#[opM,opE 2 2,opE 3 4]) (i:=0) (rest:=[1,2]) (o:=opM) rfl rfl;rcases hxx with ⟨s,rfl⟩ | rfl
   · exact sur_end h2' rfl (hst.trans (by simp [stepG.apply,hx,GStep.after];first | rfl | exact ⟨rfl,rfl,rfl⟩))
   · exact sur_end h2' rfl (hst.trans (by simp [stepG.apply,hx,GStep.after];first | rfl | exact ⟨rfl,rfl,rfl⟩))
open Go Go.Pt Go.Conc Go.RowKit Go.Conc.Lib Go.ConcR.Gen
open Go.Proofs.YtnW (TabR Kp body34)
def tabInj (p:Inj) (gb wb N C:Nat) (g:Nat→Nat) (hlt:∀ a b,p.r a b→a<gb∧b<wb) (h1:p.g≤gb) (h2:p.g≤wb) (hC:wb≤C) (hg:∀ i,i<N→wb≤g i∧g i≠C) (hi:∀ i j,i<N→j<N→i≠j→g i≠g j):Inj where
 g:=p.g
 ok:=p.ok
 dang:=p.dang
 r:=fun a b=>p.r a b∨(a=gb∧b=C)∨∃ i,i<N∧a=gb+2+2*i∧b=g i
 fn:=by
  rintro a b c (h | ⟨rfl,rfl⟩ | ⟨i,k1,rfl,rfl⟩) (h' | ⟨e,rfl⟩ | ⟨j,k2,e,rfl⟩)
  · exact p.fn h h'
  · subst e;exact absurd (hlt _ _ h).1 (Nat.lt_irrefl _)
  · subst e;have:=(hlt _ _ h).1;omega
  · exact absurd (hlt _ _ h').1 (Nat.lt_irrefl _)
  · rfl
  · omega
  · have:=(hlt _ _ h').1;omega
  · omega
  · obtain rfl:i=j:=by omega
    rfl
 inj:=by
  rintro a b c (h | ⟨rfl,rfl⟩ | ⟨i,k1,rfl,rfl⟩) (h' | ⟨rfl,e⟩ | ⟨j,k2,rfl,e⟩)
  · exact p.inj h h'
  · subst e;have:=(hlt _ _ h).2;omega
  · subst e;have:=(hlt _ _ h).2;have:=(hg j k2).1;omega
  · have:=(hlt _ _ h').2;omega
  · rfl
  · exact absurd e.symm (hg j k2).2
  · have:=(hlt _ _ h').2;have:=(hg i k1).1;omega
  · exact absurd e (hg i k1).2
  · by_cases hij:i=j
    · rw [hij]
    · exact absurd e (hi i j k1 k2 hij)
 low:=by
  rintro a b (h | ⟨rfl,rfl⟩ | ⟨i,k1,rfl,rfl⟩)
  · exact p.low h
  · constructor <;> intro <;> omega
  · have:=(hg i k1).1
    constructor <;> intro <;> omega
theorem ints_rel (q:Inj) (l:List Int) (k:Nat):ARel q (zFull l k).toArray (zFull l k).toArray:=by
 refine ⟨rfl,fun x a a' h1 h2=>?_⟩;rw [h1] at h2;cases h2;rw [List.getElem?_toArray] at h1;have hm:=List.mem_of_getElem? h1;unfold zFull zCells at hm;rcases List.mem_append.1 hm with hm | hm
 · obtain ⟨z,_,rfl⟩:=List.mem_map.1 hm
   exact .int _ _
 · rw [(List.mem_replicate.1 hm).2]
   exact .int _ _
theorem phase_join {n N:Nat} {p:Inj} {S:Nat→Prop} {gw w:World} (hH:Here prog (·=0) p S gw w) {τ:Nat→Question→Nat} {gw2 w2:World} {S2:Nat→Prop} {C:Nat} {g cap:Nat→Nat} (hcap:∀ i,i<N→capOf n (gw.retape τ) i=cap i)
  (hT:TInv n (LT n) (gw.retape τ) gw2 N N) (hK:Kp w w2) (hR:TabR n N w w2 S2 C g cap) (hS2:∀ b,S2 b→S b∨w.heap.size≤b) :
  ∃ p',p.le p'∧VRel p' (.slice (some ⟨gw.heap.size,0,none⟩) N N) (.slice (some ⟨C,0,none⟩) N N)∧Here prog (·=0) p' S2 gw2 w2∧Keep p p' w w2:=by
 have hlt:∀ a b,p.r a b→a<gw.heap.size∧b<w.heap.size:=fun a b h=>hH.wrel.lt h
 have hT':TInv n (LT n) (gw.retape τ) gw2 N N:=hT;have hgb:(gw.retape τ).heap.size=gw.heap.size:=rfl;refine ⟨tabInj p gw.heap.size w.heap.size N C g hlt hH.wrel.g1 hH.wrel.g2 hR.hi (fun i hi=>⟨(hR.row i hi).2.2.2.1,(hR.row i hi).2.2.2.2.1⟩) hR.inj,⟨rfl,rfl,rfl,fun _ _ h=>.inl h⟩,.slice 0 none N N (.inr (.inl ⟨rfl,rfl⟩)),⟨⟨?_, ?_, ?_⟩,hH.g,hH.ok,fun g hg=>.inl (hH.glob g hg), ?_⟩,⟨hK.size,fun b' hb _=>hK.old b' hb, ?_,hK.tape,hK.os,hK.output⟩⟩
 · rintro a b (h | ⟨rfl,rfl⟩ | ⟨i,hi,rfl,rfl⟩)
   · obtain ⟨o,o',k1,k2,k3⟩:=hH.wrel.at_ a b h
     have hle:p.le (tabInj p gw.heap.size w.heap.size N C g hlt hH.wrel.g1 hH.wrel.g2 hR.hi (fun i hi=>⟨(hR.row i hi).2.2.2.1,(hR.row i hi).2.2.2.2.1⟩) hR.inj):=⟨rfl,rfl,rfl,fun _ _ h=>.inl h⟩;exact ⟨o,o',(hT.grew.block a (hlt a b h).1).trans k1,(hK.old b (hlt a b h).2).trans k2,k3.mono hle⟩
   · obtain ⟨rows,h1,h2,h3⟩:=hT.tab
     obtain ⟨rows',h1',h2',h3'⟩:=hR.tab;refine ⟨_,_,h1,h1',.cells 22 (0,0) ⟨h2.trans h2'.symm,fun i a a' ha ha'=>?_⟩⟩;have hi:i<N:=by have:=(Array.getElem?_eq_some_iff.1 ha).1;omega
     rw [h3 i hi] at ha;rw [h3' i hi] at ha';cases ha;cases ha';rw [hcap i hi];exact .slice 0 none n (cap i) (.inr (.inr ⟨i,hi,rfl,rfl⟩))
   · have h1:=hT.row i hi
     rw [hcap i hi] at h1;exact ⟨_,_,h1,(hR.row i hi).2.2.1,.cells 3 (0,0) (ints_rel _ _ _)⟩
 · exact Nat.le_trans hH.wrel.g1 (Nat.le_trans (Nat.le_of_eq hgb.symm) hT.grew.size)
 · exact Nat.le_trans hH.wrel.g2 hK.size
 · rintro a b (h | ⟨rfl,rfl⟩ | ⟨i,hi,rfl,rfl⟩) hs
   · rcases hS2 b hs with h1 | h1
     · exact hH.clear a b h h1
     · have:=(hlt a b h).2;omega
   · exact hR.shy hs
   · exact (hR.row i hi).2.2.2.2.2 hs
 · rintro a b (h | ⟨rfl,rfl⟩ | ⟨i,hi,rfl,rfl⟩)
   · exact .inl h
   · exact .inr hR.hi
   · exact .inr (hR.row i hi).2.2.2.1
theorem cons_of {l:List Value} {k:Nat} (h:k+1≤l.length):∃ v tl,l=v::tl∧k≤tl.length:=by
 cases l with
 | nil=>simp at h
 | cons v tl=>exact ⟨v,tl,rfl,by simpa using h⟩
theorem list22 {l:List Value} (h:22≤l.length):∃ v0 v1 v2 v3 v4 v5 v6 v7 v8 v9 v10 v11 v12 v13 v14 v15 v16 v17 v18 v19 v20 v21 tl,l=v0::v1::v2::v3::v4::v5::v6::v7::v8::v9::v10::v11::v12::v13::v14::v15::v16::v17::v18::v19::v20::v21::tl:=by
 obtain ⟨v0,l0,rfl,h0⟩:=cons_of h;obtain ⟨v1,l1,rfl,h1⟩:=cons_of h0;obtain ⟨v2,l2,rfl,h2⟩:=cons_of h1;obtain ⟨v3,l3,rfl,h3⟩:=cons_of h2;obtain ⟨v4,l4,rfl,h4⟩:=cons_of h3;obtain ⟨v5,l5,rfl,h5⟩:=cons_of h4;obtain ⟨v6,l6,rfl,h6⟩:=cons_of h5;obtain ⟨v7,l7,rfl,h7⟩:=cons_of h6;obtain ⟨v8,l8,rfl,h8⟩:=cons_of h7;obtain ⟨v9,l9,rfl,h9⟩:=cons_of h8;obtain ⟨v10,l10,rfl,h10⟩:=cons_of h9;obtain ⟨v11,l11,rfl,h11⟩:=cons_of h10;obtain ⟨v12,l12,rfl,h12⟩:=cons_of h11;obtain ⟨v13,l13,rfl,h13⟩:=cons_of h12;obtain ⟨v14,l14,rfl,h14⟩:=cons_of h13;obtain ⟨v15,l15,rfl,h15⟩:=cons_of h14;obtain ⟨v16,l16,rfl,h16⟩:=cons_of h15;obtain ⟨v17,l17,rfl,h17⟩:=cons_of h16;obtain ⟨v18,l18,rfl,h18⟩:=cons_of h17;obtain ⟨v19,l19,rfl,h19⟩:=cons_of h18;obtain ⟨v20,l20,rfl,h20⟩:=cons_of h19;obtain ⟨v21,l21,rfl,h21⟩:=cons_of h20;exact ⟨v0,v1,v2,v3,v4,v5,v6,v7,v8,v9,v10,v11,v12,v13,v14,v15,v16,v17,v18,v19,v20,v21,l21,rfl⟩
theorem list8 {l:List Value} (h:8≤l.length):∃ v0 v1 v2 v3 v4 v5 v6 v7 tl,l=v0::v1::v2::v3::v4::v5::v6::v7::tl:=by
 match l,h with
 | v0::v1::v2::v3::v4::v5::v6::v7::tl,_=>exact ⟨v0,v1,v2,v3,v4,v5,v6,v7,tl,rfl⟩
def roomT (gw:World) (n:Nat) (cap:Nat→Nat):Nat→Question→Nat:=fun i q=>if i<gw.drawn then gw.tape i q else cap (i - gw.drawn) - n
theorem roomT_cap (gw:World) (n:Nat) (cap:Nat→Nat) (i:Nat) (h1:n≤cap i) (h2:cap i≤maxLen):capOf n (gw.retape (roomT gw n cap)) i=cap i:=by
 show n+roomT gw n cap (gw.drawn+i) _ % (2 ^ 63 - n)=cap i
 unfold roomT;rw [if_neg (by omega),Nat.add_sub_cancel_left];unfold maxLen at h2;rw [Nat.mod_eq_of_lt (by omega)];omega
theorem phase34 {c0:Frame} {Rp:Frame→World→Prop} (g:FuncId) (xs:Array Value) (gw:World) (c:Frame) (k:List Frame) (hg:g=34) (h:Sur prog (StopAt c0 Rp) (Frame.enter prog g xs .normal) (c::k) gw):Phase prog Tryd.prog.funcs (·=0) g xs gw:=by
 subst hg;intro p xs' w c' k' S gs t q sl hx hH hB;have hn:=enter_n h;clear h;have hxs:ARel p (xs++Array.replicate (22 - xs.size) undef) (xs'++Array.replicate (22 - xs'.size) undef):=by
  rw [← hx.size];exact hx.append (ARel.replicate (VRel.undef p) _)
 have hs1:22≤(xs++Array.replicate (22 - xs.size) undef).toList.length:=by simp;omega
 have hs2:22≤(xs'++Array.replicate (22 - xs'.size) undef).toList.length:=by simp;omega
 generalize hT:xs++Array.replicate (22 - xs.size) undef=T at hn hxs hs1;have hB2:Bes Tryd.prog S gs (G ((base 34).at ⟨xs'++Array.replicate (22 - xs'.size) undef,[]⟩ [.code body34]) (c'::k')) w t q:=by
  have e:Frame.enter (wf prog Tryd.prog.funcs) 34 xs' .normal=(base 34).at ⟨xs'++Array.replicate (22 - xs'.size) undef,[]⟩ [.code body34]:=enter_at (P:=Tryd.prog) (fn:=Tryd.f34) xs' Tryd.func34 rfl;rw [e] at hB;exact hB
 clear hB;generalize xs'++Array.replicate (22 - xs'.size) undef=T' at hxs hs2 hB2;obtain ⟨l⟩:=T;obtain ⟨l'⟩:=T';obtain ⟨v0,v1,v2,v3,v4,v5,v6,v7,tl,rfl⟩:=list8 (show 8≤l.length from Nat.le_trans (by omega) hs1);obtain ⟨r0,r1,r2,r3,r4,r5,r6,r7,r8,r9,r10,r11,r12,r13,r14,r15,r16,r17,r18,r19,r20,r21,tl',rfl⟩:=list22 (show 22≤l'.length from hs2);have h0:VRel p v0 r0:=hxs.get 0 _ _ rfl rfl;have hgl:Tryd.prog.globals.size≤w.heap.size:=Nat.le_trans (Nat.le_of_eq hH.g.symm) hH.wrel.g2;rcases hn with hn | hn
 · obtain rfl:v0=.int .i64 2:=hn
   cases h0;obtain ⟨N9,m',t',hrun,gs9,w9,sl9,q9,S9,C,g,cap,rfl,hB9,hS9,hK9,hR9⟩:=YtnW.tables2_real sl r1 r2 r3 r4 r5 r6 r7 r8 r9 r10 r11 r12 r13 r14 r15 r16 r17 r18 r19 r20 r21 tl' hB2 hgl;refine ⟨roomT gw 2 cap,fun v gw2=>v=.slice (some ⟨gw.heap.size,0,none⟩) 2 2∧TInv 2 (LT 2) (gw.retape (roomT gw 2 cap)) gw2 2 2,fun i hi=>by funext qq;exact if_pos hi,tables2_calls xs v1 v2 v3 v4 v5 v6 v7 tl hT _, ?_⟩;rintro v gw2 ⟨rfl,hTI⟩;obtain ⟨p',h1,h2,h3,h4⟩:=phase_join hH (fun i hi=>roomT_cap gw 2 cap i (hR9.row i hi).1 (hR9.row i hi).2.1) hTI hK9 hR9 hS9;exact ⟨N9,p',_,w9,S9,gs9,t',q9,sl9,hrun,h1,h2,h3,h4,hS9,hB9⟩
 · obtain rfl:v0=.int .i64 4:=hn
   cases h0;obtain ⟨N9,m',t',hrun,gs9,w9,sl9,q9,S9,C,g,cap,rfl,hB9,hS9,hK9,hR9⟩:=YtnW.tables4_real sl r1 r2 r3 r4 r5 r6 r7 r8 r9 r10 r11 r12 r13 r14 r15 r16 r17 r18 r19 r20 r21 tl' hB2 hgl;refine ⟨roomT gw 4 cap,fun v gw2=>v=.slice (some ⟨gw.heap.size,0,none⟩) 64 64∧TInv 4 (LT 4) (gw.retape (roomT gw 4 cap)) gw2 64 64,fun i hi=>by funext qq;exact if_pos hi,tables4_calls xs v1 v2 v3 v4 v5 v6 v7 tl hT _, ?_⟩;rintro v gw2 ⟨rfl,hTI⟩;obtain ⟨p',h1,h2,h3,h4⟩:=phase_join hH (fun i hi=>roomT_cap gw 4 cap i (hR9.row i hi).1 (hR9.row i hi).2.1) hTI hK9 hR9 hS9;exact ⟨N9,p',_,w9,S9,gs9,t',q9,sl9,hrun,h1,h2,h3,h4,hS9,hB9⟩
end Go.Proofs.Qm
