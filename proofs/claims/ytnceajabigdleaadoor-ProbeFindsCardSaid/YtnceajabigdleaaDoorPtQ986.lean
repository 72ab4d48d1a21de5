/- Layer 9, in main's ghost: the finding of a state: the reference's walk. Condition: the tests lie in memory. -/
import Derived.Test.YtnceajabigdleaaDoorPtQ985
import Derived.Test.YtnceajabigdleaaDoorPtH3
namespace Go.Proofs.Qm
open Go Go.Pt Go.RowKit Prb
def EmpS (v:Value):Prop:=∃ g:Nat,v=.slice (some ⟨g,0,none⟩) 0 0
def CopS (base:Nat) (bl:List Bool) (T:Nat) (v:Value) (W:World):Prop:=∃ (g k2:Nat),v=.slice (some ⟨g,0,none⟩) T k2∧base≤g∧BlkB W g bl
theorem CopS.grew {base T:Nat} {bl:List Bool} {v:Value} {W W':World} (h:CopS base bl T v W) (hg:Grew W W'):CopS base bl T v W':=by
 obtain ⟨g,k2,h1,h2,h3⟩:=h;exact ⟨g,k2,h1,h2,h3.kept (KeepB.grew hg)⟩
def BldS (base:Nat) (bl:List Bool) (T I:Nat) (v:Value) (W:World):Prop:=∃ (g k2:Nat),v=.agg #[.slice (some ⟨g,0,none⟩) T k2,.int .i64 I,.int .i64 0]∧base≤g∧BlkB W g bl
theorem BldS.grew {base T I:Nat} {bl:List Bool} {v:Value} {W W':World} (h:BldS base bl T I v W) (hg:Grew W W'):BldS base bl T I v W':=by
 obtain ⟨g,k2,h1,h2,h3⟩:=h;exact ⟨g,k2,h1,h2,h3.kept (KeepB.grew hg)⟩
def BoxS (base:Nat) (v:Value) (W:World):Prop:=∃ bx:Nat,v=.pointer (some ⟨bx,0,none⟩)∧base≤bx∧W.heap[bx]? = some (.cells #[.slice none 0 0,.int .i64 0,.int .i64 0] 48 (0,0))
theorem BoxS.grew {base:Nat} {v:Value} {W W':World} (h:BoxS base v W) (hg:Grew W W'):BoxS base v W':=by
 obtain ⟨bx,h1,h2,h3⟩:=h;exact ⟨bx,h1,h2,(hg.block _ (Array.getElem?_eq_some_iff.1 h3).1).trans h3⟩
theorem slot_append_b {o:Oper} {a:Act} {W:World} {Post:Value→World→Prop} {s x:Operand} {b0:Addr} {tb toff c:Nat} {l:List Bool} (ho:o.op=.call { callee:=.builtin .append,args:=#[s,x],argTypes:=#[23,23] })
  (hs:a.eval s=.slice (some b0) 0 0) (hx:a.eval x=.slice (some ⟨tb,toff,none⟩) l.length c) (hl:l≠[]) (hl6:l.length≤6) (hc:BlsAt W tb toff l)
  (h:∀ g k2 W',W.heap.size≤g→Grew W W'→BlkB W' g l→Post (.slice (some ⟨g,0,none⟩) l.length k2) W'):R4.Oper.slotAt prog o a W Post:=by
 obtain ⟨i0,hi,hz0,hz1,hz2⟩:=info_parts info_b;have hl1:0<l.length:=List.length_pos_iff.2 hl;have hr:=run_append_grow (P:=prog) W 23 o.type 4 i0 (.bool false) und_b hi hz0 b0 0 0 [] (by simp) (fun j v hj=>by simp at hj) ⟨tb,toff,none⟩ l.length c (bCells l) (by rw [hz1];simp [bCells]) (fun j u hj=>by
  obtain ⟨x,hx,rfl⟩:∃ x,l[j]? = some x∧u=.bool x:=by
   unfold bCells at hj;rw [List.getElem?_map] at hj;cases hx:l[j]? with
   | none=>rw [hx] at hj;cases hj
   | some x=>rw [hx] at hj;exact ⟨x,rfl,(Option.some.inj hj).symm⟩
  have e:(⟨tb,toff,none⟩:Addr).add j=⟨tb,toff+j,none⟩:=by unfold Addr.add;by_cases h1:j=0 <;> simp [h1]
  rw [e];exact hc j x hx) (by omega) (by omega) (growslice_fits (by omega) (by rw [hz2];omega))
 unfold R4.Oper.slotAt execOp;simp only [ho,resolve,invoke,builtin,Sem.run_bind,Sem.run_pure,Result.andThen_ok,List.map_toArray,List.map_cons,List.map_nil,hs,hx,hr,R4.Oper.slotUpon,Nat.zero_add];refine h _ _ _ (Nat.le_refl _) ((Grew.refl W).drew.alloc _) ⟨_,_,al_new rfl,fun i x hi=>?_⟩;have:(bCells l)[i]? = some (.bool x):=by simp [bCells,hi]
 have hil:i<(bCells l).length:=(List.getElem?_eq_some_iff.1 this).1;rw [Array.getElem?_append_left (by simp;simpa using hil),Array.getElem?_append_right (by simp)]
 simpa using this
def KeepI (w w':World):Prop:=∀ (g:Nat) (cs:Array Value) (fz:Nat × Nat),w.heap[g]? = some (.cells cs 3 fz)→w'.heap[g]? = w.heap[g]?
theorem KeepI.below {w w':World} (h:Below w.heap.size w w'):KeepI w w':=fun g _ _ h1=>h.block g (Array.getElem?_eq_some_iff.1 h1).1
theorem KeepI.trans {w w2 w':World} (h:KeepI w w2) (k:KeepI w2 w'):KeepI w w':=fun g cs fz h1=>by
 have e:=h g cs fz h1;exact (k g cs fz (e.trans h1)).trans e
theorem KeepI.set {w:World} {b i:Nat} {v:Value} (hb:∀ (cs:Array Value) (fz:Nat × Nat),w.heap[b]? ≠ some (.cells cs 3 fz)):KeepI w (w.setCell ⟨b,i,none⟩ v):=fun g cs fz h=>heap_setCell_ne w (fun e=>hb cs fz (by rw [← e];exact h)) i v
theorem KeepI.row {w w':World} {base:Nat} {e:TypeId} {size k:Nat} {v:Value} {xs:List Value} (ho:w.ownsRow base e size v k xs) (he:3≠e) (hg:w.grownBy w' v.ownBlock):KeepI w w':=fun g _ _ h =>
 hg.block g (Array.getElem?_eq_some_iff.1 h).1 fun e'=>own_ne ho h he e'.symm
theorem ownZ_kept {w w':World} {base k0:Nat} {a0:Option Addr} {l:List Int} (h:OwnZ w base a0 k0 l) (hk:KeepI w w'):OwnZ w' base a0 k0 l:=by
 refine ⟨h.1,h.2.imp id ?_⟩;rintro ⟨g,cap,cur,h1,h2,h3,h4⟩;exact ⟨g,cap,cur,h1,h2,(hk g cur _ h3).trans h3,h4⟩
theorem OwnZ.low {w:World} {base base' k0:Nat} {a0:Option Addr} {l:List Int} (h:OwnZ w base a0 k0 l) (hb:base'≤base):OwnZ w base' a0 k0 l:=by
 refine ⟨h.1,h.2.imp id ?_⟩;rintro ⟨g,cap,cur,h1,h2,h3⟩;exact ⟨g,cap,cur,h1,Nat.le_trans hb h2,h3⟩
def lenV:Value→Nat
 | .slice _ n _=>n
 | _=>0
theorem set3_box {W:World} {bx:Nat} {u0 u1 u2 v0 v1 v2:Value} {T:TypeId} {fz:Nat × Nat} (h:W.heap[bx]? = some (.cells #[u0,u1,u2] T fz)) :
  (((W.setCell ⟨bx,0,none⟩ v0).setCell ⟨bx,1,none⟩ v1).setCell ⟨bx,2,none⟩ v2).heap[bx]? = some (.cells #[v0,v1,v2] T fz):=by
 unfold World.setCell;rw [Array.getElem?_modify,if_pos rfl,Array.getElem?_modify,if_pos rfl,Array.getElem?_modify,if_pos rfl,h];rfl
theorem set3_other {W:World} {bx j:Nat} {v0 v1 v2:Value} (h:j≠bx):(((W.setCell ⟨bx,0,none⟩ v0).setCell ⟨bx,1,none⟩ v1).setCell ⟨bx,2,none⟩ v2).heap[j]? = W.heap[j]? :=
 (heap_setCell_ne _ h _ _).trans ((heap_setCell_ne _ h _ _).trans (heap_setCell_ne _ h _ _))
set_option maxRecDepth 100000 in
set_option maxHeartbeats 16000000 in
theorem rFind_yes (n:Int) (N m s:Nat) (hn:(n=2∧N=2∧m=2)∨(n=4∧N=64∧m=4)) (hs:s<N) (a:Option Addr) (cap:Nat) (l:List Tq) (w:World) (hl:l.length≤40) (hc:TqAt w a l) (h:tqsB n l=true) :
  Calls prog 27 #[.int .i64 n,.int .i64 s,.slice a l.length cap] w (FinP (finF n m s l 64 (List.range N) []) 0 w):=by
 have hn2:n=2∨n=4:=hn.imp (fun h=>h.1) (fun h=>h.1);have hst:stB n s=true:=by rcases hn with ⟨rfl,rfl,_⟩ | ⟨rfl,rfl,_⟩ <;> simp [stB] <;> omega
 have h0:cntZ n≠0:=by rcases hn2 with rfl | rfl <;> simp [cntZ]
 have HK:=hid fun w=>rknown_any n w
 rw [known_t hn2] at HK;have HSS:=hid fun w=>rstate_any n s w hn2
 rw [hst] at HSS;have HF:=hid fun w' (hg:Grew w w')=>areTests_any n hn2 a cap l w' (by omega) (hc.grew hg)
 rw [h,decide_eq_true hl] at HF;simp only [Bool.and_true] at HF;have HAL:=hid fun w=>rall_any n N (hn.imp (fun h=>⟨h.1,h.2.1⟩) (fun h=>⟨h.1,h.2.1⟩)) w
 have hN64:N≤64:=by omega
 obtain ⟨R,hR⟩:∃ R,finF n m s l 64 (List.range N) []=R:=⟨_,rfl⟩;have HI0:Hid (FinI n N m s l R 64 (List.range N) []):=hid ⟨hR,by rw [List.length_range];exact hN64,(leftL_ok n N []).1,(leftL_ok n N []).2,fun z h=>by cases h⟩;have HN:=hid hn;have HTE:=hid (tqsB_at h);have HTQ:=hid h;have HCC:=hid hc;rw [hR];clear hc h hst hR hn;have HTRI:=hid fun (L:List Nat) (ha:Asc L) (hL:∀ y∈L,y<N)=>(show triZ n (ints L) l=0 from by
  have hNt:(N:Int)=topN n:=by rcases HN.out with ⟨rfl,rfl,_⟩ | ⟨rfl,rfl,_⟩ <;> rfl
  unfold triZ;rw [if_neg (by rw [← hNt,ok_ints ha hL (fun y _=>by omega)];simp [h0]),if_neg (by rw [HTQ.out,decide_eq_true hl];simp)])
 have HTZ:=hid fun (L:List Nat) (ha:Asc L) (hL:∀ y∈L,y<N)=>(show okFrom N 0 (ints L)=true from ok_ints ha hL (fun y _=>by omega))
 go_enter func27,ntmps27
 go_wp2_with fail
 refine (HK.out _).mono ?_;rintro e w' ⟨rfl,hw'⟩;obtain rfl:w=w':=hw'.symm;clear hw';go_wp2_with fail
 refine (HSS.out _).mono ?_;rintro e w' ⟨rfl,hw'⟩;obtain rfl:w=w':=hw'.symm;clear hw';go_wp2_with fail
 refine (HF.out _ gw0).mono ?_;rintro e w' ⟨rfl,g1,n1,rfl⟩;go_wp2_with fail
 refine (HAL.out _).mono ?_;rintro e w1 ⟨a0,k0,rfl,hO,hg⟩;have HG1:Hid (Below w.heap.size w w1):=hid (Grew.below ((show Grew w ((w.grow g1).drewN n1) from gw0).trans hg));have HO1:Hid (OwnZ w1 w.heap.size a0 k0 (ints (List.range N))):=hid (OwnZ.low hO (show w.heap.size≤((w.grow g1).drewN n1).heap.size from (show Grew w ((w.grow g1).drewN n1) from gw0).size));clear hO hg;go_wp2_with fail
 go_loopw [9,10] (fun t v wr=>∃ (k:Nat) (L:List Nat) (Ft:List Tq) (a3:Option Addr) (k3:Nat) (a4:Option Addr) (k4:Nat),v=.slice a3 L.length k3∧t=.slice a4 Ft.length k4∧Ft.length+L.length≤64∧Hid (FinI n N m s l R k L Ft)∧Hid (OwnT wr w.heap.size a4 k4 Ft)∧Hid (OwnZ wr w.heap.size a3 k3 (ints L))∧Hid (Below w.heap.size w wr)) (fun _ v _=>lenV v)
 case atStart=>exact ⟨64,List.range N,[],a0,k0,none,0,by simp,rfl,by simp;omega,HI0,OwnT.nil _ _,HO1,HG1⟩
 case round =>
  obtain ⟨k,L,Ft,a3,k3,a4,k4,rfl,rfl,h64,HI,HO,HZ,HB⟩:=hrel;have HNZ:=hid (ownZ_nsA HZ.out);have hil:=ints_len L;have HIL:=hid hil;have htri:=HTRI.out L HI.out.asc HI.out.lt;by_cases hl0:l.length=0
  · have HST:=hid (show stopF n m L l=true by unfold stopF;rw [decide_eq_true hl0];rfl)
    obtain rfl:=List.eq_nil_of_length_eq_zero hl0;have HBN:=hid fun w' (hg:Below wr.heap.size wr w')=>rBest_none n a3 k3 (ints L) a cap w' (by omega) (HNZ.out.below hg) (fun i z h=>by cases h) htri
    rw [hil] at HBN;clear hil htri;go_wp2_with fail
    refine (HBN.out _ (Below.refl _ _)).mono ?_;rintro e w2 ⟨rfl,hB2⟩;have HOW:=hid (HO.out.below hB2);have HNW:=hid (HNZ.out.below hB2);have HBW:=hid (HB.out.trans (hB2.mono HB.out.size));clear hB2;go_wp2_with fail
    obtain ⟨r1,r2⟩:=HI.out.stop HST.out;have HR1:=hid r1;have HR2:=hid r2;clear r1 r2;exact bodyPost_ret (v:=.tuple #[.slice a4 Ft.length k4,.slice a3 L.length k3,.int .i64 0]) (by simp [results,go_sem]) rfl ⟨a4,k4,Ft,a3,k3,by rw [HR1.out],HOW.out.tqAt HI.out.six,HR2.out.symm,by rw [HR1.out];exact HNW.out,HBW.out⟩
  · have hlne:l≠[]:=fun h=>hl0 (by rw [h];rfl)
    have HBS:=hid fun w' (hg:Below wr.heap.size wr w')=>rBest_yes n N m HN.out a3 k3 (ints L) a cap l w' (by omega) hl hlne (HNZ.out.below hg) (HTZ.out L HI.out.asc HI.out.lt) (HCC.out.below (HB.out.trans (hg.mono HB.out.size))) HTQ.out
    rw [hil,ints_nat] at HBS;obtain ⟨LE,hLE⟩:∃ LE,l.length=LE:=⟨_,rfl⟩;have HLE:=hid hLE;have hl6:L.length≤64:=by omega
    cases hst:stopF n m L l with
    | true =>
      have HST:=hid hst;have hge:(L.length:Int)≤(bstI (gOf n m L l) l.length).2:=by
       unfold stopF at hst;rw [decide_eq_false hl0,Bool.false_or,decide_eq_true_eq] at hst;exact hst
      obtain ⟨A,hA⟩:∃ A,bstI (gOf n m L l) l.length=A:=⟨_,rfl⟩;rw [hA] at HBS hge;have hge1:decide ((L.length:Int)≤A.2)=true:=decide_eq_true hge;clear hst hA hil htri hlne hLE;go_wp2_with fail
      refine (HBS.out _ (Below.refl _ _)).mono ?_;rintro e w2 ⟨rfl,hB2⟩;have HOW:=hid (HO.out.below hB2);have HNW:=hid (HNZ.out.below hB2);have HBW:=hid (HB.out.trans (hB2.mono HB.out.size));clear hB2;go_wp2_with fail
      obtain ⟨r1,r2⟩:=HI.out.stop HST.out;have HR1:=hid r1;have HR2:=hid r2;clear r1 r2;exact bodyPost_ret (v:=.tuple #[.slice a4 Ft.length k4,.slice a3 L.length k3,.int .i64 0]) (by simp [results,go_sem]) rfl ⟨a4,k4,Ft,a3,k3,by rw [HR1.out],HOW.out.tqAt HI.out.six,HR2.out.symm,by rw [HR1.out];exact HNW.out,HBW.out⟩
    | false =>
      obtain ⟨z,hz,hX,hW2,hwl⟩:=bstX_at hst;have HST:=hid hst;obtain ⟨A,hA⟩:∃ A,bstI (gOf n m L l) l.length=A:=⟨_,rfl⟩;rw [hA] at HBS hX hW2;obtain ⟨X,hXX⟩:∃ X,bstX n m L l=X:=⟨_,rfl⟩;rw [hXX] at hX hz;have hXl:X<l.length:=(List.getElem?_eq_some_iff.1 hz).1;obtain ⟨W,hWW⟩:∃ W,wrst n m L z=W:=⟨_,rfl⟩;rw [hWW] at hW2 hwl;rw [hX,hW2] at HBS;have hge1:decide ((L.length:Int)≤W)=false:=decide_eq_false (by omega);have HWL:=hid (show wrst n m L z<L.length by rw [hWW];exact hwl);have Hz:=hid hz;have HXX:=hid hXX;clear hst hA hX hW2 hwl hWW hz hXX hil htri hlne;rw [hLE] at HBS hXl ⊢;clear hLE;go_wp2_with fail
      refine (HBS.out _ (Below.refl _ _)).mono ?_;rintro e w2 ⟨rfl,hB2⟩;have HO2:=hid (HO.out.below hB2);have HZ2:=hid (ownZ_kept HZ.out (KeepI.below hB2));have HB2:=hid (HB.out.trans (hB2.mono HB.out.size));clear hB2;obtain ⟨b,off,rfl,hb,⟨c0,c1,c2⟩,hzl,htz⟩:=(HCC.out.below HB2.out) X z Hz.out;obtain ⟨tb,toff,I,hta,htb,hbl,hlen,hI,hIm,hk⟩:=tq_open HN.out htz (HTE.out z (List.mem_of_getElem? Hz.out));rw [hta,hlen] at c0;rw [hI] at c1;obtain ⟨bl,hbb⟩:∃ bl,z.b=bl:=⟨_,rfl⟩;rw [hbb] at hbl hk c0;have HBB:=hid hbb;have HBL:=hid fun W (hg:Grew w2 W)=>hbl.grew htb hg
      have HNE:Hid (bl≠[]):=hid (by rintro rfl;simp at hk);obtain ⟨tcap,htc⟩:∃ o,z.t.cap=o:=⟨_,rfl⟩;obtain ⟨T,hTT⟩:∃ o,bl.length=o:=⟨_,rfl⟩;rw [hTT,htc] at c0;have hT6:T≤6:=by omega
      have hb1:=fun m0:Nat=>Nat.lt_add_right m0 hb
      have HKK:=hid hk;have HII:=hid hI;have HTT:=hid hTT;clear hzl htz hta hlen hI hk htc hTT hbl c2 hbb;go_wp2_with fail
      refine R4.wp_region_slots 14 (fun ix vs W=>match ix with | 0=>EmpS (vs 0) | 1=>vs 1=.slice (some ⟨b,off,none⟩) LE cap | 2=>vs 2=.int .i64 X | 3=>vs 3=.pointer (some ⟨b,off+X*3,none⟩) | 4=>vs 4=.pointer (some ⟨b,off+X*3,none⟩) | 5=>vs 5=.slice (some ⟨tb,toff,none⟩) T tcap | 6=>CopS w2.heap.size bl T (vs 6) W | 7=>vs 7=.slice (some ⟨b,off,none⟩) LE cap | 8=>vs 8=.int .i64 X | 9=>vs 9=.pointer (some ⟨b,off+X*3,none⟩) | 10=>vs 10=.pointer (some ⟨b,off+X*3+1,none⟩) | 11=>vs 11=.int .i64 I | 12=>BldS w2.heap.size bl T I (vs 12) W | 13=>BoxS w2.heap.size (vs 13) W | _=>True) (by kernel_rfl) (by kernel_rfl) ?slst ?sldep ?slop ?slq
      case slst =>
       intro ix vs W W' h hg;match ix,h with
       | 0,h=>exact h
       | 1,h=>exact h
       | 2,h=>exact h
       | 3,h=>exact h
       | 4,h=>exact h
       | 5,h=>exact h
       | 6,h=>exact CopS.grew h hg
       | 7,h=>exact h
       | 8,h=>exact h
       | 9,h=>exact h
       | 10,h=>exact h
       | 11,h=>exact h
       | 12,h=>exact BldS.grew h hg
       | 13,h=>exact BoxS.grew h hg
       | _+14,_=>trivial
      case sldep =>
       intro ix o vs vs' W hix ho h hv hn;match ix,hix,ho,h,hv with
       | 0,_,_,h,hv=>show EmpS (vs' 0);rw [hv];exact h
       | 1,_,_,h,hv=>exact Eq.trans hv h
       | 2,_,_,h,hv=>exact Eq.trans hv h
       | 3,_,_,h,hv=>exact Eq.trans hv h
       | 4,_,_,h,hv=>exact Eq.trans hv h
       | 5,_,_,h,hv=>exact Eq.trans hv h
       | 6,_,_,h,hv=>show CopS w2.heap.size bl T (vs' 6) W;rw [hv];exact h
       | 7,_,_,h,hv=>exact Eq.trans hv h
       | 8,_,_,h,hv=>exact Eq.trans hv h
       | 9,_,_,h,hv=>exact Eq.trans hv h
       | 10,_,_,h,hv=>exact Eq.trans hv h
       | 11,_,_,h,hv=>exact Eq.trans hv h
       | 12,_,_,h,hv=>show BldS w2.heap.size bl T I (vs' 12) W;rw [hv];exact h
       | 13,_,_,h,hv=>show BoxS w2.heap.size (vs' 13) W;rw [hv];exact h
       | kx+14,hix,_,_,_=>exact absurd hix (by omega)
      case slop =>
       intro ix o hix ho vs W L hg hL hn hall;match ix,hix,ho,hL with
       | 0, _, ho, _ =>
         obtain rfl:=Option.some.inj ho;change R4.Oper.slotAt _ _ { tmps:=_,defers:=_ } _ _;go_simp;exact ⟨by rw [R4.upd_same];exact ⟨_,rfl⟩,.inl ((Grew.refl _).alloc _)⟩
       | 1, _, ho, _ =>
         obtain rfl:=Option.some.inj ho;change R4.Oper.slotAt _ _ { tmps:=_,defers:=_ } _ _;obtain ⟨gq,nq,rfl⟩:=hg;go_simp;exact ⟨R4.upd_same _ _ _,.inl gw0⟩
       | 2, _, ho, _ =>
         obtain rfl:=Option.some.inj ho;change R4.Oper.slotAt _ _ { tmps:=_,defers:=_ } _ _;obtain ⟨gq,nq,rfl⟩:=hg;go_simp;exact ⟨R4.upd_same _ _ _,.inl gw0⟩
       | 3, _, ho, _ =>
         obtain rfl:=Option.some.inj ho;have hn1:=(hn 1 (by decide)).2;have hn2:=(hn 2 (by decide)).2;try dsimp only at hn1 hn2
         change R4.Oper.slotAt _ _ (Act.put (Act.put _ (some 49) (vs 1)) (some 50) (vs 2)) _ _;conv=>arg 3;rw [hn1,hn2]
         clear hn1 hn2;obtain ⟨gq,nq,rfl⟩:=hg;go_simp;exact ⟨R4.upd_same _ _ _,.inl gw0⟩
       | 4, _, ho, _ =>
         obtain rfl:=Option.some.inj ho;have hn3:=(hn 3 (by decide)).2;try dsimp only at hn3
         change R4.Oper.slotAt _ _ (Act.put _ (some 51) (vs 3)) _ _;conv=>arg 3;rw [hn3]
         clear hn3;obtain ⟨gq,nq,rfl⟩:=hg;go_simp;exact ⟨R4.upd_same _ _ _,.inl gw0⟩
       | 5, _, ho, _ =>
         obtain rfl:=Option.some.inj ho;have hn4:=(hn 4 (by decide)).2;try dsimp only at hn4
         change R4.Oper.slotAt _ _ (Act.put _ (some 52) (vs 4)) _ _;conv=>arg 3;rw [hn4]
         clear hn4;obtain ⟨gq,nq,rfl⟩:=hg;go_simp;exact ⟨R4.upd_same _ _ _,.inl gw0⟩
       | 6, _, ho, _ =>
         obtain rfl:=Option.some.inj ho;have hn0:=(hn 0 (by decide)).2;have hn5:=(hn 5 (by decide)).2;try dsimp only at hn0 hn5
         change R4.Oper.slotAt _ _ (Act.put (Act.put _ (some 48) (vs 0)) (some 53) (vs 5)) _ _;conv=>arg 3;rw [hn5]
         clear hn5;obtain ⟨g0,hv0⟩:=hn0;conv=>arg 3;rw [hv0]
         rw [← HTT.out];refine slot_append_b rfl (b0:=⟨g0,0,none⟩) (s:=.tmp 48) (x:=.tmp 53) rfl rfl HNE.out (by rw [HTT.out];exact hT6) (HBL.out _ hg) fun gg kk W' hgg hgW hbk=>?_
         exact ⟨by rw [R4.upd_same];exact ⟨gg,kk,by rw [HTT.out],Nat.le_trans hg.size hgg,hbk⟩,.inl hgW⟩
       | 7, _, ho, _ =>
         obtain rfl:=Option.some.inj ho;change R4.Oper.slotAt _ _ { tmps:=_,defers:=_ } _ _;obtain ⟨gq,nq,rfl⟩:=hg;go_simp;exact ⟨R4.upd_same _ _ _,.inl gw0⟩
       | 8, _, ho, _ =>
         obtain rfl:=Option.some.inj ho;change R4.Oper.slotAt _ _ { tmps:=_,defers:=_ } _ _;obtain ⟨gq,nq,rfl⟩:=hg;go_simp;exact ⟨R4.upd_same _ _ _,.inl gw0⟩
       | 9, _, ho, _ =>
         obtain rfl:=Option.some.inj ho;have hn7:=(hn 7 (by decide)).2;have hn8:=(hn 8 (by decide)).2;try dsimp only at hn7 hn8
         change R4.Oper.slotAt _ _ (Act.put (Act.put _ (some 55) (vs 7)) (some 56) (vs 8)) _ _;conv=>arg 3;rw [hn7,hn8]
         clear hn7 hn8;obtain ⟨gq,nq,rfl⟩:=hg;go_simp;exact ⟨R4.upd_same _ _ _,.inl gw0⟩
       | 10, _, ho, _ =>
         obtain rfl:=Option.some.inj ho;have hn9:=(hn 9 (by decide)).2;try dsimp only at hn9
         change R4.Oper.slotAt _ _ (Act.put _ (some 57) (vs 9)) _ _;conv=>arg 3;rw [hn9]
         clear hn9;obtain ⟨gq,nq,rfl⟩:=hg;go_simp;exact ⟨R4.upd_same _ _ _,.inl gw0⟩
       | 11, _, ho, _ =>
         obtain rfl:=Option.some.inj ho;have hn10:=(hn 10 (by decide)).2;try dsimp only at hn10
         change R4.Oper.slotAt _ _ (Act.put _ (some 58) (vs 10)) _ _;conv=>arg 3;rw [hn10]
         clear hn10;obtain ⟨gq,nq,rfl⟩:=hg;go_simp;exact ⟨R4.upd_same _ _ _,.inl gw0⟩
       | 12, _, ho, _ =>
         obtain rfl:=Option.some.inj ho;have hn6:=(hn 6 (by decide)).2;have hn11:=(hn 11 (by decide)).2;try dsimp only at hn6 hn11
         change R4.Oper.slotAt _ _ (Act.put (Act.put _ (some 54) (vs 6)) (some 59) (vs 11)) _ _;conv=>arg 3;rw [hn11]
         clear hn11;obtain ⟨gq,nq,rfl⟩:=hg;obtain ⟨g0,k0,hv0,hB0,hb0⟩:=hn6;conv=>arg 3;rw [hv0]
         have HB0:=hid hb0;clear hv0 hb0;go_simp;exact ⟨by rw [R4.upd_same];exact ⟨g0,k0,rfl,hB0,HB0.out.kept (KeepB.grew gw0)⟩,.inl gw0⟩
       | 13, _, ho, _ =>
         obtain rfl:=Option.some.inj ho;change R4.Oper.slotAt _ _ { tmps:=_,defers:=_ } _ _;have hsz:=hg.size;go_simp;exact ⟨by rw [R4.upd_same];exact ⟨_,rfl,hsz,al_new rfl⟩,.inl ((Grew.refl _).alloc _)⟩
       | kx+14,hix,_,_=>exact absurd hix (by omega)
      case slq =>
       intro vs V hg hn;have hn0:=hn 0 (by decide) (by decide);have hn1:=hn 1 (by decide) (by decide);have hn2:=hn 2 (by decide) (by decide);have hn3:=hn 3 (by decide) (by decide);have hn4:=hn 4 (by decide) (by decide);have hn5:=hn 5 (by decide) (by decide);have hn6:=hn 6 (by decide) (by decide);have hn7:=hn 7 (by decide) (by decide);have hn8:=hn 8 (by decide) (by decide);have hn9:=hn 9 (by decide) (by decide);have hn10:=hn 10 (by decide) (by decide);have hn11:=hn 11 (by decide) (by decide);have hn12:=hn 12 (by decide) (by decide);have hn13:=hn 13 (by decide) (by decide);change wpList _ _ _ _ (Act.put (Act.put (Act.put (Act.put (Act.put (Act.put (Act.put (Act.put (Act.put (Act.put (Act.put (Act.put (Act.put (Act.put _ (some 48) (vs 0)) (some 49) (vs 1)) (some 50) (vs 2)) (some 51) (vs 3)) (some 52) (vs 4)) (some 53) (vs 5)) (some 54) (vs 6)) (some 55) (vs 7)) (some 56) (vs 8)) (some 57) (vs 9)) (some 58) (vs 10)) (some 59) (vs 11)) (some 60) (vs 12)) (some 14) (vs 13)) _;rw [hn1,hn2,hn3,hn4,hn5,hn7,hn8,hn9,hn10,hn11];clear hn hn1 hn2 hn3 hn4 hn5 hn7 hn8 hn9 hn10 hn11;obtain ⟨gE,q0⟩:=hn0;obtain ⟨gC,kC,q6,_,_⟩:=hn6;obtain ⟨g,k2,q12,hgB,hblk⟩:=hn12;obtain ⟨Bx,q13,hBx,hbx⟩:=hn13;rw [q0,q6,q12,q13];clear q0 q6 q12 q13;simp only [Act.put,List.setIfInBounds_toArray,List.set_cons_zero,List.set_cons_succ,List.drop_succ_cons,List.drop_zero];have c30:V.cell? ⟨Bx,0,none⟩=some (.slice none 0 0):=by simp [World.cell?,hbx]
       have c31:V.cell? ⟨Bx,1,none⟩=some (.int .i64 0):=by simp [World.cell?,hbx]
       have c32:V.cell? ⟨Bx,2,none⟩=some (.int .i64 0):=by simp [World.cell?,hbx]
       have f30:V.frozen? ⟨Bx,0,none⟩=false:=by simp [World.frozen?,hbx]
       have f31:V.frozen? ⟨Bx,1,none⟩=false:=by simp [World.frozen?,hbx]
       have f32:V.frozen? ⟨Bx,2,none⟩=false:=by simp [World.frozen?,hbx]
       have hb3:Bx<V.heap.size:=(Array.getElem?_eq_some_iff.1 hbx).1;obtain ⟨V3,hV3⟩:∃ V3,((V.setCell ⟨Bx,0,none⟩ (.slice (some ⟨g,0,none⟩) T k2)).setCell ⟨Bx,1,none⟩ (.int .i64 I)).setCell ⟨Bx,2,none⟩ (.int .i64 0)=V3:=⟨_,rfl⟩;have e3:V3.heap[Bx]? = some (.cells #[.slice (some ⟨g,0,none⟩) T k2,.int .i64 I,.int .i64 0] 48 (0,0)):=by rw [← hV3];exact set3_box hbx
       have hB3:Below w2.heap.size w2 V3:=by rw [← hV3];exact below_set (below_set (below_set hg.below hBx) hBx) hBx
       have hk3:BlkB V3 g bl:=hblk.kept fun j cs fz hj=>by
        rw [← hV3];exact set3_other (fun e=>by rw [e,hbx] at hj;cases hj)
       have HAN:=hid (ranswer_any n N m s I g 0 k2 bl V3 HKK.out hs hIm hk3.lt hk3.at);have hAn:refA n (thB s bl) I=ansF n s z:=by unfold ansF;rw [HII.out,Int.toNat_natCast,HBB.out]
       rw [hAn,HTT.out] at HAN;have HAM:=hid (show ansF n s z<m by rw [← hAn];exact refA_lt n N m bl.length HKK.out _ I hIm);obtain ⟨An,hAA⟩:∃ An,ansF n s z=An:=⟨_,rfl⟩;rw [hAA] at HAN;have HAA:=hid hAA;have HB3:=hid hB3;have HK3:=hid hk3;have HE3:=hid e3;have HBX:=hid hBx;have HV3:=hid hV3;clear hg hblk hBx hbx hV3 e3 hB3 hk3 hAn hAA hgB;go_wp2_with fail
       rw [HV3.out];refine HAN.out.mono ?_;rintro e w4 ⟨rfl,hg4⟩;have e4:=(hg4.block Bx (Array.getElem?_eq_some_iff.1 HE3.out).1).trans HE3.out;have hB4:=below_grew HB3.out hg4 HB3.out.size;have hk4:=HK3.out.kept (KeepB.grew hg4);have c40:w4.cell? ⟨Bx,0,none⟩=some (.slice (some ⟨g,0,none⟩) T k2):=by simp [World.cell?,e4]
       have c41:w4.cell? ⟨Bx,1,none⟩=some (.int .i64 I):=by simp [World.cell?,e4]
       have c42:w4.cell? ⟨Bx,2,none⟩=some (.int .i64 0):=by simp [World.cell?,e4]
       have f42:w4.frozen? ⟨Bx,2,none⟩=false:=by simp [World.frozen?,e4]
       have hb4:Bx<w4.heap.size:=(Array.getElem?_eq_some_iff.1 e4).1;have hns:∀ (cs:Array Value) (fz:Nat × Nat),w4.heap[Bx]? ≠ some (.cells cs 4 fz):=fun cs fz h=>by rw [e4] at h;cases h
       have q1:(w4.setCell ⟨Bx,2,none⟩ (.int .i64 An)).heap[Bx]? = some (.cells #[.slice (some ⟨g,0,none⟩) T k2,.int .i64 I,.int .i64 An] 48 (0,0)):=by
        unfold World.setCell;rw [Array.getElem?_modify,if_pos rfl,e4];rfl
       have hBel:=below_set (i:=2) (v:=.int .i64 An) hB4 HBX.out;have HQ1:=hid q1;have HK5:=hid (hk4.kept (KeepB.set (i:=2) (v:=.int .i64 An) hns));have HO5:=hid (HO2.out.below hBel);have HZ5:=hid (ownZ_kept HZ2.out (KeepI.below hBel));have HB5:=hid (HB2.out.trans (hBel.mono HB2.out.size));have hnb:(Value.slice a4 Ft.length k4).ownBlock≠some Bx:=fun h=>by
        obtain ⟨cs,fz,h1⟩:=own_cells HO2.out.1 h;have:=(Array.getElem?_eq_some_iff.1 h1).1;have:=HBX.out;omega
       have HNB:=hid hnb;obtain ⟨hNI,hNS,hNL⟩:=HI.out.step HST.out (by rw [HXX.out];exact Hz.out) HAM.out HWL.out (by rw [HBB.out,HTT.out];exact hT6) (a:=some ⟨g,0,none⟩) (len:=T) (cap:=k2);rw [HAA.out,HII.out,HBB.out] at hNI;have hNX:L.filter (agP n bl I (An:Nat))=nxtF n s z L:=by unfold nxtF;rw [HAA.out,HII.out,Int.toNat_natCast,HBB.out]
       obtain ⟨L2,hL2⟩:∃ L2,nxtF n s z L=L2:=⟨_,rfl⟩;rw [hL2] at hNI hNL hNX;have HNI:=hid hNI;have HNX:=hid hNX;have hF9:Ft.length≤100:=by omega
       have hs5:=HB5.out.size;clear hg4 e4 hB4 hk4 hns q1 hBel hnb hNI hNS hNX hL2;go_wp2_with (at_builtin;go_loud (refine wpList_append_t rfl _ _ rfl w.heap.size a4 k4 Ft rfl (HO5.out.grew gw0) _ 1 ⟨⟨some ⟨g,0,none⟩,T,k2,(I:Nat),(An:Nat)⟩,bl⟩ rfl (by simp [go_sem]) ⟨HTT.out.symm,g,rfl,HK5.out.kept (KeepB.grew gw0)⟩ ?hmx ?hbs ?_))
       case hmx=>omega
       case hbs=>have:=HB5.out.size;(try simp [go_sem]);(try simp [go_sem] at this);omega
       · intro a6 k6 wB hownB hgrowB hdrB
         have HBB2:Hid (Below w.heap.size w wB):=hid ((below_grew HB5.out (show Grew (w4.setCell ⟨Bx,2,none⟩ (.int .i64 An)) _ from gw0) HB5.out.size).grown hgrowB (by have:=HB5.out.size;(try simp [go_sem]);(try simp [go_sem] at this);omega) (fun r e=>ownsRow_above HO5.out.1 r e));obtain ⟨V4,hV4⟩:∃ V4,w4.setCell ⟨Bx,2,none⟩ (.int .i64 An)=V4:=⟨_,rfl⟩;rw [hV4] at hgrowB HQ1 HK5 HO5 HZ5 hs5;have hb9:=(Array.getElem?_eq_some_iff.1 HQ1.out).1;obtain ⟨V5,hV5⟩:∃ V5,V4.alloc (.cells #[.slice (some ⟨g,0,none⟩) T k2,.int .i64 I,.int .i64 An] 48)=V5:=⟨_,rfl⟩;have hg5:Grew V4 V5:=by rw [← hV5];exact (Grew.refl V4).alloc _
         rw [hV5] at hgrowB;have hO5:=(HO5.out.grew hg5).1;have eB:=(hgrowB.block Bx (Nat.lt_of_lt_of_le hb9 hg5.size) (fun e=>HNB.out e.symm)).trans ((hg5.block Bx hb9).trans HQ1.out);have hkB:=(HK5.out.kept (KeepB.grew hg5)).kept (KeepB.row hO5 (by decide) hgrowB);have hzB:=ownZ_kept (ownZ_kept HZ5.out (KeepI.below hg5.below)) (KeepI.row hO5 (by decide) hgrowB);have HKP:=hid (kept_any n N m I g 0 k2 bl (An:Nat) a3 k3 L wB HKK.out HI.out.lt (by omega) (ownZ_nsA hzB) hkB.lt hkB.at hIm);rw [HNX.out,HTT.out] at HKP;have d0:wB.cell? ⟨Bx,0,none⟩=some (.slice (some ⟨g,0,none⟩) T k2):=by simp [World.cell?,eB]
         have d1:wB.cell? ⟨Bx,1,none⟩=some (.int .i64 I):=by simp [World.cell?,eB]
         have d2:wB.cell? ⟨Bx,2,none⟩=some (.int .i64 An):=by simp [World.cell?,eB]
         have hbB:Bx<wB.heap.size:=(Array.getElem?_eq_some_iff.1 eB).1;have HOB:=hid hownB;have HAPL:=hid (show (Ft++[(⟨⟨some ⟨g,0,none⟩,T,k2,(I:Nat),(An:Nat)⟩,bl⟩:Tq)]).length=Ft.length+1 by simp);obtain ⟨Ft2,hFt2⟩:∃ F,Ft++[(⟨⟨some ⟨g,0,none⟩,T,k2,(I:Nat),(An:Nat)⟩,bl⟩:Tq)]=F:=⟨_,rfl⟩;rw [hFt2] at HOB HNI HAPL;clear hFt2 hgrowB hdrB hownB hV4 hV5 hg5 hO5 eB hkB hzB hb9;go_wp2_with fail
         refine HKP.out.mono ?_;rintro e w5 ⟨a7,k7,rfl,hO7,hG7⟩;have HO7:=hid (OwnZ.low hO7 HBB2.out.size);have HO8:=hid (HOB.out.grew hG7);have HB8:=hid (below_grew HBB2.out hG7 HBB2.out.size);clear hO7 hG7;go_wp2_with fail
         go_roundw
         case rel=>exact ⟨k - 1,L2,Ft2,a7,k7,a6,k6,rfl,by rw [HAPL.out],by rw [HAPL.out];omega,HNI,HO8,HO7,HB8⟩
         case measure=>simp [lenV];exact hNL
open Go Go.Pt Go.RowKit Prb
def finZ (n s:Int) (l:List Tq):Int:=if stB n s=false then 2 else if (decide (l.length≤40)&&tqsB n l)=false then 90 else 0
theorem fin_nil (r:Int) (w w':World) (h:Below w.heap.size w w'):FinP ([],[]) r w (.returned (.tuple #[.slice none 0 0,.slice none 0 0,.int .i64 r])) w':=⟨none,0,[],none,0,rfl,fun i z h=>(by cases h),rfl,fun i z h=>(by cases h),h⟩
set_option maxHeartbeats 3200000 in
theorem Find_err (n s:Int) (a:Option Addr) (cap:Nat) (l:List Tq) (w:World) (hl:l.length≤9223372036854775807) (hc:TqAt w a l) (h:finZ n s l≠0) :
  Calls prog 26 #[.int .i64 n,.int .i64 s,.slice a l.length cap] w (FinP ([],[]) (finZ n s l) w):=by
 have HK:=hid fun w=>known_any n s w
 cases hk:stB n s with
 | false =>
   rw [hk] at HK;rw [show finZ n s l=2 from if_pos hk];clear hc h hk;go_enter func26,ntmps26
   go_wp2_with fail
   refine (HK.out _).mono ?_;rintro e w' ⟨rfl,rfl⟩;go_wp2_with fail
   exact bodyPost_ret (v:=.tuple #[.slice none 0 0,.slice none 0 0,.int .i64 2]) (by simp [results,go_sem]) rfl (fin_nil 2 _ _ (Grew.below gw0))
 | true =>
   rw [hk] at HK;have hn:n=2∨n=4:=by
    by_cases h2:n=2
    · exact .inl h2
    · by_cases h4:n=4
      · exact .inr h4
      · simp [stB,h2,h4] at hk
   have HF:=hid fun w' (hg:Grew w w')=>fit_any n hn a cap l w' hl (hc.grew hg)
   have hno:¬ (stB n s=false):=by rw [hk];simp
   have hf:(decide (l.length≤40)&&tqsB n l)=false:=by
    cases hf:(decide (l.length≤40)&&tqsB n l) with
    | false=>rfl
    | true=>exact absurd ((if_neg hno).trans (if_neg (by rw [hf];simp))) h
   rw [hf] at HF;rw [show finZ n s l=90 from (if_neg hno).trans (if_pos hf)];clear hc h hk hn hno hf;go_enter func26,ntmps26
   go_wp2_with fail
   refine (HK.out _).mono ?_;rintro e w' ⟨rfl,hw'⟩;obtain rfl:w=w':=hw'.symm;clear hw';go_wp2_with fail
   refine (HF.out _ gw0).mono ?_;rintro e w' ⟨rfl,g1,n1,rfl⟩;go_wp2_with fail
   exact bodyPost_ret (v:=.tuple #[.slice none 0 0,.slice none 0 0,.int .i64 90]) (by simp [results,go_sem]) rfl (fin_nil 90 _ _ (Grew.below gw0))
set_option maxHeartbeats 3200000 in
theorem rFind_err (n s:Int) (a:Option Addr) (cap:Nat) (l:List Tq) (w:World) (hl:l.length≤9223372036854775807) (hc:TqAt w a l) (h:finZ n s l≠0) :
  Calls prog 27 #[.int .i64 n,.int .i64 s,.slice a l.length cap] w (FinP ([],[]) (finZ n s l) w):=by
 have HK:=hid fun w=>rknown_any n w
 by_cases h0:cntZ n=0
 · rw [known_f h0] at HK
   have hk:stB n s=false:=by
    have h2:¬ n=2:=by rintro rfl;simp [cntZ] at h0
    have h4:¬ n=4:=by rintro rfl;simp [cntZ] at h0
    simp [stB,h2,h4]
   rw [show finZ n s l=2 from if_pos hk];clear hc h hk h0;go_enter func27,ntmps27
   go_wp2_with fail
   refine (HK.out _).mono ?_;rintro e w' ⟨rfl,rfl⟩;go_wp2_with fail
   exact bodyPost_ret (v:=.tuple #[.slice none 0 0,.slice none 0 0,.int .i64 2]) (by simp [results,go_sem]) rfl (fin_nil 2 _ _ (Grew.below gw0))
 have hn:=cntZ_ne h0;rw [known_t hn] at HK;have HS:=hid fun w=>rstate_any n s w hn
 cases hk:stB n s with
 | false =>
   rw [hk] at HS;rw [show finZ n s l=2 from if_pos hk];clear hc h hk h0 hn;go_enter func27,ntmps27
   go_wp2_with fail
   refine (HK.out _).mono ?_;rintro e w' ⟨rfl,rfl⟩;go_wp2_with fail
   refine (HS.out _).mono ?_;rintro e w' ⟨rfl,rfl⟩;go_wp2_with fail
   exact bodyPost_ret (v:=.tuple #[.slice none 0 0,.slice none 0 0,.int .i64 2]) (by simp [results,go_sem]) rfl (fin_nil 2 _ _ (Grew.below gw0))
 | true =>
   rw [hk] at HS;have HF:=hid fun w' (hg:Grew w w')=>areTests_any n hn a cap l w' hl (hc.grew hg)
   have hno:¬ (stB n s=false):=by rw [hk];simp
   have hf:(decide (l.length≤40)&&tqsB n l)=false:=by
    cases hf:(decide (l.length≤40)&&tqsB n l) with
    | false=>rfl
    | true=>exact absurd ((if_neg hno).trans (if_neg (by rw [hf];simp))) h
   rw [hf] at HF;rw [show finZ n s l=90 from (if_neg hno).trans (if_pos hf)];clear hc h hk hn hno hf h0;go_enter func27,ntmps27
   go_wp2_with fail
   refine (HK.out _).mono ?_;rintro e w' ⟨rfl,hw'⟩;obtain rfl:w=w':=hw'.symm;clear hw';go_wp2_with fail
   refine (HS.out _).mono ?_;rintro e w' ⟨rfl,hw'⟩;obtain rfl:w=w':=hw'.symm;clear hw';go_wp2_with fail
   refine (HF.out _ gw0).mono ?_;rintro e w' ⟨rfl,g1,n1,rfl⟩;go_wp2_with fail
   exact bodyPost_ret (v:=.tuple #[.slice none 0 0,.slice none 0 0,.int .i64 90]) (by simp [results,go_sem]) rfl (fin_nil 90 _ _ (Grew.below gw0))
theorem finF_len (n:Int) (m s:Nat) (l:List Tq):∀ (k:Nat) (L:List Nat) (fl:List Fd),(finF n m s l k L fl).1.length≤L.length∧(finF n m s l k L fl).2.length≤fl.length+k
 | 0,L,fl=>⟨Nat.le_refl _,Nat.le_refl _⟩
 | k + 1, L, fl => by
   rw [finF];split
   · exact ⟨Nat.le_refl _,Nat.le_add_right _ _⟩
   · split
     · exact ⟨Nat.le_refl _,Nat.le_add_right _ _⟩
     · rename_i z _
       have h:=finF_len n m s l k (nxtF n s z L) (fl++[⟨z.b,z.t.i,(ansF n s z:Nat)⟩]);have h2:(nxtF n s z L).length≤L.length:=List.length_filter_le _ _;rw [List.length_append,List.length_singleton] at h;exact ⟨Nat.le_trans h.1 h2,by omega⟩
theorem finF_mem (n:Int) (m s:Nat) (l:List Tq):∀ (k:Nat) (L:List Nat) (fl:List Fd),∀ f∈(finF n m s l k L fl).2,f∈fl∨∃ z∈l,f.b=z.b
 | 0,L,fl=>fun f hf=>.inl hf
 | k + 1, L, fl => fun f hf => by
   rw [finF] at hf;split at hf
   · exact .inl hf
   · split at hf
     · exact .inl hf
     · rename_i z hz
       rcases finF_mem n m s l k _ _ f hf with h | h
       · rcases List.mem_append.1 h with h | h
         · exact .inl h
         · obtain rfl:=List.mem_singleton.1 h
           exact .inr ⟨z,List.mem_of_getElem? hz,rfl⟩
       · exact .inr h
theorem Find_both (n s:Int) (a:Option Addr) (cap:Nat) (l:List Tq) (w:World) (hl:l.length≤9223372036854775807) (hc:TqAt w a l) (hD:DebAt w) :
  ∃ (R:List Nat × List Fd) (r:Int),R.1.length≤64∧R.2.length≤64∧(∀ f∈R.2,f.b.length≤64)∧(∀ w',Below w.heap.size w w'→Calls prog 26 #[.int .i64 n,.int .i64 s,.slice a l.length cap] w' (FinP R r w'))∧∀ w',Below w.heap.size w w'→Calls prog 27 #[.int .i64 n,.int .i64 s,.slice a l.length cap] w' (FinP R r w'):=by
 by_cases h:finZ n s l=0
 case neg=>exact ⟨([],[]),_,by simp,by simp,(fun f hf=>by cases hf),fun w' hg=>Find_err n s a cap l w' hl (hc.below hg) h,fun w' hg=>rFind_err n s a cap l w' hl (hc.below hg) h⟩
 have hk:stB n s=true:=by
  cases hk:stB n s with
  | true=>rfl
  | false=>rw [show finZ n s l=2 from if_pos hk] at h;cases h
 have hno:¬ (stB n s=false):=by rw [hk];simp
 have hf:(decide (l.length≤40)&&tqsB n l)=true:=by
  cases hf:(decide (l.length≤40)&&tqsB n l) with
  | true=>rfl
  | false=>rw [show finZ n s l=90 from (if_neg hno).trans (if_pos hf)] at h;cases h
 rw [Bool.and_eq_true,decide_eq_true_eq] at hf;obtain ⟨N,m,S,hN,hS,rfl⟩:∃ N m S:Nat,((n=2∧N=2∧m=2)∨(n=4∧N=64∧m=4))∧S<N∧s=(S:Int):=by
  by_cases h2:n=2
  · subst h2
    simp [stB] at hk;exact ⟨2,2,s.toNat,.inl ⟨rfl,rfl,rfl⟩,by omega,by omega⟩
  · by_cases h4:n=4
    · subst h4
      simp [stB] at hk;exact ⟨64,4,s.toNat,.inr ⟨rfl,rfl,rfl⟩,by omega,by omega⟩
    · simp [stB,h2,h4] at hk
 have hle:=finF_len n m S l 64 (List.range N) [];have hfl:∀ f∈(finF n m S l 64 (List.range N) []).2,f.b.length≤64:=fun f hm=>by
  rcases finF_mem n m S l 64 _ _ f hm with h | ⟨z,hz,e⟩
  · cases h
  obtain ⟨i,hi⟩:=List.mem_iff_getElem?.1 hz;obtain ⟨b,off,_,_,_,_,ht⟩:=hc i z hi;have h1:=tqsB_at hf.2 z hz;unfold tstB fitB at h1;simp only [Bool.and_eq_true,decide_eq_true_eq] at h1;rw [e,← ht.1,h1.1.1];rcases hN with ⟨rfl,_,_⟩ | ⟨rfl,_,_⟩ <;> decide
 refine ⟨finF n m S l 64 (List.range N) [],0,Nat.le_trans hle.1 (by rw [List.length_range];omega),by simpa using hle.2,hfl,fun w' hg=>Find_yes n N m S hN hS a cap l w' hf.1 (hc.below hg) hf.2 (hD.of_block (hg.block 0 hD.1)),fun w' hg=>rFind_yes n N m S hN hS a cap l w' hf.1 (hc.below hg) hf.2⟩
theorem fd_at {l1 l2:List Tq} (h:l1.map fdOf=l2.map fdOf) {i:Nat} {z:Tq} (hz:l1[i]? = some z):∃ y,l2[i]? = some y∧y.b=z.b∧y.t.i=z.t.i∧y.t.o=z.t.o:=by
 have:=congrArg (fun l=>l[i]?) h;simp only [List.getElem?_map,hz,Option.map_some] at this;cases hy:l2[i]? with
 | none=>rw [hy] at this;cases this
 | some y =>
   rw [hy] at this;have e:=Option.some.inj this;unfold fdOf at e;injection e with e1 e2 e3;exact ⟨y,rfl,e1.symm,e2.symm,e3.symm⟩
set_option maxRecDepth 100000 in
set_option maxHeartbeats 6400000 in
theorem sts_any (a1 a2:Option Addr) (k1 k2:Nat) (l1 l2:List Tq) (w:World) (hl:l1.length≤9223372036854775807) (hb:∀ f∈l1.map fdOf,f.b.length≤64) (hm:l1.map fdOf=l2.map fdOf) (h1:TqAt w a1 l1) (h2:TqAt w a2 l2) :
  Calls prog 28 #[.slice a1 l1.length k1,.slice a2 l2.length k2] w fun e w'=>e=.returned (.bool true)∧Grew w w':=by
 have hll:l2.length=l1.length:=by have:=congrArg List.length hm;simpa using this.symm
 rw [hll];have HM:=hid fun (i:Nat) (z:Tq) (hz:l1[i]? = some z)=>fd_at hm hz
 have H1:=hid h1;have H2:=hid h2;clear hm h1 h2 hll;go_enter func28,ntmps28
 go_wp2_with fail
 go_loopw [14] (fun v wr=>∃ i:Nat,i≤l1.length∧v=.int .i64 i∧Grew w wr) (fun v _=>l1.length - (intOf v).toNat)
 case atStart=>exact ⟨0,Nat.zero_le _,rfl,Grew.refl _⟩
 case round =>
  obtain ⟨i,hi,rfl,hgw⟩:=hrel;by_cases hlt:i<l1.length
  · obtain ⟨z,hz⟩:∃ z,l1[i]? = some z:=⟨l1[i],List.getElem?_eq_getElem hlt⟩
    obtain ⟨y,hy,yb,yi,yo⟩:=HM.out i z hz;obtain ⟨b1,o1,rfl,hb1,⟨c0,c1,c2⟩,hzl,htz⟩:=(H1.out.grew hgw) i z hz;obtain ⟨b2,o2,rfl,hb2,⟨d0,d1,d2⟩,hyl,hty⟩:=(H2.out.grew hgw) i y hy;have HZ:=hid hz;have HY:=hid hy;rw [htz.1] at c0 hzl;rw [hty.1,yb] at d0;rw [yi] at d1;rw [yo] at d2;have p1:=fun m0:Nat=>Nat.lt_add_right m0 hb1
    have q1:=fun m0:Nat=>Nat.lt_add_right m0 hb2
    obtain ⟨I,hI⟩:∃ I,z.t.i=I:=⟨_,rfl⟩;obtain ⟨O,hO⟩:∃ I,z.t.o=I:=⟨_,rfl⟩;obtain ⟨ta,hta⟩:∃ I,z.t.a=I:=⟨_,rfl⟩;obtain ⟨ya,hya⟩:∃ I,y.t.a=I:=⟨_,rfl⟩;obtain ⟨kz,hkz⟩:∃ I,z.t.cap=I:=⟨_,rfl⟩;obtain ⟨ky,hky⟩:∃ I,y.t.cap=I:=⟨_,rfl⟩;obtain ⟨T,hT⟩:∃ I,z.b.length=I:=⟨_,rfl⟩;have hT64:T≤64:=hT ▸ hb (fdOf z) (List.mem_map.2 ⟨z,List.mem_of_getElem? hz,rfl⟩);rw [hta,hT,hkz] at c0;rw [hya,hT,hky] at d0;rw [hI] at c1 d1;rw [hO] at c2 d2;rw [hT] at hzl;have e1:(I != I)=false:=by simp
    have e2:(O != O)=false:=by simp
    have e3:((T:Int) != (T:Int))=false:=by simp
    have HT:=hid hT;have HYB:=hid yb;have HTA:=hid hta;have HYA:=hid hya;have HGW:=hid hgw;clear hz hy yb yi yo hyl htz hty hta hya hkz hky hT hgw;clear hI hO;go_wp2_with fail
    go_region
    go_wp2_with fail
    go_loopw [62] (fun v wq=>∃ j:Nat,j≤T∧v=.int .i64 j∧Grew w wq) (fun v _=>T - (intOf v).toNat)
    case atStart=>exact ⟨0,Nat.zero_le _,rfl,(by repeat (first | exact HGW.out | refine Grew.drewN ?_ _ | refine Grew.grow ?_ _ | refine Grew.alloc ?_ _ | refine Grew.drew ?_))⟩
    case round =>
     obtain ⟨j,hj,rfl,hgq⟩:=hrel;clear c0 c1 c2 d0 d1 d2 hzl;by_cases hjt:j<T
     · obtain ⟨x,hx⟩:∃ x,z.b[j]? = some x:=⟨z.b[j]'(by rw [HT.out];exact hjt),List.getElem?_eq_getElem _⟩
       obtain ⟨b1',o1',he1,hb1',⟨c0,c1,c2⟩,hzl,htz⟩:=(H1.out.grew hgq) i z HZ.out;obtain ⟨b2',o2',he2,hb2',⟨d0,d1,d2⟩,hyl,hty⟩:=(H2.out.grew hgq) i y HY.out;cases he1;cases he2;have hxy:y.b[j]? = some x:=by rw [HYB.out];exact hx
       have hz1:z.t.len=T:=htz.1.trans HT.out;have hy1:y.t.len=T:=hty.1.trans ((congrArg List.length HYB.out).trans HT.out);rw [hz1,HTA.out] at c0;rw [hy1,HYA.out] at d0;rcases htz.2 with h0 | ⟨bz,oz,hz2,hbz,hcz⟩
       · rw [h0] at hx;cases hx
       rcases hty.2 with h0 | ⟨by_,oy,hy2,hby,hcy⟩
       · rw [h0] at hxy;cases hxy
       have hcz:=hcz j x hx;have hcy:=hcy j x hxy;rw [hz2] at HTA;rw [hy2] at HYA;obtain rfl:=HTA.out;obtain rfl:=HYA.out;obtain ⟨kz,hkz⟩:∃ I,z.t.cap=I:=⟨_,rfl⟩;obtain ⟨ky,hky⟩:∃ I,y.t.cap=I:=⟨_,rfl⟩;rw [hkz] at c0;rw [hky] at d0;have e4:(x != x)=false:=by cases x <;> rfl
       have r1:=fun m0:Nat=>Nat.lt_add_right m0 hbz
       have r2:=fun m0:Nat=>Nat.lt_add_right m0 hby
       have p1:=fun m0:Nat=>Nat.lt_add_right m0 hb1'
       have q1:=fun m0:Nat=>Nat.lt_add_right m0 hb2'
       have HGQ:=hid hgq;clear hx hxy hz1 hy1 hz2 hy2 htz hty hkz hky hzl hyl hgq c1 c2 d1 d2;go_wp2_with fail
       go_region
       go_wp2_with fail
       go_roundw
       case rel=>exact ⟨j+1,by omega,by go_num,(by repeat (first | exact HGQ.out | refine Grew.drewN ?_ _ | refine Grew.grow ?_ _ | refine Grew.alloc ?_ _ | refine Grew.drew ?_))⟩
       case measure=>simp [intOf];omega
     · obtain rfl:j=T:=by omega
       have HGQ:=hid hgq;clear hgq;go_wp2_with fail
       go_roundw
       case rel=>exact ⟨i+1,by omega,by go_num,(by repeat (first | exact HGQ.out | refine Grew.drewN ?_ _ | refine Grew.grow ?_ _ | refine Grew.alloc ?_ _ | refine Grew.drew ?_))⟩
       case measure=>simp [intOf];omega
  · obtain rfl:i=l1.length:=by omega
    have HGW:=hid hgw;clear hgw;go_wp2_with fail
    exact bodyPost_ret (v:=.bool true) (by simp [results,go_sem]) rfl ⟨rfl,HGW.out⟩
end Go.Proofs.Qm
