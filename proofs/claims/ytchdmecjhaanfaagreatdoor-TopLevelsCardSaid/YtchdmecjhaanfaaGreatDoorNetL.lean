import Derived.Test.YtchdmecjhaanfaaGreatDoorNetD
import Derived.Test.YtchdmecjhaanfaaGreatDoorNetJ
import Derived.Test.YtchdmecjhaanfaaGreatDoorMshX
import Derived.Test.YtchdmecjhaanfaaGreatDoorTidG
import Derived.Test.YtchdmecjhaanfaaGreatDoorMshInv
import Derived.Test.YtchdmecjhaanfaaGreatDoorHouse
import Derived.Laws.EntriesVeiled
namespace Go.Proofs.YtchdmecjhaanfaaGreatDoor
open Go Go.RowKit Amp Msh
structure FixA (L:List Cl) (R:List Int) (a0:Option Addr) (cap:Nat) (b1 b4 b5 b6 b7 bm nn:Nat) (aS:Option Addr) (kS:Nat) (wF:World):Prop where
 net:wF.heap[b1]? = some (.cells #[.slice a0 L.length cap] 22)
 at_:wF.heap[b4]? = some (.cells #[.map (some bm)] 53)
 many:wF.heap[b5]? = some (.cells #[.slice aS R.length kS] 55)
 put:wF.heap[b7]? = some (.cells #[.func (.func 23) #[] #[.pointer (some ⟨b6,0,none⟩),.pointer (some ⟨b5,0,none⟩),.pointer (some ⟨b4,0,none⟩),.pointer (some ⟨b7,0,none⟩),.pointer (some ⟨b1,0,none⟩)]] 57)
 map:MapV wF bm nn (ixV L)
 siz:OwnZ wF 0 aS kS R
 cls:Net wF a0 L
 ok:CsOk L
 d1:b1≠b6
 d4:b4≠b6
 d5:b5≠b6
 d7:b7≠b6
structure FlS (b6:Nat) (wF:World) (l:List It) (W:World):Prop where
 turned:Turned wF W b6
 lt:b6<wF.heap.size
 out:∃ (a:Option Addr) (k:Nat),W.heap[b6]? = some (.cells #[.slice a l.length k] 26)∧OwnI W wF.heap.size a k l
theorem FlS.grow {b6:Nat} {wF W W':World} {l:List It} (h:FlS b6 wF l W) (g:Grew W W'):FlS b6 wF l W':=by
 obtain ⟨a,k,h1,h2⟩:=h.out;exact ⟨h.turned.grew g,h.lt,a,k,(g.block b6 (Array.getElem?_eq_some_iff.1 h1).1).trans h1,h2.grew g⟩
theorem MapV.byList {W w:World} {b n bx:Nat} {f:ByteArray→Option Value} {cs:Array Value} {T:TypeId} (h:MapV W b n f) (ht:Turned W w bx) (hb:W.heap[bx]? = some (.cells cs T)):MapV w b n f:=by
 obtain ⟨es,clock,h1⟩:∃ es clock,W.heap[b]? = some (.map es clock):=by
  exact k72_
 refine h.kept ht.grown fun e=>?_
 have e1:=Option.some.inj e;subst e1;rw [h1] at hb;simp at hb
theorem OwnZ.byList {W w:World} {base k bx:Nat} {a:Option Addr} {l:List Int} {cs:Array Value} {T:TypeId} (h:OwnZ W base a k l) (ht:Turned W w bx) (hb:W.heap[bx]? = some (.cells cs T)) (hT:T≠3):OwnZ w base a k l :=
 World.ownsRow.kept h ht.grown (.inr (own_kind h hb hT))
theorem Its.byList {W w:World} {bx:Nat} {a0:Option Addr} {l:List It} {a:Option Addr} {p q:Nat} {T:TypeId} (h:Its W a0 l) (ht:Turned W w bx) (hb:W.heap[bx]? = some (.cells #[.slice a p q] T)):Its w a0 l:=by
 by_cases hl:l=[]
 · exact .inl hl
 rcases h with h | ⟨b,off,e,hlt,hc⟩
 · exact .inl h
 have hne:b≠bx:=by
  rintro rfl;obtain ⟨z,hz⟩:∃ z,l[0]? = some z:=⟨l[0]'(List.length_pos_iff.2 hl),List.getElem?_eq_getElem (List.length_pos_iff.2 hl)⟩;obtain ⟨c0,_⟩:=hc 0 z hz;simp only [World.cell?,hb] at c0;match off,c0 with
  | 0,c0=>simp at c0
  | k+1,c0=>simp at c0
 refine .inr ⟨b,off,e,Nat.lt_of_lt_of_le hlt ht.size,fun i z hz=>?_⟩;obtain ⟨c0,c1,c2,c3⟩:=hc i z hz;have hbk:=ht.block hlt hne;simp only [World.cell?] at *
 rw [hbk];exact ⟨c0,c1,c2,c3⟩
theorem Net.cellsT {W w:World} {bx:Nat} {a0:Option Addr} {L:List Cl} {a:Option Addr} {p q:Nat} {T:TypeId} (h:Net W a0 L) (ht:Turned W w bx) (hb:W.heap[bx]? = some (.cells #[.slice a p q] T)) {i:Nat} {c:Cl} (hz:L[i]? = some c) :
  ∃ b off:Nat,a0=some ⟨b,off,none⟩∧b<w.heap.size∧w.cell? ⟨b,off+i*3,none⟩=some (.string c.name)∧w.cell? ⟨b,off+i*3+1,none⟩=some (.int .i64 c.gd)∧∃ (a':Option Addr) (k':Nat),w.cell? ⟨b,off+i*3+2,none⟩=some (.slice a' c.items.length k')∧Its W a' c.items:=by
 obtain ⟨b,off,e,hlt,c0,c1,a',k',c2,c3⟩:=h.cells hz;have hne:b≠bx:=by
  rintro rfl;simp only [World.cell?,hb] at c0;match off+i*3,c0 with
  | 0,c0=>simp at c0
  | k+1,c0=>simp at c0
 exact ⟨b,off,e,Nat.lt_of_lt_of_le hlt ht.size,(ht.cell hlt hne).trans c0,(ht.cell hlt hne).trans c1,a',k',(ht.cell hlt hne).trans c2,c3⟩
theorem flS_app {b6:Nat} {wF wr wA wB:World} {lq l2:List It} {ao a4:Option Addr} {ko k4:Nat} (hT:Turned wF wr b6) (hlt:b6<wF.heap.size) (ho:wr.heap[b6]? = some (.cells #[.slice ao lq.length ko] 26)) (hOw:OwnI wr wF.heap.size ao ko lq) (g:Grew wr wA) (hg:wA.grownBy wB (Value.slice ao lq.length ko).ownBlock) (hd:wA.drawn≤wB.drawn) (hown:OwnI wB wF.heap.size a4 k4 l2) :
  FlS b6 wF l2 (wB.setCell ⟨b6,0,none⟩ (.slice a4 l2.length k4))∧wB.heap[b6]? = some (.cells #[.slice ao lq.length ko] 26):=by
 have hz:=(Array.getElem?_eq_some_iff.1 ho).1;have ho2:=(g.block b6 hz).trans ho;have ho3:wB.heap[b6]? = some (.cells #[.slice ao lq.length ko] 26):=(hg.block b6 (Array.getElem?_eq_some_iff.1 ho2).1 (fun e=>by have:=ownsRow_above hOw b6 e.symm;omega)).trans ho2;have ht:Turned wF wB b6:=(hT.grew g).by hg hd (fun jj hjj=>.inl (ownsRow_above hOw jj hjj))
 refine ⟨⟨ht.set _ _,hlt,a4,k4, ?_,World.ownsRow.kept hown (grownBy_set wB b6 0 _) (own_kind hown ho3 (by decide) |> fun h=>.inr h)⟩,ho3⟩;have s1:=heap_setCell_same wB b6 0 _ _ (.slice a4 l2.length k4) ho3
 simpa using s1
set_option maxRecDepth 100000 in
set_option maxHeartbeats 4000000 in
theorem flatF_any (L:List Cl) (hv:vnet L=true) (a0:Option Addr) (cap:Nat) (b1 b4 b5 b6 b7 bm nn:Nat) (aS:Option Addr) (kS:Nat) (wF:World) (HX:Hid (FixA L (szP L [] L) a0 cap b1 b4 b5 b6 b7 bm nn aS kS wF)) (hl6:wF.heap[b6]? = some (.cells #[.slice none 0 0] 26)) :
  ∀ (f i:Nat) (bb:Int) (c:Cl) (ac:Option Addr) (kc:Nat) (l:List It) (W:World),i<f→L[i]? = some c→Its wF ac c.items→FlS b6 wF l W→l.length+(fl (fun j=>decide (0<(szP L [] L).getD j 0)) L f i bb).length≤5000 →
  Calls Tryz.prog 23 #[.agg #[.string c.name,.int .i64 c.gd,.slice ac c.items.length kc],.int .i64 bb,.pointer (some ⟨b6,0,none⟩),.pointer (some ⟨b5,0,none⟩),.pointer (some ⟨b4,0,none⟩),.pointer (some ⟨b7,0,none⟩),.pointer (some ⟨b1,0,none⟩)] W fun e W'=>(∃ v,e=.returned v)∧FlS b6 wF (l++fl (fun j=>decide (0<(szP L [] L).getD j 0)) L f i bb) W'
 | 0,i,bb,c,ac,kc,l,W,hf,_,_,_,_=>absurd hf (by omega)
 | f + 1, i, bb, c, ac, kc, l, W, hf, hc, hI, hS, hlen => by
   have IH:=hid (flatF_any L hv a0 cap b1 b4 b5 b6 b7 bm nn aS kS wF HX hl6 f);obtain ⟨R,hR⟩:∃ R,szP L [] L=R:=⟨_,rfl⟩;have hRl:R.length=L.length:=by rw [← hR,szP_length];simp
   have hfe:fl (fun j=>decide (0<(szP L [] L).getD j 0)) L (f+1) i bb=c.items.flatMap (flI (fun j=>decide (0<(szP L [] L).getD j 0)) L (fl (fun j=>decide (0<(szP L [] L).getD j 0)) L f) bb):=by
    show (match L[i]? with | none=>[] | some c=>c.items.flatMap (flI (fun j=>decide (0<(szP L [] L).getD j 0)) L (fl (fun j=>decide (0<(szP L [] L).getD j 0)) L f) bb))=_
    rw [hc]
   rw [hfe] at hlen ⊢;rw [hR] at HX IH hlen ⊢;have hix:∀ x:It,x∈c.items→x.kind=4→jx L x<i∧nmO x.name 0 L=jx L x∧jx L x<L.length:=fun x=>cell_ix hv hc
   have k5:=(HX.out.ok.at hc).2.2;have hl200:=(vcell_iff.1 ((vnet_all hv).2 i c hc)).2.2.2.1;have hl20:=(vnet_all hv).1.2;obtain ⟨its,hits⟩:∃ l,c.items=l:=⟨_,rfl⟩;rw [hits] at hI hlen hix k5 hl200 ⊢;obtain ⟨G,hG⟩:∃ G,flI (fun j=>decide (0<R.getD j 0)) L (fl (fun j=>decide (0<R.getD j 0)) L f) bb=G:=⟨_,rfl⟩;rw [hG] at hlen ⊢;have HGD:=hid hG;have HI:=hid hI;have HS:=hid hS;have HLEN:=hid hlen;have HIX:=hid hix;have HSZ:=hid k5;have HRL:=hid hRl;have hif:=hf;clear hR hfe hI hS hlen hix k5 hits hG hRl hc;go_enter Tryz.func23,Tryz.ntmps23
   go_wp2_with fail
   refine any_worldN (W:=W) gw0 ?_;intro W1 hg1;have HS1:=hid (HS.out.grow hg1);clear hg1 HS;go_loopw [14] (fun v wr=>∃ q:Nat,q≤its.length∧v=.int .i64 q∧Hid (FlS b6 wF (l++(its.take q).flatMap G) wr)) (fun v _=>its.length - (intOf v).toNat)
   case atStart=>exact ⟨0,Nat.zero_le _,rfl,hid (by rw [List.take_zero];simpa using HS1.out)⟩
   case round =>
    obtain ⟨q,hq,rfl,HSQ⟩:=hrel;by_cases hlt:q<its.length
    case neg =>
     obtain rfl:q=its.length:=by omega
     have hs:=HSQ.out;rw [List.take_length] at hs;have HSF:=hid hs;clear hs HSQ;go_wp2_with fail
     go_end0
     exact ⟨⟨_,rfl⟩,HSF.out.grow gw0⟩
    case pos =>
     obtain ⟨x,hx⟩:∃ x,its[q]? = some x:=⟨its[q],List.getElem?_eq_getElem hlt⟩;obtain ⟨bi,oi,rfl,hbi,d0,d1,d2,d3⟩:=(HI.out.byList HSQ.out.turned hl6).cells hx;have hxm:=List.mem_of_getElem? hx;have HTK:=hid (show l++(its.take (q+1)).flatMap G=(l++(its.take q).flatMap G)++G x by rw [List.take_add_one,hx,Option.toList,List.flatMap_append,List.append_assoc];simp);have HLQ:=hid (show (l++(its.take q).flatMap G).length+(G x).length≤5000 by
      have h1:=HLEN.out;have h2:(its.flatMap G).length=((its.take (q+1)).flatMap G).length+((its.drop (q+1)).flatMap G).length:=by
       rw [← List.length_append,← List.flatMap_append,List.take_append_drop]
      have h3:=congrArg List.length HTK.out;rw [List.length_append,List.length_append] at h3;rw [List.length_append];rw [List.length_append] at h3;omega)
     obtain ⟨lq,hlq⟩:∃ lq,l++(its.take q).flatMap G=lq:=⟨_,rfl⟩;rw [hlq] at HSQ HTK HLQ;obtain ⟨ao,ko,ho,hOwn⟩:=HSQ.out.out;have hT:=HSQ.out.turned;have h6lt:=HSQ.out.lt;have z6:=(Array.getElem?_eq_some_iff.1 ho).1;have y6:wr.cell? ⟨b6,0,none⟩=some (.slice ao lq.length ko):=by simp [World.cell?,ho]
     have HO6:=hid ho;have HOW:=hid hOwn;have HT:=hid hT;have HL6:=hid h6lt;have f6:wr.frozen? ⟨b6,0,none⟩=false:=by simp [World.frozen?,ho]
     have h6b:b6<wr.heap.size:=z6;have hbi1:=fun m0:Nat=>Nat.lt_add_right m0 (hbi)
     have hbi2:=fun m0 m1:Nat=>Nat.lt_add_right m1 (hbi1 m0)
     have hbi3:=fun m0 m1 m2:Nat=>Nat.lt_add_right m2 (hbi2 m0 m1)
     have z61:=fun m0:Nat=>Nat.lt_add_right m0 (z6)
     have z62:=fun m0 m1:Nat=>Nat.lt_add_right m1 (z61 m0)
     have z63:=fun m0 m1 m2:Nat=>Nat.lt_add_right m2 (z62 m0 m1)
     clear hx ho hOwn hT h6lt hlq;by_cases hx4:x.kind=4
     case neg =>
      have e4:(x.kind != 4)=true:=by simpa using hx4
      have HGX:=hid (show G x=[(⟨x.kind,wrap64 (x.pos+bb),x.n,x.name⟩:It)] by rw [← HGD.out];unfold flI;rw [if_neg hx4]);clear hxm hx4;go_wp2_with (at_builtin;go_loud (refine wpList_append_its rfl _ _ rfl wF.heap.size ao ko lq rfl (HOW.out.grew gw0) _ 1 [(⟨x.kind,wrap64 (x.pos+bb),x.n,x.name⟩:It)] rfl (fun e=>by cases e) (cells_newI _ _ (by simp [go_sem]) #[.int .i64 x.kind,.int .i64 (wrap64 (x.pos+bb)),.int .i64 x.n,.string x.name] _ [(⟨x.kind,wrap64 (x.pos+bb),x.n,x.name⟩:It)] rfl) ?hmx ?hbs ?_))
      case hmx=>have:=HLQ.out;simp;omega
      case hbs=>have:=HT.out.size;(try simp [go_sem]);omega
      · intro a4 k4 wB hownB hgrowB hdrB
        obtain ⟨hFS,hoB⟩:=flS_app HT.out HL6.out HO6.out HOW.out (by repeat (first | exact Grew.refl _ | exact HG.out | refine Grew.drewN ?_ _ | refine Grew.grow ?_ _ | refine Grew.alloc ?_ _ | refine Grew.drew ?_ | refine Grew.set ?_ (Nat.le_refl _) _ _ | refine Grew.set ?_ (by omega) _ _)) hgrowB hdrB hownB;have zB:=(Array.getElem?_eq_some_iff.1 hoB).1;have yB:wB.cell? ⟨b6,0,none⟩=some (.slice ao lq.length ko):=by simp [World.cell?,hoB]
        have fB:wB.frozen? ⟨b6,0,none⟩=false:=by simp [World.frozen?,hoB]
        obtain ⟨l2,hl2⟩:∃ l2,lq++[(⟨x.kind,wrap64 (x.pos+bb),x.n,x.name⟩:It)]=l2:=⟨_,rfl⟩;have HTK2:=hid (show l++(its.take (q+1)).flatMap G=l2 by rw [HTK.out,HGX.out,hl2]);have hl2n:l2.length=lq.length+1:=by rw [← hl2];simp
        rw [hl2,hl2n] at hFS;have HFS:=hid hFS;have zB1:=fun m0:Nat=>Nat.lt_add_right m0 (zB)
        have zB2:=fun m0 m1:Nat=>Nat.lt_add_right m1 (zB1 m0)
        have zB3:=fun m0 m1 m2:Nat=>Nat.lt_add_right m2 (zB2 m0 m1)
        clear hgrowB hdrB hownB hFS hoB hl2 hl2n;go_wp2_with fail
        go_roundw
        case rel=>exact ⟨q+1,by omega,by go_num,hid (by rw [HTK2.out];exact HFS.out.grow gw0)⟩
        case measure=>simp [intOf];omega
     case pos =>
      obtain ⟨j1,j2,j3⟩:=HIX.out x hxm hx4;obtain ⟨j,hj⟩:∃ j,jx L x=j:=⟨_,rfl⟩;rw [hj] at j1 j2 j3;obtain ⟨u,hu⟩:∃ u,R[j]? = some u:=⟨R[j]'(by have:=HRL.out;omega),List.getElem?_eq_getElem (by have:=HRL.out;omega)⟩;obtain ⟨cj,hcj⟩:∃ cj,L[j]? = some cj:=⟨L[j],List.getElem?_eq_getElem j3⟩;have hT:=HT.out;have h4:=(hT.block (Array.getElem?_eq_some_iff.1 HX.out.at_).1 HX.out.d4).trans HX.out.at_;have h5:=(hT.block (Array.getElem?_eq_some_iff.1 HX.out.many).1 HX.out.d5).trans HX.out.many;have h7:=(hT.block (Array.getElem?_eq_some_iff.1 HX.out.put).1 HX.out.d7).trans HX.out.put;have h1:=(hT.block (Array.getElem?_eq_some_iff.1 HX.out.net).1 HX.out.d1).trans HX.out.net;have z4:=(Array.getElem?_eq_some_iff.1 h4).1;have z5:=(Array.getElem?_eq_some_iff.1 h5).1;have z7:=(Array.getElem?_eq_some_iff.1 h7).1;have z1:=(Array.getElem?_eq_some_iff.1 h1).1;have y4:wr.cell? ⟨b4,0,none⟩=some (.map (some bm)):=by simp [World.cell?,h4]
      have y5:wr.cell? ⟨b5,0,none⟩=some (.slice aS R.length kS):=by simp [World.cell?,h5]
      have y7:wr.cell? ⟨b7,0,none⟩=some (.func (.func 23) #[] #[.pointer (some ⟨b6,0,none⟩),.pointer (some ⟨b5,0,none⟩),.pointer (some ⟨b4,0,none⟩),.pointer (some ⟨b7,0,none⟩),.pointer (some ⟨b1,0,none⟩)]):=by simp [World.cell?,h7]
      have y1:wr.cell? ⟨b1,0,none⟩=some (.slice a0 L.length cap):=by simp [World.cell?,h1]
      obtain ⟨bs,os,hbs,hbsl,e0⟩:=((HX.out.siz.byList hT hl6 (by decide)).zs).cells hu;obtain ⟨bn,on,hbn,hbnl,n0,n1,a',k',n2,hIj⟩:=HX.out.cls.cellsT hT hl6 hcj;subst hbs;subst hbn;have HIJ:=hid hIj;have HCJ:=hid hcj;rw [hx4] at d0;have HLK:=look_ix ((HX.out.map.byList hT hl6).grew (w':=wr.alloc (.cells #[.int .i64 4,.int .i64 (wrap64 (x.pos+bb)),.int .i64 x.n,.string x.name] 51)) gw0) (HSZ.out x hxm) j2;have HLG:∀ (g:List Obj) (n:Nat),(Instr.lookup 53 (.map (some bm)) (.string x.name) false).run Tryz.prog (((wr.alloc (.cells #[.int .i64 4,.int .i64 (wrap64 (x.pos+bb)),.int .i64 x.n,.string x.name] 51)).grow g).drewN n)=.ok (.int .i64 j) (((wr.alloc (.cells #[.int .i64 4,.int .i64 (wrap64 (x.pos+bb)),.int .i64 x.n,.string x.name] 51)).grow g).drewN n):=fun g n=>look_ix ((HX.out.map.byList hT hl6).grew gw0) (HSZ.out x hxm) j2
      have hjR:(j:Int)<R.length:=by have:=HRL.out;omega
      have hjL:(j:Int)<L.length:=by omega
      have hjf:j<f:=by omega
      have hgd:R.getD j 0=u:=by rw [List.getD_eq_getElem?_getD,hu];rfl
      have hGe:G x=if decide (0<R.getD j 0)=true then fl (fun j=>decide (0<R.getD j 0)) L f j (wrap64 (wrap64 (x.pos+bb) - 1)) else []:=by
       rw [← HGD.out];unfold flI;rw [if_pos hx4,hj]
      have z41:=fun m0:Nat=>Nat.lt_add_right m0 (z4)
      have z42:=fun m0 m1:Nat=>Nat.lt_add_right m1 (z41 m0)
      have z43:=fun m0 m1 m2:Nat=>Nat.lt_add_right m2 (z42 m0 m1)
      have z51:=fun m0:Nat=>Nat.lt_add_right m0 (z5)
      have z52:=fun m0 m1:Nat=>Nat.lt_add_right m1 (z51 m0)
      have z53:=fun m0 m1 m2:Nat=>Nat.lt_add_right m2 (z52 m0 m1)
      have z71:=fun m0:Nat=>Nat.lt_add_right m0 (z7)
      have z72:=fun m0 m1:Nat=>Nat.lt_add_right m1 (z71 m0)
      have z73:=fun m0 m1 m2:Nat=>Nat.lt_add_right m2 (z72 m0 m1)
      have z11:=fun m0:Nat=>Nat.lt_add_right m0 (z1)
      have z12:=fun m0 m1:Nat=>Nat.lt_add_right m1 (z11 m0)
      have z13:=fun m0 m1 m2:Nat=>Nat.lt_add_right m2 (z12 m0 m1)
      have hbsl1:=fun m0:Nat=>Nat.lt_add_right m0 (hbsl)
      have hbsl2:=fun m0 m1:Nat=>Nat.lt_add_right m1 (hbsl1 m0)
      have hbsl3:=fun m0 m1 m2:Nat=>Nat.lt_add_right m2 (hbsl2 m0 m1)
      have hbnl1:=fun m0:Nat=>Nat.lt_add_right m0 (hbnl)
      have hbnl2:=fun m0 m1:Nat=>Nat.lt_add_right m1 (hbnl1 m0)
      have hbnl3:=fun m0 m1 m2:Nat=>Nat.lt_add_right m2 (hbnl2 m0 m1)
      by_cases hu0:0<u
      case neg =>
       have HGX:=hid (show G x=[] by rw [hGe,if_neg (by rw [hgd,decide_eq_false hu0];exact Bool.false_ne_true)]);have e1:decide (0<u)=false:=decide_eq_false hu0;clear hxm hx4 j1 j2 j3 hj hu hT h1 h4 h5 h7 hIj hcj hgd hGe hu0;go_wp2_with fail
       go_roundw
       case rel=>exact ⟨q+1,by omega,by go_num,hid (by rw [HTK.out,HGX.out,List.append_nil];exact HSQ.out.grow (by repeat (first | exact Grew.refl _ | exact HG.out | refine Grew.drewN ?_ _ | refine Grew.grow ?_ _ | refine Grew.alloc ?_ _ | refine Grew.drew ?_ | refine Grew.set ?_ (Nat.le_refl _) _ _ | refine Grew.set ?_ (by omega) _ _)))⟩
       case measure=>simp [intOf];omega
      case pos =>
       have HGX:=hid (show G x=fl (fun j=>decide (0<R.getD j 0)) L f j (wrap64 (wrap64 (x.pos+bb) - 1)) by rw [hGe,if_pos (by rw [hgd];exact decide_eq_true hu0)]);have e1:decide (0<u)=true:=decide_eq_true hu0;have HLX:=hid (show lq.length+(fl (fun j=>decide (0<R.getD j 0)) L f j (wrap64 (wrap64 (x.pos+bb) - 1))).length≤5000 by rw [← HGX.out];exact HLQ.out);clear hxm hx4 j1 j2 j3 hj hu hT h1 h4 h5 h7 hIj hcj hgd hGe hu0;go_wp2_with fail
       refine R3.wp_region_gentle_tail 11 (by kernel_rfl) (by kernel_rfl) (by kernel_rfl) ?_;simp only [List.take_succ_cons,List.take_zero,List.drop_succ_cons,List.drop_zero];repeat (first | go_big_quiet_skip | (go_big_quiet_want;go_big_quiet_op;first | go_big_quiet_on | fail))
       refine wpQuiet_nil ?_;rintro _ ⟨gg,ng,rfl⟩;go_wp2_with fail
       refine (IH.out j (wrap64 (wrap64 (x.pos+bb) - 1)) cj a' k' lq _ hjf HCJ.out HIJ.out (HSQ.out.grow (by repeat (first | exact Grew.refl _ | exact HG.out | refine Grew.drewN ?_ _ | refine Grew.grow ?_ _ | refine Grew.alloc ?_ _ | refine Grew.drew ?_ | refine Grew.set ?_ (Nat.le_refl _) _ _ | refine Grew.set ?_ (by omega) _ _))) HLX.out).mono ?_;rintro e W9 ⟨⟨v,rfl⟩,hS9⟩;have HS9:=hid hS9;clear hS9;go_wp2_with fail
       go_roundw
       case rel=>exact ⟨q+1,by omega,by go_num,hid (by rw [HTK.out,HGX.out];exact HS9.out.grow (by repeat (first | exact Grew.refl _ | exact HG.out | refine Grew.drewN ?_ _ | refine Grew.grow ?_ _ | refine Grew.alloc ?_ _ | refine Grew.drew ?_ | refine Grew.set ?_ (Nat.le_refl _) _ _ | refine Grew.set ?_ (by omega) _ _)))⟩
       case measure=>simp [intOf];omega
open Go Go.RowKit Amp Msh
theorem OwnI.none {w:World} {base k:Nat} {l:List It} (h:OwnI w base none k l):none=(none:Option Addr)→l.length=0∧k=0:=by
 intro _;obtain ⟨_,h | ⟨g,c,cur,h1,_⟩⟩:=h
 · obtain ⟨h1,h2⟩:=h
   injection h1 with h3 h4 h5;exact ⟨h4,h5⟩
 · cases h1
open Go Go.RowKit Amp Msh
theorem any_of {P:Program} {c:Code} {Q:Exit→Act→World→Prop} {a:Act} {w:World} (S:World→Prop) (h0:S w) (h:∀ wL,S wL→c.wp P Q a wL):c.wp P Q a w:=h _ h0
structure FlatAt (L:List Cl) (R:List Int) (a0:Option Addr) (cap b1 b4 b5 b6 b7 bm nn:Nat) (aS:Option Addr) (kS:Nat) (w wF:World):Prop where
 fix:FixA L R a0 cap b1 b4 b5 b6 b7 bm nn aS kS wF
 nil:wF.heap[b6]? = some (.cells #[.slice none 0 0] 26)
 grew:Grew w wF
 low:w.heap.size≤b6
theorem flat_bad (a0:Option Addr) (cap:Nat) (L:List Cl) (w:World) (hl:L.length≤9223372036854775807) (hN:Net w a0 L) (hk:CsOk L) (hv:vnet L=false) :
  Calls Tryz.prog 6 #[.slice a0 L.length cap] w (ListI ([],30) w):=by
 have HV:=hid (fun w' (hg:Grew w w')=>vnetP_any a0 cap L w' hl (hN.grew hg) hk);rw [hv] at HV;clear hv hN;go_enter Tryz.func6,Tryz.ntmps6
 go_wp2_with (go_at_call 20;refine (HV.out _ gw0).mono ?_;rintro e w1 ⟨rfl,g,n,rfl⟩)
 go_ret2
 exact ⟨⟨none,0,rfl,OwnI.nil _ _⟩,gw0⟩
theorem getLast_getD {l:List Int} {n:Nat} (h:l.length=n) (h0:0<n):l.getLast?.getD 0=l.getD (n - 1) 0:=by
 subst h;rw [List.getLast?_eq_getElem?,List.getD_eq_getElem?_getD]
theorem flat_at {L:List Cl} {R:List Int} {a0 aS:Option Addr} {cap b4 b5 bm kS:Nat} {x4 x5:Value} {w W:World} (hB4:W.heap[b4]? = some (.cells #[x4] 53)) (hB5:W.heap[b5]? = some (.cells #[x5] 55)) (hB1:W.heap[w.heap.size]? = some (.cells #[.slice a0 L.length cap] 22))
  (hM:MapV W bm L.length (ixV L)) (hO:OwnZ W 0 aS kS R) (hW:Grew w W) (hN:Net w a0 L) (hk:CsOk L) (h45:b4≠b5) (hb4:w.heap.size+1≤b4) (hb5:w.heap.size+1≤b5) :
  FlatAt L R a0 cap w.heap.size b4 b5 W.heap.size (W.heap.size+1) bm L.length aS kS w ((((W.setCell ⟨b4,0,none⟩ (.map (some bm))).setCell ⟨b5,0,none⟩ (.slice aS R.length kS)).alloc (.cells #[.slice none 0 0] 26)).alloc (.cells #[.func (.func 23) #[] #[.pointer (some ⟨W.heap.size,0,none⟩),.pointer (some ⟨b5,0,none⟩),.pointer (some ⟨b4,0,none⟩),.pointer (some ⟨W.heap.size+1,0,none⟩),.pointer (some ⟨w.heap.size,0,none⟩)]] 57)):=by
 have z4:=(Array.getElem?_eq_some_iff.1 hB4).1;have z5:=(Array.getElem?_eq_some_iff.1 hB5).1;have z1:=(Array.getElem?_eq_some_iff.1 hB1).1;have s4:=heap_setCell_same W b4 0 _ _ (.map (some bm)) hB4;have s5:=heap_setCell_same (W.setCell ⟨b4,0,none⟩ (.map (some bm))) b5 0 _ _ (.slice aS R.length kS) ((heap_setCell_other W _ _ _ h45.symm).trans hB5);have hM4:=hM.byList ((Turned.refl W b4).set 0 (.map (some bm))) hB4;have hM5:=hM4.byList ((Turned.refl _ b5).set 0 (.slice aS R.length kS)) ((heap_setCell_other W _ _ _ h45.symm).trans hB5);have hO4:OwnZ _ 0 aS kS R:=own_set hO hB4 (by decide) 0 (.map (some bm));have hO5:OwnZ _ 0 aS kS R:=own_set hO4 ((heap_setCell_other W _ _ _ h45.symm).trans hB5) (by decide) 0 (.slice aS R.length kS);have s45:=(heap_setCell_other (W.setCell ⟨b4,0,none⟩ (.map (some bm))) ⟨b5,0,none⟩ b4 (.slice aS R.length kS) h45).trans s4;have s51:=(heap_setCell_other (W.setCell ⟨b4,0,none⟩ (.map (some bm))) ⟨b5,0,none⟩ w.heap.size (.slice aS R.length kS) (show w.heap.size≠b5 by omega)).trans ((heap_setCell_other W _ _ _ (show w.heap.size≠b4 by omega)).trans hB1);have hG5:Grew w ((W.setCell ⟨b4,0,none⟩ (.map (some bm))).setCell ⟨b5,0,none⟩ (.slice aS R.length kS)):=(hW.set (by omega) 0 _).set (by omega) 0 _;have e6:((W.setCell ⟨b4,0,none⟩ (.map (some bm))).setCell ⟨b5,0,none⟩ (.slice aS R.length kS)).heap.size=W.heap.size:=by simp [go_sem]
 obtain ⟨S,hS⟩:∃ S,(W.setCell ⟨b4,0,none⟩ (.map (some bm))).setCell ⟨b5,0,none⟩ (.slice aS R.length kS)=S:=⟨_,rfl⟩;rw [hS] at s5 s45 s51 hM5 hO5 hG5 e6 ⊢;have g:Grew S ((S.alloc (.cells #[.slice none 0 0] 26)).alloc (.cells #[.func (.func 23) #[] #[.pointer (some ⟨W.heap.size,0,none⟩),.pointer (some ⟨b5,0,none⟩),.pointer (some ⟨b4,0,none⟩),.pointer (some ⟨W.heap.size+1,0,none⟩),.pointer (some ⟨w.heap.size,0,none⟩)]] 57)):=((Grew.refl S).alloc _).alloc _;have b6e:(S.alloc (.cells #[.slice none 0 0] 26)).heap[W.heap.size]? = some (.cells #[.slice none 0 0] 26):=blk_new e6.symm;have n6:=(((Grew.refl (S.alloc (.cells #[.slice none 0 0] 26))).alloc (.cells #[.func (.func 23) #[] #[.pointer (some ⟨W.heap.size,0,none⟩),.pointer (some ⟨b5,0,none⟩),.pointer (some ⟨b4,0,none⟩),.pointer (some ⟨W.heap.size+1,0,none⟩),.pointer (some ⟨w.heap.size,0,none⟩)]] 57)).block W.heap.size (Array.getElem?_eq_some_iff.1 b6e).1).trans b6e;have n7:((S.alloc (.cells #[.slice none 0 0] 26)).alloc (.cells #[.func (.func 23) #[] #[.pointer (some ⟨W.heap.size,0,none⟩),.pointer (some ⟨b5,0,none⟩),.pointer (some ⟨b4,0,none⟩),.pointer (some ⟨W.heap.size+1,0,none⟩),.pointer (some ⟨w.heap.size,0,none⟩)]] 57)).heap[W.heap.size+1]? = some (.cells #[.func (.func 23) #[] #[.pointer (some ⟨W.heap.size,0,none⟩),.pointer (some ⟨b5,0,none⟩),.pointer (some ⟨b4,0,none⟩),.pointer (some ⟨W.heap.size+1,0,none⟩),.pointer (some ⟨w.heap.size,0,none⟩)]] 57):=blk_new (by simp [go_sem,e6]);refine ⟨⟨?_, ?_, ?_,n7,hM5.grew g,hO5.grew g,hN.grew (hG5.trans g),hk,by omega,by omega,by omega,by omega⟩,n6,hG5.trans g,by omega⟩
 · exact (g.block _ (by rw [e6];exact z1)).trans s51
 · exact (g.block _ (by rw [e6];exact z4)).trans (by simpa using s45)
 · exact (g.block _ (by rw [e6];exact z5)).trans (by simpa using s5)
set_option maxRecDepth 100000 in
set_option maxHeartbeats 4000000 in
theorem flat_main (a0:Option Addr) (cap:Nat) (L:List Cl) (w:World) (hl:L.length≤9223372036854775807) (hN:Net w a0 L) (hk:CsOk L) (hv:vnet L=true) :
  Calls Tryz.prog 6 #[.slice a0 L.length cap] w (ListI (flatN L) w):=by
 have HV:=hid (fun w' (hg:Grew w w')=>vnetP_any a0 cap L w' hl (hN.grew hg) hk);rw [hv] at HV;have HP:=hid (fun w' (hg:Grew w w')=>places_any a0 cap L w' (hN.grew hg) hk hv);have HS:=hid (fun w' (hg:Grew w w')=>sizes_any a0 cap L w' (hN.grew hg) hk hv);obtain ⟨h1,h20⟩:=(vnet_all hv).1;obtain ⟨F,hF⟩:∃ F,flatN L=F:=⟨_,rfl⟩;rw [hF];unfold flatN at hF;have hlr:(szP L [] L).length=L.length:=by rw [szP_length];simp
 rw [if_pos hv,getLast_getD hlr (by omega)] at hF;obtain ⟨v,hv0⟩:∃ v,(szP L [] L)[L.length - 1]? = some v:=⟨(szP L [] L)[L.length - 1]'(by rw [hlr];omega),List.getElem?_eq_getElem _⟩;have HLEN:=hid (fun (h5:¬ 5000<v)=>fl_len hv (fun j=>decide (0<(szP L [] L).getD j 0)) L.length (L.length - 1) 0 v hv0 (by omega));have hgd:(szP L [] L).getD (L.length - 1) 0=v:=by rw [List.getD_eq_getElem?_getD,hv0];rfl
 rw [hgd] at hF;obtain ⟨c,hc⟩:∃ c,L[L.length - 1]? = some c:=⟨L[L.length - 1]'(by omega),List.getElem?_eq_getElem _⟩;have HC:=hid (flatF_any L hv a0 cap);obtain ⟨R,hR⟩:∃ R,szP L [] L=R:=⟨_,rfl⟩;rw [hR] at HS HLEN hlr hv0 hF HC;obtain ⟨r,hr⟩:∃ r,fl (fun j=>decide (0<R.getD j 0)) L L.length (L.length - 1) 0=r:=⟨_,rfl⟩;rw [hr] at hF HLEN;have HRR:=hid hF;have HLR:=hid hlr;have HVV:=hid hv0;have HN:=hid hN;have HK:=hid hk;have HCC:=hid hc;have HRF:=hid hr;obtain ⟨nL,hn⟩:∃ n,L.length - 1=n:=⟨_,rfl⟩;have HNN:=hid hn;rw [hn] at HVV HCC HRF;have hn1:(L.length:Int) - 1=nL:=by omega
 clear hF hR hr hN hk hc hlr hv0 hgd hn hv;go_enter Tryz.func6,Tryz.ntmps6
 go_wp2_with (go_at_call 20;refine (HV.out _ gw0).mono ?_;rintro e w1 ⟨rfl,g,n,rfl⟩)
 refine R4.wp_region_slots 6 (fun ix vs W=>match ix with | 0=>vs 0=.slice a0 L.length cap | 1=>∃ b,vs 1=.map (some b)∧MapV W b L.length (ixV L) | 2=>vs 2=.slice a0 L.length cap | 3=>∃ a2 k2,vs 3=.slice a2 R.length k2∧OwnZ W 0 a2 k2 R | 4=>R4.NewBlk (w.heap.size+1) 53 1 (vs 4) W | 5=>R4.NewBlk (w.heap.size+1) 55 1 (vs 5) W | _=>True) (by kernel_rfl) (by kernel_rfl) ?slst ?sldep ?slop ?slq
 case slst =>
  intro ix vs W W' h hg;match ix,h with
  | 0,h=>exact h
  | 1,h=>obtain ⟨b,h1,h2⟩:=h;exact ⟨b,h1,h2.grew hg⟩
  | 2,h=>exact h
  | 3,h=>obtain ⟨a2,k2,h1,h2⟩:=h;exact ⟨a2,k2,h1,h2.grew hg⟩
  | 4,h=>exact R4.NewBlk.grew h hg
  | 5,h=>exact R4.NewBlk.grew h hg
  | _+6,_=>trivial
 case sldep =>
  intro ix o vs vs' W hix ho h hv hn;match ix,hix,ho,h,hv with
  | 0,_,_,h,hv=>exact Eq.trans hv h
  | 1,_,_,h,hv=>show ∃ b,vs' 1=.map (some b)∧MapV W b L.length (ixV L);rw [hv];exact h
  | 2,_,_,h,hv=>exact Eq.trans hv h
  | 3,_,_,h,hv=>show ∃ a2 k2,vs' 3=.slice a2 R.length k2∧OwnZ W 0 a2 k2 R;rw [hv];exact h
  | 4,_,_,h,hv=>show R4.NewBlk (w.heap.size+1) 53 1 (vs' 4) W;rw [hv];exact h
  | 5,_,_,h,hv=>show R4.NewBlk (w.heap.size+1) 55 1 (vs' 5) W;rw [hv];exact h
  | kx+6,hix,_,_,_=>exact absurd hix (by omega)
 case slop =>
  intro ix o hix ho vs W L hg hL hn hall;match ix,hix,ho,hL with
  | 0, _, ho, _ =>
    obtain rfl:=Option.some.inj ho;change R4.Oper.slotAt _ _ { tmps:=_,defers:=_ } _ _;obtain ⟨gq,nq,rfl⟩:=hg;go_simp;exact ⟨R4.upd_same _ _ _,.inl gw0⟩
  | 1, _, ho, _ =>
    obtain rfl:=Option.some.inj ho;have hn0:=(hn 0 (by decide)).2;try dsimp only at hn0
    change R4.Oper.slotAt _ _ (Act.put _ (some 11) (vs 0)) _ _;conv=>arg 3;rw [hn0]
    clear hn0;obtain ⟨gq,nq,rfl⟩:=hg;go_simp;refine (HP.out _ gw0).mono ?_;rintro e w' ⟨⟨b,rfl,_,hM⟩,gr⟩;exact ⟨_,rfl,by rw [R4.upd_same];exact ⟨b,rfl,hM⟩,.inl gr⟩
  | 2, _, ho, _ =>
    obtain rfl:=Option.some.inj ho;change R4.Oper.slotAt _ _ { tmps:=_,defers:=_ } _ _;obtain ⟨gq,nq,rfl⟩:=hg;go_simp;exact ⟨R4.upd_same _ _ _,.inl gw0⟩
  | 3, _, ho, _ =>
    obtain rfl:=Option.some.inj ho;have hn2:=(hn 2 (by decide)).2;try dsimp only at hn2
    change R4.Oper.slotAt _ _ (Act.put _ (some 13) (vs 2)) _ _;conv=>arg 3;rw [hn2]
    clear hn2;obtain ⟨gq,nq,rfl⟩:=hg;go_simp;refine (HS.out _ gw0).mono ?_;rintro e w' ⟨⟨a2,k2,rfl,hO⟩,gr⟩;exact ⟨_,rfl,by rw [R4.upd_same];exact ⟨a2,k2,rfl,World.ownsRow.mono hO (Nat.zero_le _)⟩,.inl gr⟩
  | 4, _, ho, _ =>
    obtain rfl:=Option.some.inj ho;change R4.Oper.slotAt _ _ { tmps:=_,defers:=_ } _ _;obtain ⟨gq,nq,rfl⟩:=hg;go_simp;exact ⟨by rw [R4.upd_same];exact R4.NewBlk.fresh (cs:=#[.map none]) (by simp [go_sem]) (by simp [go_sem] <;> omega) |>.grew ((Grew.refl _).drewN _),.inl ((Grew.refl _).alloc _)⟩
  | 5, _, ho, _ =>
    obtain rfl:=Option.some.inj ho;change R4.Oper.slotAt _ _ { tmps:=_,defers:=_ } _ _;obtain ⟨gq,nq,rfl⟩:=hg;go_simp;exact ⟨by rw [R4.upd_same];exact R4.NewBlk.fresh (cs:=#[.slice none 0 0]) (by simp [go_sem]) (by simp [go_sem] <;> omega) |>.grew ((Grew.refl _).drewN _),.inl ((Grew.refl _).alloc _)⟩
  | kx+6,hix,_,_=>exact absurd hix (by omega)
 case slq =>
  intro vs W hg hn;have hn0:=hn 0 (by decide) (by decide);have hn1:=hn 1 (by decide) (by decide);have hn2:=hn 2 (by decide) (by decide);have hn3:=hn 3 (by decide) (by decide);have hn4:=hn 4 (by decide) (by decide);have hn5:=hn 5 (by decide) (by decide);change wpList _ _ _ _ (Act.put (Act.put (Act.put (Act.put (Act.put (Act.put _ (some 11) (vs 0)) (some 12) (vs 1)) (some 13) (vs 2)) (some 14) (vs 3)) (some 4) (vs 4)) (some 5) (vs 5)) _;rw [hn0,hn2];clear hn hn0 hn2;simp only [Act.put,List.setIfInBounds_toArray,List.set_cons_zero,List.set_cons_succ,List.drop_succ_cons,List.drop_zero];obtain ⟨bm,e1,hM⟩:=hn1;obtain ⟨aS,kS,e3,hO⟩:=hn3;obtain ⟨b4,cs4,e4,hb4,hs4,hB4⟩:=hn4;obtain ⟨b5,cs5,e5,hb5,hs5,hB5⟩:=hn5;rw [e1,e3,e4,e5];obtain ⟨x4,rfl⟩:∃ x,cs4=#[x]:=by
   obtain ⟨l⟩:=cs4;match l,hs4 with
   | [x],_=>exact ⟨x,rfl⟩
  obtain ⟨x5,rfl⟩:∃ x,cs5=#[x]:=by
   obtain ⟨l⟩:=cs5;match l,hs5 with
   | [x],_=>exact ⟨x,rfl⟩
  have hB1:W.heap[w.heap.size]? = some (.cells #[.slice a0 L.length cap] 22):=(hg.block _ (by simp [go_sem])).trans (by have h7:=(((Grew.refl (w.alloc (.cells #[.slice a0 L.length cap] 22))).grow g).drewN n).block w.heap.size (by simp [go_sem]);exact h7.trans (blk_new rfl));have hW:Grew w W:=Grew.trans gw0 hg;have h45:b4≠b5:=by
   rintro rfl;rw [hB4] at hB5;exact absurd (Option.some.inj hB5) (by simp)
  obtain ⟨bs,os,rfl,hbs,e0⟩:=hO.zs.cells HVV.out;have hbs4:bs≠b4:=fun e=>own_kind hO hB4 (by decide) (by rw [e];rfl)
  have hbs5:bs≠b5:=fun e=>own_kind hO hB5 (by decide) (by rw [e];rfl)
  have y4:W.cell? ⟨b4,0,none⟩=some x4:=by simp [World.cell?,hB4]
  have f4:W.frozen? ⟨b4,0,none⟩=false:=by simp [World.frozen?,hB4]
  have z4:=(Array.getElem?_eq_some_iff.1 hB4).1;have y5:W.cell? ⟨b5,0,none⟩=some x5:=by simp [World.cell?,hB5]
  have f5:W.frozen? ⟨b5,0,none⟩=false:=by simp [World.frozen?,hB5]
  have z5:=(Array.getElem?_eq_some_iff.1 hB5).1;have y1:W.cell? ⟨w.heap.size,0,none⟩=some (.slice a0 L.length cap):=by simp [World.cell?,hB1]
  have z1:=(Array.getElem?_eq_some_iff.1 hB1).1;have h41:b4≠w.heap.size:=by omega
  have h51:b5≠w.heap.size:=by omega
  have hnS:(nL:Int)<R.length:=by have:=HLR.out;have:=HNN.out;omega
  have HB4:=hid hB4;have HB5:=hid hB5;have HB1:=hid hB1;have HM:=hid hM;have HO:=hid hO;have HW:=hid hW;clear hg hB4 hB5 hB1 hM hO hW e1 e3 e4 e5 hs4 hs5;by_cases h5:5000<v
  · have HR5:=hid (HRR.out.symm.trans (if_pos h5))
    have e5:decide (5000<v)=true:=decide_eq_true h5;clear HRR;go_wp2_with fail
    go_ret2
    rw [HR5.out];exact ⟨⟨none,0,rfl,OwnI.nil _ _⟩,(HW.out.set (by omega) 0 _).set (by omega) 0 _⟩
  · have HR5:=hid (HRR.out.symm.trans (if_neg h5))
    have e5:decide (5000<v)=false:=decide_eq_false h5;have HLE:=hid (HLEN.out (by omega));have HFA0:=hid (flat_at HB4.out HB5.out HB1.out HM.out HO.out HW.out HN.out HK.out h45 hb4 hb5);clear HRR;go_wp2_with fail
    refine any_of (fun wF=>FlatAt L R a0 cap w.heap.size b4 b5 W.heap.size (W.heap.size+1) bm L.length (some ⟨bs,os,none⟩) kS w wF) HFA0.out ?_;intro wF hFA;have HFA:=hid hFA;obtain ⟨bn,on,rfl,hbn,c0,c1,an,kn,c2,hIn⟩:=hFA.fix.cls.cells HCC.out;have hF1:=hFA.fix.net;have hF7:=hFA.fix.put;have HIN:=hid hIn;have q1:=(Array.getElem?_eq_some_iff.1 hF1).1;have q7:=(Array.getElem?_eq_some_iff.1 hF7).1;have x1:wF.cell? ⟨w.heap.size,0,none⟩=some (.slice (some ⟨bn,on,none⟩) L.length cap):=by simp [World.cell?,hF1]
    have x7:wF.cell? ⟨W.heap.size+1,0,none⟩=some (.func (.func 23) #[] #[.pointer (some ⟨W.heap.size,0,none⟩),.pointer (some ⟨b5,0,none⟩),.pointer (some ⟨b4,0,none⟩),.pointer (some ⟨W.heap.size+1,0,none⟩),.pointer (some ⟨w.heap.size,0,none⟩)]):=by simp [World.cell?,hF7]
    have hnL:(nL:Int)<L.length:=by omega
    have q11:=fun m0:Nat=>Nat.lt_add_right m0 (q1)
    have q12:=fun m0 m1:Nat=>Nat.lt_add_right m1 (q11 m0)
    have q13:=fun m0 m1 m2:Nat=>Nat.lt_add_right m2 (q12 m0 m1)
    have q71:=fun m0:Nat=>Nat.lt_add_right m0 (q7)
    have q72:=fun m0 m1:Nat=>Nat.lt_add_right m1 (q71 m0)
    have q73:=fun m0 m1 m2:Nat=>Nat.lt_add_right m2 (q72 m0 m1)
    have hbn1:=fun m0:Nat=>Nat.lt_add_right m0 (hbn)
    have hbn2:=fun m0 m1:Nat=>Nat.lt_add_right m1 (hbn1 m0)
    have hbn3:=fun m0 m1 m2:Nat=>Nat.lt_add_right m2 (hbn2 m0 m1)
    clear hFA hF1 hF7 hIn HFA0 y4 y5 y1 f4 f5 e0 z1 z4 z5;refine R3.wp_region_gentle_tail 7 (by kernel_rfl) (by kernel_rfl) (by kernel_rfl) ?_;simp only [List.take_succ_cons,List.take_zero,List.drop_succ_cons,List.drop_zero];repeat (first | go_big_quiet_skip | (go_big_quiet_want;go_big_quiet_op;first | go_big_quiet_on | fail))
    refine wpQuiet_nil ?_;rintro _ ⟨gg,ng,rfl⟩;go_wp2_with fail
    refine (HC.out w.heap.size b4 b5 W.heap.size (W.heap.size+1) bm L.length (some ⟨bs,os,none⟩) kS wF (hid HFA.out.fix) HFA.out.nil L.length nL 0 c an kn [] _ (by omega) HCC.out HIN.out ⟨(Turned.refl _ _).grew gw0,(Array.getElem?_eq_some_iff.1 HFA.out.nil).1,none,0,(Grew.block gw0 _ (Array.getElem?_eq_some_iff.1 HFA.out.nil).1).trans HFA.out.nil,OwnI.nil _ _⟩ (by rw [HRF.out];have:=HLE.out;simp;omega)).mono ?_;rintro e W9 ⟨⟨vq,rfl⟩,hS9⟩;rw [HRF.out,List.nil_append] at hS9;obtain ⟨a9,k9,h9,hO9⟩:=hS9.out;have y9:W9.cell? ⟨W.heap.size,0,none⟩=some (.slice a9 r.length k9):=by simp [World.cell?,h9]
    have HO9:=hid hO9;have HT9:=hid hS9.turned;clear h9 hO9 hS9;go_wp2_with fail
    go_ret2
    rw [HR5.out];exact ⟨⟨a9,k9,rfl,World.ownsRow.mono HO9.out HFA.out.grew.size⟩,HT9.out.toGrew HFA.out.grew HFA.out.low⟩
theorem flat_any (a0:Option Addr) (cap:Nat) (L:List Cl) (w:World) (hl:L.length≤9223372036854775807) (hN:Net w a0 L) (hk:CsOk L) :
  Calls Tryz.prog 6 #[.slice a0 L.length cap] w (ListI (flatN L) w):=by
 by_cases hv:vnet L=true
 · exact flat_main a0 cap L w hl hN hk hv
 · rw [show flatN L=([],30) by unfold flatN;rw [if_neg hv]]
   exact flat_bad a0 cap L w hl hN hk (by simpa using hv)
open Go Go.RowKit Amp Msh
def litX:It:=⟨1,1,3,⟨#[]⟩⟩
def litY:It:=⟨4,2,0,⟨#[97]⟩⟩
def litZ:It:=⟨1,2,3,⟨#[]⟩⟩
def litL:List Cl:=[⟨⟨#[97]⟩,1,[litX]⟩,⟨⟨#[98]⟩,2,[litY]⟩]
theorem lit_flat:flatN litL=([litZ],0):=by decide +kernel
theorem lit_ok:CsOk litL:=by
 intro c hc;have h:(litL.all fun c=>decide (c.name.size≤1)&&decide (c.items.length≤1)&&c.items.all fun x=>decide (x.name.size≤1))=true:=by decide
 have h1:=List.all_eq_true.1 h c hc;simp only [Bool.and_eq_true,decide_eq_true_eq,List.all_eq_true] at h1;obtain ⟨⟨h2,h3⟩,h4⟩:=h1;unfold maxLen;exact ⟨by omega,by omega,fun x hx=>by have:=h4 x hx;omega⟩
set_option maxRecDepth 100000 in
set_option maxHeartbeats 2000000 in
theorem lit_any (w:World):Calls Tryz.prog 5 #[] w fun e w'=>e=.returned (.bool true)∧Grew w w':=by
 have HF:=hid fun a0 w (hc:Net w a0 litL)=>flat_any a0 2 litL w (by decide) hc lit_ok
 rw [lit_flat] at HF;go_enter Tryz.func5,Tryz.ntmps5
 go_wp2_with fail
 refine (HF.out _ _ (.inr ⟨w.heap.size+2,0,rfl,by simp,fun i c hc=>?_⟩)).mono ?_
 · match i,hc with
   | 0, hc =>
     obtain rfl:=Option.some.inj hc;refine ⟨by simp [go_sem],by simp [go_sem],some ⟨w.heap.size,0,none⟩,1,by simp [go_sem],.inr ⟨w.heap.size,0,rfl,by simp [go_sem] <;> omega,fun i z hz=>?_⟩⟩;match i,hz with
     | 0,hz=>obtain rfl:=Option.some.inj hz;simp [litX,go_sem]
     | k+1,hz=>simp at hz
   | 1, hc =>
     obtain rfl:=Option.some.inj hc;refine ⟨by simp [go_sem],by simp [go_sem],some ⟨w.heap.size+1,0,none⟩,1,by simp [go_sem],.inr ⟨w.heap.size+1,0,rfl,by simp [go_sem] <;> omega,fun i z hz=>?_⟩⟩;match i,hz with
     | 0,hz=>obtain rfl:=Option.some.inj hz;simp [litY,go_sem]
     | k+1,hz=>simp at hz
   | k+2,hc=>simp [litL] at hc
 rintro e w' ⟨⟨a2,k2,rfl,hO⟩,g,n,rfl⟩;dsimp only at hO ⊢;obtain ⟨b,off,rfl,hb,c0,c1,c2,c3⟩:=hO.its.cells (i:=0) (z:=litZ) rfl;simp [go_sem] at hb;have hb1:=fun m0:Nat=>Nat.lt_add_right m0 (hb)
 have hb2:=fun m0 m1:Nat=>Nat.lt_add_right m1 (hb1 m0)
 have hb3:=fun m0 m1 m2:Nat=>Nat.lt_add_right m2 (hb2 m0 m1)
 clear hO HF;unfold litZ at c0 c1 c2 c3;simp only [go_sem,Nat.zero_mul,Nat.add_zero] at c0 c1 c2 c3;dsimp only [List.length];go_wp2_with fail
 go_ret;exact ⟨rfl,gw0⟩
set_option maxHeartbeats 800000 in
theorem guides_any (a0:Option Addr) (cap:Nat) (L:List Cl) (c:Cl) (w:World) (hl:L.length≤9223372036854775807) (hN:Net w a0 L) (hc:L[L.length - 1]? = some c) :
  Calls Tryz.prog 7 #[.slice a0 L.length cap] w fun e w'=>e=.returned (.int .i64 c.gd)∧Grew w w':=by
 obtain ⟨b,off,rfl,hb,c0,c1,_⟩:=hN.cells hc;have h1:L.length - 1<L.length:=(List.getElem?_eq_some_iff.1 hc).1;have e1:(L.length:Int) - 1=((L.length - 1:Nat):Int):=by omega
 obtain ⟨m,hm⟩:∃ m,L.length - 1=m:=⟨_,rfl⟩;rw [hm] at c1 e1 h1;clear hc hN hm;go_enter Tryz.func7,Tryz.ntmps7
 go_wp2_with fail
 exact bodyPost_ret (v:=.int .i64 c.gd) (by simp [results,Tryz.results7,go_sem]) rfl ⟨rfl,gw0⟩
end Go.Proofs.YtchdmecjhaanfaaGreatDoor
