import Derived.Test.YtchdmecjhaanfaaGreatDoorLstA
import Derived.Test.YtchdmecjhaanfaaGreatDoorHouse
import Derived.Test.YtchdmecjhaanfaaGreatDoorTxtA
import Derived.Test.YtchdmecjhaanfaaGreatDoorStrA
import Derived.RangeFuncNested
import Derived.RangeFuncBox
import Derived.RangeFuncBound
import Derived.RangeFuncCalls
import Derived.RangeFuncLeaves
import Derived.WalkKit
import Derived.OwnWalkIn
import Derived.TacticsInMore
import Derived.LoopNIn
import Derived.LoopIn
import Derived.Shelf.Abstract
import Derived.Test.YtchdmecjhaanfaaGreatDoorMshX
import Derived.Test.YtchdmecjhaanfaaGreatDoorMshM
namespace Go.Proofs.YtchdmecjhaanfaaGreatDoor
open Go Go.RowKit Amp Msh
theorem _root_.k65_ {p:Prop} (h:p:=by
 show ((x::q)::qs).length≤_
 rw [List.length_cons];omega):p:=h
theorem _root_.k42_ {p:Prop} (h:p:=by
 obtain rfl:=Option.some.inj ho;change R4.Oper.slotAt _ _ { tmps:=_,defers:=_ } _ _;go_simp;exact ⟨hg,R4.upd_same _ _ _,.inl (Grew.refl _)⟩):p:=h
theorem _root_.k16_ {p:Prop} (h:p:=by
 intro ix o hix ho vs W L hg hL hn hall hdown;match ix,hix,ho,hL with
 | 0, _, ho, _ =>
   obtain rfl:=Option.some.inj ho;change R4.Oper.slotAt _ _ { tmps:=_,defers:=_ } _ _;go_simp;exact ⟨hg,R4.upd_same _ _ _,.inl (Grew.refl _)⟩
 | 1, _, ho, _ =>
   obtain rfl:=Option.some.inj ho;have hn0:=(hn 0 (by decide)).2;try dsimp only at hn0
   change R4.Oper.slotAt _ _ (Act.put _ (some 21) (vs 0)) _ _;conv=>arg 3;rw [hn0]
   clear hn0;go_simp;exact ⟨hg,R4.upd_same _ _ _,.inl (Grew.refl _)⟩
 | 2, _, ho, _ =>
   obtain rfl:=Option.some.inj ho;have hn1:=(hn 1 (by decide)).2;try dsimp only at hn1
   change R4.Oper.slotAt _ _ (Act.put _ (some 22) (vs 1)) _ _;conv=>arg 3;rw [hn1]
   clear hn1;have hq:Below W0.heap.size W0 W:=hg;have dq:=(hq.cell (p:=⟨g1,1,none⟩) zg1).trans HE1.out;clear hq;go_simp;exact ⟨hg,R4.upd_same _ _ _,.inl (Grew.refl _)⟩
 | 3, _, ho, _ =>
   obtain rfl:=Option.some.inj ho;change R4.Oper.slotAt _ _ { tmps:=_,defers:=_ } _ _;go_simp;exact ⟨hg,R4.upd_same _ _ _,.inl (Grew.refl _)⟩
 | 4, _, ho, _ =>
   obtain rfl:=Option.some.inj ho;have hn3:=(hn 3 (by decide)).2;try dsimp only at hn3
   change R4.Oper.slotAt _ _ (Act.put _ (some 24) (vs 3)) _ _;conv=>arg 3;rw [hn3]
   clear hn3;go_simp;exact ⟨hg,R4.upd_same _ _ _,.inl (Grew.refl _)⟩
 | 5, _, ho, _ =>
   obtain rfl:=Option.some.inj ho;have hn4:=(hn 4 (by decide)).2;try dsimp only at hn4
   change R4.Oper.slotAt _ _ (Act.put _ (some 25) (vs 4)) _ _;conv=>arg 3;rw [hn4]
   clear hn4;have hq:Below W0.heap.size W0 W:=hg;have dq:=(hq.cell (p:=⟨g1,2,none⟩) zg1).trans HE2.out;clear hq;go_simp;exact ⟨hg,R4.upd_same _ _ _,.inl (Grew.refl _)⟩
 | 6, _, ho, hL =>
   obtain rfl:=Option.some.inj ho;have hn5:=(hn 5 (by decide)).2;try dsimp only at hn5
   change R4.Oper.slotAt _ _ (Act.put _ (some 26) (vs 5)) _ _;conv=>arg 3;rw [hn5]
   clear hn5;have hq:=hid (show Below W0.heap.size W0 W from hg);go_simp;refine (HQ2.out _ (HLD.out.below (HBW.out.trans (hq.out.mono HBW.out.size)))).mono ?_;rintro e w' ⟨rfl,hb⟩;refine ⟨_,rfl,hq.out.trans (hb.mono hq.out.size),R4.upd_same _ _ _,.inr fun jx hjx hLj=>?_⟩;have hv:=hall jx hjx hLj;match jx,hjx,hv with
   | 0,_,hv=>exact hv
   | 1,_,hv=>exact hv
   | 2,_,hv=>exact hv
   | 3,_,hv=>exact hv
   | 4,_,hv=>exact hv
   | 5,_,hv=>exact hv
   | 6,_,hv=>exact hv
   | 7,_,hv=>exact hv
   | 8, _, hv =>
     obtain ⟨b,cs,h1,h2,h3,h4⟩:=hv;exact ⟨b,cs,h1,h2,h3,(hb.block b (Array.getElem?_eq_some_iff.1 h4).1).trans h4⟩
   | kx+9,hjx,_=>exact absurd hjx (by omega)
 | 7, _, ho, _ =>
   obtain rfl:=Option.some.inj ho;have hn2:=(hn 2 (by decide)).2;have hn6:=(hn 6 (by decide)).2;try dsimp only at hn2 hn6
   change R4.Oper.slotAt _ _ (Act.put (Act.put _ (some 23) (vs 2)) (some 27) (vs 6)) _ _;conv=>arg 3;rw [hn2,hn6]
   clear hn2 hn6;go_simp;exact ⟨hg,R4.upd_same _ _ _,.inl (Grew.refl _)⟩
 | 8, _, ho, _ =>
   obtain rfl:=Option.some.inj ho;change R4.Oper.slotAt _ _ { tmps:=_,defers:=_ } _ _;have hq:=hid (show Below W0.heap.size W0 W from hg);go_simp;exact ⟨hq.out.alloc hq.out.size _,by rw [R4.upd_same];exact R4.NewBlk.fresh (cs:=#[.string ⟨#[]⟩,.int .i64 0,.slice none 0 0]) (by simp [go_sem]) hq.out.size,.inl ((Grew.refl _).alloc _)⟩
 | kx+9,hix,_,_=>exact absurd hix (by omega)):p:=h
theorem _root_.k15_ {p:Prop} (h:p:=by
 intro ix o vs vs' W hix ho h hv hn;match ix,hix,ho,h,hv with
 | 0,_,_,h,hv=>exact Eq.trans hv h
 | 1,_,_,h,hv=>exact Eq.trans hv h
 | 2,_,_,h,hv=>exact Eq.trans hv h
 | 3,_,_,h,hv=>exact Eq.trans hv h
 | 4,_,_,h,hv=>exact Eq.trans hv h
 | 5,_,_,h,hv=>exact Eq.trans hv h
 | 6,_,_,h,hv=>exact Eq.trans hv h
 | 7,_,_,h,hv=>exact Eq.trans hv h
 | 8,_,_,h,hv=>show R4.NewBlk W0.heap.size 28 3 (vs' 8) W;rw [hv];exact h
 | kx+9,hix,_,_,_=>exact absurd hix (by omega)):p:=h
theorem _root_.k14_ {p:Prop} (h:p:=by
 intro ix vs W W' h hg;match ix,h with
 | 0,h=>exact h
 | 1,h=>exact h
 | 2,h=>exact h
 | 3,h=>exact h
 | 4,h=>exact h
 | 5,h=>exact h
 | 6,h=>exact h
 | 7,h=>exact h
 | 8,h=>exact R4.NewBlk.grew h hg
 | _+9,_=>trivial):p:=h
@[go_sem 100000] theorem run_str_sub (l : List UInt8) (f i : Nat) (w : World) (h1 : f ≤ i) (h : i ≤ l.length) : (Instr.sliceAt 9 (.string (strB l)) (some (.int .i64 (f : Int))) (some (.int .i64 (i : Int))) none).run Tryz.prog w = .ok (.string (strB ((l.take i).drop f))) w := by
  unfold Instr.sliceAt Instr.slice;simp only [go_sem];simp [Instr.sliceBound,go_sem,strB_extract];rw [if_pos h,if_pos h1]
@[go_sem 200000] theorem run_str_indexB1 (l:List UInt8) (w:World) (h:1<l.length):(Instr.index 9 (.string (strB l)) (.int .i64 1)).run Tryz.prog w=.ok (.int .u8 (byteI l 1)) w:=run_str_index l 1 w h
open Go Go.RowKit Amp Msh
theorem blk4 {w:World} {b:Nat} {v0 v1 v2 v3:Value} {T:TypeId} (h:w.heap[b]? = some (.cells #[v0,v1,v2,v3] T (0,0))) :
  (w.cell? ⟨b,0,none⟩=some v0∧w.cell? ⟨b,1,none⟩=some v1∧w.cell? ⟨b,2,none⟩=some v2∧w.cell? ⟨b,3,none⟩=some v3)∧(∀ i,w.frozen? ⟨b,i,none⟩=false)∧b<w.heap.size:=by
 refine ⟨⟨?_, ?_, ?_, ?_⟩,fun i=>?_,(Array.getElem?_eq_some_iff.1 h).1⟩;all_goals simp [World.cell?,World.frozen?,h]
theorem set4 {w:World} {b:Nat} {a0 a1 a2 a3 v0 v1 v2 v3:Value} {T:TypeId} (h:w.heap[b]? = some (.cells #[a0,a1,a2,a3] T (0,0))) :
  ((((w.setCell ⟨b,0,none⟩ v0).setCell ⟨b,1,none⟩ v1).setCell ⟨b,2,none⟩ v2).setCell ⟨b,3,none⟩ v3).heap[b]? = some (.cells #[v0,v1,v2,v3] T (0,0)):=by
 unfold World.setCell;simp [Array.getElem?_modify,h]
theorem u8_eq {c d:UInt8}:((c.toNat:Int)==(d.toNat:Int))=(c==d):=by
 rw [Bool.eq_iff_iff,beq_iff_eq,beq_iff_eq];constructor
 · intro h;exact UInt8.toNat_inj.1 (by omega)
 · rintro rfl;rfl
theorem spl_len (c:UInt8):∀ l:List UInt8,∀ p∈spl c l,p.length≤l.length
 | [], p, h => by
   rw [spl,List.mem_singleton] at h;subst h;exact Nat.le_refl _
 | x :: l, p, h => by
   have ih:=spl_len c l;rw [spl] at h;rw [List.length_cons];split at h
   · rcases List.mem_cons.1 h with rfl | h
     · exact Nat.zero_le _
     · exact Nat.le_succ_of_le (ih p h)
   · cases hs:spl c l with
     | nil=>exact absurd hs (spl_ne c l)
     | cons q qs =>
       rw [hs] at h ih;rcases List.mem_cons.1 h with rfl | h
       · have:=ih q List.mem_cons_self
         rw [List.length_cons];omega
       · exact Nat.le_succ_of_le (ih p (List.mem_cons_of_mem _ h))
theorem spl_count (c:UInt8):∀ l:List UInt8,(spl c l).length≤l.length+1
 | []=>Nat.le_refl _
 | x :: l => by
   have ih:=spl_count c l;rw [spl,List.length_cons];split
   · rw [List.length_cons];omega
   · cases hs:spl c l with
     | nil=>exact absurd hs (spl_ne c l)
     | cons q qs =>
       rw [hs,List.length_cons] at ih;exact k65_
def itRb (p z:List UInt8):It:=match p with
 | []=>noIt
 | h::r=>if h=112 then ⟨1,numR r,numR z,⟨#[]⟩⟩ else if h=99 then ⟨2,numR r,0,⟨#[]⟩⟩ else if h=120 then ⟨3,numR r,0,⟨#[]⟩⟩ else ⟨0,numR r,0,⟨#[]⟩⟩
open Go Go.RowKit Amp Msh
theorem blk3 {w:World} {b:Nat} {v0 v1 v2:Value} {T:TypeId} (h:w.heap[b]? = some (.cells #[v0,v1,v2] T (0,0))) :
  (w.cell? ⟨b,0,none⟩=some v0∧w.cell? ⟨b,1,none⟩=some v1∧w.cell? ⟨b,2,none⟩=some v2)∧(∀ i,w.frozen? ⟨b,i,none⟩=false)∧b<w.heap.size:=by
 refine ⟨⟨?_, ?_, ?_⟩,fun i=>?_,(Array.getElem?_eq_some_iff.1 h).1⟩;all_goals simp [World.cell?,World.frozen?,h]
theorem set3 {w:World} {b:Nat} {a0 a1 a2 v0 v1 v2:Value} {T:TypeId} (h:w.heap[b]? = some (.cells #[a0,a1,a2] T (0,0))) :
  (((w.setCell ⟨b,0,none⟩ v0).setCell ⟨b,1,none⟩ v1).setCell ⟨b,2,none⟩ v2).heap[b]? = some (.cells #[v0,v1,v2] T (0,0)):=by
 unfold World.setCell;simp [Array.getElem?_modify,h]
theorem set3_2 {w:World} {b:Nat} {a0 a1 a2 v2:Value} {T:TypeId} (h:w.heap[b]? = some (.cells #[a0,a1,a2] T (0,0))):(w.setCell ⟨b,2,none⟩ v2).heap[b]? = some (.cells #[a0,a1,v2] T (0,0)):=by
 unfold World.setCell;simp [Array.getElem?_modify,h]
theorem set3_other {w:World} {b k:Nat} {v0 v1 v2:Value} (h:k≠b):(((w.setCell ⟨b,0,none⟩ v0).setCell ⟨b,1,none⟩ v1).setCell ⟨b,2,none⟩ v2).heap[k]? = w.heap[k]? :=
 (Below.heap_setCell _ _ _ k h).trans ((Below.heap_setCell _ _ _ k h).trans (Below.heap_setCell _ _ _ k h))
theorem OwnI.low {w:World} {base:Nat} {a0:Option Addr} {k0:Nat} {l:List It} (h:OwnI w base a0 k0 l) {b:Nat} (hb:b<base) (i:Nat) (u:Value):OwnI (w.setCell ⟨b,i,none⟩ u) base a0 k0 l:=ownsRow_setCell_low h hb i u
theorem news_of {w:World} {bx:Nat} {z:It} (h:w.heap[bx]? = some (.cells #[.int .i64 z.kind,.int .i64 z.pos,.int .i64 z.n,.string z.name] 51 (0,0))):∀ j u,(itsCells [z])[j]? = some u→w.cell? ((⟨bx,0,none⟩:Addr).add j)=some u:=by
 rw [itsCells_one'];obtain ⟨⟨y0,y1,y2,y3⟩,_,_⟩:=blk4 h;exact itCells_in y0 y1 y2 y3
theorem len_three {α:Type} {l:List α} (h:l.length=3):∃ a b c,l=[a,b,c]:=by
 match l,h with
 | [a,b,c],_=>exact ⟨a,b,c,rfl⟩
open Go Go.RowKit Amp Msh
def ParP (R:List Cl × Int) (e:Ending) (w':World):Prop:=∃ (a:Option Addr) (k:Nat),e=.returned (.tuple #[.slice a R.1.length k,.int .i64 R.2])∧Net w' a R.1∧R.1.length≤k
theorem OwnCs.len {w:World} {base:Nat} {a0:Option Addr} {k0:Nat} {V:List CV} {L:List Cl} (h:OwnCs w base a0 k0 V) (hV:CvIn w V L):Net w a0 L∧L.length≤k0:=OwnC.net ⟨V,h,hV⟩
open Go Go.RowKit Amp Msh
theorem pit_ret {b:Nat} {v0 v1 v2 v3:Value} {W:World} {tm:Array Value} {R:Ending→World→Prop} (htm:tm[2]? = some (.pointer (some ⟨b,0,none⟩))) (hx:W.heap[b]? = some (.cells #[v0,v1,v2,v3] 51 (0,0))) (h:R (.returned (.agg #[v0,v1,v2,v3])) W) :
  bodyPost Tryz.prog Tryz.f68 R .ret { tmps:=tm,defers:=[] } W:=by
 obtain ⟨⟨x0,x1,x2,x3⟩,_,_⟩:=blk4 hx;refine bodyPost_ret (v:=.agg #[v0,v1,v2,v3]) ?_ rfl h;simp [results,Tryz.results68,go_sem,htm,x0,x1,x2,x3]
theorem below_set4 {B b:Nat} {w w':World} {v0 v1 v2 v3:Value} (h:Below B w w') (hb:B≤b):Below B w ((((w'.setCell ⟨b,0,none⟩ v0).setCell ⟨b,1,none⟩ v1).setCell ⟨b,2,none⟩ v2).setCell ⟨b,3,none⟩ v3) :=
 (((h.setCell (p:=⟨b,0,none⟩) hb v0).setCell (p:=⟨b,1,none⟩) hb v1).setCell (p:=⟨b,2,none⟩) hb v2).setCell (p:=⟨b,3,none⟩) hb v3
def itPb (l:List UInt8):It:=match l with
 | []=>noIt
 | h::r=>if h=112 then ⟨1,numP (befB 32 r),numP (aftB 32 r),⟨#[]⟩⟩ else if h=99 then ⟨2,numP r,0,⟨#[]⟩⟩ else if h=120 then ⟨3,numP r,0,⟨#[]⟩⟩ else noIt
theorem aft_len (c:UInt8) (l:List UInt8):(aftB c l).length≤l.length:=by
 unfold aftB;rw [List.length_tail];have:=(List.dropWhile_sublist (fun x=>x != c) (l:=l)).length_le;omega
theorem bef_len (c:UInt8) (l:List UInt8):(befB c l).length≤l.length:=(List.takeWhile_sublist (fun x=>x != c) (l:=l)).length_le
set_option maxRecDepth 100000 in
set_option maxHeartbeats 8000000 in
theorem pit_any (l:List UInt8) (w:World) (hl:l.length≤100000) (hL:LaidN w) :
  Calls Tryz.prog 68 #[.string (strB l)] w fun e w'=>e=.returned (.agg #[.int .i64 (itP l).kind,.int .i64 (itP l).pos,.int .i64 (itP l).n,.string (itP l).name])∧Below w.heap.size w w':=by
 have HL:=hid hL;have H64:=hid fun w' (h:LaidN w')=>cutB_any 64 l w' hl h
 have HA:=hid (aft_len 64 l);have HLL:=hid hl;have hW0:Below w.heap.size w (w.alloc (.cells #[.int .i64 0,.int .i64 0,.int .i64 0,.string ⟨#[]⟩] 51)):=(Below.refl _ w).alloc (Nat.le_refl _) _;have HR:Hid (itP l=if hasB 64 l=true then ⟨4,numP (aftB 64 l),0,mkS (befB 64 l)⟩ else itPb l):=hid rfl;obtain ⟨X,hX⟩:∃ X,befB 64 l=X:=⟨_,rfl⟩;obtain ⟨Y,hY⟩:∃ X,aftB 64 l=X:=⟨_,rfl⟩;obtain ⟨ok,hok⟩:∃ b,hasB 64 l=b:=⟨_,rfl⟩;rw [hX,hY,hok] at H64 HR;rw [hY] at HA;have HLW:=hid (hL.below hW0);clear hL hX hY hok hW0;go_enter Tryz.func68,Tryz.ntmps68
 go_wp2_with fail
 refine (H64.out _ HLW.out).mono ?_;rintro e w1 ⟨rfl,hg⟩;dsimp only;have hb2:w1.heap[w.heap.size]? = some (.cells #[.int .i64 0,.int .i64 0,.int .i64 0,.string ⟨#[]⟩] 51 (0,0)):=(hg.block _ (by rw [World.size_alloc];omega)).trans (blk_new rfl);have hbw:Below w.heap.size w w1:=(Grew.trans gw0 hg).below;obtain ⟨b2,hbq⟩:∃ b,w.heap.size=b:=⟨_,rfl⟩;have HBQ:=hid hbq;have HBW1:=hid hbw;rw [hbq] at hb2;obtain ⟨⟨y0,y1,y2,y3⟩,yf,z2⟩:=blk4 hb2;have HB1:=hid hb2;rw [hbq];clear hg hbq hbw hb2 H64 HLW;cases ok with
 | true =>
   have HR:=hid (HR.out.trans (if_pos rfl));have HN:=hid fun w' (h:LaidN w')=>number_any Y w' (Nat.le_trans HA.out hl) h
   go_wp2_with fail
   refine (HN.out _ (HL.out.below HBW1.out)).mono ?_;rintro e w2 ⟨rfl,hb⟩;have hb2:=(hb.block _ z2).trans HB1.out;obtain ⟨⟨y0,y1,y2,y3⟩,yf,z2⟩:=blk4 hb2;have HB2:=hid hb2;have HBW2:=hid (HBW1.out.trans (hb.mono HBW1.out.size));clear hb hb2;go_wp2_with fail
   exact pit_ret rfl (set4 HB2.out) ⟨by rw [HR.out] <;> rfl,below_set4 HBW2.out (by have:=HBQ.out;omega)⟩
 | false =>
   have HR:=hid (HR.out.trans (if_neg Bool.false_ne_true));by_cases hl0:l=[]
   case pos =>
    have e1:l.isEmpty=true:=isE_t hl0;have HR:=hid (show itP l=noIt by rw [HR.out,hl0];rfl);clear hl0;go_wp2_with fail
    exact pit_ret rfl (set4 HB1.out) ⟨by rw [HR.out] <;> rfl,below_set4 HBW1.out (by have:=HBQ.out;omega)⟩
   case neg =>
    obtain ⟨h,r,hlq⟩:∃ h r,l=h::r:=by
     cases l with
     | nil=>exact absurd rfl hl0
     | cons h r=>exact ⟨h,r,rfl⟩
    have e1:l.isEmpty=false:=isE_f hl0;have hl1:0<l.length:=List.length_pos_iff.2 hl0;have hr:l.tail=r:=by rw [hlq];rfl
    have hr':l.drop 1=r:=by rw [hlq];rfl
    have hrl:r.length≤100000:=by rw [hlq,List.length_cons] at hl;omega
    obtain ⟨ci,hci⟩:∃ c:Int,(h.toNat:Int)=c:=⟨_,rfl⟩;have hb0:byteI l 0=ci:=by rw [hlq,← hci];rfl
    have HR:Hid (itP l=if h=112 then ⟨1,numP (befB 32 r),numP (aftB 32 r),⟨#[]⟩⟩ else if h=99 then ⟨2,numP r,0,⟨#[]⟩⟩ else if h=120 then ⟨3,numP r,0,⟨#[]⟩⟩ else noIt):=hid (by rw [HR.out,hlq];rfl);have hq:∀ d:UInt8,(ci==(d.toNat:Int))=(h==d):=fun d=>by rw [← hci];exact u8_eq
    have q1:(ci==112)=(h==112):=hq 112;have q2:(ci==99)=(h==99):=hq 99;have q3:(ci==120)=(h==120):=hq 120;have Q1:=hid q1;have Q2:=hid q2;have Q3:=hid q3;have HRL:=hid hrl;have HN:=hid fun w' (h:LaidN w')=>number_any r w' hrl h
    clear hq hlq hci hl0 q1 q2 q3 hrl hl;go_wp2_with fail
    refine R3.wp_region_gentle_tail 5 (by kernel_rfl) (by kernel_rfl) (by kernel_rfl) ?_;simp only [List.take_succ_cons,List.take_zero,List.drop_succ_cons,List.drop_zero];repeat (first | go_big_quiet_skip | (go_big_quiet_want;go_big_quiet_op;first | go_big_quiet_on | fail))
    refine wpQuiet_nil ?_;rintro _ ⟨gg,ng,rfl⟩;have hgB:Below w.heap.size w ((w1.grow gg).drewN ng):=HBW1.out.trans ((show Grew w1 ((w1.grow gg).drewN ng) from ⟨gg,ng,rfl⟩).below.mono HBW1.out.size);have hbb:=((Grew.block (a:=w1) (w:=(w1.grow gg).drewN ng) ⟨gg,ng,rfl⟩ _ z2)).trans HB1.out;obtain ⟨W1,hW1⟩:∃ W1,(w1.grow gg).drewN ng=W1:=⟨_,rfl⟩;rw [hW1] at hgB hbb;rw [hW1];obtain ⟨⟨y0,y1,y2,y3⟩,yf,z2⟩:=blk4 hbb;have HB3:=hid hbb;have HBW3:=hid hgB;clear hgB hbb hW1 HB1 HBW1;by_cases h1:h=112
    case pos =>
     have e2:(ci==112)=true:=by rw [Q1.out];exact beq_iff_eq.2 h1
     have HR:=hid (HR.out.trans (if_pos h1));have HC:=hid fun w' (h:LaidN w')=>cutB_any 32 r w' HRL.out h
     have HNA:=hid fun w' (h:LaidN w')=>number_any (befB 32 r) w' (Nat.le_trans (bef_len 32 r) HRL.out) h
     have HNB:=hid fun w' (h:LaidN w')=>number_any (aftB 32 r) w' (Nat.le_trans (aft_len 32 r) HRL.out) h
     obtain ⟨X,hX⟩:∃ X,befB 32 r=X:=⟨_,rfl⟩;obtain ⟨Z,hZ⟩:∃ X,aftB 32 r=X:=⟨_,rfl⟩;rw [hX,hZ] at HC HR;rw [hX] at HNA;rw [hZ] at HNB;clear h1 hX hZ HN;go_wp2_with fail
     refine (HC.out _ (HL.out.below HBW3.out)).mono ?_;rintro e w4 ⟨rfl,hg4⟩;have hb4:=(hg4.block _ z2).trans HB3.out;obtain ⟨⟨y0,y1,y2,y3⟩,yf,z2⟩:=blk4 hb4;have HB4:=hid hb4;have HBW4:=hid (HBW3.out.trans (hg4.below.mono HBW3.out.size));clear hb4 hg4;go_wp2_with fail
     refine (HNA.out _ (HL.out.below HBW4.out)).mono ?_;rintro e w5 ⟨rfl,hg5⟩;have hb5:=(hg5.block _ z2).trans HB4.out;obtain ⟨⟨y0,y1,y2,y3⟩,yf,z2⟩:=blk4 hb5;have HB5:=hid hb5;have HBW5:=hid (HBW4.out.trans (hg5.mono HBW4.out.size));clear hb5 hg5;go_wp2_with fail
     refine (HNB.out _ (HL.out.below HBW5.out)).mono ?_;rintro e w6 ⟨rfl,hg6⟩;have hb6:=(hg6.block _ z2).trans HB5.out;obtain ⟨⟨y0,y1,y2,y3⟩,yf,z2⟩:=blk4 hb6;have HB6:=hid hb6;have HBW6:=hid (HBW5.out.trans (hg6.mono HBW5.out.size));clear hb6 hg6;go_wp2_with fail
     exact pit_ret rfl (set4 HB6.out) ⟨by rw [HR.out] <;> rfl,below_set4 HBW6.out (by have:=HBQ.out;omega)⟩
    case neg =>
     have e2:(ci==112)=false:=by rw [Q1.out];exact beq_eq_false_iff_ne.2 h1
     have HR:=hid (HR.out.trans (if_neg h1));clear h1;by_cases h2:h=99
     case pos =>
      have e3:(ci==99)=true:=by rw [Q2.out];exact beq_iff_eq.2 h2
      have HR:=hid (HR.out.trans (if_pos h2));clear h2;go_wp2_with fail
      refine (HN.out _ (HL.out.below HBW3.out)).mono ?_;rintro e w5 ⟨rfl,hg5⟩;have hb5:=(hg5.block _ z2).trans HB3.out;obtain ⟨⟨y0,y1,y2,y3⟩,yf,z2⟩:=blk4 hb5;have HB5:=hid hb5;have HBW5:=hid (HBW3.out.trans (hg5.mono HBW3.out.size));clear hb5 hg5;go_wp2_with fail
      exact pit_ret rfl (set4 HB5.out) ⟨by rw [HR.out] <;> rfl,below_set4 HBW5.out (by have:=HBQ.out;omega)⟩
     case neg =>
      have e3:(ci==99)=false:=by rw [Q2.out];exact beq_eq_false_iff_ne.2 h2
      have HR:=hid (HR.out.trans (if_neg h2));clear h2;by_cases h3:h=120
      case pos =>
       have e4:(ci==120)=true:=by rw [Q3.out];exact beq_iff_eq.2 h3
       have HR:=hid (HR.out.trans (if_pos h3));clear h3;go_wp2_with fail
       refine (HN.out _ (HL.out.below HBW3.out)).mono ?_;rintro e w5 ⟨rfl,hg5⟩;have hb5:=(hg5.block _ z2).trans HB3.out;obtain ⟨⟨y0,y1,y2,y3⟩,yf,z2⟩:=blk4 hb5;have HB5:=hid hb5;have HBW5:=hid (HBW3.out.trans (hg5.mono HBW3.out.size));clear hb5 hg5;go_wp2_with fail
       exact pit_ret rfl (set4 HB5.out) ⟨by rw [HR.out] <;> rfl,below_set4 HBW5.out (by have:=HBQ.out;omega)⟩
      case neg =>
       have e4:(ci==120)=false:=by rw [Q3.out];exact beq_eq_false_iff_ne.2 h3
       have HR:=hid (HR.out.trans (if_neg h3));clear h3;go_wp2_with fail
       exact pit_ret rfl (set4 HB3.out) ⟨by rw [HR.out] <;> rfl,below_set4 HBW3.out (by have:=HBQ.out;omega)⟩
open Go Go.RowKit Amp Msh
def ClQ (B:Nat) (c:Cl) (e:Ending) (w':World):Prop:=∃ (a:Option Addr) (k:Nat),e=.returned (.agg #[.string c.name,.int .i64 c.gd,.slice a c.items.length k])∧ItsK w' a c.items∧∀ q,a=some q→B≤q.block
def ClsB (W0:World) (_:Nat→Prop) (W:World):Prop:=Below W0.heap.size W0 W
theorem below_set3 {B b:Nat} {w w':World} {v0 v1 v2:Value} (h:Below B w w') (hb:B≤b):Below B w (((w'.setCell ⟨b,0,none⟩ v0).setCell ⟨b,1,none⟩ v1).setCell ⟨b,2,none⟩ v2) :=
 ((h.setCell (p:=⟨b,0,none⟩) hb v0).setCell (p:=⟨b,1,none⟩) hb v1).setCell (p:=⟨b,2,none⟩) hb v2
theorem pcl_ret {b:Nat} {v0 v1 v2:Value} {W:World} {tm:Array Value} {R:Ending→World→Prop} (htm:tm[2]? = some (.pointer (some ⟨b,0,none⟩))) (hx:W.heap[b]? = some (.cells #[v0,v1,v2] 28 (0,0))) (h:R (.returned (.agg #[v0,v1,v2])) W) :
  bodyPost Tryz.prog Tryz.f32 R .ret { tmps:=tm,defers:=[] } W:=by
 obtain ⟨⟨x0,x1,x2⟩,_,_⟩:=blk3 hx;refine bodyPost_ret (v:=.agg #[v0,v1,v2]) ?_ rfl h;simp [results,Tryz.results32,go_sem,htm,x0,x1,x2]
theorem strsV_cell {w:World} {b:Nat} {l:List (List UInt8)} (h:w.heap[b]? = some (.cells (strsV l) 9 (0,0))) {j:Nat} {p:List UInt8} (hp:l[j]? = some p):w.cell? ⟨b,j,none⟩=some (.string (strB p)):=by
 have:(strsV l)[j]? = some (.string (strB p)):=by
  unfold strsV;rw [List.getElem?_toArray,List.getElem?_map,hp];rfl
 simp [World.cell?,h,this]
set_option maxRecDepth 100000 in
set_option maxHeartbeats 8000000 in
theorem pcl_bad (l:List UInt8) (w:World) (hl:l.length≤50000) (hL:LaidN w) (hb:(spl 32 (befB 58 l)).length≠3) :
  Calls Tryz.prog 32 #[.string (strB l)] w fun e w'=>ClQ w.heap.size (clP l) e w'∧Below w.heap.size w w':=by
 have HBAD:=hid hb;clear hb;have HL:=hid hL;have H58:=hid fun w' (h:LaidN w')=>cutB_any 58 l w' (by omega) h
 have HAL:=hid (aft_len 58 l);have HBL:=hid (bef_len 58 l);have HLL:=hid hl;have HR:Hid (clP l=if (spl 32 (befB 58 l)).length=3 then ⟨mkS ((spl 32 (befB 58 l)).getD 1 []),numP ((spl 32 (befB 58 l)).getD 2 []),if aftB 58 l=[] then [] else (spl2 59 32 (cutHd 32 (aftB 58 l))).map itP⟩ else noCl):=hid rfl;obtain ⟨X,hX⟩:∃ X,befB 58 l=X:=⟨_,rfl⟩;obtain ⟨Y,hY⟩:∃ X,aftB 58 l=X:=⟨_,rfl⟩;obtain ⟨ok,hok⟩:∃ b,hasB 58 l=b:=⟨_,rfl⟩;rw [hX,hY,hok] at H58;rw [hX,hY] at HR;rw [hX] at HBL;rw [hY] at HAL;have H32:=hid fun w' (h:LaidN w')=>splitB_any 32 X w' (by have:=HBL.out;omega) h
 obtain ⟨Q,hQ⟩:∃ Q,spl 32 X=Q:=⟨_,rfl⟩;have HSQ:Hid (∀ p∈Q,p.length≤50000):=hid fun p hp=>by rw [← hQ] at hp;have:=spl_len 32 X p hp;have:=HBL.out;omega
 have HQC:=hid (show Q.length≤50001 by rw [← hQ];have:=spl_count 32 X;have:=HBL.out;omega);rw [hX,hQ] at HBAD;rw [hQ] at H32 HR;have HLW:=hid (hL.below ((Below.refl _ w).alloc (Nat.le_refl _) (.cells #[.string ⟨#[]⟩,.int .i64 0,.slice none 0 0] 28)));clear hX hY hok hQ hL hl;go_enter Tryz.func32,Tryz.ntmps32
 go_wp2_with fail
 refine (H58.out _ HLW.out).mono ?_;rintro e w1 ⟨rfl,hg⟩;dsimp only;have hb2:w1.heap[w.heap.size]? = some (.cells #[.string ⟨#[]⟩,.int .i64 0,.slice none 0 0] 28 (0,0)):=(hg.block _ (by rw [World.size_alloc];omega)).trans (blk_new rfl);have hbw:Below w.heap.size w w1:=(Grew.trans gw0 hg).below;obtain ⟨b2,hbq⟩:∃ b,w.heap.size=b:=⟨_,rfl⟩;have HBQ:=hid hbq;have HBW:=hid hbw;rw [hbq] at hb2;have z2:=(Array.getElem?_eq_some_iff.1 hb2).1;have HB2:=hid hb2;rw [hbq];clear hg hbq hbw hb2 H58 HLW;have z21:=fun m0:Nat=>Nat.lt_add_right m0 (z2)
 have z22:=fun m0 m1:Nat=>Nat.lt_add_right m1 (z21 m0)
 have z23:=fun m0 m1 m2:Nat=>Nat.lt_add_right m2 (z22 m0 m1)
 go_wp2_with fail
 refine (H32.out _ (HL.out.below HBW.out)).mono ?_;rintro e w2 ⟨rfl,hw2⟩;dsimp only;have hgw2:Grew w1 w2:=by rw [hw2];exact (Grew.refl _).alloc _
 have hbg:w2.heap[w1.heap.size]? = some (.cells (strsV Q) 9 (0,0)):=by rw [hw2];exact blk_new rfl
 obtain ⟨g1,hg1⟩:∃ g,w1.heap.size=g:=⟨_,rfl⟩;rw [hg1] at hbg;rw [hg1];have zg1:=(Array.getElem?_eq_some_iff.1 hbg).1;have hb2:=(hgw2.block _ z2).trans HB2.out;have HB2:=hid hb2;have hbw:=HBW.out.trans (hgw2.below.mono HBW.out.size);have HBW:=hid hbw;have HG1:=hid (show w.heap.size≤g1 by rw [← hg1];have:=HBQ.out;omega);have HBG:=hid hbg;obtain ⟨⟨y0,y1,y2⟩,yf,z2⟩:=blk3 hb2;obtain ⟨nq,hnq⟩:∃ n,Q.length=n:=⟨_,rfl⟩;have hnq9:nq<9223372036854775800:=by have:=HQC.out;omega
 have HNQ:=hid hnq;rw [hnq];clear hw2 hgw2 hbg hg1 hb2 hbw H32 HQC hnq z21 z22 z23;have hn3:¬ nq=3:=by rw [← HNQ.out];exact HBAD.out
 have HR:=hid (HR.out.trans (if_neg HBAD.out));have e1:((nq:Int) != 3)=true:=by simp;omega
 clear hn3;go_wp2_with fail
 exact pcl_ret rfl (set3 HB2.out) ⟨⟨none,0,by rw [HR.out];rfl,by rw [HR.out];exact ItsK.nil _,fun q h=>by cases h⟩,below_set3 HBW.out (by have:=HBQ.out;omega)⟩
set_option maxRecDepth 100000 in
set_option maxHeartbeats 8000000 in
theorem pcl_nil (l:List UInt8) (w:World) (hl:l.length≤50000) (hL:LaidN w) (h3:(spl 32 (befB 58 l)).length=3) (hb:aftB 58 l=[]) :
  Calls Tryz.prog 32 #[.string (strB l)] w fun e w'=>ClQ w.heap.size (clP l) e w'∧Below w.heap.size w w':=by
 have HBAD:=hid hb;have H3:=hid h3;clear hb h3;have HL:=hid hL;have H58:=hid fun w' (h:LaidN w')=>cutB_any 58 l w' (by omega) h
 have HAL:=hid (aft_len 58 l);have HBL:=hid (bef_len 58 l);have HLL:=hid hl;have HR:Hid (clP l=if (spl 32 (befB 58 l)).length=3 then ⟨mkS ((spl 32 (befB 58 l)).getD 1 []),numP ((spl 32 (befB 58 l)).getD 2 []),if aftB 58 l=[] then [] else (spl2 59 32 (cutHd 32 (aftB 58 l))).map itP⟩ else noCl):=hid rfl;obtain ⟨X,hX⟩:∃ X,befB 58 l=X:=⟨_,rfl⟩;obtain ⟨Y,hY⟩:∃ X,aftB 58 l=X:=⟨_,rfl⟩;obtain ⟨ok,hok⟩:∃ b,hasB 58 l=b:=⟨_,rfl⟩;rw [hX,hY,hok] at H58;rw [hX,hY] at HR;rw [hX] at HBL;rw [hY] at HAL;have H32:=hid fun w' (h:LaidN w')=>splitB_any 32 X w' (by have:=HBL.out;omega) h
 obtain ⟨Q,hQ⟩:∃ Q,spl 32 X=Q:=⟨_,rfl⟩;have HSQ:Hid (∀ p∈Q,p.length≤50000):=hid fun p hp=>by rw [← hQ] at hp;have:=spl_len 32 X p hp;have:=HBL.out;omega
 have HQC:=hid (show Q.length≤50001 by rw [← hQ];have:=spl_count 32 X;have:=HBL.out;omega);rw [hX,hQ] at H3;rw [hY] at HBAD;rw [hQ] at H32 HR;have HLW:=hid (hL.below ((Below.refl _ w).alloc (Nat.le_refl _) (.cells #[.string ⟨#[]⟩,.int .i64 0,.slice none 0 0] 28)));clear hX hY hok hQ hL hl;go_enter Tryz.func32,Tryz.ntmps32
 go_wp2_with fail
 refine (H58.out _ HLW.out).mono ?_;rintro e w1 ⟨rfl,hg⟩;dsimp only;have hb2:w1.heap[w.heap.size]? = some (.cells #[.string ⟨#[]⟩,.int .i64 0,.slice none 0 0] 28 (0,0)):=(hg.block _ (by rw [World.size_alloc];omega)).trans (blk_new rfl);have hbw:Below w.heap.size w w1:=(Grew.trans gw0 hg).below;obtain ⟨b2,hbq⟩:∃ b,w.heap.size=b:=⟨_,rfl⟩;have HBQ:=hid hbq;have HBW:=hid hbw;rw [hbq] at hb2;have z2:=(Array.getElem?_eq_some_iff.1 hb2).1;have HB2:=hid hb2;rw [hbq];clear hg hbq hbw hb2 H58 HLW;have z21:=fun m0:Nat=>Nat.lt_add_right m0 (z2)
 have z22:=fun m0 m1:Nat=>Nat.lt_add_right m1 (z21 m0)
 have z23:=fun m0 m1 m2:Nat=>Nat.lt_add_right m2 (z22 m0 m1)
 go_wp2_with fail
 refine (H32.out _ (HL.out.below HBW.out)).mono ?_;rintro e w2 ⟨rfl,hw2⟩;dsimp only;have hgw2:Grew w1 w2:=by rw [hw2];exact (Grew.refl _).alloc _
 have hbg:w2.heap[w1.heap.size]? = some (.cells (strsV Q) 9 (0,0)):=by rw [hw2];exact blk_new rfl
 obtain ⟨g1,hg1⟩:∃ g,w1.heap.size=g:=⟨_,rfl⟩;rw [hg1] at hbg;rw [hg1];have zg1:=(Array.getElem?_eq_some_iff.1 hbg).1;have hb2:=(hgw2.block _ z2).trans HB2.out;have HB2:=hid hb2;have hbw:=HBW.out.trans (hgw2.below.mono HBW.out.size);have HBW:=hid hbw;have HG1:=hid (show w.heap.size≤g1 by rw [← hg1];have:=HBQ.out;omega);have HBG:=hid hbg;obtain ⟨⟨y0,y1,y2⟩,yf,z2⟩:=blk3 hb2;obtain ⟨nq,hnq⟩:∃ n,Q.length=n:=⟨_,rfl⟩;have hnq9:nq<9223372036854775800:=by have:=HQC.out;omega
 have HNQ:=hid hnq;rw [hnq];clear hw2 hgw2 hbg hg1 hb2 hbw H32 HQC hnq z21 z22 z23;have HR:=hid (HR.out.trans (if_pos H3.out));obtain rfl:nq=3:=by rw [← HNQ.out];exact H3.out
 obtain ⟨q0,q1,q2,rfl⟩:=len_three H3.out;have hY0:Y.isEmpty=true:=isE_t HBAD.out;have HR:Hid (clP l=⟨strB q1,numP q2,[]⟩):=hid (by rw [HR.out,if_pos HBAD.out];rfl);have HE1:=hid (strsV_cell HBG.out (j:=1) rfl);have HE2:=hid (strsV_cell HBG.out (j:=2) rfl);have HQ2:=hid fun w' (h:LaidN w')=>number_any q2 w' (Nat.le_trans (HSQ.out q2 (by simp)) (by omega)) h
 have HLD:=hid HL.out;obtain ⟨W0,hW0⟩:∃ W,w2=W:=⟨_,rfl⟩;rw [hW0] at HB2 HBW y0 y1 y2 yf z2 zg1 HE1 HE2;rw [hW0];clear hW0 HBG;go_wp2_with fail
 refine R4.wp_region_slotsC 9 (fun ix vs W=>match ix with | 0=>vs 0=.slice (some ⟨g1,0,none⟩) 3 3 | 1=>vs 1=.pointer (some ⟨g1,1,none⟩) | 2=>vs 2=.string (strB q1) | 3=>vs 3=.slice (some ⟨g1,0,none⟩) 3 3 | 4=>vs 4=.pointer (some ⟨g1,2,none⟩) | 5=>vs 5=.string (strB q2) | 6=>vs 6=.int .i64 (numP q2) | 7=>vs 7=.agg #[.string (strB q1),.int .i64 (numP q2),.slice none 0 0] | 8=>R4.NewBlk W0.heap.size 28 3 (vs 8) W | _=>True) (fun L W=>ClsB W0 L W) (by kernel_rfl) (by kernel_rfl) ?slst ?sldep ((Grew.refl W0).drew).below ?slop ?slq
 case slst =>
  exact k14_
 case sldep =>
  exact k15_
 case slop =>
  exact k16_
 case slq =>
  intro vs W hC0 hn;have hC:Below W0.heap.size W0 W:=hC0;clear hC0;have hn0:=hn 0 (by decide) (by decide);have hn1:=hn 1 (by decide) (by decide);have hn2:=hn 2 (by decide) (by decide);have hn3:=hn 3 (by decide) (by decide);have hn4:=hn 4 (by decide) (by decide);have hn5:=hn 5 (by decide) (by decide);have hn6:=hn 6 (by decide) (by decide);have hn7:=hn 7 (by decide) (by decide);have hn8:=hn 8 (by decide) (by decide);change wpList _ _ _ _ (Act.put (Act.put (Act.put (Act.put (Act.put (Act.put (Act.put (Act.put (Act.put _ (some 21) (vs 0)) (some 22) (vs 1)) (some 23) (vs 2)) (some 24) (vs 3)) (some 25) (vs 4)) (some 26) (vs 5)) (some 27) (vs 6)) (some 28) (vs 7)) (some 7) (vs 8)) _;rw [hn0,hn1,hn2,hn3,hn4,hn5,hn6,hn7];clear hn hn0 hn1 hn2 hn3 hn4 hn5 hn6 hn7;simp only [Act.put,List.setIfInBounds_toArray,List.set_cons_zero,List.set_cons_succ,List.drop_succ_cons,List.drop_zero];obtain ⟨b7,cs5,e5,hb7,hs5,hB7⟩:=hn8;rw [e5];obtain ⟨x0,x1,x2,rfl⟩:∃ x0 x1 x2,cs5=#[x0,x1,x2]:=by
   obtain ⟨l⟩:=cs5;obtain ⟨x0,x1,x2,rfl⟩:=len_three (l:=l) (by simpa using hs5);exact ⟨x0,x1,x2,rfl⟩
  obtain ⟨⟨y0,y1,y2⟩,yf,z7⟩:=blk3 hB7;have hb2:=(hC.block _ z2).trans HB2.out;have HBW:=hid (HBW.out.trans (hC.mono HBW.out.size));have hb27:b2<b7:=by omega
  have HB7:=hid hB7;have HB2:=hid hb2;obtain ⟨⟨b20,b21,b22⟩,bf,zb2⟩:=blk3 hb2;clear hC hB7 hb2 hs5 hb7 z2 e5 HQ2 HE1 HE2 zg1;go_wp2_with fail
  exact pcl_ret rfl (set3 ((set3_other (by omega)).trans HB2.out)) ⟨⟨none,0,by rw [HR.out];rfl,by rw [HR.out];exact ItsK.nil _,fun q h=>by cases h⟩,below_set3 (below_set3 HBW.out (by have:=HBQ.out;omega)) (by have:=HBQ.out;omega)⟩
open Go Go.RowKit Amp Msh
attribute [local go_sem] Oper.semAt_some
theorem spl2_len (c d:UInt8):∀ l:List UInt8,∀ p∈spl2 c d l,p.length≤l.length
 | [], p, h => by
   rw [spl2,List.mem_singleton] at h;subst h;exact Nat.le_refl _
 | [x], p, h => by
   rw [spl2,List.mem_singleton] at h;subst h;exact Nat.le_refl _
 | x :: y :: l, p, h => by
   have ih1:=spl2_len c d l;have ih2:=spl2_len c d (y::l);rw [spl2] at h;rw [List.length_cons];split at h
   · rcases List.mem_cons.1 h with rfl | h
     · exact Nat.zero_le _
     · have:=ih1 p h
       rw [List.length_cons];omega
   · cases hs:spl2 c d (y::l) with
     | nil =>
       rw [hs,hdC,List.mem_singleton] at h;subst h;rw [List.length_singleton];omega
     | cons q qs =>
       rw [hs] at h ih2;rcases List.mem_cons.1 h with rfl | h
       · have:=ih2 q List.mem_cons_self
         rw [List.length_cons];omega
       · exact Nat.le_succ_of_le (ih2 p (List.mem_cons_of_mem _ h))
theorem spl2_count (c d:UInt8):∀ l:List UInt8,(spl2 c d l).length≤l.length+1
 | []=>Nat.le_refl _
 | [x] => by
   rw [spl2];simp
 | x :: y :: l => by
   have ih1:=spl2_count c d l;have ih2:=spl2_count c d (y::l);rw [spl2,List.length_cons,List.length_cons];split
   · rw [List.length_cons];omega
   · cases hs:spl2 c d (y::l) with
     | nil =>
       show [[x]].length≤_
       simp
     | cons q qs =>
       rw [hs,List.length_cons,List.length_cons] at ih2;exact k65_
theorem cutHd_len (c:UInt8) (l:List UInt8):(cutHd c l).length≤l.length:=by
 cases l with
 | nil=>exact Nat.le_refl _
 | cons x r =>
   show (if x=c then r else x::r).length≤_
   split
   · rw [List.length_cons];omega
   · exact Nat.le_refl _
theorem below_grownBy {w w':World} (h:Below w.heap.size w w'):w.grownBy w' none:=⟨h.os,h.tape,h.output,h.size,fun k hk _=>h.block k hk⟩
theorem OwnI.keptBy {X Y:World} {row:Option Nat} {base:Nat} {a0:Option Addr} {k0:Nat} {l:List It} (h:OwnI X base a0 k0 l) (hg:X.grownBy Y row) (hr:∀ r,row=some r→r<base∨∃ o:Obj,X.heap[r]? = some o∧o.isCells=false):OwnI Y base a0 k0 l:=by
 refine World.ownsRow.kept h hg ?_;cases hv:(Value.slice a0 l.length k0).ownBlock with
 | none=>exact .inl rfl
 | some k =>
   refine .inr fun e=>?_
   have hk:=ownsRow_above h k hv;rcases hr k e.symm with h1 | ⟨o,h1,h2⟩
   · omega
   · rcases h.2 with ⟨h3,_⟩ | ⟨g,cap,cur,h3,_,h4,_⟩
     · rw [h3] at hv
       simp [Value.ownBlock] at hv
     · rw [h3] at hv
       simp [Value.ownBlock] at hv;subst hv;rw [h4] at h1;cases h1;cases h2
theorem kept_one {X Y:World} {row:Option Nat} {b:Nat} {o:Obj} (h:X.heap[b]? = some o) (ho:o.isCells=true) (hg:X.grownBy Y row) (hr:∀ r,row=some r→r≠b∨∃ o:Obj,X.heap[r]? = some o∧o.isCells=false):Y.heap[b]? = some o:=by
 refine (hg.block b (Array.getElem?_eq_some_iff.1 h).1 fun e=>?_).trans h;rcases hr b e.symm with h1 | ⟨o',h1,h2⟩
 · exact h1 rfl
 · rw [h] at h1
   cases h1;rw [ho] at h2;cases h2
structure CellI (w W1:World) (b2 b7:Nat) (q1:List UInt8) (g:Int) (pre:List (List UInt8)) (W:World):Prop where
 low:Below w.heap.size w W
 size:W1.heap.size≤W.heap.size
 res:W.heap[b2]? = some (.cells #[.string ⟨#[]⟩,.int .i64 0,.slice none 0 0] 28 (0,0))
 its:∃ (ai:Option Addr) (ki:Nat),W.heap[b7]? = some (.cells #[.string (strB q1),.int .i64 g,.slice ai (pre.map itP).length ki] 28 (0,0))∧OwnI W W1.heap.size ai ki (pre.map itP)
theorem cellI_steady {w W1:World} {b2 b7 bS:Nat} {q1:List UInt8} {g:Int} (hS:w.heap.size≤bS) (hS1:bS<W1.heap.size) (h2:b2≠bS) (h7:b7≠bS):Steady W1.heap.size [bS] (CellI w W1 b2 b7 q1 g):=by
 intro pre X Y row h hg hr;obtain ⟨ai,ki,h1,ho⟩:=h.its;have key:∀ b,b≠bS→∀ r,row=some r→r≠b∨∃ o:Obj,X.heap[r]? = some o∧o.isCells=false:=fun b hb r e=>by
  rcases hr r e with h | ⟨_,h⟩
  · rw [List.mem_singleton] at h
    exact .inl (by omega)
  · exact .inr h
 refine ⟨h.low.grown hg (by have:=h.low.size;omega) fun r e=>?_,Nat.le_trans h.size hg.size,kept_one h.res rfl hg (key b2 h2),ai,ki,kept_one h1 rfl hg (key b7 h7),ho.keptBy hg fun r e=>?_⟩
 · rcases hr r e with h' | ⟨h',_⟩
   · rw [List.mem_singleton] at h'
     omega
   · have:=h.low.size
     have:w.heap.size≤W1.heap.size:=by omega
     omega
 · rcases hr r e with h' | ⟨_,h'⟩
   · rw [List.mem_singleton] at h'
     exact .inl (by omega)
   · exact .inr h'
theorem OwnI.row {w:World} {base:Nat} {a0:Option Addr} {k0:Nat} {l:List It} (h:OwnI w base a0 k0 l):∀ r,(Value.slice a0 l.length k0).ownBlock=some r→base≤r∧∃ cs fz,w.heap[r]? = some (.cells cs 51 fz):=by
 intro r hr;refine ⟨ownsRow_above h r hr, ?_⟩;rcases h.2 with ⟨h1,_⟩ | ⟨g,cap,cur,h1,h2,h3,_⟩
 · rw [h1] at hr
   simp [Value.ownBlock] at hr
 · rw [h1] at hr
   simp [Value.ownBlock] at hr;subst hr;exact ⟨cur,_,h3⟩
theorem OwnI.at_base {w:World} {base:Nat} {a0:Option Addr} {k0:Nat} {l:List It} (h:OwnI w base a0 k0 l):∀ q,a0=some q→base≤q.block:=by
 intro q hq;rcases h.2 with ⟨h1,_⟩ | ⟨g,cap,cur,h1,h2,_⟩
 · injection h1 with e1;rw [e1] at hq;cases hq
 · injection h1 with e1 e2 e3
   subst e1;injection hq with hq;subst hq;exact h2
theorem pcl_leave {b D base n:Nat} {v0 v1 v2 x0 x1 x2:Value} {w W:World} {tm:Array Value} {ai:Option Addr} {ki:Nat} {nm:ByteArray} {gd:Int} {LL:List It} (htm:tm[2]? = some (.pointer (some ⟨b,0,none⟩))) (hx:W.heap[b]? = some (.cells #[x0,x1,x2] 28 (0,0)))
  (hB:Below w.heap.size w W) (hO:OwnI W base ai ki LL) (hD:W.heap[D]? = some (.deferred (some []))) (hw:w.heap.size≤b) (hb:b<base) (hbD:b<D) (hwD:w.heap.size≤D) (h0:v0=.string nm) (h1:v1=.int .i64 gd) (h2:v2=.slice ai LL.length ki) :
  LeavesInM .wide n Tryz.prog Tryz.f32 tm (fun e w'=>ClQ w.heap.size ⟨nm,gd,LL⟩ e w'∧Below w.heap.size w w') [] .returning (((((W.setCell ⟨b,0,none⟩ v0).setCell ⟨b,1,none⟩ v1).setCell ⟨b,2,none⟩ v2)).putObj D (.deferred none)):=by
 have hD':=(set3_other (v0:=v0) (v1:=v1) (v2:=v2) (show D≠b by omega)).trans hD;have hz:=(set3 (v0:=v0) (v1:=v1) (v2:=v2) hx);have ho:=((hO.low hb 0 v0).low hb 1 v1).low hb 2 v2;have hl:=below_set3 (v0:=v0) (v1:=v1) (v2:=v2) hB hw;obtain ⟨W3,h3⟩:∃ W3,((W.setCell ⟨b,0,none⟩ v0).setCell ⟨b,1,none⟩ v1).setCell ⟨b,2,none⟩ v2=W3:=⟨_,rfl⟩;rw [h3] at hD' hz ho hl;rw [h3];have hp:=(World.putObj_heap_other (w:=W3) (o:=.deferred none) (show b≠D by omega)).trans hz;obtain ⟨⟨y0,y1,y2⟩,_,_⟩:=blk3 hp;refine ⟨.agg #[v0,v1,v2], ?_,⟨ai,ki,by rw [h0,h1,h2],OwnI.itsK (base:=base) (k0:=ki) (ownsRow_putObj ho _ hD' rfl),fun q hq=>Nat.le_trans (Nat.le_trans hw (Nat.le_of_lt hb)) (ho.at_base q hq)⟩,hl.trans (belowK_b (w:=w) (Nat.le_refl _) W3 D _ _ hwD hD' rfl rfl)⟩;simp [results,Tryz.results32,go_sem,htm,y0,y1,y2]
theorem cell_step {w W1 Wb V wA:World} {b2 b7 bS n:Nat} {q1:List UInt8} {g:Int} {pre:List (List UInt8)} {x:List UInt8} {ai a4:Option Addr} {ki k4:Nat} {dn:List It} {cs7:Array Value} {fz7:Nat × Nat}
  (h1:Below w.heap.size w Wb) (h2:W1.heap.size≤Wb.heap.size) (h3:Wb.heap[b2]? = some (.cells #[.string ⟨#[]⟩,.int .i64 0,.slice none 0 0] 28 (0,0))) (hC:Below Wb.heap.size Wb V) (hO:OwnI V W1.heap.size ai ki dn) (hg:V.grownBy wA (Value.slice ai dn.length ki).ownBlock)
  (hA:OwnI wA W1.heap.size a4 k4 (dn++[itP x])) (h7b:Wb.heap[b7]? = some (.cells cs7 28 fz7)) (h7:wA.heap[b7]? = some (.cells #[.string (strB q1),.int .i64 g,.slice ai dn.length ki] 28 (0,0))) (hd:(pre++[x]).map itP=dn++[itP x])
  (hn:W1.heap.size=n) (hw7:w.heap.size≤b7) (h7S:b7<bS) (hSn:bS+3=n) (h27:b2≠b7) (hmx:0<w.heap.size) :
  KeepsFrom n Wb (wA.setCell ⟨b7,2,none⟩ (.slice a4 (dn.length+1) k4))∧(∀ b∈seqB bS,(wA.setCell ⟨b7,2,none⟩ (.slice a4 (dn.length+1) k4)).heap[b]? = Wb.heap[b]?)∧CellI w W1 b2 b7 q1 g (pre++[x]) (wA.setCell ⟨b7,2,none⟩ (.slice a4 (dn.length+1) k4)):=by
 have hz7:=(Array.getElem?_eq_some_iff.1 h7b).1;have hz2:=(Array.getElem?_eq_some_iff.1 h3).1;have hs:=(KeepsOthers.setCell wA ⟨b7,2,none⟩ (.slice a4 (dn.length+1) k4)).size;have hrow:=fun r hr=>(hO.row r hr).1
 have hlow:=(h1.trans (hC.mono h1.size)).grown hg (Nat.le_trans h1.size hC.size) (fun r e=>by have:=hrow r e;omega);refine ⟨⟨Nat.le_trans (Nat.le_trans hC.size hg.size) hs,fun k o _ hk ho=>?_⟩,fun b hb=>?_,⟨hlow.setCell (p:=⟨b7,2,none⟩) hw7 _,Nat.le_trans h2 (Nat.le_trans (Nat.le_trans hC.size hg.size) hs), ?_,a4,k4, ?_, ?_⟩⟩
 · have hkl:=(Array.getElem?_eq_some_iff.1 hk).1
   have hV:=(hC.block k hkl).trans hk;have hA:=(hg.block k (Nat.lt_of_lt_of_le hkl hC.size) (fun e=>by
    obtain ⟨_,cs,fz,h⟩:=hO.row k e.symm;rw [hV] at h;cases h;cases ho)).trans hV
   refine (Below.heap_setCell _ _ _ k fun e=>?_).trans hA;rw [show k=b7 from e,h7b] at hk;cases hk;cases ho
 · have hbl:b<W1.heap.size∧b≠b7:=by
    simp [seqB] at hb;omega
   refine (Below.heap_setCell _ _ _ b hbl.2).trans ((hg.block b (by have:=hC.size;omega) fun e=>?_).trans (hC.block b (by omega)));have:=hrow b e.symm;omega
 · refine (Below.heap_setCell _ _ _ b2 h27).trans ((hg.block b2 (Nat.lt_of_lt_of_le hz2 hC.size) fun e=>?_).trans ((hC.block b2 hz2).trans h3))
   obtain ⟨_,cs,fz,h⟩:=hO.row b2 e.symm;rw [(hC.block b2 hz2).trans h3] at h;simp at h
 · rw [hd,show (dn++[itP x]).length=dn.length+1 by simp]
   exact set3_2 h7
 · rw [hd]
   exact hA.low (by omega) 2 _
set_option maxRecDepth 100000 in
set_option maxHeartbeats 16000000 in
theorem pcl_main (l:List UInt8) (w:World) (hl:l.length≤50000) (hL:LaidN w) (h3:(spl 32 (befB 58 l)).length=3) (hb:¬ aftB 58 l=[]) :
  Calls Tryz.prog 32 #[.string (strB l)] w fun e w'=>ClQ w.heap.size (clP l) e w'∧Below w.heap.size w w':=by
 have HBAD:=hid hb;have H3:=hid h3;clear hb h3;have HL:=hid hL;have H58:=hid fun w' (h:LaidN w')=>cutB_any 58 l w' (by omega) h
 have HAL:=hid (aft_len 58 l);have HBL:=hid (bef_len 58 l);have HLL:=hid hl;have HR:Hid (clP l=if (spl 32 (befB 58 l)).length=3 then ⟨mkS ((spl 32 (befB 58 l)).getD 1 []),numP ((spl 32 (befB 58 l)).getD 2 []),if aftB 58 l=[] then [] else (spl2 59 32 (cutHd 32 (aftB 58 l))).map itP⟩ else noCl):=hid rfl;obtain ⟨X,hX⟩:∃ X,befB 58 l=X:=⟨_,rfl⟩;obtain ⟨Y,hY⟩:∃ X,aftB 58 l=X:=⟨_,rfl⟩;obtain ⟨ok,hok⟩:∃ b,hasB 58 l=b:=⟨_,rfl⟩;rw [hX,hY,hok] at H58;rw [hX,hY] at HR;rw [hX] at HBL;rw [hY] at HAL;have H32:=hid fun w' (h:LaidN w')=>splitB_any 32 X w' (by have:=HBL.out;omega) h
 obtain ⟨Q,hQ⟩:∃ Q,spl 32 X=Q:=⟨_,rfl⟩;have HSQ:Hid (∀ p∈Q,p.length≤50000):=hid fun p hp=>by rw [← hQ] at hp;have:=spl_len 32 X p hp;have:=HBL.out;omega
 have HQC:=hid (show Q.length≤50001 by rw [← hQ];have:=spl_count 32 X;have:=HBL.out;omega);rw [hX,hQ] at H3;rw [hY] at HBAD;rw [hQ] at H32 HR;have HLW:=hid (hL.below ((Below.refl _ w).alloc (Nat.le_refl _) (.cells #[.string ⟨#[]⟩,.int .i64 0,.slice none 0 0] 28)));clear hX hY hok hQ hL hl;refine (callsIn_wide (n:=9)).1 ?_;refine callsIn_of_wp_marks Tryz.func32 rfl trivial ?_ rfl;refine wpIn_wide.2 ?_;simp only [Tryz.ntmps32,List.size_toArray,List.length_cons,List.length_nil,Nat.reduceAdd,Nat.reduceSub,Array.replicate_succ,Array.replicate_zero,List.push_toArray,List.append_toArray,List.nil_append,List.cons_append];go_wp2_with fail
 refine (H58.out _ HLW.out).mono ?_;rintro e w1 ⟨rfl,hg⟩;dsimp only;have hb2:w1.heap[w.heap.size]? = some (.cells #[.string ⟨#[]⟩,.int .i64 0,.slice none 0 0] 28 (0,0)):=(hg.block _ (by rw [World.size_alloc];omega)).trans (blk_new rfl);have hbw:Below w.heap.size w w1:=(Grew.trans gw0 hg).below;obtain ⟨b2,hbq⟩:∃ b,w.heap.size=b:=⟨_,rfl⟩;have HBQ:=hid hbq;have HBW:=hid hbw;rw [hbq] at hb2;have z2:=(Array.getElem?_eq_some_iff.1 hb2).1;have HB2:=hid hb2;rw [hbq];clear hg hbq hbw hb2 H58 HLW;have z21:=fun m0:Nat=>Nat.lt_add_right m0 (z2)
 have z22:=fun m0 m1:Nat=>Nat.lt_add_right m1 (z21 m0)
 have z23:=fun m0 m1 m2:Nat=>Nat.lt_add_right m2 (z22 m0 m1)
 go_wp2_with fail
 refine (H32.out _ (HL.out.below HBW.out)).mono ?_;rintro e w2 ⟨rfl,hw2⟩;dsimp only;have hgw2:Grew w1 w2:=by rw [hw2];exact (Grew.refl _).alloc _
 have hbg:w2.heap[w1.heap.size]? = some (.cells (strsV Q) 9 (0,0)):=by rw [hw2];exact blk_new rfl
 obtain ⟨g1,hg1⟩:∃ g,w1.heap.size=g:=⟨_,rfl⟩;rw [hg1] at hbg;rw [hg1];have zg1:=(Array.getElem?_eq_some_iff.1 hbg).1;have hb2:=(hgw2.block _ z2).trans HB2.out;have HB2:=hid hb2;have hbw:=HBW.out.trans (hgw2.below.mono HBW.out.size);have HBW:=hid hbw;have HG1:=hid (show w.heap.size≤g1 by rw [← hg1];have:=HBQ.out;omega);have HBG:=hid hbg;obtain ⟨⟨y0,y1,y2⟩,yf,z2⟩:=blk3 hb2;obtain ⟨nq,hnq⟩:∃ n,Q.length=n:=⟨_,rfl⟩;have hnq9:nq<9223372036854775800:=by have:=HQC.out;omega
 have HNQ:=hid hnq;rw [hnq];clear hw2 hgw2 hbg hg1 hb2 hbw H32 HQC hnq z21 z22 z23;have HR:=hid (HR.out.trans (if_pos H3.out));obtain rfl:nq=3:=by rw [← HNQ.out];exact H3.out
 obtain ⟨q0,q1,q2,rfl⟩:=len_three H3.out;have hY0:Y.isEmpty=false:=isE_f HBAD.out;have HR:Hid (clP l=⟨strB q1,numP q2,(spl2 59 32 (cutHd 32 Y)).map itP⟩):=hid (by rw [HR.out,if_neg HBAD.out];rfl);have HRL:=hid (show (cutHd 32 Y).length≤50000 by have:=cutHd_len 32 Y;have:=HAL.out;have:=HLL.out;omega);have HE1:=hid (strsV_cell HBG.out (j:=1) rfl);have HE2:=hid (strsV_cell HBG.out (j:=2) rfl);have HQ2:=hid fun w' (h:LaidN w')=>number_any q2 w' (Nat.le_trans (HSQ.out q2 (by simp)) (by omega)) h
 have HLD:=hid HL.out;obtain ⟨W0,hW0⟩:∃ W,w2=W:=⟨_,rfl⟩;rw [hW0] at HB2 HBW y0 y1 y2 yf z2 zg1 HE1 HE2;rw [hW0];clear hW0 HBG;go_wp2_with fail
 refine R4.wp_region_slotsC 9 (fun ix vs W=>match ix with | 0=>vs 0=.slice (some ⟨g1,0,none⟩) 3 3 | 1=>vs 1=.pointer (some ⟨g1,1,none⟩) | 2=>vs 2=.string (strB q1) | 3=>vs 3=.slice (some ⟨g1,0,none⟩) 3 3 | 4=>vs 4=.pointer (some ⟨g1,2,none⟩) | 5=>vs 5=.string (strB q2) | 6=>vs 6=.int .i64 (numP q2) | 7=>vs 7=.agg #[.string (strB q1),.int .i64 (numP q2),.slice none 0 0] | 8=>R4.NewBlk W0.heap.size 28 3 (vs 8) W | _=>True) (fun L W=>ClsB W0 L W) (by kernel_rfl) (by kernel_rfl) ?slst ?sldep ((Grew.refl W0).drew).below ?slop ?slq
 case slst =>
  exact k14_
 case sldep =>
  exact k15_
 case slop =>
  exact k16_
 case slq =>
  intro vs W hC0 hn;have hC:Below W0.heap.size W0 W:=hC0;clear hC0;have hn0:=hn 0 (by decide) (by decide);have hn1:=hn 1 (by decide) (by decide);have hn2:=hn 2 (by decide) (by decide);have hn3:=hn 3 (by decide) (by decide);have hn4:=hn 4 (by decide) (by decide);have hn5:=hn 5 (by decide) (by decide);have hn6:=hn 6 (by decide) (by decide);have hn7:=hn 7 (by decide) (by decide);have hn8:=hn 8 (by decide) (by decide);change wpList _ _ _ _ (Act.put (Act.put (Act.put (Act.put (Act.put (Act.put (Act.put (Act.put (Act.put _ (some 21) (vs 0)) (some 22) (vs 1)) (some 23) (vs 2)) (some 24) (vs 3)) (some 25) (vs 4)) (some 26) (vs 5)) (some 27) (vs 6)) (some 28) (vs 7)) (some 7) (vs 8)) _;rw [hn0,hn1,hn2,hn3,hn4,hn5,hn6,hn7];clear hn hn0 hn1 hn2 hn3 hn4 hn5 hn6 hn7;simp only [Act.put,List.setIfInBounds_toArray,List.set_cons_zero,List.set_cons_succ,List.drop_succ_cons,List.drop_zero];obtain ⟨b7,cs5,e5,hb7,hs5,hB7⟩:=hn8;rw [e5];obtain ⟨x0,x1,x2,rfl⟩:∃ x0 x1 x2,cs5=#[x0,x1,x2]:=by
   obtain ⟨l⟩:=cs5;obtain ⟨x0,x1,x2,rfl⟩:=len_three (l:=l) (by simpa using hs5);exact ⟨x0,x1,x2,rfl⟩
  obtain ⟨⟨y0,y1,y2⟩,yf,z7⟩:=blk3 hB7;have hb2:=(hC.block _ z2).trans HB2.out;have HBW:=hid (HBW.out.trans (hC.mono HBW.out.size));have hb27:b2<b7:=by omega
  have HB7:=hid hB7;have HB2:=hid hb2;obtain ⟨⟨b20,b21,b22⟩,bf,zb2⟩:=blk3 hb2;clear hC hB7 hb2 hs5 hb7 z2 e5 HQ2 HE1 HE2 zg1;have HTP:=hid fun w=>trimp_any 32 Y w
  obtain ⟨R,hR⟩:∃ R,cutHd 32 Y=R:=⟨_,rfl⟩;rw [hR] at HTP HR HRL;clear hR;go_wp2_with fail
  refine (HTP.out _).mono ?_;rintro e w' ⟨rfl,rfl⟩;go_wp2_with fail
  refine (splitSeq_any R _).mono ?_;rintro e w' ⟨rfl,rfl⟩;go_wp2_with fail
  have h37:=set3 (v0:=.string (strB q1)) (v1:=.int .i64 (numP q2)) (v2:=.slice none 0 0) HB7.out;have h32:=(set3_other (b:=b7) (v0:=.string (strB q1)) (v1:=.int .i64 (numP q2)) (v2:=.slice none 0 0) (show b2≠b7 by omega)).trans HB2.out;have h3b:=below_set3 (b:=b7) (v0:=.string (strB q1)) (v1:=.int .i64 (numP q2)) (v2:=.slice none 0 0) HBW.out (by have:=HBQ.out;omega);have h3s:(((W.setCell ⟨b7,0,none⟩ (.string (strB q1))).setCell ⟨b7,1,none⟩ (.int .i64 (numP q2))).setCell ⟨b7,2,none⟩ (.slice none 0 0)).heap.size=W.heap.size:=by simp [World.setCell]
  obtain ⟨W3,hW3⟩:∃ W',((W.setCell ⟨b7,0,none⟩ (.string (strB q1))).setCell ⟨b7,1,none⟩ (.int .i64 (numP q2))).setCell ⟨b7,2,none⟩ (.slice none 0 0)=W':=⟨_,rfl⟩;rw [hW3] at h37 h32 h3b h3s;rw [hW3,← h3s];have hL3:=HL.out.below h3b;have h0w:0<w.heap.size:=by
   obtain ⟨m,hm⟩:=HL.out.max;exact Nat.lt_of_le_of_lt (Nat.zero_le _) (cell_lt hm)
  have hmx:0<w.heap.size:=by
   obtain ⟨m,hm⟩:=HL.out.max;exact cell_lt hm
  have hseq:=seqAt_new R W3 hL3.max;have hz7:=(Array.getElem?_eq_some_iff.1 h37).1;have hz2:=(Array.getElem?_eq_some_iff.1 h32).1;obtain ⟨bS,hbS⟩:∃ b,W3.heap.size=b:=⟨_,rfl⟩;have hg1w:Grew W3 (((W3.alloc (.cells #[.string (strB R)] 9)).alloc (.cells #[.string ⟨#[59,32]⟩] 9)).alloc (.cells #[.int .i64 0] 3)):=(((Grew.refl W3).alloc _).alloc _).alloc _;have hs1:(((W3.alloc (.cells #[.string (strB R)] 9)).alloc (.cells #[.string ⟨#[59,32]⟩] 9)).alloc (.cells #[.int .i64 0] 3)).heap.size=W3.heap.size+3:=by simp only [World.size_alloc]
  obtain ⟨W1,hW1⟩:∃ W',((W3.alloc (.cells #[.string (strB R)] 9)).alloc (.cells #[.string ⟨#[59,32]⟩] 9)).alloc (.cells #[.int .i64 0] 3)=W':=⟨_,rfl⟩;rw [hW1] at hseq hg1w hs1;rw [hW1];have k7:=(hg1w.block _ hz7).trans h37;have k2:=(hg1w.block _ hz2).trans h32;have kb:=h3b.trans (hg1w.below.mono h3b.size);rw [hbS] at hseq hs1 hz7 hz2;rw [hbS];have hwS:w.heap.size≤bS:=by have:=h3b.size;omega
  have HL1:=hid kb;have HSEQ:=hid hseq;have HK7:=hid k7;have HK2:=hid k2;have HLW:=hid HL.out;have hq2:w.heap.size≤b2:=by have:=HBQ.out;omega
  clear hW3 hW1 h3s hL3 hseq hg1w h37 h32 h3b hbS HB7 HB2 HBW y0 y1 y2 yf z7 b20 b21 b22 bf zb2 HTP H3 HNQ HSQ HAL HBL HLL HBAD;refine (wpIn_wide (n:=9)).1 ?_;refine wpIn_rangeFunc_run (by decide) (gf:=144) (lb:=#[.pointer (some ⟨bS+1,0,none⟩),.pointer (some ⟨bS,0,none⟩),.pointer (some ⟨bS+2,0,none⟩)]) rfl (enters_of Tryz.func144 (by kernel_rfl) rfl)
   (bs:=[bS]) (ks:=seqB bS) (split1_runs 8 (by decide) bS (by omega) R (Nat.le_trans HRL.out (by omega)) W1 HSEQ.out) (fun b hb=>by rw [List.mem_singleton] at hb;omega) (fun b hb=>by simp [seqB] at hb;omega) (fun _=>rfl)
   (CellI w W1 b2 b7 q1 (numP q2)) (cellI_steady hwS (by omega) (by omega) (by omega))
   ⟨HL1.out,Nat.le_refl _,HK2.out,none,0,HK7.out,OwnI.nil _ _⟩
   (fun x=>{ tmps:=#[.string (strB l),undef,.pointer (some ⟨b2,0,none⟩),.string (strB X),.string (strB Y),.bool ok,.slice (some ⟨g1,0,none⟩) 3 3,.pointer (some ⟨b7,0,none⟩),.string (strB x),.tuple #[.string (strB X),.string (strB Y),.bool ok],.string (strB l),.tuple #[.string (strB X),.string (strB Y),.bool ok],.string (strB X),.string (strB Y),.bool ok,.string (strB X),.slice (some ⟨g1,0,none⟩) 3 3,.slice (some ⟨g1,0,none⟩) 3 3,.int .i64 3,.bool false,undef,.slice (some ⟨g1,0,none⟩) 3 3,.pointer (some ⟨g1,1,none⟩),.string (strB q1),.slice (some ⟨g1,0,none⟩) 3 3,.pointer (some ⟨g1,2,none⟩),.string (strB q2),.int .i64 (numP q2),.agg #[.string (strB q1),.int .i64 (numP q2),.slice none 0 0],.string (strB Y),.bool false,undef,.string (strB Y),.string (strB R),.func (.func 144) #[] #[.pointer (some ⟨bS+1,0,none⟩),.pointer (some ⟨bS,0,none⟩),.pointer (some ⟨bS+2,0,none⟩)],.string (strB x),undef,undef,undef,undef,undef,undef,undef,undef],defers:=[] }) ?assign ?body ?done
  case assign =>
   intro lp x W K hK;simp only [encS]
   gi_wp2
   exact hK
  case body =>
   rintro lp pre x W hI ⟨r,hr⟩;obtain ⟨ai,ki,h7,hO⟩:=hI.its;have hxl:x.length≤100000:=Nat.le_trans (Nat.le_trans (spl2_len 59 32 R x (by rw [hr];simp)) HRL.out) (by omega);have HPI:=hid fun w' (h:LaidN w')=>pit_any x w' hxl h
   have hdl:(pre.map itP).length≤50001:=by
    have h1:=spl2_count 59 32 R;rw [hr,List.length_append] at h1;rw [List.length_map];have:=HRL.out;omega
   have hdn2:(pre++[x]).map itP=pre.map itP++[itP x]:=by rw [List.map_append,List.map_singleton]
   obtain ⟨dn,hdn⟩:∃ dn,pre.map itP=dn:=⟨_,rfl⟩;rw [hdn] at h7 hO hdl hdn2;have HI:=hid (And.intro hI.low (And.intro hI.size hI.res));have H7:=hid h7;have HO:=hid hO;have HDL:=hid hdl;have HDN:=hid hdn2;have z7:=(Array.getElem?_eq_some_iff.1 h7).1;clear hI h7 hO hxl hdl hdn hdn2 hr k7 k2 kb;obtain ⟨Wb,hWb⟩:∃ V,W=V:=⟨_,rfl⟩;rw [hWb] at HI H7 HO z7;rw [hWb];clear hWb
   gi_wp2
   refine R4.wpIn_region_slotsC 5 (fun ix vs W=>match ix with | 0=>vs 0=.pointer (some ⟨b7,2,none⟩) | 1=>vs 1=.slice ai dn.length ki | 2=>vs 2=.string (strB x) | 3=>vs 3=.agg #[.int .i64 (itP x).kind,.int .i64 (itP x).pos,.int .i64 (itP x).n,.string (itP x).name] | 4=>∃ b,vs 4=.slice (some ⟨b,0,none⟩) 1 1∧W.heap[b]? = some (.cells #[.int .i64 (itP x).kind,.int .i64 (itP x).pos,.int .i64 (itP x).n,.string (itP x).name] 51 (0,0)) | _=>True) (fun L W=>ClsB Wb L W) (by kernel_rfl) (by kernel_rfl) (fun h=>by obtain ⟨_,_,h⟩:=h;exact h) (by kernel_rfl) ?slst ?sldep ((Grew.refl Wb).drew).below ?slop ?slq
   case slst =>
    intro ix vs W W' h hg;match ix,h with
    | 0,h=>exact h
    | 1,h=>exact h
    | 2,h=>exact h
    | 3,h=>exact h
    | 4,h=>obtain ⟨b,h1,h2⟩:=h;exact ⟨b,h1,(hg.block b (Array.getElem?_eq_some_iff.1 h2).1).trans h2⟩
    | _+5,_=>trivial
   case sldep =>
    intro ix o vs vs' W hix ho h hv hn;match ix,hix,ho,h,hv with
    | 0,_,_,h,hv=>exact Eq.trans hv h
    | 1,_,_,h,hv=>exact Eq.trans hv h
    | 2,_,_,h,hv=>exact Eq.trans hv h
    | 3,_,_,h,hv=>exact Eq.trans hv h
    | 4,_,_,h,hv=>show ∃ b,vs' 4=.slice (some ⟨b,0,none⟩) 1 1∧W.heap[b]? = some (.cells #[.int .i64 (itP x).kind,.int .i64 (itP x).pos,.int .i64 (itP x).n,.string (itP x).name] 51 (0,0));rw [hv];exact h
    | kx+5,hix,_,_,_=>exact absurd hix (by omega)
   case slop =>
    intro ix o hix ho vs W L hg hL hn hall hdown;match ix,hix,ho,hL with
    | 0, _, ho, _ =>
      exact k42_
    | 1, _, ho, _ =>
      obtain rfl:=Option.some.inj ho;have hn0:=(hn 0 (by decide)).2;try dsimp only at hn0
      change R4.Oper.slotAt _ _ (Act.put _ (some 36) (vs 0)) _ _;conv=>arg 3;rw [hn0]
      clear hn0;have hq:Below Wb.heap.size Wb W:=hg;have dq:W.cell? ⟨b7,2,none⟩=some (.slice ai dn.length ki):=(hq.cell (p:=⟨b7,2,none⟩) z7).trans (blk3 H7.out).1.2.2;clear hq;go_simp;exact ⟨hg,R4.upd_same _ _ _,.inl (Grew.refl _)⟩
    | 2, _, ho, _ =>
      exact k42_
    | 3, _, ho, hL =>
      obtain rfl:=Option.some.inj ho;have hn2:=(hn 2 (by decide)).2;try dsimp only at hn2
      change R4.Oper.slotAt _ _ (Act.put _ (some 38) (vs 2)) _ _;conv=>arg 3;rw [hn2]
      clear hn2;have hq:=hid (show Below Wb.heap.size Wb W from hg);go_simp;refine (HPI.out _ (HLW.out.below (HI.out.1.trans (hq.out.mono HI.out.1.size)))).mono ?_;rintro e w' ⟨rfl,hb⟩;refine ⟨_,rfl,hq.out.trans (hb.mono hq.out.size),R4.upd_same _ _ _,.inr fun jx hjx hLj=>?_⟩;have hv:=hall jx hjx hLj;match jx,hjx,hv with
      | 0,_,hv=>exact hv
      | 1,_,hv=>exact hv
      | 2,_,hv=>exact hv
      | 3,_,hv=>exact hv
      | 4, _, hv =>
        obtain ⟨b,h1,h4⟩:=hv;exact ⟨b,h1,(hb.block b (Array.getElem?_eq_some_iff.1 h4).1).trans h4⟩
      | kx+5,hjx,_=>exact absurd hjx (by omega)
    | 4, _, ho, _ =>
      obtain rfl:=Option.some.inj ho;have hn3:=(hn 3 (by decide)).2;try dsimp only at hn3
      change R4.Oper.slotAt _ _ (Act.put _ (some 39) (vs 3)) _ _;conv=>arg 3;rw [hn3]
      clear hn3;have hq:=hid (show Below Wb.heap.size Wb W from hg);go_simp;exact ⟨hq.out.alloc hq.out.size _,by rw [R4.upd_same];exact ⟨_,rfl,blk_new rfl⟩,.inl ((Grew.refl _).alloc _)⟩
    | kx+5,hix,_,_=>exact absurd hix (by omega)
   case slq =>
    intro vs V hC0 hn;have hC:Below Wb.heap.size Wb V:=hC0;clear hC0;have hn0:=hn 0 (by decide) (by decide);have hn1:=hn 1 (by decide) (by decide);have hn2:=hn 2 (by decide) (by decide);have hn3:=hn 3 (by decide) (by decide);have hn4:=hn 4 (by decide) (by decide);change wpList _ _ _ _ (Act.put (Act.put (Act.put (Act.put (Act.put _ (some 36) (vs 0)) (some 37) (vs 1)) (some 38) (vs 2)) (some 39) (vs 3)) (some 40) (vs 4)) _;rw [hn0,hn1,hn2,hn3];clear hn hn0 hn1 hn2 hn3;simp only [Act.put,List.setIfInBounds_toArray,List.set_cons_zero,List.set_cons_succ,List.drop_succ_cons,List.drop_zero];obtain ⟨bx,e4,hBx⟩:=hn4;rw [e4];have hV7:=(hC.block _ z7).trans H7.out;obtain ⟨⟨y0,y1,y2⟩,yf,z7⟩:=blk3 hV7;have HV7:=hid hV7;have HOV:=hid (HO.out.keptBy (below_grownBy hC) (fun _ e=>by cases e));have HCV:=hid hC;have HSZ:=hid (Nat.le_trans HI.out.2.1 hC.size);clear hC hV7 e4;go_wp2_with (at_builtin;go_loud (refine wpList_append_its rfl _ _ rfl W1.heap.size ai ki dn rfl HOV.out (some ⟨bx,0,none⟩) 1 [itP x] rfl (by simp) (fun ad ha j u hj=>by cases ha;exact news_of hBx j u hj) ?hmx ?hbs ?_))
    case hmx=>have:=HDL.out;simp;omega
    case hbs=>exact HSZ.out
    intro a4 k4 wA hownA hgrowA hdrA;have hrow:=ownsRow_above HOV.out;have hne:some b7≠(Value.slice ai dn.length ki).ownBlock:=fun e=>by
     have h9:W1.heap.size≤b7:=hrow b7 e.symm;omega
    have hA7:=(hgrowA.block b7 z7 hne).trans HV7.out;obtain ⟨⟨y0,y1,y2⟩,yf,z7⟩:=blk3 hA7;have HA7:=hid hA7;have HGA:=hid (And.intro hgrowA hrow);have HOA:=hid hownA;clear hA7 hownA hgrowA hdrA hne hBx hrow;go_wp2_with fail
    exact cell_step HI.out.1 HI.out.2.1 HI.out.2.2 HCV.out HOV.out HGA.out.1 (by rw [hs1];exact HOA.out) H7.out HA7.out HDN.out hs1 (by omega) hz7 rfl (by omega) hmx
  case done =>
   intro D Wd hD hI hK;obtain ⟨ai,ki,h7,hO⟩:=hI.its;obtain ⟨LL,hLL⟩:∃ LL,(spl2 59 32 R).map itP=LL:=⟨_,rfl⟩;rw [hLL] at h7 hO HR;obtain ⟨⟨y0,y1,y2⟩,yf,z7⟩:=blk3 h7;obtain ⟨⟨b20,b21,b22⟩,bf,zb2⟩:=blk3 hI.res;have HI:=hid (And.intro hI.low hI.res);have HO:=hid hO;have HK:=hid hK;have HD:=hid hD;clear hI h7 hO hLL hK hD k7 k2 kb
   gi_wp2
   go_wp2_with fail
   refine ⟨by simp,.inl ⟨_,_,rfl,run_takeDeferred (b:=D) (ds:=[]) ?hD, ?_⟩⟩
   case hD=>exact (set3_other (by have:=HD.out;omega)).trans HK.out
   rw [HR.out];exact pcl_leave (b:=b2) (v0:=.string (strB q1)) (v1:=.int .i64 (numP q2)) (v2:=.slice ai LL.length ki) rfl HI.out.2 HI.out.1 HO.out HK.out hq2 (by omega) (by have:=HD.out;omega) (by have:=HD.out;omega) rfl rfl rfl
theorem pcl_any (l:List UInt8) (w:World) (hl:l.length≤50000) (hL:LaidN w):Calls Tryz.prog 32 #[.string (strB l)] w fun e w'=>ClQ w.heap.size (clP l) e w'∧Below w.heap.size w w':=by
 by_cases h3:(spl 32 (befB 58 l)).length=3
 · by_cases hb:aftB 58 l=[]
   · exact pcl_nil l w hl hL h3 hb
   · exact pcl_main l w hl hL h3 hb
 · exact pcl_bad l w hl hL h3
open Go Go.RowKit Amp Msh
theorem itP_name (l:List UInt8):(itP l).name.size≤l.length:=by
 unfold itP;split
 · show (strB (befB 64 l)).size≤_
   rw [strB_size];exact bef_len 64 l
 · cases l with
   | nil=>exact Nat.zero_le _
   | cons h r =>
     dsimp only;split
     · exact Nat.zero_le _
     · split
       · exact Nat.zero_le _
       · split <;> exact Nat.zero_le _
theorem clP_ok {l:List UInt8} (hl:l.length≤50000):(clP l).name.size≤maxLen∧(clP l).items.length≤9223372036854775807∧∀ x∈(clP l).items,x.name.size≤maxLen:=by
 have hm:50000≤maxLen:=by decide
 unfold clP;split
 · rename_i h3
   obtain ⟨q0,q1,q2,hQ⟩:=len_three h3;have hs:=spl_len 32 (befB 58 l);have hb:=bef_len 58 l;have ha:=aft_len 58 l;rw [hQ] at hs ⊢;have hq1:=hs q1 (by simp);refine ⟨?_, ?_, ?_⟩
   · show (strB q1).size≤_
     rw [strB_size];omega
   · dsimp only
     split
     · exact Nat.zero_le _
     · rw [List.length_map]
       have:=spl2_count 59 32 (cutHd 32 (aftB 58 l));have:=cutHd_len 32 (aftB 58 l);omega
   · dsimp only
     split
     · intro x hx
       exact absurd hx List.not_mem_nil
     · intro x hx
       obtain ⟨p,hp,rfl⟩:=List.mem_map.1 hx;have h1:=itP_name p;have h2:=spl2_len 59 32 _ p hp;have:=cutHd_len 32 (aftB 58 l);omega
 · exact ⟨Nat.zero_le _,Nat.zero_le _,fun x hx=>absurd hx List.not_mem_nil⟩
theorem lns_len:∀ l:List UInt8,∀ p∈lns l,p.length≤l.length
 | [],p,h=>absurd h List.not_mem_nil
 | x :: l, p, h => by
   have ih:=lns_len l;rw [lns] at h;rw [List.length_cons];split at h
   · rcases List.mem_cons.1 h with rfl | h
     · simp
     · have:=ih p h
       omega
   · cases hs:lns l with
     | nil =>
       rw [hs,hdC,List.mem_singleton] at h;subst h;simp
     | cons q qs =>
       rw [hs] at h ih;rcases List.mem_cons.1 h with rfl | h
       · have:=ih q List.mem_cons_self
         rw [List.length_cons];omega
       · exact Nat.le_succ_of_le (ih p (List.mem_cons_of_mem _ h))
theorem lns_count:∀ l:List UInt8,(lns l).length≤l.length
 | []=>Nat.le_refl _
 | x :: l => by
   have ih:=lns_count l;rw [lns,List.length_cons];split
   · rw [List.length_cons]
     omega
   · cases hs:lns l with
     | nil =>
       show [[x]].length≤_
       simp
     | cons q qs =>
       rw [hs,List.length_cons] at ih;exact k65_
theorem cutTl_len (c:UInt8) (l:List UInt8):(cutTl c l).length≤l.length:=by
 unfold cutTl;split
 · rw [List.length_dropLast]
   omega
 · exact Nat.le_refl _
theorem netP_ok {l:List UInt8} (hl:l.length≤50000):CsOk (netP l):=fun c hc=>by
 obtain ⟨p,hp,rfl⟩:=List.mem_map.1 hc;have h1:=lns_len l p hp;have h2:=cutTl_len 10 p;exact clP_ok (by omega)
def CvAt (w:World) (base:Nat) (V:List CV) (L:List Cl):Prop:=CvIn w V L∧∀ m∈V,∀ q,m.a=some q→base≤q.block
theorem ItsK.by2 {W w:World} {row:Option Nat} {a0:Option Addr} {l:List It} (h:ItsK W a0 l) (hg:W.grownBy w row) (hr:∀ r,row=some r→(∀ q,a0=some q→q.block≠r)∨∀ cs fz,W.heap[r]? ≠ some (.cells cs 51 fz)):ItsK w a0 l:=by
 have key:∀ q,a0=some q→w.heap[q.block]? = W.heap[q.block]? := fun q hq=>by
  obtain ⟨cs,fz,h1⟩:=h.2 q hq;refine hg.block _ (Array.getElem?_eq_some_iff.1 h1).1 fun e=>?_
  rcases hr _ e.symm with h2 | h2
  · exact h2 q hq rfl
  · exact h2 _ _ h1
 have hW:∀ q,a0=some q→q.block<W.heap.size:=fun q hq=>by
  obtain ⟨cs,fz,h1⟩:=h.2 q hq;exact (Array.getElem?_eq_some_iff.1 h1).1
 refine ⟨?_,fun q hq=>?_⟩
 · rcases h.1 with h0 | ⟨b,off,rfl,hb,hc⟩
   · exact .inl h0
   · refine .inr ⟨b,off,rfl,Nat.lt_of_lt_of_le hb hg.size,fun i z hz=>?_⟩
     have e:=key _ rfl;have e2:∀ j,w.cell? ⟨b,j,none⟩=W.cell? ⟨b,j,none⟩:=fun j=>by
      have e':w.heap[b]? = W.heap[b]? := e;simp only [World.cell?,e']
     obtain ⟨c0,c1,c2,c3⟩:=hc i z hz;exact ⟨(e2 _).trans c0,(e2 _).trans c1,(e2 _).trans c2,(e2 _).trans c3⟩
 · obtain ⟨cs,fz,h1⟩:=h.2 q hq
   exact ⟨cs,fz,(key q hq).trans h1⟩
theorem CvAt.by {W w:World} {row:Option Nat} {base:Nat} {V:List CV} {L:List Cl} (h:CvAt W base V L) (hg:W.grownBy w row) (hr:∀ r,row=some r→r<base∨∀ cs fz,W.heap[r]? ≠ some (.cells cs 51 fz)):CvAt w base V L:=by
 refine ⟨⟨h.1.1,fun j m c h1 h2=>?_⟩,h.2⟩;obtain ⟨e1,e2,e3,e4⟩:=h.1.2 j m c h1 h2;refine ⟨e1,e2,e3,e4.by2 hg fun r hrr=>?_⟩;rcases hr r hrr with h3 | h3
 · refine .inl fun q hq=>?_
   have:=h.2 m (List.mem_of_getElem? h1) q hq;omega
 · exact .inr h3
theorem CvAt.snoc {w:World} {base:Nat} {V:List CV} {L:List Cl} (h:CvAt w base V L) {m:CV} {c:Cl} (h1:m.name=c.name) (h2:m.gd=c.gd) (h3:m.len=c.items.length) (h4:ItsK w m.a c.items) (h5:∀ q,m.a=some q→base≤q.block):CvAt w base (V++[m]) (L++[c]) :=
 ⟨h.1.snoc h1 h2 h3 h4,fun m' hm=>by
  rcases List.mem_append.1 hm with h | h2
  · exact ‹CvAt w base V L›.2 m' h
  · rw [List.mem_singleton] at h2
    subst h2;exact h5⟩
theorem OwnCs.keptBy {X Y:World} {row:Option Nat} {base:Nat} {a0:Option Addr} {k0:Nat} {V:List CV} (h:OwnCs X base a0 k0 V) (hg:X.grownBy Y row) (hr:∀ r,row=some r→r<base∨∃ o:Obj,X.heap[r]? = some o∧o.isCells=false):OwnCs Y base a0 k0 V:=by
 refine World.ownsRow.kept h hg ?_;cases hv:(Value.slice a0 V.length k0).ownBlock with
 | none=>exact .inl rfl
 | some k =>
   refine .inr fun e=>?_
   obtain ⟨hk,cs,fz,h4⟩:=h.row k hv;rcases hr k e.symm with h1 | ⟨o,h1,h2⟩
   · omega
   · rw [h4] at h1
     cases h1;cases h2
theorem OwnCs.low {w:World} {base:Nat} {a0:Option Addr} {k0:Nat} {V:List CV} (h:OwnCs w base a0 k0 V) {b:Nat} (hb:b<base) (i:Nat) (u:Value):OwnCs (w.setCell ⟨b,i,none⟩ u) base a0 k0 V:=ownsRow_setCell_low h hb i u
theorem OwnC.by {W w:World} {row:Option Nat} {base:Nat} {a0:Option Addr} {k0:Nat} {L:List Cl} (h:OwnC W base a0 k0 L) (hg:W.grownBy w row) (hr:∀ r,row=some r→∃ o:Obj,W.heap[r]? = some o∧o.isCells=false):OwnC w base a0 k0 L:=by
 obtain ⟨V,h1,h2⟩:=h;refine ⟨V,h1.keptBy hg fun r e=>.inr (hr r e),h2.by hg fun r e cs fz h=>?_⟩;obtain ⟨o,h3,h4⟩:=hr r e;rw [h3] at h;cases h;cases h4
structure ParI (w W1:World) (b4:Nat) (pre:List (List UInt8)) (W:World):Prop where
 low:Below w.heap.size w W
 size:W1.heap.size≤W.heap.size
 its:∃ (V:List CV) (a:Option Addr) (k:Nat),W.heap[b4]? = some (.cells #[.slice a V.length k] 22 (0,0))∧OwnCs W W1.heap.size a k V∧CvAt W W1.heap.size V (pre.map fun p=>clP (cutTl 10 p))
theorem parI_steady {w W1:World} {b4 bS:Nat} (hS:w.heap.size≤bS) (hS1:bS<W1.heap.size) (h4:b4≠bS):Steady W1.heap.size [bS] (ParI w W1 b4):=by
 intro pre X Y row h hg hr;obtain ⟨V,a,k,h1,ho,hv⟩:=h.its;refine ⟨h.low.grown hg (by have:=h.low.size;omega) fun r e=>?_,Nat.le_trans h.size hg.size,V,a,k,kept_one h1 rfl hg fun r e=>?_,ho.keptBy hg fun r e=>?_,hv.by hg fun r e=>?_⟩
 · rcases hr r e with h' | ⟨h',_⟩
   · rw [List.mem_singleton] at h'
     omega
   · omega
 · rcases hr r e with h | ⟨_,h⟩
   · rw [List.mem_singleton] at h
     exact .inl (by omega)
   · exact .inr h
 · rcases hr r e with h' | ⟨_,h'⟩
   · rw [List.mem_singleton] at h'
     exact .inl (by omega)
   · exact .inr h'
 · rcases hr r e with h' | ⟨_,o,h',h3⟩
   · rw [List.mem_singleton] at h'
     exact .inl (by omega)
   · refine .inr fun cs fz h2=>?_
     rw [h2] at h';cases h';cases h3
theorem par_step {w W1 Wb V wA:World} {b4 bS:Nat} {pre:List (List UInt8)} {x:List UInt8} {a a2 ai:Option Addr} {k k2 ki:Nat} {V0:List CV} {c:Cl}
  (h1:Below w.heap.size w Wb) (h2:W1.heap.size≤Wb.heap.size) (h3:Wb.heap[b4]? = some (.cells #[.slice a V0.length k] 22 (0,0))) (hC:Below Wb.heap.size Wb V) (hO:OwnCs V W1.heap.size a k V0) (hV:CvAt V W1.heap.size V0 (pre.map fun p=>clP (cutTl 10 p)))
  (hg:V.grownBy wA (Value.slice a V0.length k).ownBlock) (hA:OwnCs wA W1.heap.size a2 k2 (V0++[⟨c.name,c.gd,ai,c.items.length,ki⟩])) (hI:ItsK V ai c.items) (hq:∀ q,ai=some q→Wb.heap.size≤q.block) (hc:clP (cutTl 10 x)=c)
  (hw4:w.heap.size≤b4) (h4S:b4<bS) (hS1:bS<W1.heap.size) :
  KeepsFrom W1.heap.size Wb (wA.setCell ⟨b4,0,none⟩ (.slice a2 (V0.length+1) k2))∧(∀ b∈[bS],(wA.setCell ⟨b4,0,none⟩ (.slice a2 (V0.length+1) k2)).heap[b]? = Wb.heap[b]?)∧ParI w W1 b4 (pre++[x]) (wA.setCell ⟨b4,0,none⟩ (.slice a2 (V0.length+1) k2)):=by
 have hz4:=(Array.getElem?_eq_some_iff.1 h3).1;have hs:=(KeepsOthers.setCell wA ⟨b4,0,none⟩ (.slice a2 (V0.length+1) k2)).size;have hrow:=fun r hr=>(hO.row r hr).1
 have hlow:=(h1.trans (hC.mono h1.size)).grown hg (Nat.le_trans h1.size hC.size) (fun r e=>by have:=hrow r e;omega);have hnc:∀ r,(Value.slice a V0.length k).ownBlock=some r→r<W1.heap.size∨∀ cs fz,V.heap[r]? ≠ some (.cells cs 51 fz):=fun r e=>by
  obtain ⟨_,cs',fz',h9⟩:=hO.row r e;refine .inr fun cs fz h=>?_
  rw [h9] at h;simp at h
 have hnew:=(hV.by hg hnc).snoc (m:=⟨c.name,c.gd,ai,c.items.length,ki⟩) (c:=c) rfl rfl rfl (hI.by2 hg fun r e=>(hnc r e).imp (fun h9=>by have:=hrow r e;omega) id) (fun q e=>Nat.le_trans h2 (hq q e));have h4':wA.heap[b4]? = some (.cells #[.slice a V0.length k] 22 (0,0)):=by
  refine ((hg.block b4 (Nat.lt_of_lt_of_le hz4 hC.size) fun e=>?_).trans (hC.block b4 hz4)).trans h3;have:=hrow b4 e.symm;omega
 refine ⟨⟨Nat.le_trans (Nat.le_trans hC.size hg.size) hs,fun r o _ hk ho=>?_⟩,fun b hb=>?_,⟨hlow.setCell (p:=⟨b4,0,none⟩) hw4 _,Nat.le_trans h2 (Nat.le_trans (Nat.le_trans hC.size hg.size) hs),_,a2,k2, ?_,hA.low (by omega) 0 _, ?_⟩⟩
 · have hkl:=(Array.getElem?_eq_some_iff.1 hk).1
   have hV:=(hC.block r hkl).trans hk;have hA:=(hg.block r (Nat.lt_of_lt_of_le hkl hC.size) (fun e=>by
    obtain ⟨_,cs,fz,h⟩:=hO.row r e.symm;rw [hV] at h;cases h;cases ho)).trans hV
   refine (Below.heap_setCell _ _ _ r fun e=>?_).trans hA;rw [show r=b4 from e,h3] at hk;cases hk;cases ho
 · rw [List.mem_singleton] at hb
   subst hb;refine (Below.heap_setCell _ _ _ b (show b≠b4 by omega)).trans ((hg.block b (by have:=hC.size;omega) fun e=>?_).trans (hC.block b (by omega)));have:=hrow b e.symm;omega
 · rw [show (V0++[(⟨c.name,c.gd,ai,c.items.length,ki⟩:CV)]).length=V0.length+1 by simp]
   exact box_set h4'
 · rw [List.map_append,List.map_singleton,hc]
   refine hnew.by (row:=some b4) (grownBy_setCell' wA b4 _) fun r e=>?_
   injection e with e;exact .inl (by omega)
open Go Go.RowKit Amp Msh
attribute [local go_sem] Oper.semAt_some
theorem ItsK.below {w w':World} {a0:Option Addr} {l:List It} (h:ItsK w a0 l) (hb:Below w.heap.size w w'):ItsK w' a0 l:=h.by (below_grownBy hb) fun _ e=>by cases e
def AggP (B:Nat) (c:Cl) (W:World) (v:Value):Prop:=∃ (ai:Option Addr) (ki:Nat),v=.agg #[.string c.name,.int .i64 c.gd,.slice ai c.items.length ki]∧ItsK W ai c.items∧∀ q,ai=some q→B≤q.block
def BoxP (B:Nat) (c:Cl) (W:World) (v:Value):Prop:=∃ (b:Nat) (ai:Option Addr) (ki:Nat),v=.slice (some ⟨b,0,none⟩) 1 1∧W.heap[b]? = some (.cells #[.string c.name,.int .i64 c.gd,.slice ai c.items.length ki] 28 (0,0))∧ItsK W ai c.items∧∀ q,ai=some q→B≤q.block
theorem AggP.grew {B:Nat} {c:Cl} {W W':World} {v:Value} (h:AggP B c W v) (hg:Grew W W'):AggP B c W' v:=by
 obtain ⟨ai,ki,e3,hI3,hq3⟩:=h;exact ⟨ai,ki,e3,hI3.grew hg,hq3⟩
theorem AggP.below {B:Nat} {c:Cl} {W W':World} {v:Value} (h:AggP B c W v) (hb:Below W.heap.size W W'):AggP B c W' v:=by
 obtain ⟨ai,ki,e3,hI3,hq3⟩:=h;exact ⟨ai,ki,e3,hI3.below hb,hq3⟩
theorem BoxP.grew {B:Nat} {c:Cl} {W W':World} {v:Value} (h:BoxP B c W v) (hg:Grew W W'):BoxP B c W' v:=by
 obtain ⟨b,ai,ki,e4,h4,hI4,hq4⟩:=h;exact ⟨b,ai,ki,e4,(hg.block b (Array.getElem?_eq_some_iff.1 h4).1).trans h4,hI4.grew hg,hq4⟩
theorem BoxP.below {B:Nat} {c:Cl} {W W':World} {v:Value} (h:BoxP B c W v) (hb:Below W.heap.size W W'):BoxP B c W' v:=by
 obtain ⟨b,ai,ki,e4,h4,hI4,hq4⟩:=h;exact ⟨b,ai,ki,e4,(hb.block b (Array.getElem?_eq_some_iff.1 h4).1).trans h4,hI4.below hb,hq4⟩
theorem BoxP.new {B:Nat} {c:Cl} {W:World} {ai:Option Addr} {ki:Nat} (h:ItsK W ai c.items) (hq:∀ q,ai=some q→B≤q.block):BoxP B c (W.alloc (.cells #[.string c.name,.int .i64 c.gd,.slice ai c.items.length ki] 28)) (.slice (some ⟨W.heap.size,0,none⟩) 1 1) :=
 ⟨_,ai,ki,rfl,blk_new rfl,h.grew ((Grew.refl _).alloc _),hq⟩
set_option maxRecDepth 100000 in
set_option maxHeartbeats 8000000 in
theorem ppar_big (l:List UInt8) (w:World) (hl:l.length≤140737488351232) (h4:4000<l.length) :
  Calls Tryz.prog 14 #[.string (strB l)] w fun e w'=>ParP (parP l) e w'∧Below w.heap.size w w':=by
 have HR:=hid (show parP l=([],4) by unfold parP;rw [if_pos h4]);have e1:decide ((4000:Int)<l.length)=true:=decide_eq_true (by omega);clear h4;go_enter Tryz.func14,Tryz.ntmps14
 go_wp2_with fail
 go_ret2
 rw [HR.out];exact ⟨⟨none,0,rfl,.inl rfl,Nat.le_refl _⟩,Grew.below gw0⟩
set_option maxRecDepth 100000 in
set_option maxHeartbeats 16000000 in
theorem ppar_main (l:List UInt8) (w:World) (hL:LaidN w) (h4:¬ 4000<l.length) :
  Calls Tryz.prog 14 #[.string (strB l)] w fun e w'=>ParP (parP l) e w'∧Below w.heap.size w w':=by
 have hl4:l.length≤4000:=by omega
 have HR:=hid (show parP l=if vnet (netP l)=true∧netT (netP l)=l then (netP l,0) else ([],3) by unfold parP;rw [if_neg h4]);have e1:decide ((4000:Int)<l.length)=false:=decide_eq_false (by omega);have HLN:=hid fun w=>lines_any l w
 have HOK:=hid (netP_ok (l:=l) (by omega));have HLL:=hid hl4;have HL:=hid hL;clear h4 hL;refine (callsIn_wide (n:=9)).1 ?_;refine callsIn_of_wp_marks Tryz.func14 rfl trivial ?_ rfl;refine wpIn_wide.2 ?_;simp only [Tryz.ntmps14,List.size_toArray,List.length_cons,List.length_nil,Nat.reduceAdd,Nat.reduceSub,Array.replicate_succ,Array.replicate_zero,List.push_toArray,List.append_toArray,List.nil_append,List.cons_append];go_wp2_with fail
 refine (HLN.out _).mono ?_;rintro e w' ⟨rfl,rfl⟩;dsimp only;have h0w:0<w.heap.size:=by
  obtain ⟨m,hm⟩:=HL.out.max;exact Nat.lt_of_le_of_lt (Nat.zero_le _) (cell_lt hm)
 have hg1:Grew w ((w.alloc (.cells #[.slice none 0 0] 22)).alloc (.cells #[.string (strB l)] 9)):=gw0;have hb4:((w.alloc (.cells #[.slice none 0 0] 22)).alloc (.cells #[.string (strB l)] 9)).heap[w.heap.size]? = some (.cells #[.slice none 0 0] 22 (0,0)):=(Grew.block (Grew.alloc (Grew.refl _) _) _ (by rw [World.size_alloc];omega)).trans (blk_new rfl);have hbS:((w.alloc (.cells #[.slice none 0 0] 22)).alloc (.cells #[.string (strB l)] 9)).heap[w.heap.size+1]? = some (.cells #[.string (strB l)] 9 (0,0)):=by
  have:=World.alloc_heap_new (w.alloc (.cells #[.slice none 0 0] 22)) (.cells #[.string (strB l)] 9);rw [World.size_alloc] at this;exact this
 have hs1:((w.alloc (.cells #[.slice none 0 0] 22)).alloc (.cells #[.string (strB l)] 9)).heap.size=w.heap.size+2:=by simp only [World.size_alloc]
 obtain ⟨W1,hW1⟩:∃ W',(w.alloc (.cells #[.slice none 0 0] 22)).alloc (.cells #[.string (strB l)] 9)=W':=⟨_,rfl⟩;simp only [World.size_alloc];rw [hW1] at hg1 hb4 hbS hs1;rw [hW1];obtain ⟨b4,hq4⟩:∃ b,w.heap.size=b:=⟨_,rfl⟩;have HB4:=hid hq4;obtain ⟨bS,hqS⟩:∃ b,b4+1=b:=⟨_,rfl⟩;rw [hq4] at hb4 hbS hs1 h0w;rw [hqS] at hbS;have HS1:=hid (show bS<W1.heap.size by omega);have h4S:b4<bS:=by omega
 rw [hq4,hqS];have HG1:=hid hg1;have HBS:=hid hbS;have HB4':=hid hb4;clear hW1 hg1 hb4 hbS hs1 hq4 hqS;go_wp2_with fail
 refine (wpIn_wide (n:=9)).1 ?_;refine wpIn_rangeFunc_run (by decide) (gf:=61) (lb:=#[.pointer (some ⟨bS,0,none⟩)]) rfl (enters_of Tryz.func61 (by kernel_rfl) rfl)
  (bs:=[bS]) (ks:=[bS]) (lines1_runs 8 (by decide) bS l (by have:=HLL.out;omega) W1 HBS.out) (fun b hb=>by rw [List.mem_singleton] at hb;have:=HS1.out;omega) (fun b hb=>by rw [List.mem_singleton] at hb;have:=HS1.out;omega) (fun _=>rfl)
  (ParI w W1 b4) (parI_steady (by have:=HB4.out;omega) HS1.out (by omega))
  ⟨HG1.out.below,Nat.le_refl _,[],none,0,HB4'.out,OwnCs.nil _ _,CvIn.nil _,fun m hm=>by cases hm⟩
  (fun x=>{ tmps:=#[.string (strB l),undef,.slice none 0 0,.int .i64 0,.pointer (some ⟨b4,0,none⟩),.string (strB x),.string (strB l),.int .i64 l.length,.bool false,.string (strB l),.func (.func 61) #[] #[.pointer (some ⟨bS,0,none⟩)],.string (strB x),undef,undef,undef,undef,undef,undef,undef,undef,undef,undef,undef,undef,undef,undef,undef,undef],defers:=[] }) ?assign ?body ?done
 case assign =>
  intro lp x W K hK;simp only [encS]
  gi_wp2
  exact hK
 case body =>
  rintro lp pre x W hI ⟨r,hr⟩;obtain ⟨V0,a,k,h4,hO,hV⟩:=hI.its;have hxl:x.length≤4000:=Nat.le_trans (lns_len l x (by rw [hr];simp)) HLL.out;have HT:=hid fun w=>trims_any 10 x w (by omega)
  obtain ⟨c,hc⟩:∃ c,clP (cutTl 10 x)=c:=⟨_,rfl⟩;have hpc:∀ w',LaidN w'→Calls Tryz.prog 32 #[.string (strB (cutTl 10 x))] w' fun e w''=>ClQ w'.heap.size c e w''∧Below w'.heap.size w' w'':=by
   intro w' h;rw [← hc];exact pcl_any (cutTl 10 x) w' (by have:=cutTl_len 10 x;omega) h
  have HPC:=hid hpc;have hvl:V0.length≤4000:=by
   have h1:=lns_count l;rw [hr,List.length_append,List.length_cons] at h1;rw [hV.1.1,List.length_map];have:=HLL.out;omega
  have HI:=hid (And.intro hI.low hI.size);have H4:=hid h4;have HO:=hid hO;have HV:=hid hV;have HVL:=hid hvl;have HC:=hid hc;have z4:=(Array.getElem?_eq_some_iff.1 h4).1;clear hI h4 hO hV hxl hpc hvl hc hr;obtain ⟨Wb,hWb⟩:∃ V,W=V:=⟨_,rfl⟩;rw [hWb] at HI H4 HO HV z4;rw [hWb];clear hWb
  gi_wp2
  refine R4.wpIn_region_slotsC 5 (fun ix vs W=>match ix with | 0=>vs 0=.slice a V0.length k | 1=>vs 1=.string (strB x) | 2=>vs 2=.string (strB (cutTl 10 x)) | 3=>AggP Wb.heap.size c W (vs 3) | 4=>BoxP Wb.heap.size c W (vs 4) | _=>True) (fun L W=>ClsB Wb L W) (by kernel_rfl) (by kernel_rfl) (fun h=>by obtain ⟨_,_,h⟩:=h;exact h) (by kernel_rfl) ?slst ?sldep ((Grew.refl Wb).drew).below ?slop ?slq
  case slst =>
   intro ix vs W W' h hg;match ix,h with
   | 0,h=>exact h
   | 1,h=>exact h
   | 2,h=>exact h
   | 3,h=>exact AggP.grew h hg
   | 4,h=>exact BoxP.grew h hg
   | _+5,_=>trivial
  case sldep =>
   intro ix o vs vs' W hix ho h hv hn;match ix,hix,ho,h,hv with
   | 0,_,_,h,hv=>exact Eq.trans hv h
   | 1,_,_,h,hv=>exact Eq.trans hv h
   | 2,_,_,h,hv=>exact Eq.trans hv h
   | 3,_,_,h,hv=>show AggP Wb.heap.size c W (vs' 3);rw [hv];exact h
   | 4,_,_,h,hv=>show BoxP Wb.heap.size c W (vs' 4);rw [hv];exact h
   | kx+5,hix,_,_,_=>exact absurd hix (by omega)
  case slop =>
   intro ix o hix ho vs W L hg hL hn hall hdown;match ix,hix,ho,hL with
   | 0, _, ho, _ =>
     obtain rfl:=Option.some.inj ho;change R4.Oper.slotAt _ _ { tmps:=_,defers:=_ } _ _;have hq:Below Wb.heap.size Wb W:=hg;have dq:W.cell? ⟨b4,0,none⟩=some (.slice a V0.length k):=(hq.cell (p:=⟨b4,0,none⟩) z4).trans (cell_of_one H4.out);clear hq;go_simp;exact ⟨hg,R4.upd_same _ _ _,.inl (Grew.refl _)⟩
   | 1, _, ho, _ =>
     exact k42_
   | 2, _, ho, _ =>
     obtain rfl:=Option.some.inj ho;have hn1:=(hn 1 (by decide)).2;try dsimp only at hn1
     change R4.Oper.slotAt _ _ (Act.put _ (some 13) (vs 1)) _ _;conv=>arg 3;rw [hn1]
     clear hn1;go_simp;refine (HT.out _).mono ?_;rintro e w' ⟨rfl,rfl⟩;exact ⟨_,rfl,hg,R4.upd_same _ _ _,.inl (Grew.refl _)⟩
   | 3, _, ho, hL =>
     obtain rfl:=Option.some.inj ho;have hn2:=(hn 2 (by decide)).2;try dsimp only at hn2
     change R4.Oper.slotAt _ _ (Act.put _ (some 14) (vs 2)) _ _;conv=>arg 3;rw [hn2]
     clear hn2;have hq:=hid (show Below Wb.heap.size Wb W from hg);go_simp;refine (HPC.out _ (HL.out.below (HI.out.1.trans (hq.out.mono HI.out.1.size)))).mono ?_;rintro e w' ⟨⟨ai,ki,rfl,hI,hqi⟩,hb⟩;refine ⟨_,rfl,hq.out.trans (hb.mono hq.out.size),by rw [R4.upd_same];exact ⟨ai,ki,rfl,hI,fun q e=>Nat.le_trans hq.out.size (hqi q e)⟩,.inr fun jx hjx hLj=>?_⟩;have hv:=hall jx hjx hLj;match jx,hjx,hv with
     | 0,_,hv=>exact hv
     | 1,_,hv=>exact hv
     | 2,_,hv=>exact hv
     | 3,_,hv=>exact AggP.below hv hb
     | 4,_,hv=>exact BoxP.below hv hb
     | kx+5,hjx,_=>exact absurd hjx (by omega)
   | 4, _, ho, _ =>
     obtain rfl:=Option.some.inj ho;have hn3:=(hn 3 (by decide)).2;try dsimp only at hn3
     change R4.Oper.slotAt _ _ (Act.put _ (some 15) (vs 3)) _ _;obtain ⟨ai,ki,e3,hI3,hq3⟩:=hn3;have HI3:=hid (And.intro hI3 hq3);clear hI3 hq3;have hq:=hid (show Below Wb.heap.size Wb W from hg);rw [e3];clear e3;go_simp;exact ⟨hq.out.alloc hq.out.size _,by rw [R4.upd_same];exact BoxP.new HI3.out.1 HI3.out.2,.inl ((Grew.refl _).alloc _)⟩
   | kx+5,hix,_,_=>exact absurd hix (by omega)
  case slq =>
   intro vs V hC0 hn;have hC:Below Wb.heap.size Wb V:=hC0;clear hC0;have hn0:=hn 0 (by decide) (by decide);have hn1:=hn 1 (by decide) (by decide);have hn2:=hn 2 (by decide) (by decide);have hn3:=hn 3 (by decide) (by decide);have hn4:=hn 4 (by decide) (by decide);change wpList _ _ _ _ (Act.put (Act.put (Act.put (Act.put (Act.put _ (some 12) (vs 0)) (some 13) (vs 1)) (some 14) (vs 2)) (some 15) (vs 3)) (some 16) (vs 4)) _;rw [hn0,hn1,hn2];clear hn hn0 hn1 hn2;simp only [Act.put,List.setIfInBounds_toArray,List.set_cons_zero,List.set_cons_succ,List.drop_succ_cons,List.drop_zero];obtain ⟨bx,ai,ki,e4,hBx,hI4,hq4⟩:=hn4;rw [e4];have HOV:=hid (HO.out.keptBy (below_grownBy hC) (fun _ e=>by cases e));have HVV:=hid (HV.out.by (below_grownBy hC) (fun _ e=>by cases e));have HCV:=hid hC;have HSZ:=hid (Nat.le_trans HI.out.2 hC.size);have HBX:=hid hBx;have HI4:=hid (And.intro hI4 hq4);clear hC e4 hBx hI4 hq4 hn3;have c4:=cell_of_one ((HCV.out.block _ z4).trans H4.out);go_wp2_with (at_builtin;go_loud (refine wpList_append_cv rfl _ _ rfl W1.heap.size a k V0 rfl HOV.out bx 1 ⟨c.name,c.gd,ai,c.items.length,ki⟩ rfl HBX.out ?hmx ?hbs ?_))
   case hmx=>have:=HVL.out;omega
   case hbs=>exact HSZ.out
   intro a4 k4 wA hownA hgrowA hdrA;have hne:some b4≠(Value.slice a V0.length k).ownBlock:=fun e=>by
    have h9:W1.heap.size≤b4:=ownsRow_above HOV.out b4 e.symm;have:=HS1.out;omega
   have hA4:=((hgrowA.block b4 (Nat.lt_of_lt_of_le z4 HCV.out.size) hne).trans (HCV.out.block _ z4)).trans H4.out;have zA4:=(Array.getElem?_eq_some_iff.1 hA4).1;have dA4:=cell_of_one hA4;have fA4:wA.frozen? ⟨b4,0,none⟩=false:=by simp [World.frozen?,hA4]
   have HOA:=hid hownA;have HGA:=hid hgrowA;clear hA4 hownA hgrowA hdrA hne c4;go_wp2_with fail
   exact par_step HI.out.1 HI.out.2 H4.out HCV.out HOV.out HVV.out HGA.out HOA.out HI4.out.1 HI4.out.2 HC.out (by have:=HB4.out;omega) h4S HS1.out
 case done =>
  intro D Wd hD hI hK;obtain ⟨V,a,k,h4,hO,hV⟩:=hI.its;obtain ⟨L,hL⟩:∃ L,netP l=L:=⟨_,rfl⟩;have hVL:(lns l).map (fun p=>clP (cutTl 10 p))=L:=hL;rw [hVL] at hV;rw [hL] at HR HOK;have hC:OwnC Wd W1.heap.size a k L:=⟨V,hO,hV.1⟩;have hlen:V.length=L.length:=hV.1.1;have hll:L.length≤4000:=by
   have h1:=lns_count l;have:=HLL.out;rw [← hL];show ((lns l).map _).length≤_
   rw [List.length_map];omega
  rw [hlen] at h4;have c4:=cell_of_one h4;have HC:=hid hC;have H4:=hid h4;have HK:=hid hK;have HI:=hid hI.low;have HD:=hid hD;have HVA:=hid (vnetP_any a k L Wd (by omega) hC.net.1 HOK.out);obtain ⟨v,hv⟩:∃ v,vnet L=v:=⟨_,rfl⟩;have HVN:=hid hv;rw [hv] at HVA;clear hO hV hI h4 hK hC hL hVL hv hlen
  gi_wp2
  go_wp2_with fail
  refine HVA.out.mono ?_;rintro e w2 ⟨rfl,hg2⟩;dsimp only;have hB2:=HI.out.trans (hg2.below.mono HI.out.size);have h42:=(hg2.block _ (Array.getElem?_eq_some_iff.1 H4.out).1).trans H4.out;have hK2:=(hg2.block _ (Array.getElem?_eq_some_iff.1 HK.out).1).trans HK.out;have hC2:=HC.out.grew hg2;have HB2:=hid hB2;have H42:=hid h42;have HK2:=hid hK2;have HC2:=hid hC2;clear hg2 hB2 hK2 hC2 HVA HI H4 HK HC c4;cases v with
  | false =>
    have HR:=hid (HR.out.trans (if_neg fun h=>by rw [HVN.out] at h;exact Bool.false_ne_true h.1));clear h42;go_wp2_with fail
    refine ⟨by simp,.inl ⟨_,_,rfl,run_takeDeferred (b:=D) (ds:=[]) HK2.out, ?_⟩⟩;refine ⟨_,results_tmp2 rfl _ _ _, ?_⟩;rw [HR.out];exact ⟨⟨none,0,rfl,.inl rfl,Nat.le_refl _⟩,HB2.out.trans (belowK_b (w:=w) (Nat.le_refl _) w2 D _ _ (by have:=HD.out;have:=HS1.out;have:=HB4.out;omega) HK2.out rfl rfl)⟩
  | true =>
    have c4:=cell_of_one h42;have HTX:=hid (textN_any a k L w2 HC2.out.net.1 HVN.out (HL.out.below HB2.out).lay.tab);obtain ⟨T,hT⟩:∃ T,netT L=T:=⟨_,rfl⟩;rw [hT] at HTX HR;have HTE:=hid hT;clear h42 hT;go_wp2_with fail
    refine HTX.out.mono ?_;rintro e w3 ⟨rfl,hb3⟩;dsimp only;have hB3:=HB2.out.trans (hb3.mono HB2.out.size);have h43:=(hb3.block _ (Array.getElem?_eq_some_iff.1 H42.out).1).trans H42.out;have hK3:=(hb3.block _ (Array.getElem?_eq_some_iff.1 HK2.out).1).trans HK2.out;have hC3:=HC2.out.by (below_grownBy hb3) fun _ e=>by cases e
    have c4:=cell_of_one h43;have HB3:=hid hB3;have HK3:=hid hK3;have HC3:=hid hC3;clear hb3 hB3 hK3 hC3 h43 H42 HK2 HC2 HB2 HTX;by_cases hTl:T=l
    case neg =>
     have HR:=hid (HR.out.trans (if_neg fun h=>hTl h.2));have e2:=eq_f hTl;clear hTl;go_wp2_with fail
     refine ⟨by simp,.inl ⟨_,_,rfl,run_takeDeferred (b:=D) (ds:=[]) HK3.out, ?_⟩⟩;refine ⟨_,results_tmp2 rfl _ _ _, ?_⟩;rw [HR.out];exact ⟨⟨none,0,rfl,.inl rfl,Nat.le_refl _⟩,HB3.out.trans (belowK_b (w:=w) (Nat.le_refl _) w3 D _ _ (by have:=HD.out;have:=HS1.out;have:=HB4.out;omega) HK3.out rfl rfl)⟩
    case pos =>
     have HR:=hid (HR.out.trans (if_pos ⟨HVN.out,hTl⟩));have e2:=eq_t hTl;clear hTl;go_wp2_with fail
     refine ⟨by simp,.inl ⟨_,_,rfl,run_takeDeferred (b:=D) (ds:=[]) HK3.out, ?_⟩⟩;refine ⟨_,results_tmp2 rfl _ _ _, ?_⟩;rw [HR.out];have hC4:=HC3.out.by (grownBy_putObj' w3 D (.deferred none)) fun r e=>by cases e;exact ⟨_,HK3.out,rfl⟩
     exact ⟨⟨a,k,rfl,hC4.net⟩,HB3.out.trans (belowK_b (w:=w) (Nat.le_refl _) w3 D _ _ (by have:=HD.out;have:=HS1.out;have:=HB4.out;omega) HK3.out rfl rfl)⟩
theorem ppar_any (l:List UInt8) (w:World) (hL:LaidN w) (hl:l.length≤140737488351232):Calls Tryz.prog 14 #[.string (strB l)] w fun e w'=>ParP (parP l) e w'∧Below w.heap.size w w':=by
 by_cases h4:4000<l.length
 · exact ppar_big l w hl h4
 · exact ppar_main l w hL h4
open Go Go.RowKit Amp Msh
theorem Its.any {w:World} {a:Option Addr} {l:List It} (h:Its w a l) (w':World) (hg:Grew w w'):Its w' a l:=h.grew hg
open Go Go.RowKit Amp Msh
end Go.Proofs.YtchdmecjhaanfaaGreatDoor
