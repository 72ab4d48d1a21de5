import Derived.Test.YtchdmecjhaanfaaGreatDoorMshG
import Derived.Test.YtchdmecjhaanfaaGreatDoorHouse
import Derived.Test.YtchdmecjhaanfaaGreatDoorMshPlain
import Derived.BigRegion
import Derived.Test.YtchdmecjhaanfaaGreatDoorMshA
import Derived.Test.YtchdmecjhaanfaaGreatDoorMshE
import Derived.Lib.LazyBuf
import Derived.OwnWalk
import Derived.Laws.OwnMore
namespace Go.Proofs.YtchdmecjhaanfaaGreatDoor
open Go Go.RowKit Amp Msh
theorem _root_.k60_ {p:Prop} (h:p:=by
 refine ⟨Turned.refl _ _,by omega,none,0, ?_,OwnN.nil _ _⟩;rw [hW];exact blk_new (by simp)):p:=h
theorem _root_.k51_ {p:Prop} (h:p:=by
 obtain ⟨a0,k0,hv,ho,c0,c1,f0,f1⟩:=hM.cells;have hWw:=hM.1.size;have hWs:=HWs.out;exact k19_):p:=h
theorem _root_.k24_ {p:Prop} (h:p:=by
 have e1:(R.e != 0)=true:=by simpa using hRe
 obtain ⟨q0,q1,q2,q3⟩:=HR0.out;clear hRe;go_wp2_with fail
 exact bodyPost_ret (v:=.tuple #[.agg #[.int .i64 0,.slice none 0 0],.int .i64 R.e]) (by simp [results,Tryz.results73,go_sem,q0,q1,hr,hr1]) rfl (MadeP.bad (seqR_stop hs.out (by rw [gridR_at F hlt hlk,HR.out]) HRe.out) HRe.out (by repeat (first | exact Grew.refl _ | exact HG.out | refine Grew.drewN ?_ _ | refine Grew.grow ?_ _ | refine Grew.alloc ?_ _ | refine Grew.drew ?_ | refine Grew.set ?_ (Nat.le_refl _) _ _ | refine Grew.set ?_ (by omega) _ _)))):p:=h
theorem _root_.k19_ {p:Prop} (h:p:=by
 have hb:w.heap.size+1<wr.heap.size:=by omega
 have hr:w.heap.size<wr.heap.size:=by omega
 have HG:=hid (hM.1.toGrew hWg (by omega));have HR0:Hid (wr.cell? ⟨w.heap.size,0,none⟩=some (.int .i64 0)∧wr.cell? ⟨w.heap.size,1,none⟩=some (.slice none 0 0)∧wr.frozen? ⟨w.heap.size,0,none⟩=false∧wr.frozen? ⟨w.heap.size,1,none⟩=false):=hid (by
  have hbl:=hM.1.block (k:=w.heap.size) (by omega) (by omega)
  simpa [World.cell?,World.frozen?,hbl] using hr0)
 obtain ⟨q0,q1,q2,q3⟩:=HR0.out;have HO:=hid ho;clear hM ho hv hr0 hWs hWw;have hs':matR i F=(l,0):=by
  have:=hs.out;rw [List.take_of_length_le (by rw [gridR_length];exact Nat.le_refl _)] at this;exact this
 have HS:=hid hs';clear hs' hs;go_wp2_with fail
 exact bodyPost_ret (v:=.tuple #[.agg #[.int .i64 i,.slice a0 l.length k0],.int .i64 0]) (by simp [results,Tryz.results73,go_sem,q0,q1]) rfl (MadeP.good HS.out (((HO.out.set_low (by have:=HWs.out;omega)).set_low (by have:=HWs.out;omega)).mono' (by have:=HWs.out;omega)) (by repeat (first | exact Grew.refl _ | exact HG.out | refine Grew.drewN ?_ _ | refine Grew.grow ?_ _ | refine Grew.alloc ?_ _ | refine Grew.drew ?_ | refine Grew.set ?_ (Nat.le_refl _) _ _ | refine Grew.set ?_ (by omega) _ _)))):p:=h
def numCells (z:Num):List Value:=[.int .i64 z.x.a,.int .i64 z.x.b,.int .i64 z.x.c,.int .i64 z.x.d,.int .i64 z.k]
def numsCells (l:List Num):List Value:=l.flatMap numCells
theorem numsCells_length (l:List Num):(numsCells l).length=l.length*5:=by
 unfold numsCells
 induction l with
 | nil=>rfl
 | cons z t ih=>simp [List.flatMap_cons,numCells] at *;omega
theorem numsCells_append (l:List Num) (z:Num):numsCells (l++[z])=numsCells l++numCells z:=by simp [numsCells]
theorem numsCells_at:∀ (l:List Num) (i:Nat) (z:Num),l[i]? = some z→∀ j,j<5→(numsCells l)[i*5+j]? = (numCells z)[j]?
 | [],i,z,h,_,_=>by simp at h
 | y :: t, 0, z, h, j, hj => by
   simp at h;subst h;simp only [numsCells,List.flatMap_cons,Nat.zero_mul,Nat.zero_add];rw [List.getElem?_append_left (by simpa [numCells] using hj)]
 | y :: t, i + 1, z, h, j, hj => by
   simp at h;have:=numsCells_at t i z h j hj;simp only [numsCells,List.flatMap_cons] at *
   rw [List.getElem?_append_right (by simp [numCells];omega),← this]
   congr 1
   simp [numCells];omega
theorem info_num:(Tryz.prog.info? 67).map (fun i=>(i.zero,i.size,i.bytes))=some (some (.agg #[.int .i64 0,.int .i64 0,.int .i64 0,.int .i64 0,.int .i64 0]),5,40):=by kernel_rfl
theorem numCells_one {z:Num} {u:Value} (hu:u∈numCells z):u.oneCell'=true:=by
 simp [numCells] at hu;rcases hu with rfl | rfl | rfl | rfl | rfl <;> rfl
theorem numCells_in {w:World} {b:Nat} {z:Num} (h0:w.cell? ⟨b,0,none⟩=some (.int .i64 z.x.a)) (h1:w.cell? ⟨b,1,none⟩=some (.int .i64 z.x.b)) (h2:w.cell? ⟨b,2,none⟩=some (.int .i64 z.x.c)) (h3:w.cell? ⟨b,3,none⟩=some (.int .i64 z.x.d)) (h4:w.cell? ⟨b,4,none⟩=some (.int .i64 z.k)) :
  ∀ j u,(numCells z)[j]? = some u→w.cell? ((⟨b,0,none⟩:Addr).add j)=some u:=by
 intro j u hj;match j,hj with
 | 0,hj=>simp [numCells] at hj;subst hj;simpa [Addr.add] using h0
 | 1,hj=>simp [numCells] at hj;subst hj;simpa [Addr.add] using h1
 | 2,hj=>simp [numCells] at hj;subst hj;simpa [Addr.add] using h2
 | 3,hj=>simp [numCells] at hj;subst hj;simpa [Addr.add] using h3
 | 4,hj=>simp [numCells] at hj;subst hj;simpa [Addr.add] using h4
 | j+5,hj=>simp [numCells] at hj
def OwnN (w:World) (base:Nat) (a0:Option Addr) (k0:Nat) (l:List Num):Prop:=w.ownsRow base 67 5 (.slice a0 l.length k0) l.length (numsCells l)
theorem OwnN.nil (w:World) (base:Nat):OwnN w base none 0 []:=World.ownsRow_nil w base 67 5
theorem OwnN.grew {w w':World} {base:Nat} {a0:Option Addr} {k0:Nat} {l:List Num} (h:OwnN w base a0 k0 l) (g:Grew w w'):OwnN w' base a0 k0 l:=World.ownsRow.grew h g
theorem OwnN.mono' {w:World} {base base':Nat} {a0:Option Addr} {k0:Nat} {l:List Num} (h:OwnN w base a0 k0 l) (hb:base'≤base):OwnN w base' a0 k0 l:=World.ownsRow.mono h hb
theorem OwnN.al {w w':World} {base:Nat} {a0:Option Addr} {k0:Nat} {l:List Num} (h:OwnN w base a0 k0 l) (ha:Al base w w'):OwnN w' base a0 k0 l:=World.ownsRow.al h ha
theorem OwnN.set_low {w:World} {base b i:Nat} {u:Value} {a0:Option Addr} {k0:Nat} {l:List Num} (h:OwnN w base a0 k0 l) (hb:b<base):OwnN (w.setCell ⟨b,i,none⟩ u) base a0 k0 l:=ownsRow_setCell_low h hb i u
theorem OwnN.nms {w:World} {base:Nat} {a0:Option Addr} {k0:Nat} {l:List Num} (h:OwnN w base a0 k0 l):Nms w a0 l:=by
 rcases h.2 with ⟨h1,h2⟩ | ⟨g,cap,cur,h1,h2,h3,h4⟩
 · exact .inl (List.eq_nil_of_length_eq_zero h2)
 · injection h1 with e1 e2 e3
   subst e1;subst e3;refine .inr ⟨g,0,rfl,(Array.getElem?_eq_some_iff.1 h3).1,fun i z hz=>?_⟩;have hi:i<l.length:=(List.getElem?_eq_some_iff.1 hz).1;have key:∀ j,j<5→w.cell? ⟨g,0+i*5+j,none⟩=(numCells z)[j]? := fun j hj=>by
    rw [Nat.zero_add];rw [World.ownsRow.cellAt h (i*5+j) (by omega)];exact numsCells_at l i z hz j hj
   refine ⟨?_, ?_, ?_, ?_, ?_⟩
   · exact key 0 (by decide)
   · exact key 1 (by decide)
   · exact key 2 (by decide)
   · exact key 3 (by decide)
   · exact key 4 (by decide)
def MatIn (W w:World) (b:Nat) (n:Int) (l:List Num):Prop :=
 Turned W w b∧b<W.heap.size∧∃ (a0:Option Addr) (k0:Nat),w.heap[b]? = some (.cells #[.int .i64 n,.slice a0 l.length k0] 35)∧OwnN w W.heap.size a0 k0 l
theorem MatIn.cells {W w:World} {b:Nat} {n:Int} {l:List Num} (h:MatIn W w b n l):∃ (a0:Option Addr) (k0:Nat),w.heap[b]? = some (.cells #[.int .i64 n,.slice a0 l.length k0] 35)∧OwnN w W.heap.size a0 k0 l∧w.cell? ⟨b,0,none⟩=some (.int .i64 n)∧w.cell? ⟨b,1,none⟩=some (.slice a0 l.length k0)∧w.frozen? ⟨b,0,none⟩=false∧w.frozen? ⟨b,1,none⟩=false:=by
 obtain ⟨_,_,a0,k0,h1,h2⟩:=h;exact ⟨a0,k0,h1,h2,by simp [World.cell?,h1],by simp [World.cell?,h1],by simp [World.frozen?,h1],by simp [World.frozen?,h1]⟩
theorem MatIn.grew {W w w':World} {b:Nat} {n:Int} {l:List Num} (h:MatIn W w b n l) (g:Grew w w'):MatIn W w' b n l:=by
 obtain ⟨h0,hb,a0,k0,h1,h2⟩:=h;exact ⟨h0.grew g,hb,a0,k0,by rw [g.block b (Nat.lt_of_lt_of_le hb h0.size)];exact h1,h2.grew g⟩
theorem MatIn.appended {W w w0 w1:World} {b:Nat} {n:Int} {l:List Num} {z:Num} {a0:Option Addr} {k0:Nat} {v:Value} (h:MatIn W w b n l)
  (hv:w.heap[b]? = some (.cells #[.int .i64 n,.slice a0 l.length k0] 35)) (ho:OwnN w W.heap.size a0 k0 l) (g:Grew w w0)
  (hg:w0.grownBy w1 (Value.slice a0 l.length k0).ownBlock) (hd:w0.drawn≤w1.drawn)
  (ho':w1.ownsRow W.heap.size 67 5 v (l.length+1) (numsCells l++numCells z)) :
  (w1.cell? ⟨b,1,none⟩=some (.slice a0 l.length k0))∧w1.frozen? ⟨b,1,none⟩=false∧b<w1.heap.size∧MatIn W (w1.setCell ⟨b,1,none⟩ v) b n (l++[z]):=by
 obtain ⟨h0,hb,_⟩:=h;have ha:=ownsRow_above ho;obtain ⟨a1,k1,rfl⟩:=ownsRow_slice ho';have hb0:b<w.heap.size:=Nat.lt_of_lt_of_le hb h0.size;have hbw:b<w0.heap.size:=Nat.lt_of_lt_of_le hb0 g.size;have h1:w1.heap[b]? = some (.cells #[.int .i64 n,.slice a0 l.length k0] 35):=by
  rw [hg.block b hbw (fun e=>by have:=ha _ e.symm;omega),g.block b hb0];exact hv
 refine ⟨by simp [World.cell?,h1],by simp [World.frozen?,h1],Nat.lt_of_lt_of_le hbw hg.size,((h0.grew g).by hg hd (fun j hj=>.inl (ha j hj))).set 1 _,hb,a1,k1, ?_, ?_⟩
 · rw [heap_setCell_same _ _ _ _ _ _ h1];simp
 · have:=ownsRow_setCell_low ho' hb 1 (.slice a1 (l.length+1) k1)
   unfold OwnN;rw [numsCells_append]
   simpa using this
open Go Go.RowKit Amp Msh
def MadeP (n:Nat) (R:List Num × Int) (w:World) (e:Ending) (w':World):Prop :=
 (∃ (a0:Option Addr) (k0:Nat),e=.returned (.tuple #[.agg #[.int .i64 (rowsOf n R.2),.slice a0 R.1.length k0],.int .i64 R.2])∧OwnN w' w.heap.size a0 k0 R.1)∧Grew w w'
theorem MadeP.bad {n:Nat} {R:List Num × Int} {w w':World} {r:Int} (hR:R=([],r)) (hr:¬ r=0) (g:Grew w w'):MadeP n R w (.returned (.tuple #[.agg #[.int .i64 0,.slice none 0 0],.int .i64 r])) w':=by
 subst hR;exact ⟨⟨none,0,by simp [rowsOf,hr],OwnN.nil _ _⟩,g⟩
theorem MadeP.good {n:Nat} {R:List Num × Int} {w w':World} {l:List Num} {a0:Option Addr} {k0:Nat} (hR:R=(l,0)) (ho:OwnN w' w.heap.size a0 k0 l) (g:Grew w w'):MadeP n R w (.returned (.tuple #[.agg #[.int .i64 n,.slice a0 l.length k0],.int .i64 0])) w':=by
 subst hR;exact ⟨⟨a0,k0,by simp [rowsOf],ho⟩,g⟩
set_option maxRecDepth 100000 in
set_option maxHeartbeats 800000 in
theorem made_mul (p0 p1 p2:Nat) (n:Nat) (F:Nat→Nat→Res) (w:World) (hn:n≤6)
  (HF:∀ (i k:Nat) (w':World),i<n→k<n→Grew w w'→Calls Tryz.prog 106 #[.int .i64 i,.int .i64 k,.pointer (some ⟨p0,0,none⟩),.pointer (some ⟨p1,0,none⟩),.pointer (some ⟨p2,0,none⟩)] w' fun e w''=>e=.returned (.tuple #[.agg #[.int .i64 (F i k).x.a,.int .i64 (F i k).x.b,.int .i64 (F i k).x.c,.int .i64 (F i k).x.d,.int .i64 (F i k).k],.int .i64 (F i k).e])∧Grew w' w'') :
  Calls Tryz.prog 73 #[.int .i64 n,.func (.func 106) #[] #[.pointer (some ⟨p0,0,none⟩),.pointer (some ⟨p1,0,none⟩),.pointer (some ⟨p2,0,none⟩)]] w (MadeP n (matR n F) w):=by
 have HF:=hid HF;obtain ⟨i0,hi,hz0,hz1,hz2⟩:=info_parts info_num;go_enter Tryz.func73,Tryz.ntmps73
 go_wp2_with fail
 obtain ⟨W,hW⟩:∃ W,W=(w.alloc (.cells #[.int .i64 0,.slice none 0 0] 35)).alloc (.cells #[.int .i64 n,.slice none 0 0] 35):=⟨_,rfl⟩;have hWg:Grew w W:=by rw [hW];exact gw0
 have hWs:W.heap.size=w.heap.size+2:=by rw [hW];simp
 have hr0:W.cell? ⟨w.heap.size,0,none⟩=some (.int .i64 0)∧W.cell? ⟨w.heap.size,1,none⟩=some (.slice none 0 0)∧W.frozen? ⟨w.heap.size,0,none⟩=false∧W.frozen? ⟨w.heap.size,1,none⟩=false:=by rw [hW];simp [go_sem]
 have hM0:MatIn W W (w.heap.size+1) n []:=by
  exact k60_
 rw [← hW];clear hW;have HWs:=hid hWs;clear hWs;go_loopw [14] (fun v wr=>∃ (i:Nat) (l:List Num),i≤n∧v=.int .i64 i∧Hid (seqR ((gridR n F).take (i*n))=(l,0))∧MatIn W wr (w.heap.size+1) n l) (fun v _=>n - (intOf v).toNat)
 case atStart=>exact ⟨0,[],Nat.zero_le _,rfl,hid (by simp [seqR]),hM0⟩
 case round =>
  obtain ⟨i,l,hin,rfl,hs,hM⟩:=hrel;by_cases hlt:i<n
  · go_wp2_with fail
    go_loopw [18] (fun v wr=>∃ (k:Nat) (l:List Num),k≤n∧v=.int .i64 k∧Hid (seqR ((gridR n F).take (i*n+k))=(l,0))∧MatIn W wr (w.heap.size+1) n l) (fun v _=>n - (intOf v).toNat)
    case atStart=>exact ⟨0,l,Nat.zero_le _,rfl,hs,hM⟩
    case round =>
     obtain ⟨k,l,hkn,rfl,hs,hM⟩:=hrel;by_cases hlk:k<n
     · obtain ⟨a0,k0,hv,ho,c0,c1,f0,f1⟩:=hM.cells
       have hWw:=hM.1.size;have hWs:=HWs.out;have hb:w.heap.size+1<wr.heap.size:=by omega
       have hr:w.heap.size<wr.heap.size:=by omega
       have hb1:=fun m0:Nat=>Nat.lt_add_right m0 (hb)
       have hb2:=fun m0 m1:Nat=>Nat.lt_add_right m1 (hb1 m0)
       have hb3:=fun m0 m1 m2:Nat=>Nat.lt_add_right m2 (hb2 m0 m1)
       have hr1:=fun m0:Nat=>Nat.lt_add_right m0 (hr)
       have hr2:=fun m0 m1:Nat=>Nat.lt_add_right m1 (hr1 m0)
       have hr3:=fun m0 m1 m2:Nat=>Nat.lt_add_right m2 (hr2 m0 m1)
       have HG:=hid (hM.1.toGrew hWg (by omega));have HR0:Hid (wr.cell? ⟨w.heap.size,0,none⟩=some (.int .i64 0)∧wr.cell? ⟨w.heap.size,1,none⟩=some (.slice none 0 0)∧wr.frozen? ⟨w.heap.size,0,none⟩=false∧wr.frozen? ⟨w.heap.size,1,none⟩=false):=hid (by
        have hbl:=hM.1.block (k:=w.heap.size) (by omega) (by omega)
        simpa [World.cell?,World.frozen?,hbl] using hr0)
       have HM:=hid hM;have HO:=hid ho;have HV:=hid hv;clear hM ho hv hr0 hWs;go_wp2_with fail
       refine (HF.out i k _ hlt hlk HG.out).mono ?_;rintro e w' ⟨rfl,g,n',rfl⟩;obtain ⟨R,hR⟩:∃ R,F i k=R:=⟨_,rfl⟩;rw [hR];have HR:=hid hR;clear hR;by_cases hRe:R.e=0
       · have HRe:=hid hRe
         rw [hRe];have HO':=hid fun w2 (h:Grew wr w2)=>(HO.out.grew h:w2.ownsRow _ _ _ _ _ _)
         clear hRe;have hlen:l.length≤36:=by rw [seqR_len hs.out (by rw [gridR_length];exact Nat.le_of_lt (grid_lt hlt hlk))];have:=grid_lt hlt hlk;have:=Nat.mul_le_mul hn hn;omega
         go_wp2_with (at_builtin;refine wpList_append_behind rfl _ _ 23 rfl W.heap.size 67 i0 (.agg #[.int .i64 0,.int .i64 0,.int .i64 0,.int .i64 0,.int .i64 0]) 5 40 Tryz.underlying23 hi hz0 hz1 hz2 rfl (by decide) _ _ (numsCells l) rfl (HO'.out _ gw0) ⟨wr.heap.size+g.length+1,0,none⟩ 1 1 (numCells ⟨R.x,R.k⟩) rfl rfl ?c1 (fun u hu=>numCells_one hu) ?c3 ?c4 ?c5 ?_)
         case c1=>exact numCells_in (z:=⟨R.x,R.k⟩) (by simp [go_sem]) (by simp [go_sem]) (by simp [go_sem]) (by simp [go_sem]) (by simp [go_sem])
         case c3=>unfold maxLen;omega
         case c4=>omega
         case c5=>exact Nat.le_trans hWw (Grew.size (w:=_) gw0)
         · intro v' w1 hown' hgrow hwh hdr
           obtain ⟨a1,k1,rfl⟩:=ownsRow_slice hown';obtain ⟨d1,d2,d3,hM'⟩:=HM.out.appended (z:=⟨R.x,R.k⟩) HV.out HO.out (show Grew wr _ from gw0) hgrow hdr hown';have HM':=hid hM';clear hgrow hown' hwh hdr HO' hM' hb hr hb1 hb2 hb3 hr1 hr2 hr3 c0 c1 f0 f1 HR0 HG;go_wp2_with fail
           go_roundw
           case rel=>exact ⟨k+1,l++[⟨R.x,R.k⟩],by omega,by go_num,hid (seqR_step hs.out (by rw [gridR_at F hlt hlk,HR.out]) HRe.out),HM'.out⟩
           case measure=>simp [intOf];omega
       · have HRe:=hid hRe
         exact k24_
     · obtain rfl:k=n:=by omega
       go_wp2_with fail
       go_roundw
       case rel=>exact ⟨i+1,l,by omega,by go_num,hid (by rw [Nat.add_mul,Nat.one_mul];exact hs.out),hM⟩
       case measure=>simp [intOf];omega
  · obtain rfl:i=n:=by omega
    exact k51_
open Go Go.RowKit Amp Msh
set_option maxRecDepth 100000 in
set_option maxHeartbeats 800000 in
theorem made_id (n:Nat) (F:Nat→Nat→Res) (w:World) (hn:n≤6)
  (HF:∀ (i k:Nat) (w':World),i<n→k<n→Grew w w'→Calls Tryz.prog 104 #[.int .i64 i,.int .i64 k] w' fun e w''=>e=.returned (.tuple #[.agg #[.int .i64 (F i k).x.a,.int .i64 (F i k).x.b,.int .i64 (F i k).x.c,.int .i64 (F i k).x.d,.int .i64 (F i k).k],.int .i64 (F i k).e])∧Grew w' w'') :
  Calls Tryz.prog 73 #[.int .i64 n,.func (.func 104) #[] #[]] w (MadeP n (matR n F) w):=by
 have HF:=hid HF;obtain ⟨i0,hi,hz0,hz1,hz2⟩:=info_parts info_num;go_enter Tryz.func73,Tryz.ntmps73
 go_wp2_with fail
 obtain ⟨W,hW⟩:∃ W,W=(w.alloc (.cells #[.int .i64 0,.slice none 0 0] 35)).alloc (.cells #[.int .i64 n,.slice none 0 0] 35):=⟨_,rfl⟩;have hWg:Grew w W:=by rw [hW];exact gw0
 have hWs:W.heap.size=w.heap.size+2:=by rw [hW];simp
 have hr0:W.cell? ⟨w.heap.size,0,none⟩=some (.int .i64 0)∧W.cell? ⟨w.heap.size,1,none⟩=some (.slice none 0 0)∧W.frozen? ⟨w.heap.size,0,none⟩=false∧W.frozen? ⟨w.heap.size,1,none⟩=false:=by rw [hW];simp [go_sem]
 have hM0:MatIn W W (w.heap.size+1) n []:=by
  exact k60_
 rw [← hW];clear hW;have HWs:=hid hWs;clear hWs;go_loopw [14] (fun v wr=>∃ (i:Nat) (l:List Num),i≤n∧v=.int .i64 i∧Hid (seqR ((gridR n F).take (i*n))=(l,0))∧MatIn W wr (w.heap.size+1) n l) (fun v _=>n - (intOf v).toNat)
 case atStart=>exact ⟨0,[],Nat.zero_le _,rfl,hid (by simp [seqR]),hM0⟩
 case round =>
  obtain ⟨i,l,hin,rfl,hs,hM⟩:=hrel;by_cases hlt:i<n
  · go_wp2_with fail
    go_loopw [18] (fun v wr=>∃ (k:Nat) (l:List Num),k≤n∧v=.int .i64 k∧Hid (seqR ((gridR n F).take (i*n+k))=(l,0))∧MatIn W wr (w.heap.size+1) n l) (fun v _=>n - (intOf v).toNat)
    case atStart=>exact ⟨0,l,Nat.zero_le _,rfl,hs,hM⟩
    case round =>
     obtain ⟨k,l,hkn,rfl,hs,hM⟩:=hrel;by_cases hlk:k<n
     · obtain ⟨a0,k0,hv,ho,c0,c1,f0,f1⟩:=hM.cells
       have hWw:=hM.1.size;have hWs:=HWs.out;have hb:w.heap.size+1<wr.heap.size:=by omega
       have hr:w.heap.size<wr.heap.size:=by omega
       have hb1:=fun m0:Nat=>Nat.lt_add_right m0 (hb)
       have hb2:=fun m0 m1:Nat=>Nat.lt_add_right m1 (hb1 m0)
       have hb3:=fun m0 m1 m2:Nat=>Nat.lt_add_right m2 (hb2 m0 m1)
       have hr1:=fun m0:Nat=>Nat.lt_add_right m0 (hr)
       have hr2:=fun m0 m1:Nat=>Nat.lt_add_right m1 (hr1 m0)
       have hr3:=fun m0 m1 m2:Nat=>Nat.lt_add_right m2 (hr2 m0 m1)
       have HG:=hid (hM.1.toGrew hWg (by omega));have HR0:Hid (wr.cell? ⟨w.heap.size,0,none⟩=some (.int .i64 0)∧wr.cell? ⟨w.heap.size,1,none⟩=some (.slice none 0 0)∧wr.frozen? ⟨w.heap.size,0,none⟩=false∧wr.frozen? ⟨w.heap.size,1,none⟩=false):=hid (by
        have hbl:=hM.1.block (k:=w.heap.size) (by omega) (by omega)
        simpa [World.cell?,World.frozen?,hbl] using hr0)
       have HM:=hid hM;have HO:=hid ho;have HV:=hid hv;clear hM ho hv hr0 hWs;go_wp2_with fail
       refine (HF.out i k _ hlt hlk HG.out).mono ?_;rintro e w' ⟨rfl,g,n',rfl⟩;obtain ⟨R,hR⟩:∃ R,F i k=R:=⟨_,rfl⟩;rw [hR];have HR:=hid hR;clear hR;by_cases hRe:R.e=0
       · have HRe:=hid hRe
         rw [hRe];have HO':=hid fun w2 (h:Grew wr w2)=>(HO.out.grew h:w2.ownsRow _ _ _ _ _ _)
         clear hRe;have hlen:l.length≤36:=by rw [seqR_len hs.out (by rw [gridR_length];exact Nat.le_of_lt (grid_lt hlt hlk))];have:=grid_lt hlt hlk;have:=Nat.mul_le_mul hn hn;omega
         go_wp2_with (at_builtin;refine wpList_append_behind rfl _ _ 23 rfl W.heap.size 67 i0 (.agg #[.int .i64 0,.int .i64 0,.int .i64 0,.int .i64 0,.int .i64 0]) 5 40 Tryz.underlying23 hi hz0 hz1 hz2 rfl (by decide) _ _ (numsCells l) rfl (HO'.out _ gw0) ⟨wr.heap.size+g.length+1,0,none⟩ 1 1 (numCells ⟨R.x,R.k⟩) rfl rfl ?c1 (fun u hu=>numCells_one hu) ?c3 ?c4 ?c5 ?_)
         case c1=>exact numCells_in (z:=⟨R.x,R.k⟩) (by simp [go_sem]) (by simp [go_sem]) (by simp [go_sem]) (by simp [go_sem]) (by simp [go_sem])
         case c3=>unfold maxLen;omega
         case c4=>omega
         case c5=>exact Nat.le_trans hWw (Grew.size (w:=_) gw0)
         · intro v' w1 hown' hgrow hwh hdr
           obtain ⟨a1,k1,rfl⟩:=ownsRow_slice hown';obtain ⟨d1,d2,d3,hM'⟩:=HM.out.appended (z:=⟨R.x,R.k⟩) HV.out HO.out (show Grew wr _ from gw0) hgrow hdr hown';have HM':=hid hM';clear hgrow hown' hwh hdr HO' hM' hb hr hb1 hb2 hb3 hr1 hr2 hr3 c0 c1 f0 f1 HR0 HG;go_wp2_with fail
           go_roundw
           case rel=>exact ⟨k+1,l++[⟨R.x,R.k⟩],by omega,by go_num,hid (seqR_step hs.out (by rw [gridR_at F hlt hlk,HR.out]) HRe.out),HM'.out⟩
           case measure=>simp [intOf];omega
       · have HRe:=hid hRe
         exact k24_
     · obtain rfl:k=n:=by omega
       go_wp2_with fail
       go_roundw
       case rel=>exact ⟨i+1,l,by omega,by go_num,hid (by rw [Nat.add_mul,Nat.one_mul];exact hs.out),hM⟩
       case measure=>simp [intOf];omega
  · obtain rfl:i=n:=by omega
    exact k51_
theorem idRes (n:Nat):matR n (fun i k=>if i=k then ⟨⟨1,0,0,0⟩,0,0⟩ else ⟨⟨0,0,0,0⟩,0,0⟩)=(idN n,0):=by
 unfold matR;rw [seqR_ok]
 · unfold idN gridR
   rw [List.map_map]
   congr 1
   apply List.map_congr_left;intro q _;simp only [Function.comp];split <;> rfl
 · intro r hr
   unfold gridR at hr;obtain ⟨q,_,rfl⟩:=List.mem_map.1 hr;dsimp only;split <;> rfl
theorem made_idN (n:Nat) (w:World) (hn:n≤6) :
  Calls Tryz.prog 73 #[.int .i64 n,.func (.func 104) #[] #[]] w (MadeP n (idN n,0) w):=by
 rw [← idRes];refine made_id n _ w hn fun i k w' _ _ _=>?_
 have h:=idP_any i k w';by_cases hik:i=k
 · rw [if_pos (by omega)] at h
   simp only [if_pos hik];exact h
 · rw [if_neg (by omega)] at h
   simp only [if_neg hik];exact h
set_option maxHeartbeats 800000 in
theorem aIdentity_any (n:Nat) (w:World) (n1:1≤n) (n2:n≤6) :
  Calls Tryz.prog 50 #[.int .i64 n] w (MadeP n (idN n,0) w):=by
 have HI:=hid fun w=>made_idN n w n2
 go_enter Tryz.func50,Tryz.ntmps50
 go_wp2_with fail
 refine (HI.out _).mono ?_;rintro e w' ⟨⟨a0,k0,rfl,ho⟩,g,n',rfl⟩;have HO:=hid ho;clear ho;dsimp only [rowsOf];obtain ⟨l,hl⟩:∃ l,idN n=l:=⟨_,rfl⟩;rw [hl] at HO ⊢;have HL:=hid hl;clear hl;go_wp2_with fail
 exact bodyPost_ret (v:=.tuple #[.agg #[.int .i64 n,.slice a0 l.length k0],.int .i64 0]) (by simp [results,Tryz.results50,go_sem]) rfl (MadeP.good (by rw [HL.out]) ((HO.out.al (by (try simp only [go_sem]);(try simp only [List.append_assoc]);repeat (first | exact Al.refl _ _ | refine Al.drewN ?_ _ | refine Al.grow ?_ _ | refine Al.alloc ?_ _ | refine Al.other ?_ _ _ (by simp [go_sem] <;> omega) | refine Al.set ?_ _ _ _ (by simp [go_sem] <;> omega)))).mono' (by simp)) (by repeat (first | exact Grew.refl _ | refine Grew.drewN ?_ _ | refine Grew.grow ?_ _ | refine Grew.alloc ?_ _ | refine Grew.drew ?_ | refine Grew.set ?_ (Nat.le_refl _) _ _ | refine Grew.set ?_ (by omega) _ _)))
set_option maxRecDepth 100000 in
set_option maxHeartbeats 800000 in
theorem aMulM_any (n:Nat) (a0 a1:Option Addr) (k0 k1:Nat) (la lb:List Num) (w:World) (n1:1≤n) (n2:n≤6) (hla:la.length=n*n) (hlb:lb.length=n*n) (h0:Nms w a0 la) (h1:Nms w a1 lb)
  (va:(∀ (i:Nat) (z:Num),la[i]? = some z→validB z.x z.k=true)) (vb:(∀ (i:Nat) (z:Num),lb[i]? = some z→validB z.x z.k=true)) :
  Calls Tryz.prog 52 #[.agg #[.int .i64 n,.slice a0 la.length k0],.agg #[.int .i64 n,.slice a1 lb.length k1]] w (MadeP n (mulM n la lb) w):=by
 have q:n*n≤36:=by have h:=Nat.mul_le_mul n2 n2;omega
 have i1:(1:Int)≤n:=by omega
 have i2:(n:Int)≤6:=by omega
 have la9:la.length≤9223372036854775807:=by omega
 have lb9:lb.length≤9223372036854775807:=by omega
 have laI:(la.length:Int)=(n:Int)*n:=by rw [hla];exact Int.natCast_mul n n
 have lbI:(lb.length:Int)=(n:Int)*n:=by rw [hlb];exact Int.natCast_mul n n
 have HVA:=hid fun w' (hg:Grew w w')=>mvalid_ok n i1 i2 a0 k0 la w' la9 (h0.grew hg) va laI
 have HVB:=hid fun w' (hg:Grew w w')=>mvalid_ok n i1 i2 a1 k1 lb w' lb9 (h1.grew hg) vb lbI
 have HM:=hid fun (pm px py:Nat) w' (hg:Grew w w') (bm:pm<w'.heap.size) (bx:px<w'.heap.size) (by_:py<w'.heap.size) hm hx0 hx1 hy0 hy1 =>
  made_mul pm px py n (fun i k=>rowN (prow la lb n i k)) w' n2 fun i k w'' hi hk hg'=>by
   have G:=hg.trans hg';exact mulK_any n i k pm px py a0 a1 k0 k1 la lb w'' (Nat.lt_of_lt_of_le bm hg'.size) (Nat.lt_of_lt_of_le bx hg'.size) (Nat.lt_of_lt_of_le by_ hg'.size) ((hg'.cell bm _).trans hm) ((hg'.cell bx _).trans hx0) ((hg'.cell bx _).trans hx1) ((hg'.cell by_ _).trans hy0) ((hg'.cell by_ _).trans hy1) hla hlb (h0.grew G) (h1.grew G) n2 hi hk
 clear h0 h1 va vb laI lbI la9 lb9 i1 i2 q hla hlb;go_enter Tryz.func52,Tryz.ntmps52
 go_wp2_with fail
 refine (HVA.out _ gw0).mono ?_;rintro e w' ⟨rfl,g,n',rfl⟩;go_wp2_with fail
 refine (HVB.out _ gw0).mono ?_;rintro e w' ⟨rfl,g',n'',rfl⟩;go_wp2_with fail
 go_region
 all_goals
  go_wp2_with fail
  refine (HM.out _ _ _ _ gw0 (by simp [go_sem] <;> omega) (by simp [go_sem] <;> omega) (by simp [go_sem] <;> omega) (by simp [go_sem]) (by simp [go_sem]) (by simp [go_sem]) (by simp [go_sem]) (by simp [go_sem])).mono ?_;rintro e w' ⟨⟨a2,k2,rfl,ho⟩,g3,n3,rfl⟩;have HO:=hid ho;clear ho;obtain ⟨⟨L,E⟩,hR⟩:∃ R,mulM n la lb=R:=⟨_,rfl⟩;rw [show matR n (fun i k=>rowN (prow la lb n i k))=(L,E) from hR] at HO ⊢;have HR:=hid hR;clear hR;dsimp only at HO ⊢;obtain ⟨N,hN⟩:∃ N,rowsOf n E=N:=⟨_,rfl⟩;rw [hN];have HN:=hid hN;clear hN;go_wp2_with fail
  exact bodyPost_ret (v:=.tuple #[.agg #[.int .i64 N,.slice a2 L.length k2],.int .i64 E]) (by simp [results,Tryz.results52,go_sem]) rfl ⟨⟨a2,k2,by rw [HR.out,HN.out],by rw [HR.out];exact (HO.out.al (by (try simp only [go_sem]);(try simp only [List.append_assoc]);repeat (first | exact Al.refl _ _ | refine Al.drewN ?_ _ | refine Al.grow ?_ _ | refine Al.alloc ?_ _ | refine Al.other ?_ _ _ (by simp [go_sem] <;> omega) | refine Al.set ?_ _ _ _ (by simp [go_sem] <;> omega)))).mono' (by simp [go_sem] <;> omega)⟩,(by repeat (first | exact Grew.refl _ | refine Grew.drewN ?_ _ | refine Grew.grow ?_ _ | refine Grew.alloc ?_ _ | refine Grew.drew ?_ | refine Grew.set ?_ (Nat.le_refl _) _ _ | refine Grew.set ?_ (by omega) _ _))⟩
open Go Go.RowKit Amp Msh
def zCells (l:List Int):List Value:=l.map (Value.int .i64)
theorem zCells_length (l:List Int):(zCells l).length=l.length*1:=by simp [zCells]
theorem zCells_at {l:List Int} {i:Nat} {z:Int} (h:l[i]? = some z):(zCells l)[i]? = some (.int .i64 z):=by simp [zCells,h]
theorem zCells_one {l:List Int} {u:Value} (hu:u∈zCells l):u.oneCell'=true:=by
 unfold zCells at hu;obtain ⟨z,_,rfl⟩:=List.mem_map.1 hu;rfl
theorem info_z:(Tryz.prog.info? 3).map (fun i=>(i.zero,i.size,i.bytes))=some (some (.int .i64 0),1,8):=by kernel_rfl
def OwnZ (w:World) (base:Nat) (a0:Option Addr) (k0:Nat) (l:List Int):Prop:=w.ownsRow base 3 1 (.slice a0 l.length k0) l.length (zCells l)
theorem OwnZ.nil (w:World) (base:Nat):OwnZ w base none 0 []:=World.ownsRow_nil w base 3 1
theorem OwnZ.grew {w w':World} {base:Nat} {a0:Option Addr} {k0:Nat} {l:List Int} (h:OwnZ w base a0 k0 l) (g:Grew w w'):OwnZ w' base a0 k0 l:=World.ownsRow.grew h g
theorem OwnZ.set_low {w:World} {base b i:Nat} {u:Value} {a0:Option Addr} {k0:Nat} {l:List Int} (h:OwnZ w base a0 k0 l) (hb:b<base):OwnZ (w.setCell ⟨b,i,none⟩ u) base a0 k0 l:=ownsRow_setCell_low h hb i u
theorem OwnZ.put {w:World} {base g k0:Nat} {l:List Int} (h:OwnZ w base (some ⟨g,0,none⟩) k0 l) (i:Nat) (z:Int):OwnZ (w.setCell ⟨g,i,none⟩ (.int .i64 z)) base (some ⟨g,0,none⟩) k0 (l.set i z):=by
 have h1:=(World.ownsRow.stored h i (.int .i64 z)).1;unfold OwnZ;rw [List.length_set,show zCells (l.set i z)=(zCells l).set i (.int .i64 z) by simp [zCells,List.map_set]];exact h1
theorem OwnZ.at {w:World} {base g k0:Nat} {l:List Int} (h:OwnZ w base (some ⟨g,0,none⟩) k0 l) {i:Nat} {z:Int} (hz:l[i]? = some z):w.cell? ⟨g,i,none⟩=some (.int .i64 z)∧w.frozen? ⟨g,i,none⟩=false:=by
 have hi:i<l.length:=(List.getElem?_eq_some_iff.1 hz).1;refine ⟨?_,World.ownsRow.frozenAt h i⟩;rw [World.ownsRow.cellAt h i (by omega)];exact zCells_at hz
theorem OwnZ.lt {w:World} {base g k0:Nat} {l:List Int} (h:OwnZ w base (some ⟨g,0,none⟩) k0 l):g<w.heap.size:=by
 rcases h.2 with ⟨h',_⟩ | ⟨g',_,_,h',_,hg,_⟩
 · simp at h'
 · injection h' with e1;injection e1 with e1;injection e1 with e1;subst e1
   exact (Array.getElem?_eq_some_iff.1 hg).1
theorem OwnZ.zs {w:World} {base:Nat} {a0:Option Addr} {k0:Nat} {l:List Int} (h:OwnZ w base a0 k0 l):Ins w a0 l:=by
 rcases h.2 with ⟨h1,h2⟩ | ⟨g,cap,cur,h1,h2,h3,h4⟩
 · exact .inl (List.eq_nil_of_length_eq_zero h2)
 · injection h1 with e1 e2 e3
   subst e1;subst e3;refine .inr ⟨g,0,rfl,(Array.getElem?_eq_some_iff.1 h3).1,fun i z hz=>?_⟩;rw [Nat.zero_add];exact (OwnZ.at h hz).1
theorem OwnZ.here {w:World} {base:Nat} {a0:Option Addr} {k0:Nat} {l:List Int} (h:OwnZ w base a0 k0 l):l=[]∨∃ g,a0=some ⟨g,0,none⟩∧base≤g∧g<w.heap.size∧∀ i z,l[i]? = some z→w.cell? ⟨g,i,none⟩=some (.int .i64 z):=by
 rcases h.2 with ⟨h1,h2⟩ | ⟨g,cap,cur,h1,h2,h3,h4⟩
 · exact .inl (List.eq_nil_of_length_eq_zero h2)
 · injection h1 with e1 e2 e3
   subst e1;subst e3;exact .inr ⟨g,rfl,h2,(Array.getElem?_eq_some_iff.1 h3).1,fun i z hz=>(OwnZ.at h hz).1⟩
theorem OwnZ.by {w w':World} {base g k0:Nat} {l:List Int} {row:Option Nat} (h:OwnZ w base (some ⟨g,0,none⟩) k0 l) (hg:w.grownBy w' row) (hne:some g≠row):OwnZ w' base (some ⟨g,0,none⟩) k0 l:=World.ownsRow.kept h hg (.inr hne)
theorem wpList_append_z {w:World} {ops:Array Oper} {rest:List Oper} {o:Oper} {a:Act} {Q:Exit→Act→World→Prop} (hgd:o.guard=none) (s x:Operand)
  (ho:o.op=.call { callee:=.builtin .append,args:=#[s,x],argTypes:=#[55,55] })
  (base:Nat) (a0:Option Addr) (k0:Nat) (xs:List Int) (hs:a.eval s=.slice a0 xs.length k0) (hown:OwnZ w base a0 k0 xs)
  (b c:Nat) (z:Int) (hx:a.eval x=.slice (some ⟨b,0,none⟩) 1 c) (hz:w.cell? ⟨b,0,none⟩=some (.int .i64 z))
  (hmax:xs.length≤100000) (hbase:base≤w.heap.size)
  (h:∀ a2 k2 w',OwnZ w' base a2 k2 (xs++[z])→w.grownBy w' (Value.slice a0 xs.length k0).ownBlock→w.drawn≤w'.drawn→wpList Tryz.prog ops Q rest (a.put o.dst (.slice a2 (xs++[z]).length k2)) w') :
  wpList Tryz.prog ops Q (o::rest) a w:=by
 obtain ⟨i0,hi,hz0,hz1,hz2⟩:=info_parts info_z;refine wpList_append_behind hgd s x 55 ho base 3 i0 (.int .i64 0) 1 8 Tryz.underlying55 hi hz0 hz1 hz2 rfl (by decide) _ _ (zCells xs) hs hown ⟨b,0,none⟩ 1 c [.int .i64 z] hx rfl ?_ (fun u hu=>zCells_one (l:=[z]) hu) (by unfold maxLen;omega) (by omega) hbase fun v' w' hown' hgrow _ hdr=>?_
 · intro j u hj
   match j,hj with
   | 0,hj=>simp at hj;subst hj;simpa [Addr.add] using hz
 · obtain ⟨a2,k2,rfl⟩:=ownsRow_slice hown'
   rw [show xs.length+1=(xs++[z]).length by simp,show zCells xs++[.int .i64 z]=zCells (xs++[z]) by simp [zCells]] at hown';rw [show xs.length+1=(xs++[z]).length by simp];exact h a2 k2 w' hown' hgrow hdr
def ListZ (r:List Int × Int) (w:World) (e:Ending) (w':World):Prop:=(∃ (a2:Option Addr) (k2:Nat),e=.returned (.tuple #[.slice a2 r.1.length k2,.int .i64 r.2])∧OwnZ w' w.heap.size a2 k2 r.1)∧Grew w w'
open Go Go.RowKit Amp Msh
theorem made_zeros (n:Nat):(madeCells (Value.int .i64 0).cells (n*1)).toList=zCells (List.replicate n 0):=by
 apply List.ext_getElem
 · simp [zCells,madeCells]
 · intro i h1 h2
   simp [zCells,madeCells,Value.cells,Nat.mod_one]
theorem wpList_make_z {w:World} {ops:Array Oper} {rest:List Oper} {o:Oper} {a:Act} {Q:Exit→Act→World→Prop} (hgd:o.guard=none) (l c:Operand) (hop:o.op=Op.makeSlice 55 l c)
  (n:Nat) (L C:Int) (hl:a.eval l=.int .i64 L) (hc:a.eval c=.int .i64 C) (hL:L=n) (hC:C=n) (hn:n≤100000)
  (hK:∀ w',OwnZ w' w.heap.size (some ⟨w.heap.size,0,none⟩) n (List.replicate n 0)→Grew w w'→w.heap.size<w'.heap.size→wpList Tryz.prog ops Q rest (a.put o.dst (.slice (some ⟨w.heap.size,0,none⟩) n n)) w') :
  wpList Tryz.prog ops Q (o::rest) a w:=by
 obtain ⟨i0,hi,hz0,hz1,hz2⟩:=info_parts info_z;subst hL;subst hC;refine wpList_plain hgd fun K hK'=>?_
 have hr:=run_make (P:=Tryz.prog) w 55 3 i0 (.int .i64 0) Tryz.underlying55 hi hz0 .i64 .i64 n n (by omega) (Int.le_refl _) (by rw [hz2];omega) (by omega);rw [hz1,Int.toNat_natCast] at hr;unfold Oper.wp;simp [execOp,hop,hl,hc,hr,Result.andThen];refine hK' _ _ (hK _ ?_ ((Grew.refl w).alloc _) (by simp));unfold OwnZ;have h1:=World.ownsRow_lit (base:=w.heap.size) (e:=3) (size:=1) w (madeCells (Value.int .i64 0).cells (n*1)) n (Nat.le_refl _) (by unfold maxLen;omega) (size_madeCells _ _);rw [List.length_replicate,← made_zeros];simp only [Nat.mul_one] at h1 ⊢;exact h1
end Go.Proofs.YtchdmecjhaanfaaGreatDoor
