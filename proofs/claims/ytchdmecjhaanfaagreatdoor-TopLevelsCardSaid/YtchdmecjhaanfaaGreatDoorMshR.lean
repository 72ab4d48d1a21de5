import Derived.Test.YtchdmecjhaanfaaGreatDoorMshM
import Derived.Test.YtchdmecjhaanfaaGreatDoorAmpI
import Derived.Lib.LazyBuf
namespace Go.Proofs.YtchdmecjhaanfaaGreatDoor
open Go Go.RowKit Amp Msh
theorem _root_.k35_ {p:Prop} (h:p:=by
 go_simp;exact ⟨clsA hb50 hg (Grew.refl _),R4.upd_same _ _ _,.inl (Grew.refl _)⟩):p:=h
def LitN (B:Nat) (v:Value) (z:Num) (w:World):Prop:=∃ b:Nat,v=.slice (some ⟨b,0,none⟩) 1 1∧B≤b∧w.heap[b]? = some (.cells #[.int .i64 z.x.a,.int .i64 z.x.b,.int .i64 z.x.c,.int .i64 z.x.d,.int .i64 z.k] 67)
theorem LitN.grew {B:Nat} {v:Value} {z:Num} {w w':World} (h:LitN B v z w) (g:Grew w w'):LitN B v z w':=by
 obtain ⟨b,h1,h2,h3⟩:=h;exact ⟨b,h1,h2,(g.block b (Array.getElem?_eq_some_iff.1 h3).1).trans h3⟩
theorem LitN.fresh {B:Nat} {z:Num} {w:World} {b:Nat} (hb:b=w.heap.size) (hB:B≤w.heap.size):LitN B (.slice (some ⟨b,0,none⟩) 1 1) z (w.alloc (.cells #[.int .i64 z.x.a,.int .i64 z.x.b,.int .i64 z.x.c,.int .i64 z.x.d,.int .i64 z.k] 67)):=by
 subst hb;exact ⟨_,rfl,hB,blk_new rfl⟩
open Go Go.RowKit Amp Msh
open Go Go.RowKit Amp Msh
def prowV (la lv:List Num) (n i:Nat):List (Num × Num):=(List.range n).map fun j=>(la.getD (i*n+j) ⟨zero,0⟩,lv.getD j ⟨zero,0⟩)
theorem prowV_length (la lv:List Num) (n i:Nat):(prowV la lv n i).length=n:=by simp [prowV]
theorem prowV_at {la lv:List Num} {n i j:Nat} {x y:Num} (hj:j<n) (hx:la[i*n+j]? = some x) (hy:lv[j]? = some y):(prowV la lv n i)[j]? = some (x,y):=by
 simp [prowV,List.getElem?_range hj,List.getD,hx,hy]
open Go Amp Msh
def allVld (l:List Num):Bool:=l.all fun z=>validB z.x z.k
theorem allVld_step {l:List Num} {i:Nat} {z:Num} (h:l[i]? = some z) (hz:validB z.x z.k=true) (hp:allVld (l.take i)=true):allVld (l.take (i+1))=true:=by
 unfold allVld at *
 exact k66_
theorem allVld_cut {l:List Num} {i:Nat} {z:Num} (h:l[i]? = some z) (hz:validB z.x z.k=false):allVld l=false:=by
 unfold allVld;exact k71_
theorem allVld_iff {l:List Num} (h:allVld l=true):VldL l:=VldL.of fun z hz=>by
 unfold allVld at h;rw [List.all_eq_true] at h;exact h z hz
def appR (n:Nat) (la lv:List Num):List Res:=(List.range n).map fun i=>rowN (prowV la lv n i)
def appM (n:Nat) (la lv:List Num):List Num × Int:=seqR (appR n la lv)
theorem appR_length (n:Nat) (la lv:List Num):(appR n la lv).length=n:=by simp [appR]
theorem appR_at {n i:Nat} (la lv:List Num) (hi:i<n):(appR n la lv)[i]? = some (rowN (prowV la lv n i)):=by simp [appR,List.getElem?_range hi]
theorem appM_valid (n:Nat) (la lv:List Num):VldL (appM n la lv).1:=VldL.of fun z hz=>by
 by_cases h:(appM n la lv).2=0
 · have h1:=seqR_ok _ (seqR_zero _ h)
   unfold appM at hz;rw [h1] at hz;obtain ⟨r,hr,rfl⟩:=List.mem_map.1 hz;have h2:=seqR_zero _ h r hr;unfold appR at hr;obtain ⟨q,_,rfl⟩:=List.mem_map.1 hr;exact rowA_valid _ _ _ (by decide) h2
 · rw [show (appM n la lv).1=[] from seqR_err h] at hz
   cases hz
theorem appM_length {n:Nat} {la lv:List Num} (h:(appM n la lv).2=0):(appM n la lv).1.length=n:=by
 have h1:=seqR_ok _ (seqR_zero _ h);unfold appM;rw [h1,List.length_map,appR_length]
def litN (n:Nat):List It→List Num→List Num × Int
 | [],v=>(v,0)
 | x::t,v=>if (appM n (placeN n x.pos.toNat (ownW x.kind) (ownM x.kind x.n)) v).2=0 then litN n t (appM n (placeN n x.pos.toNat (ownW x.kind) (ownM x.kind x.n)) v).1 else ([],(appM n (placeN n x.pos.toNat (ownW x.kind) (ownM x.kind x.n)) v).2)
def isVec (v:List Num):Bool:=allVld v&&decide (1≤v.length∧v.length≤6)
def litOf (g:Int) (its:List It) (v:List Num):List Num × Int :=
 if chkIts g its=0 then (if isVec v=true then (if (v.length:Int)=g then litN g.toNat its v else ([],21)) else ([],20)) else ([],chkIts g its)
theorem litN_step {n:Nat} {L:List It} {i:Nat} {x:It} {v:List Num} {r:List Num × Int} (h:L[i]? = some x) (hr:appM n (placeN n x.pos.toNat (ownW x.kind) (ownM x.kind x.n)) v=r) (he:r.2=0):litN n (L.drop i) v=litN n (L.drop (i+1)) r.1:=by
 obtain ⟨hi,rfl⟩:=List.getElem?_eq_some_iff.1 h;rw [List.drop_eq_getElem_cons hi];simp only [litN];rw [hr,if_pos he]
theorem litN_stop {n:Nat} {L:List It} {i:Nat} {x:It} {v:List Num} {r:List Num × Int} (h:L[i]? = some x) (hr:appM n (placeN n x.pos.toNat (ownW x.kind) (ownM x.kind x.n)) v=r) (he:¬ r.2=0):litN n (L.drop i) v=([],r.2):=by
 obtain ⟨hi,rfl⟩:=List.getElem?_eq_some_iff.1 h;rw [List.drop_eq_getElem_cons hi];simp only [litN];rw [hr,if_neg he]
open Go Go.RowKit Amp Msh
open Go Go.RowKit Amp Msh
def NewMat (B:Nat) (v:Value) (w:World):Prop:=∃ (b:Nat) (x:Int) (a:Option Addr) (p q:Nat),v=.pointer (some ⟨b,0,none⟩)∧B≤b∧w.heap[b]? = some (.cells #[.int .i64 x,.slice a p q] 35)
theorem NewMat.grew {B:Nat} {v:Value} {w w':World} (h:NewMat B v w) (g:Grew w w'):NewMat B v w':=by
 obtain ⟨b,x,a,p,q,h1,h2,h3⟩:=h;exact ⟨b,x,a,p,q,h1,h2,(g.block b (Array.getElem?_eq_some_iff.1 h3).1).trans h3⟩
theorem NewMat.fresh {B:Nat} {w:World} {b:Nat} (hb:b=w.heap.size) (hB:B≤w.heap.size):NewMat B (.pointer (some ⟨b,0,none⟩)) (w.alloc (.cells #[.int .i64 0,.slice none 0 0] 35)):=by
 subst hb;exact ⟨_,0,none,0,0,rfl,hB,blk_new rfl⟩
theorem MatB.grew {b:Nat} {n:Int} {l:List Num} {w w':World} (h:MatB b n l w) (g:Grew w w'):MatB b n l w':=by
 obtain ⟨a,k,h1,h2⟩:=h;exact ⟨a,k,(g.block b (Array.getElem?_eq_some_iff.1 h1).1).trans h1,h2.grew g⟩
theorem NewMat.turned {B b:Nat} {v:Value} {w w':World} {x:Int} {a:Option Addr} {p q:Nat} (h:NewMat B v w) (ht:Turned w w' b) (hb:w'.heap[b]? = some (.cells #[.int .i64 x,.slice a p q] 35)):NewMat B v w':=by
 obtain ⟨c,x',a',p',q',h1,h2,h3⟩:=h;by_cases hc:c=b
 · subst hc;exact ⟨c,x,a,p,q,h1,h2,hb⟩
 · exact ⟨c,x',a',p',q',h1,h2,(ht.block (Array.getElem?_eq_some_iff.1 h3).1 hc).trans h3⟩
def HasMat (v:Value) (n:Int) (l:List Num) (w:World):Prop:=∃ b:Nat,v=.pointer (some ⟨b,0,none⟩)∧MatB b n l w
theorem HasMat.grew {v:Value} {n:Int} {l:List Num} {w w':World} (h:HasMat v n l w) (g:Grew w w'):HasMat v n l w':=by
 obtain ⟨b,h1,h2⟩:=h;exact ⟨b,h1,h2.grew g⟩
open Go Go.RowKit Amp Msh
set_option maxHeartbeats 800000 in
theorem litP_any (z:Num) (w:World) :
  Calls Tryz.prog 84 #[.agg #[.int .i64 z.x.a,.int .i64 z.x.b,.int .i64 z.x.c,.int .i64 z.x.d,.int .i64 z.k]] w fun e w'=>e=.returned (.bool (!validB z.x z.k))∧Grew w w':=by
 have HV:=hid fun w=>aValid_any z.x z.k w
 obtain ⟨b,hb⟩:∃ b,validB z.x z.k=b:=⟨_,rfl⟩;rw [hb] at HV ⊢;clear hb;go_enter Tryz.func84,Tryz.ntmps84
 go_wp2_with fail
 refine (HV.out _).mono ?_;exact k57_
set_option maxHeartbeats 800000 in
theorem idxL_any (a0:Option Addr) (k0:Nat) (l:List Num) (w:World) (hl:l.length≤9223372036854775807) (h0:Nms w a0 l) :
  Calls Tryz.prog 124 #[.slice a0 l.length k0,.func (.func 84) #[] #[]] w (IdxI (allVld l) w):=by
 have H0:=hid h0;clear h0;go_enter Tryz.func124,Tryz.ntmps124
 go_wp2_with fail
 go_loopw [8] (fun n wr=>∃ i:Nat,i≤l.length∧n=.int .i64 i∧Hid (allVld (l.take i)=true)∧Grew w wr) (fun n _=>l.length - (intOf n).toNat)
 case atStart=>exact ⟨0,Nat.zero_le _,rfl,rfl,Grew.refl _⟩
 case round =>
  obtain ⟨i,hi,rfl,hp,g,n,rfl⟩:=hrel;by_cases hlt:i<l.length
  · obtain ⟨z,hz⟩:∃ z,l[i]? = some z:=⟨l[i],List.getElem?_eq_getElem hlt⟩
    obtain ⟨b,off,rfl,hb,c0,c1,c2,c3,c4⟩:=H0.out.cells hz;have hb1:=fun m0:Nat=>Nat.lt_add_right m0 (hb)
    have hb2:=fun m0 m1:Nat=>Nat.lt_add_right m1 (hb1 m0)
    have hb3:=fun m0 m1 m2:Nat=>Nat.lt_add_right m2 (hb2 m0 m1)
    have Hz:=hid hz;clear hz;go_wp2_with fail
    refine (litP_any z _).mono ?_;rintro e w' ⟨rfl,g1,n1,rfl⟩;by_cases hv:validB z.x z.k=true
    · rw [hv]
      have Hv:=hid hv;clear hv;go_wp2_with fail
      go_roundw
      case rel=>exact ⟨i+1,by omega,by go_num,allVld_step Hz.out Hv.out hp.out,gw0⟩
      case measure=>simp [intOf];omega
    · have Hv:Hid (allVld l=false):=allVld_cut Hz.out (by simpa using hv)
      rw [show validB z.x z.k=false by simpa using hv];exact k47_
  · obtain rfl:i=l.length:=by omega
    have hp':Hid (allVld l=true):=by have:=hp.out;rw [List.take_length] at this;exact this
    exact k55_
set_option maxHeartbeats 800000 in
theorem hasL_any (a0:Option Addr) (k0:Nat) (l:List Num) (w:World) (hl:l.length≤9223372036854775807) (h0:Nms w a0 l) :
  Calls Tryz.prog 83 #[.slice a0 l.length k0,.func (.func 84) #[] #[]] w fun e w'=>e=.returned (.bool (!allVld l))∧Grew w w':=by
 have HI:=hid fun w' (hg:Grew w w')=>idxL_any a0 k0 l w' hl (h0.grew hg)
 clear h0;go_enter Tryz.func83,Tryz.ntmps83
 exact k30_
set_option maxHeartbeats 800000 in
theorem vector_ok (a0:Option Addr) (k0:Nat) (l:List Num) (w:World) (hl:l.length≤9223372036854775807) (h0:Nms w a0 l) (hv:VldL l) (n1:1≤l.length) (n2:l.length≤6) :
  Calls Tryz.prog 87 #[.slice a0 l.length k0] w fun e w'=>e=.returned (.bool true)∧Grew w w':=by
 have H:=hid fun w' (hg:Grew w w')=>numbers_ok a0 k0 l w' hl (h0.grew hg) hv
 have e1:(1:Int)≤l.length:=by omega
 have e2:(l.length:Int)≤6:=by omega
 clear h0 hv;go_enter Tryz.func87,Tryz.ntmps87
 go_wp2_with fail
 refine (H.out _ gw0).mono ?_;exact k29_
set_option maxHeartbeats 800000 in
theorem isVec_any (a0:Option Addr) (k0:Nat) (l:List Num) (w:World) (hl:l.length≤9223372036854775807) (h0:Nms w a0 l) :
  Calls Tryz.prog 38 #[.slice a0 l.length k0] w fun e w'=>e=.returned (.bool (isVec l))∧Grew w w':=by
 have H0:=hid h0;clear h0;go_enter Tryz.func38,Tryz.ntmps38
 go_wp2_with fail
 go_loopw [7] (fun n wr=>∃ i:Nat,i≤l.length∧n=.int .i64 i∧Hid (allVld (l.take i)=true)∧Grew w wr) (fun n _=>l.length - (intOf n).toNat)
 case atStart=>exact ⟨0,Nat.zero_le _,rfl,rfl,Grew.refl _⟩
 case round =>
  obtain ⟨i,hi,rfl,hp,g,n,rfl⟩:=hrel;by_cases hlt:i<l.length
  · obtain ⟨z,hz⟩:∃ z,l[i]? = some z:=⟨l[i],List.getElem?_eq_getElem hlt⟩
    obtain ⟨b,off,rfl,hb,c0,c1,c2,c3,c4⟩:=H0.out.cells hz;have hb1:=fun m0:Nat=>Nat.lt_add_right m0 (hb)
    have hb2:=fun m0 m1:Nat=>Nat.lt_add_right m1 (hb1 m0)
    have hb3:=fun m0 m1 m2:Nat=>Nat.lt_add_right m2 (hb2 m0 m1)
    have Hz:=hid hz;have HZ:=hid fun w=>rValid_any z.x z.k w
    clear hz;by_cases hv:validB z.x z.k=true
    · rw [hv] at HZ
      have Hv:=hid hv;clear hv;go_wp2_with fail
      refine (HZ.out _).mono ?_;rintro e w' ⟨rfl,g1,n1,rfl⟩;go_wp2_with fail
      go_roundw
      case rel=>exact ⟨i+1,by omega,by go_num,allVld_step Hz.out Hv.out hp.out,gw0⟩
      case measure=>simp [intOf];omega
    · have Hv:Hid (isVec l=false):=hid (by unfold isVec;rw [allVld_cut Hz.out (by simpa using hv)];rfl)
      rw [show validB z.x z.k=false by simpa using hv] at HZ;clear hv;go_wp2_with fail
      refine (HZ.out _).mono ?_;rintro e w' ⟨rfl,g1,n1,rfl⟩;go_wp2_with fail
      go_ret;exact ⟨by rw [Hv.out];rfl,gw0⟩
  · obtain rfl:i=l.length:=by omega
    have hp':allVld l=true:=by have:=hp.out;rw [List.take_length] at this;exact this
    have HO:Hid (isVec l=(decide ((1:Int)≤l.length)&&decide ((l.length:Int)≤6))):=hid (by
     unfold isVec;rw [hp',Bool.true_and,← Bool.decide_and];apply decide_eq_decide.2;omega)
    clear hp hp';by_cases d1:(1:Int)≤l.length
    · have e1:decide ((1:Int)≤l.length)=true:=decide_eq_true d1
      by_cases d2:(l.length:Int)≤6
      · have e2:decide ((l.length:Int)≤6)=true:=decide_eq_true d2
        rw [e1,e2] at HO;exact k31_
      · have e2:decide ((l.length:Int)≤6)=false:=decide_eq_false d2
        rw [e1,e2] at HO;exact k31_
    · have e1:decide ((1:Int)≤l.length)=false:=decide_eq_false d1
      rw [e1] at HO;exact k31_
open Go Go.RowKit Amp Msh
theorem run_eql_nums_nil (a:Addr) (n c:Nat) (w:World):(binOp .eql 23 (.slice (some a) n c) (.slice none 0 0)).run Tryz.prog w=.ok (.bool false) w:=run_eql_slice_nil w 23 67 (some a) n c Tryz.underlying23
attribute [go_sem high] run_eql_nums_nil
theorem nums_news {w:World} {b off:Nat} {l:List Num} (h:NumsAt w b off l):∀ j u,(numsCells l)[j]? = some u→w.cell? ((⟨b,off,none⟩:Addr).add j)=some u:=by
 intro j u hj;have hjl:j<(numsCells l).length:=(List.getElem?_eq_some_iff.1 hj).1;rw [numsCells_length] at hjl;have hi:j / 5<l.length:=by omega
 have hz:l[j / 5]? = some l[j / 5]:=List.getElem?_eq_getElem hi;obtain ⟨c0,c1,c2,c3,c4⟩:=h _ _ hz;have hc:j % 5<5:=Nat.mod_lt _ (by decide);have e:=numsCells_at l _ _ hz (j % 5) hc;rw [show j / 5*5+j % 5=j by omega,hj] at e;have ha:(⟨b,off,none⟩:Addr).add j=⟨b,off+j,none⟩:=by
  unfold Addr.add;by_cases h0:j=0
  · simp [h0]
  · simp [h0]
 rw [ha];rw [show off+j=off+j / 5*5+j % 5 by omega];match h5:j % 5,hc,e with
 | 0,_,e=>simp [numCells] at e;subst e;exact c0
 | 1,_,e=>simp [numCells] at e;subst e;exact c1
 | 2,_,e=>simp [numCells] at e;subst e;exact c2
 | 3,_,e=>simp [numCells] at e;subst e;exact c3
 | 4,_,e=>simp [numCells] at e;subst e;exact c4
theorem numsCells_one {l:List Num} {u:Value} (hu:u∈numsCells l):u.oneCell'=true:=by
 unfold numsCells at hu;obtain ⟨z,_,hz⟩:=List.mem_flatMap.1 hu;exact numCells_one hz
def ListN (l:List Num) (w:World) (e:Ending) (w':World):Prop:=(∃ (a2:Option Addr) (k2:Nat),e=.returned (.slice a2 l.length k2)∧Nms w' a2 l)∧Grew w w'
def ListE (r:List Num × Int) (w:World) (e:Ending) (w':World):Prop:=(∃ (a2:Option Addr) (k2:Nat),e=.returned (.tuple #[.slice a2 r.1.length k2,.int .i64 r.2])∧Nms w' a2 r.1)∧Grew w w'
set_option maxRecDepth 100000 in
set_option maxHeartbeats 800000 in
theorem clone_any (b off:Nat) (k0:Nat) (l:List Num) (w:World) (hl:l.length≤20) (hb:b<w.heap.size) (h0:NumsAt w b off l) :
  Calls Tryz.prog 86 #[.slice (some ⟨b,off,none⟩) l.length k0] w (ListN l w):=by
 obtain ⟨i0,hi,hz0,hz1,hz2⟩:=info_parts info_num;have HN:=hid h0;have hOwn:=hid fun (w:World)=>World.ownsRow_lit (base:=w.heap.size) (e:=67) (size:=5) w #[] 0 (Nat.le_refl _) (by decide) rfl
 clear h0;go_enter Tryz.func86,Tryz.ntmps86
 go_wp2_with (at_builtin;refine wpList_append_behind rfl _ _ 23 rfl w.heap.size 67 i0 (.agg #[.int .i64 0,.int .i64 0,.int .i64 0,.int .i64 0,.int .i64 0]) 5 40 Tryz.underlying23 hi hz0 hz1 hz2 rfl (by decide) _ _ [] rfl (hOwn.out w) ⟨b,off,none⟩ l.length k0 (numsCells l) rfl (numsCells_length l) ?c1 (fun u hu=>numsCells_one hu) ?c3 ?c4 ?c5 ?_)
 case c1 =>
  intro j u hj;have h:=nums_news HN.out j u hj;rw [show (⟨b,off,none⟩:Addr).add j=⟨b,off+j,none⟩ by unfold Addr.add;by_cases h0:j=0 <;> simp [h0]] at h;exact h
 case c3=>unfold maxLen;omega
 case c4=>omega
 · intro v' w1 hown' hgrow hwh hdr
   obtain ⟨a1,k1,rfl⟩:=ownsRow_slice hown';have hg:Grew w w1:=Grew.by (w':=w.alloc (.cells #[] 67)) gw0 hgrow hdr (fun jj hjj=>by simp [Value.ownBlock] at hjj;omega)
   have hn:Nms w1 a1 l:=OwnN.nms (base:=w.heap.size) (k0:=k1) (by simpa [OwnN] using hown');have HG:=hid hg;have HNN:=hid hn;clear hown' hgrow hwh hdr hg hn;try simp only [Nat.zero_add]
   go_wp2_with fail
   exact bodyPost_ret (v:=.slice a1 l.length k1) (by simp [results,Tryz.results86,go_sem]) rfl ⟨⟨a1,k1,rfl,HNN.out⟩,HG.out⟩
def ClsA (W0:World) (b:Nat) (o:Obj) (L:Nat→Prop) (W:World):Prop:=Turned W0 W b∧(¬ L 8→W.heap[b]? = some o)
theorem clsA {W0 W W':World} {b i:Nat} {L:Nat→Prop} {o:Obj} (hb:b<W0.heap.size) (hg:ClsA W0 b o L W) (gr:Grew W W'):ClsA W0 b o (fun j=>L j∨j=i) W' :=
 ⟨hg.1.grew gr,fun h=>(gr.block b (Nat.lt_of_lt_of_le hb hg.1.size)).trans (hg.2 fun h'=>h (.inl h'))⟩
theorem clsA8 {W0 W W':World} {b:Nat} {L:Nat→Prop} {o:Obj} (hg:ClsA W0 b o L W) (ht:Turned W W' b):ClsA W0 b o (fun j=>L j∨j=8) W' :=
 ⟨hg.1.trans ht,fun h=>absurd (.inr rfl) h⟩
set_option maxRecDepth 100000 in
set_option maxHeartbeats 2000000 in
theorem appF_any (n i j:Nat) (px pi pv:Nat) (a0 a1:Option Addr) (k0 k1:Nat) (la lv:List Num) (x y:Num) (w:World) (bx:px<w.heap.size) (bi:pi<w.heap.size) (bv:pv<w.heap.size)
  (hx0:w.cell? ⟨px,0,none⟩=some (.int .i64 n)) (hx1:w.cell? ⟨px,1,none⟩=some (.slice a0 la.length k0)) (hi:w.cell? ⟨pi,0,none⟩=some (.int .i64 i)) (hv0:w.cell? ⟨pv,0,none⟩=some (.slice a1 lv.length k1))
  (hla:la.length≤36) (_hlv:lv.length≤36) (h0:Nms w a0 la) (h1:Nms w a1 lv) (hin:i*n≤36) (hx:la[i*n+j]? = some x) (hy:lv[j]? = some y) :
  Calls Tryz.prog 89 #[.int .i64 j,.pointer (some ⟨px,0,none⟩),.pointer (some ⟨pi,0,none⟩),.pointer (some ⟨pv,0,none⟩)] w fun e w'=>e=.returned (.tuple #[.agg #[.int .i64 x.x.a,.int .i64 x.x.b,.int .i64 x.x.c,.int .i64 x.x.d,.int .i64 x.k],.agg #[.int .i64 y.x.a,.int .i64 y.x.b,.int .i64 y.x.c,.int .i64 y.x.d,.int .i64 y.k]])∧Grew w w':=by
 have c1:(i:Int)*n=((i*n:Nat):Int):=by simp
 have HX:=hid fun w' (hg:Grew w w')=>at_any n i j (i*n+j) x a0 k0 la w' hla (h0.grew hg) (by omega) (by omega) (by omega) hx
 obtain ⟨c,oc,rfl,hcc,d0,d1,d2,d3,d4⟩:=h1.cells hy;have hjl:(j:Int)<lv.length:=by have:=(List.getElem?_eq_some_iff.1 hy).1;omega
 clear h0 h1 hx hy c1;go_enter Tryz.func89,Tryz.ntmps89
 go_wp2_with fail
 obtain ⟨W0,hW0⟩:∃ W0,W0=(w.alloc (.cells #[.int .i64 0,.int .i64 0,.int .i64 0,.int .i64 0,.int .i64 0] 67)).alloc (.cells #[.int .i64 0,.int .i64 0,.int .i64 0,.int .i64 0,.int .i64 0] 67):=⟨_,rfl⟩;have hB5:W0.heap[w.heap.size]? = some (.cells #[.int .i64 0,.int .i64 0,.int .i64 0,.int .i64 0,.int .i64 0] 67):=by
  rw [hW0,blk_past (by simp)];exact blk_new rfl
 have hB6:W0.heap[w.heap.size+1]? = some (.cells #[.int .i64 0,.int .i64 0,.int .i64 0,.int .i64 0,.int .i64 0] 67):=by
  rw [hW0];exact blk_new (by simp)
 have hb50:w.heap.size<W0.heap.size:=by rw [hW0];simp <;> omega
 have hb60:w.heap.size+1<W0.heap.size:=by rw [hW0];simp <;> omega
 have HW0:Hid (Grew w W0):=hid (by rw [hW0];exact gw0);rw [← hW0];clear hW0;refine R4.wp_region_slotsC 9 (fun ix vs W=>match ix with | 0=>vs 0=.agg #[.int .i64 n,.slice a0 la.length k0] | 1=>vs 1=.int .i64 i | 2=>vs 2=.int .i64 j | 3=>vs 3=.agg #[.int .i64 x.x.a,.int .i64 x.x.b,.int .i64 x.x.c,.int .i64 x.x.d,.int .i64 x.k] | 4=>vs 4=.slice (some ⟨c,oc,none⟩) lv.length k1 | 5=>vs 5=.int .i64 j | 6=>vs 6=.pointer (some ⟨c,oc+j*5,none⟩) | 7=>vs 7=.agg #[.int .i64 y.x.a,.int .i64 y.x.b,.int .i64 y.x.c,.int .i64 y.x.d,.int .i64 y.k] | 8=>W.heap[w.heap.size]? = some (.cells #[.int .i64 x.x.a,.int .i64 x.x.b,.int .i64 x.x.c,.int .i64 x.x.d,.int .i64 x.k] 67) | _=>True) (fun L W=>ClsA W0 w.heap.size (.cells #[.int .i64 0,.int .i64 0,.int .i64 0,.int .i64 0,.int .i64 0] 67) L W) (by kernel_rfl) (by kernel_rfl) ?slst ?sldep ⟨(Turned.refl W0 w.heap.size).grew (Grew.refl _).drew,fun _=>hB5⟩ ?slop ?slq
 case slst =>
  intro ix vs W W' h hg;match ix,h with
  | 0,h=>exact h
  | 1,h=>exact h
  | 2,h=>exact h
  | 3,h=>exact h
  | 4,h=>exact h
  | 5,h=>exact h
  | 6,h=>exact h
  | 7,h=>exact h
  | 8,h=>exact (hg.block _ (Array.getElem?_eq_some_iff.1 h).1).trans h
  | _+9,_=>trivial
 case sldep =>
  intro ix o vs vs' W hix ho h hv hn;match ix,hix,ho,h,hv with
  | 0,_,_,h,hv=>exact Eq.trans hv h
  | 1,_,_,h,hv=>exact Eq.trans hv h
  | 2,_,_,h,hv=>exact Eq.trans hv h
  | 3,_,_,h,hv=>exact Eq.trans hv h
  | 4,_,_,h,hv=>exact Eq.trans hv h
  | 5,_,_,h,hv=>exact Eq.trans hv h
  | 6,_,_,h,hv=>exact Eq.trans hv h
  | 7,_,_,h,hv=>exact Eq.trans hv h
  | 8,_,ho,h,hv=>exact h
  | kx+9,hix,_,_,_=>exact absurd hix (by omega)
 case slop =>
  intro ix o hix ho vs W L hg hL hn hall hdown;match ix,hix,ho,hL with
  | 0, _, ho, _ =>
    obtain rfl:=Option.some.inj ho;change R4.Oper.slotAt _ _ { tmps:=_,defers:=_ } _ _;have hgw:=hg.1.toGrew HW0.out (Nat.le_refl _);have ca:=(hgw.cell (i:=0) bx).trans hx0;have cb:=(hgw.cell (i:=1) bx).trans hx1;exact k35_
  | 1, _, ho, _ =>
    obtain rfl:=Option.some.inj ho;change R4.Oper.slotAt _ _ { tmps:=_,defers:=_ } _ _;have hgw:=hg.1.toGrew HW0.out (Nat.le_refl _);have ca:=(hgw.cell (i:=0) bi).trans hi;exact k35_
  | 2, _, ho, _ =>
    obtain rfl:=Option.some.inj ho;change R4.Oper.slotAt _ _ { tmps:=_,defers:=_ } _ _;exact k35_
  | 3, _, ho, _ =>
    obtain rfl:=Option.some.inj ho;have hn0:=(hn 0 (by decide)).2;have hn1:=(hn 1 (by decide)).2;have hn2:=(hn 2 (by decide)).2;try dsimp only at hn0 hn1 hn2
    change R4.Oper.slotAt _ _ (Act.put (Act.put (Act.put _ (some 7) (vs 0)) (some 8) (vs 1)) (some 9) (vs 2)) _ _;conv=>arg 3;rw [hn0,hn1,hn2]
    clear hn0 hn1 hn2;have hgw:=hg.1.toGrew HW0.out (Nat.le_refl _);go_simp;refine (HX.out _ hgw).mono ?_;rintro e w' ⟨rfl,gr⟩;exact ⟨_,rfl,clsA hb50 hg gr,R4.upd_same _ _ _,.inl gr⟩
  | 4, _, ho, _ =>
    obtain rfl:=Option.some.inj ho;change R4.Oper.slotAt _ _ { tmps:=_,defers:=_ } _ _;have hgw:=hg.1.toGrew HW0.out (Nat.le_refl _);have ca:=(hgw.cell (i:=0) bv).trans hv0;exact k35_
  | 5, _, ho, _ =>
    obtain rfl:=Option.some.inj ho;change R4.Oper.slotAt _ _ { tmps:=_,defers:=_ } _ _;exact k35_
  | 6, _, ho, _ =>
    obtain rfl:=Option.some.inj ho;have hn4:=(hn 4 (by decide)).2;have hn5:=(hn 5 (by decide)).2;try dsimp only at hn4 hn5
    change R4.Oper.slotAt _ _ (Act.put (Act.put _ (some 11) (vs 4)) (some 12) (vs 5)) _ _;conv=>arg 3;rw [hn4,hn5]
    clear hn4 hn5;exact k35_
  | 7, _, ho, _ =>
    obtain rfl:=Option.some.inj ho;have hn6:=(hn 6 (by decide)).2;try dsimp only at hn6
    change R4.Oper.slotAt _ _ (Act.put _ (some 13) (vs 6)) _ _;conv=>arg 3;rw [hn6]
    clear hn6;have hgw:=hg.1.toGrew HW0.out (Nat.le_refl _);have q0:=(hgw.cell hcc _).trans d0;have q1:=(hgw.cell hcc _).trans d1;have q2:=(hgw.cell hcc _).trans d2;have q3:=(hgw.cell hcc _).trans d3;have q4:=(hgw.cell hcc _).trans d4;exact k35_
  | 8, _, ho, hL =>
    obtain rfl:=Option.some.inj ho;have hn3:=(hn 3 (by decide)).2;try dsimp only at hn3
    change R4.Oper.slotAt _ _ (Act.put _ (some 10) (vs 3)) _ _;conv=>arg 3;rw [hn3]
    clear hn3;have hq:=hg.2 hL;have cc:W.cell? ⟨w.heap.size,0,none⟩=some (.int .i64 0)∧W.cell? ⟨w.heap.size,1,none⟩=some (.int .i64 0)∧W.cell? ⟨w.heap.size,2,none⟩=some (.int .i64 0)∧W.cell? ⟨w.heap.size,3,none⟩=some (.int .i64 0)∧W.cell? ⟨w.heap.size,4,none⟩=some (.int .i64 0):=by simp [World.cell?,hq]
    have hf:∀ i,W.frozen? ⟨w.heap.size,i,none⟩=false:=fun i=>by simp [World.frozen?,hq]
    obtain ⟨q0,q1,q2,q3,q4⟩:=cc;have f0:=hf 0;have f1:=hf 1;have f2:=hf 2;have f3:=hf 3;have f4:=hf 4;go_simp;obtain ⟨s1,s2⟩:=R4.set5 hq (.int .i64 x.x.a) (.int .i64 x.x.b) (.int .i64 x.x.c) (.int .i64 x.x.d) (.int .i64 x.k);have ht:=(((((Turned.refl W w.heap.size).set 0 (.int .i64 x.x.a)).set 1 (.int .i64 x.x.b)).set 2 (.int .i64 x.x.c)).set 3 (.int .i64 x.x.d)).set 4 (.int .i64 x.k);exact ⟨clsA8 hg ht,s1,.inr fun jx hjx hLj=>by
     have hv:=hall jx hjx hLj;match jx,hjx,hv,hLj with
     | 0,_,hv,_=>exact hv
     | 1,_,hv,_=>exact hv
     | 2,_,hv,_=>exact hv
     | 3,_,hv,_=>exact hv
     | 4,_,hv,_=>exact hv
     | 5,_,hv,_=>exact hv
     | 6,_,hv,_=>exact hv
     | 7,_,hv,_=>exact hv
     | 8,_,hv,hLj=>exact absurd hLj hL
     | kx+9,hjx,_,_=>exact absurd hjx (by omega)⟩
  | kx+9,hix,_,_=>exact absurd hix (by omega)
 case slq =>
  intro vs W hC hn;have hn7:vs 7=.agg #[.int .i64 y.x.a,.int .i64 y.x.b,.int .i64 y.x.c,.int .i64 y.x.d,.int .i64 y.k]:=hn 7 (by decide) (by decide);have hn8:W.heap[w.heap.size]? = some (.cells #[.int .i64 x.x.a,.int .i64 x.x.b,.int .i64 x.x.c,.int .i64 x.x.d,.int .i64 x.k] 67):=hn 8 (by decide) (by decide);have hgw:Grew w W:=hC.1.toGrew HW0.out (Nat.le_refl _);have h6:W.heap[w.heap.size+1]? = some (.cells #[.int .i64 0,.int .i64 0,.int .i64 0,.int .i64 0,.int .i64 0] 67):=(hC.1.block hb60 (by omega)).trans hB6;have ee:W.cell? ⟨w.heap.size,0,none⟩=some (.int .i64 x.x.a)∧W.cell? ⟨w.heap.size,1,none⟩=some (.int .i64 x.x.b)∧W.cell? ⟨w.heap.size,2,none⟩=some (.int .i64 x.x.c)∧W.cell? ⟨w.heap.size,3,none⟩=some (.int .i64 x.x.d)∧W.cell? ⟨w.heap.size,4,none⟩=some (.int .i64 x.k):=by simp [World.cell?,hn8]
  have gg:W.cell? ⟨w.heap.size+1,0,none⟩=some (.int .i64 0)∧W.cell? ⟨w.heap.size+1,1,none⟩=some (.int .i64 0)∧W.cell? ⟨w.heap.size+1,2,none⟩=some (.int .i64 0)∧W.cell? ⟨w.heap.size+1,3,none⟩=some (.int .i64 0)∧W.cell? ⟨w.heap.size+1,4,none⟩=some (.int .i64 0):=by simp [World.cell?,h6]
  have hf:∀ i,W.frozen? ⟨w.heap.size+1,i,none⟩=false:=fun i=>by simp [World.frozen?,h6]
  obtain ⟨q0,q1,q2,q3,q4⟩:=ee;obtain ⟨r0,r1,r2,r3,r4⟩:=gg;have f0:=hf 0;have f1:=hf 1;have f2:=hf 2;have f3:=hf 3;have f4:=hf 4;have HG:=hid hgw;change wpList _ _ _ _ (Act.put (Act.put (Act.put (Act.put (Act.put (Act.put (Act.put (Act.put (Act.put _ (some 7) (vs 0)) (some 8) (vs 1)) (some 9) (vs 2)) (some 10) (vs 3)) (some 11) (vs 4)) (some 12) (vs 5)) (some 13) (vs 6)) (some 14) (vs 7)) none (vs 8)) _;simp only [Act.put,List.setIfInBounds_toArray,List.set_cons_zero,List.set_cons_succ,List.drop_succ_cons,List.drop_zero,hn7];clear hn hn7 hn8 h6 hgw hC hf hB5 hB6;go_wp2_with fail
  exact bodyPost_ret (v:=.tuple #[.agg #[.int .i64 x.x.a,.int .i64 x.x.b,.int .i64 x.x.c,.int .i64 x.x.d,.int .i64 x.k],.agg #[.int .i64 y.x.a,.int .i64 y.x.b,.int .i64 y.x.c,.int .i64 y.x.d,.int .i64 y.k]]) (by simp [results,Tryz.results89,go_sem,q0,q1,q2,q3,q4,r0,r1,r2,r3,r4]) rfl ⟨rfl,Grew.set (Grew.set (Grew.set (Grew.set (Grew.set HG.out (by omega) _ _) (by omega) _ _) (by omega) _ _) (by omega) _ _) (by omega) _ _⟩
end Go.Proofs.YtchdmecjhaanfaaGreatDoor
