import Derived.Test.YtchdmecjhaanfaaGreatDoorMshJ
import Derived.Test.YtchdmecjhaanfaaGreatDoorHouse
import Derived.Test.YtchdmecjhaanfaaGreatDoorAmpI
import Derived.Test.YtchdmecjhaanfaaGreatDoorMshPlain
namespace Go.Proofs.YtchdmecjhaanfaaGreatDoor
open Go Go.RowKit Amp Msh
theorem _root_.k78_ {p:Prop} (h:p:=by
 rw [HSTEP.out] at h1;rw [← hs0];exact h1.symm):p:=h
theorem _root_.k64_ {p:Prop} (h:p:=by
 rw [h4] at h2;exact .inr ⟨he,by rw [← hs0];exact h1,h2⟩):p:=h
theorem _root_.k63_ {p:Prop} (h:p:=by
 obtain ⟨a0,k0,h1,h2⟩:=h;exact ⟨a0,k0,h1,h2.grew g⟩):p:=h
theorem _root_.k3_ {p:Prop} (h:p:=by
 intro ix o hix ho vs W L hg hL hn hall hdown;match ix,hix,ho,hL with
 | 0, _, ho, _ =>
   obtain rfl:=Option.some.inj ho;change R4.Oper.slotAt _ _ { tmps:=_,defers:=_ } _ _;go_simp;exact ⟨clsG hb80 hg (Grew.refl _),by rw [R4.upd_same],.inl (Grew.refl _)⟩
 | 1, _, ho, _ =>
   obtain rfl:=Option.some.inj ho;change R4.Oper.slotAt _ _ { tmps:=_,defers:=_ } _ _;go_simp;exact ⟨clsG hb80 hg (Grew.refl _),by rw [R4.upd_same],.inl (Grew.refl _)⟩
 | 2, _, ho, _ =>
   obtain rfl:=Option.some.inj ho;have hn1:=(hn 1 (by decide)).2;try dsimp only at hn1
   change R4.Oper.slotAt _ _ (Act.put _ (some 42) (vs 1)) _ _;conv=>arg 3;rw [hn1]
   clear hn1;have hs0:=hg.1.size;have c:=(hg.1.cell (i:=1) (k:=wr.heap.size) (by omega) (by omega)).trans k1';go_simp;exact ⟨clsG hb80 hg (Grew.refl _),by rw [R4.upd_same],.inl (Grew.refl _)⟩
 | 3, _, ho, _ =>
   obtain rfl:=Option.some.inj ho;change R4.Oper.slotAt _ _ { tmps:=_,defers:=_ } _ _;have hs0:=hg.1.size;have ca:=(hg.1.cell (i:=0) (k:=wr.heap.size+1) (by omega) (by omega)).trans k2';have cb:=(hg.1.cell (i:=1) (k:=wr.heap.size+1) (by omega) (by omega)).trans k3';go_simp;exact ⟨clsG hb80 hg (Grew.refl _),by rw [R4.upd_same],.inl (Grew.refl _)⟩
 | 4, _, ho, _ =>
   obtain rfl:=Option.some.inj ho;have hn0:=(hn 0 (by decide)).2;have hn2:=(hn 2 (by decide)).2;have hn3:=(hn 3 (by decide)).2;try dsimp only at hn0 hn2 hn3
   change R4.Oper.slotAt _ _ (Act.put (Act.put (Act.put _ (some 41) (vs 0)) (some 43) (vs 2)) (some 44) (vs 3)) _ _;conv=>arg 3;rw [hn0,hn2,hn3]
   clear hn0 hn2 hn3;go_simp;refine (HP.out _ (hNm.turned hg.1 hB8)).mono ?_;rintro e w' ⟨⟨a2,k2,rfl,ho⟩,gr⟩;exact ⟨_,rfl,clsG hb80 hg gr,by rw [R4.upd_same];exact ⟨a2,k2,rfl,ho.nms⟩,.inl gr⟩
 | 5, _, ho, hL =>
   obtain rfl:=Option.some.inj ho;change R4.Oper.slotAt _ _ { tmps:=_,defers:=_ } _ _;have h10:¬ L 10:=fun h=>hL (R4.down_waits hdown 10 rfl h (by decide))
   have hq:=hg.2 h10;have ca:W.cell? ⟨b8,0,none⟩=some (.int .i64 n):=by simp [World.cell?,hq]
   have cb:W.cell? ⟨b8,1,none⟩=some (.slice ao l.length ko):=by simp [World.cell?,hq]
   go_simp;exact ⟨clsG hb80 hg (Grew.refl _),by rw [R4.upd_same],.inl (Grew.refl _)⟩
 | 6, _, ho, _ =>
   obtain rfl:=Option.some.inj ho;have hn4:=(hn 4 (by decide)).2;have hn5:=(hn 5 (by decide)).2;try dsimp only at hn4 hn5
   change R4.Oper.slotAt _ _ (Act.put (Act.put _ (some 45) (vs 4)) (some 46) (vs 5)) _ _;conv=>arg 3;rw [hn5]
   clear hn5;obtain ⟨a2,k2,e2,h2⟩:=hn4;conv=>arg 3;rw [e2]
   clear e2;go_simp;refine (HM.out _ _ _ h2 (hNo.turned hg.1 hB8)).mono ?_;rintro e w' ⟨⟨a3,k3,rfl,ho⟩,gr⟩;exact ⟨_,rfl,clsG hb80 hg gr,by rw [R4.upd_same];exact ⟨a3,k3,by rw [← hN],ho.nms⟩,.inl gr⟩
 | 7, _, ho, _ =>
   obtain rfl:=Option.some.inj ho;have hn6:=(hn 6 (by decide)).2;try dsimp only at hn6
   change R4.Oper.slotAt _ _ (Act.put _ (some 47) (vs 6)) _ _;obtain ⟨a2,k2,e2,h2⟩:=hn6;conv=>arg 3;rw [e2]
   clear e2;go_simp;exact ⟨clsG hb80 hg (Grew.refl _),by rw [R4.upd_same];exact ⟨a2,k2,rfl,h2⟩,.inl (Grew.refl _)⟩
 | 8, _, ho, _ =>
   obtain rfl:=Option.some.inj ho;have hn7:=(hn 7 (by decide)).2;try dsimp only at hn7
   change R4.Oper.slotAt _ _ (Act.put _ (some 40) (vs 7)) _ _;obtain ⟨a2,k2,e2,h2⟩:=hn7;conv=>arg 3;rw [e2]
   clear e2;go_simp;exact ⟨clsG hb80 hg (Grew.refl _),by rw [R4.upd_same];exact ⟨a2,k2,rfl,h2⟩,.inl (Grew.refl _)⟩
 | 9, _, ho, _ =>
   obtain rfl:=Option.some.inj ho;have hn7:=(hn 7 (by decide)).2;try dsimp only at hn7
   change R4.Oper.slotAt _ _ (Act.put _ (some 40) (vs 7)) _ _;obtain ⟨a2,k2,e2,h2⟩:=hn7;conv=>arg 3;rw [e2]
   clear e2;go_simp;exact ⟨clsG hb80 hg (Grew.refl _),by rw [R4.upd_same],.inl (Grew.refl _)⟩
 | 10, _, ho, hL =>
   obtain rfl:=Option.some.inj ho;have hn8:=(hn 8 (by decide)).2;try dsimp only at hn8
   change R4.Oper.slotAt _ _ (Act.put _ (some 48) (vs 8)) _ _;obtain ⟨a2,k2,e2,h2⟩:=hn8;conv=>arg 3;rw [e2]
   have E2:=hid e2;clear e2;have hq:=hg.2 hL;have ca:W.cell? ⟨b8,0,none⟩=some (.int .i64 n):=by simp [World.cell?,hq]
   have cb:W.cell? ⟨b8,1,none⟩=some (.slice ao l.length ko):=by simp [World.cell?,hq]
   have fa:W.frozen? ⟨b8,0,none⟩=false:=by simp [World.frozen?,hq]
   have fb:W.frozen? ⟨b8,1,none⟩=false:=by simp [World.frozen?,hq]
   go_simp;obtain ⟨s1,s2⟩:=R4.set2 hq (.int .i64 N) (.slice a2 rl.length k2);have ht:Turned W ((W.setCell ⟨b8,0,none⟩ (.int .i64 N)).setCell ⟨b8,1,none⟩ (.slice a2 rl.length k2)) b8:=((Turned.refl _ _).set _ _).set _ _;exact ⟨clsS hg ht,⟨a2,k2,s1,h2.turned ht hq⟩,.inr fun j hj hLj=>by
    have hv:=hall j hj hLj;match j,hj,hv,hLj with
    | 0,_,hv,_=>exact hv
    | 1,_,hv,_=>exact hv
    | 2,_,hv,_=>exact hv
    | 3,_,hv,_=>exact hv
    | 4,_,hv,_=>exact MatV.turned hv ht hq
    | 5,_,hv,_=>exact hv
    | 6,_,hv,_=>exact MatE.turned hv ht hq
    | 7,_,hv,_=>exact MatE.turned hv ht hq
    | 8,_,hv,_=>exact MatV.turned hv ht hq
    | 9,_,hv,_=>exact hv
    | 10,_,hv,hLj=>exact absurd hLj hL
    | k+11,hj,_,_=>exact absurd hj (by omega)⟩
 | kx+11,hix,_,_=>exact absurd hix (by omega)):p:=h
theorem _root_.k2_ {p:Prop} (h:p:=by
 intro ix o vs vs' W hix ho h hv hn;match ix,hix,ho,h,hv with
 | 0,_,_,h,hv=>exact Eq.trans hv h
 | 1,_,_,h,hv=>exact Eq.trans hv h
 | 2,_,_,h,hv=>exact Eq.trans hv h
 | 3,_,_,h,hv=>exact Eq.trans hv h
 | 4,_,_,h,hv=>show MatV (vs' 4) W n lp;rw [hv];exact h
 | 5,_,_,h,hv=>exact Eq.trans hv h
 | 6,_,_,h,hv=>show MatE (vs' 6) W N (rl,re);rw [hv];exact h
 | 7,_,_,h,hv=>show MatE (vs' 7) W N (rl,re);rw [hv];exact h
 | 8,_,_,h,hv=>show MatV (vs' 8) W N rl;rw [hv];exact h
 | 9,_,_,h,hv=>exact Eq.trans hv h
 | 10,_,ho,h,hv=>exact h
 | kx+11,hix,_,_,_=>exact absurd hix (by omega)):p:=h
theorem _root_.k1_ {p:Prop} (h:p:=by
 intro ix vs W W' h hg;match ix,h with
 | 0,h=>exact h
 | 1,h=>exact h
 | 2,h=>exact h
 | 3,h=>exact h
 | 4,h=>exact MatV.grew h hg
 | 5,h=>exact h
 | 6,h=>exact MatE.grew h hg
 | 7,h=>exact MatE.grew h hg
 | 8,h=>exact MatV.grew h hg
 | 9,h=>exact h
 | 10,h=>obtain ⟨a9,k9,h1,h2⟩:=h;exact ⟨a9,k9,(hg.block b8 (Array.getElem?_eq_some_iff.1 h1).1).trans h1,h2.grew hg⟩
 | _+11,_=>trivial):p:=h
theorem OwnN.lit {w:World} {base b:Nat} {cs:Array Value} {l:List Num} (hb:w.heap[b]? = some (.cells cs 67)) (hc:cs.toList=numsCells l) (hl:l.length≤maxLen) (hbase:base≤b):OwnN w base (some ⟨b,0,none⟩) l.length l:=by
 have hs:cs.size=l.length*5:=by rw [← numsCells_length,← hc];simp
 refine ⟨numsCells_length l,.inr ⟨b,l.length,cs,rfl,hbase,hb,Nat.le_refl _,hl,hs, ?_⟩⟩;rw [hc,List.take_of_length_le (by rw [numsCells_length];exact Nat.le_refl _)]
theorem blk_past {w:World} {o:Obj} {k:Nat} (h:k<w.heap.size):(w.alloc o).heap[k]? = w.heap[k]? := by
 show (w.heap.push o)[k]? = _
 rw [Array.getElem?_push,if_neg (by omega)]
def MatP (n:Nat) (l:List Num) (w:World) (e:Ending) (w':World):Prop:=(∃ (a0:Option Addr) (k0:Nat),e=.returned (.agg #[.int .i64 n,.slice a0 l.length k0])∧OwnN w' w.heap.size a0 k0 l)∧Grew w w'
theorem World.heap_drewN (w:World) (n:Nat):(w.drewN n).heap=w.heap:=rfl
set_option maxRecDepth 100000 in
set_option maxHeartbeats 800000 in
theorem own_cross (p n:Int) (s:ByteArray) (w:World) :
  Calls Tryz.prog 51 #[.agg #[.int .i64 3,.int .i64 p,.int .i64 n,.string s]] w (MatP 2 (ownM 3 n) w):=by
 go_enter Tryz.func51,Tryz.ntmps51
 go_wp2_with fail
 exact bodyPost_ret (v:=.agg #[.int .i64 2,.slice (some ⟨_,0,none⟩) 4 4]) (by simp [results,Tryz.results51,go_sem];rfl) rfl ⟨⟨_,_,rfl,OwnN.lit (by repeat (first | exact blk_new (by simp [go_sem] <;> omega) | rw [World.heap_drewN] | rw [World.grow_heap_lt _ _ _ (by simp [go_sem] <;> omega)] | rw [blk_past (by simp [go_sem] <;> omega)])) (by rfl) (by show _≤9223372036854775807;exact Nat.le_of_ble_eq_true rfl) (by first | omega | (simp [go_sem] <;> omega))⟩,(by repeat (first | exact Grew.refl _ | refine Grew.drewN ?_ _ | refine Grew.grow ?_ _ | refine Grew.alloc ?_ _ | refine Grew.drew ?_ | refine Grew.set ?_ (Nat.le_refl _) _ _ | refine Grew.set ?_ (by omega) _ _))⟩
set_option maxRecDepth 100000 in
set_option maxHeartbeats 800000 in
theorem own_couple (p n:Int) (s:ByteArray) (w:World) :
  Calls Tryz.prog 51 #[.agg #[.int .i64 2,.int .i64 p,.int .i64 n,.string s]] w (MatP 2 (ownM 2 n) w):=by
 go_enter Tryz.func51,Tryz.ntmps51
 go_wp2_with fail
 exact bodyPost_ret (v:=.agg #[.int .i64 2,.slice (some ⟨_,0,none⟩) 4 4]) (by simp [results,Tryz.results51,go_sem];rfl) rfl ⟨⟨_,_,rfl,OwnN.lit (by repeat (first | exact blk_new (by simp [go_sem] <;> omega) | rw [World.heap_drewN] | rw [World.grow_heap_lt _ _ _ (by simp [go_sem] <;> omega)] | rw [blk_past (by simp [go_sem] <;> omega)])) (by rfl) (by show _≤9223372036854775807;exact Nat.le_of_ble_eq_true rfl) (by first | omega | (simp [go_sem] <;> omega))⟩,(by repeat (first | exact Grew.refl _ | refine Grew.drewN ?_ _ | refine Grew.grow ?_ _ | refine Grew.alloc ?_ _ | refine Grew.drew ?_ | refine Grew.set ?_ (Nat.le_refl _) _ _ | refine Grew.set ?_ (by omega) _ _))⟩
set_option maxRecDepth 100000 in
set_option maxHeartbeats 800000 in
theorem own_phase (p n:Int) (s:ByteArray) (w:World) :
  Calls Tryz.prog 51 #[.agg #[.int .i64 1,.int .i64 p,.int .i64 n,.string s]] w (MatP 1 (ownM 1 n) w):=by
 have HT:=hid fun w=>aTurn_any ⟨1,0,0,0⟩ 0 n w
 have hv:validB ⟨1,0,0,0⟩ 0=true:=by decide
 rw [hv] at HT;simp only [changeR,if_true] at HT;obtain ⟨y,hy⟩:∃ y,turnC (n % 8).toNat ⟨1,0,0,0⟩=y:=⟨_,rfl⟩;rw [hy] at HT;have Hy:=hid hy;clear hy hv;go_enter Tryz.func51,Tryz.ntmps51
 go_wp2_with fail
 refine (HT.out _).mono ?_;rintro e w' ⟨rfl,g,n',rfl⟩;go_wp2_with fail
 rw [show ownM 1 n=[⟨y,0⟩] by unfold ownM;rw [if_pos rfl,Hy.out]];exact bodyPost_ret (v:=.agg #[.int .i64 1,.slice (some ⟨_,0,none⟩) 1 1]) (by simp [results,Tryz.results51,go_sem];rfl) rfl ⟨⟨_,_,rfl,OwnN.lit (by repeat (first | exact blk_new (by simp [go_sem] <;> omega) | rw [World.heap_drewN] | rw [World.grow_heap_lt _ _ _ (by simp [go_sem] <;> omega)] | rw [blk_past (by simp [go_sem] <;> omega)])) (by rfl) (by show _≤9223372036854775807;exact Nat.le_of_ble_eq_true rfl) (by first | omega | (simp [go_sem] <;> omega))⟩,(by repeat (first | exact Grew.refl _ | refine Grew.drewN ?_ _ | refine Grew.grow ?_ _ | refine Grew.alloc ?_ _ | refine Grew.drew ?_ | refine Grew.set ?_ (Nat.le_refl _) _ _ | refine Grew.set ?_ (by omega) _ _))⟩
theorem own_any (x:It) (w:World) (hw:wid x.kind x.n x.name≠0) :
  Calls Tryz.prog 51 #[.agg #[.int .i64 x.kind,.int .i64 x.pos,.int .i64 x.n,.string x.name]] w (MatP (ownW x.kind) (ownM x.kind x.n) w):=by
 obtain ⟨kind,p,n,s⟩:=x;dsimp only at *
 unfold wid at hw;split at hw
 case isFalse=>exact absurd rfl hw
 split at hw
 case isTrue h=>obtain ⟨rfl,_⟩:=h;exact own_phase p n s w
 split at hw
 case isFalse=>exact absurd rfl hw
 case isTrue h =>
  obtain ⟨rfl | rfl,_⟩:=h
  · exact own_couple p n s w
  · exact own_cross p n s w
open Go Go.RowKit Amp Msh
open Go Go.RowKit Amp Msh
theorem numsCells_set:∀ (l:List Num) (i:Nat) (z:Num),i<l.length→numsCells (l.set i z)=(((((numsCells l).set (i*5) (.int .i64 z.x.a)).set (i*5+1) (.int .i64 z.x.b)).set (i*5+2) (.int .i64 z.x.c)).set (i*5+3) (.int .i64 z.x.d)).set (i*5+4) (.int .i64 z.k)
 | [],i,z,h=>by simp at h
 | y::t,0,z,_=>by simp [numsCells,numCells]
 | y :: t, i + 1, z, h => by
   have ih:=numsCells_set t i z (by simpa using h);simp only [numsCells,List.set_cons_succ,List.flatMap_cons] at *
   rw [ih];have e:∀ c,(i+1)*5+c=(numCells y).length+(i*5+c):=fun c=>by simp [numCells];omega
   have e0:(i+1)*5=(numCells y).length+i*5:=by simp [numCells];omega
   rw [e 1,e 2,e 3,e 4,e0];simp only [List.set_append_right _ _ (Nat.le_add_right _ _),Nat.add_sub_cancel_left]
theorem OwnN.put {w:World} {base g k0:Nat} {l:List Num} (h:OwnN w base (some ⟨g,0,none⟩) k0 l) (i:Nat) (z:Num) (hi:i<l.length) :
  OwnN (((((w.setCell ⟨g,i*5,none⟩ (.int .i64 z.x.a)).setCell ⟨g,i*5+1,none⟩ (.int .i64 z.x.b)).setCell ⟨g,i*5+2,none⟩ (.int .i64 z.x.c)).setCell ⟨g,i*5+3,none⟩ (.int .i64 z.x.d)).setCell ⟨g,i*5+4,none⟩ (.int .i64 z.k)) base (some ⟨g,0,none⟩) k0 (l.set i z):=by
 have h1:=(World.ownsRow.stored h (i*5) (.int .i64 z.x.a)).1;have h2:=(World.ownsRow.stored h1 (i*5+1) (.int .i64 z.x.b)).1;have h3:=(World.ownsRow.stored h2 (i*5+2) (.int .i64 z.x.c)).1;have h4:=(World.ownsRow.stored h3 (i*5+3) (.int .i64 z.x.d)).1;have h5:=(World.ownsRow.stored h4 (i*5+4) (.int .i64 z.k)).1;unfold OwnN;rw [numsCells_set l i z hi,List.length_set];exact h5
theorem OwnN.at {w:World} {base g k0:Nat} {l:List Num} (h:OwnN w base (some ⟨g,0,none⟩) k0 l) {i:Nat} (hi:i<l.length) :
  ∃ z:Num,w.cell? ⟨g,i*5,none⟩=some (.int .i64 z.x.a)∧w.cell? ⟨g,i*5+1,none⟩=some (.int .i64 z.x.b)∧w.cell? ⟨g,i*5+2,none⟩=some (.int .i64 z.x.c)∧w.cell? ⟨g,i*5+3,none⟩=some (.int .i64 z.x.d)∧w.cell? ⟨g,i*5+4,none⟩=some (.int .i64 z.k)∧(∀ j,w.frozen? ⟨g,j,none⟩=false)∧g<w.heap.size∧base≤g:=by
 have hz:l[i]? = some l[i]:=List.getElem?_eq_getElem hi;have key:∀ j,j<5→w.cell? ⟨g,i*5+j,none⟩=(numCells l[i])[j]? := fun j hj=>by
  rw [World.ownsRow.cellAt h (i*5+j) (by omega)];exact numsCells_at l i _ hz j hj
 refine ⟨l[i],key 0 (by decide),key 1 (by decide),key 2 (by decide),key 3 (by decide),key 4 (by decide),fun j=>World.ownsRow.frozenAt h j, ?_, ?_⟩
 · rcases h.2 with ⟨h',_⟩ | ⟨g',_,_,h',_,hg,_⟩
   · simp at h'
   · injection h' with e1;injection e1 with e1;injection e1 with e1;subst e1
     exact (Array.getElem?_eq_some_iff.1 hg).1
 · exact ownsRow_above h g rfl
theorem OwnN.here {w:World} {base k0:Nat} {a0:Option Addr} {l:List Num} (h:OwnN w base a0 k0 l) (hl:0<l.length):∃ g,a0=some ⟨g,0,none⟩:=by
 rcases h.2 with ⟨_,h'⟩ | ⟨g,cap,cur,h',_⟩
 · omega
 · injection h' with e1
   exact ⟨g,e1⟩
set_option maxRecDepth 100000 in
set_option maxHeartbeats 4000000 in
theorem place_any (n p m:Nat) (am:Option Addr) (km:Nat) (lm:List Num) (w:World) (n1:1≤n) (n2:n≤6) (m1:1≤m) (p1:1≤p) (hp:p+m≤n+1) (hlm:lm.length=m*m) (h0:Nms w am lm) :
  Calls Tryz.prog 53 #[.int .i64 n,.int .i64 p,.agg #[.int .i64 m,.slice am lm.length km]] w (MatP n (placeN n p m lm) w):=by
 have HI:=hid fun w=>aIdentity_any n w n1 n2
 have H0:=hid h0;have HLM:=hid hlm;have hl36:lm.length≤36:=by have:=Nat.mul_le_mul (show m≤6 by omega) (show m≤6 by omega);omega
 clear h0 hlm;go_enter Tryz.func53,Tryz.ntmps53
 go_wp2_with fail
 refine (HI.out _).mono ?_;rintro e w' ⟨⟨a0,k0,rfl,ho⟩,g,n',rfl⟩;dsimp only [rowsOf];obtain ⟨b0,rfl⟩:=ho.here (by rw [idN_length];exact Nat.mul_pos n1 n1);obtain ⟨l0,hl0⟩:∃ l0,idN n=l0:=⟨_,rfl⟩;rw [hl0] at ho ⊢;have HL0:=hid hl0;have hlen:l0.length=n*n:=by rw [← hl0];exact idN_length n
 have HLEN:=hid hlen;have HO:=hid ho;clear hl0 hlen ho;go_wp2_with fail
 obtain ⟨W,hW⟩:∃ W,W=((((w.alloc (.cells #[.int .i64 m,.slice am lm.length km] 35)).alloc (.cells #[.int .i64 0,.slice none 0 0] 35)).grow g).alloc (.cells #[.int .i64 n,.slice (some ⟨b0,0,none⟩) l0.length k0] 35)).drewN n':=⟨_,rfl⟩;obtain ⟨b7,hb7⟩:∃ b7,b7=w.heap.size+1+1+g.length:=⟨_,rfl⟩;have hWg:Grew w W:=by rw [hW];exact gw0
 have hWs:W.heap.size=w.heap.size+1+1+g.length+1:=by rw [hW];simp [go_sem]
 have hO:OwnN W (w.heap.size+2) (some ⟨b0,0,none⟩) k0 l0:=by
  rw [hW];exact (HO.out.mono' (by simp)).grew ((Grew.refl _).alloc _)
 have hb0:b0<b7:=by
  obtain ⟨_,_,_,_,_,_,_,h,_⟩:=HO.out.at (i:=0) (by rw [HLEN.out];exact Nat.mul_pos n1 n1);rw [hb7];simp [go_sem] at h;omega
 have hb2:w.heap.size+2≤b0:=by
  obtain ⟨_,_,_,_,_,_,_,_,h⟩:=hO.at (i:=0) (by rw [HLEN.out];exact Nat.mul_pos n1 n1);exact h
 have hC:W.cell? ⟨w.heap.size,0,none⟩=some (.int .i64 m)∧W.cell? ⟨w.heap.size,1,none⟩=some (.slice am lm.length km)∧W.cell? ⟨b7,0,none⟩=some (.int .i64 n)∧W.cell? ⟨b7,1,none⟩=some (.slice (some ⟨b0,0,none⟩) l0.length k0) ∧
  W.cell? ⟨w.heap.size+1,0,none⟩=some (.int .i64 0)∧W.cell? ⟨w.heap.size+1,1,none⟩=some (.slice none 0 0)∧W.frozen? ⟨w.heap.size+1,0,none⟩=false∧W.frozen? ⟨w.heap.size+1,1,none⟩=false:=by
  rw [hW,hb7];simp [go_sem]
 rw [← hW, ← hb7]; have HWG := hid hWg; have HW7 : Hid (b7 < W.heap.size ∧ w.heap.size + 2 ≤ b0 ∧ b0 < b7) := hid (by omega); clear hW hWg hb0 hb2; clear hb7 hWs HO; have key : ∀ wr, Turned W wr b0 → Grew w wr ∧ w.heap.size + 1 < wr.heap.size ∧ b7 < wr.heap.size ∧ b0 < wr.heap.size ∧ wr.cell? ⟨w.heap.size, 0, none⟩ = some (.int .i64 m) ∧ wr.cell? ⟨w.heap.size, 1, none⟩ = some (.slice am lm.length km) ∧ wr.cell? ⟨b7, 0, none⟩ = some (.int .i64 n) ∧ wr.cell? ⟨b7, 1, none⟩ = some (.slice (some ⟨b0, 0, none⟩) l0.length k0) ∧
     wr.cell? ⟨w.heap.size+1,0,none⟩=some (.int .i64 0)∧wr.cell? ⟨w.heap.size+1,1,none⟩=some (.slice none 0 0)∧wr.frozen? ⟨w.heap.size+1,0,none⟩=false∧wr.frozen? ⟨w.heap.size+1,1,none⟩=false:=by
  intro wr hT;obtain ⟨h1,h2,h3⟩:=HW7.out;have hs:=hT.size;obtain ⟨q1,q2,q3,q4,q5,q6,q7,q8⟩:=hC;have e1:=hT.block (k:=w.heap.size) (by omega) (by omega);have e2:=hT.block (k:=b7) (by omega) (by omega);have e3:=hT.block (k:=w.heap.size+1) (by omega) (by omega);refine ⟨hT.toGrew HWG.out (by omega),by omega,by omega,by omega, ?_, ?_, ?_, ?_, ?_, ?_, ?_, ?_⟩
  · rw [← q1];simp [World.cell?,e1]
  · rw [← q2];simp [World.cell?,e1]
  · rw [← q3];simp [World.cell?,e2]
  · rw [← q4];simp [World.cell?,e2]
  · rw [← q5];simp [World.cell?,e3]
  · rw [← q6];simp [World.cell?,e3]
  · rw [← q7];simp [World.frozen?,e3]
  · rw [← q8];simp [World.frozen?,e3]
 have KEY:=hid key;clear key hC;go_loopw [18] (fun v wr=>∃ i:Nat,i≤m∧v=.int .i64 i∧Turned W wr b0∧OwnN wr (w.heap.size+2) (some ⟨b0,0,none⟩) k0 (placeL n p m lm (i*m))) (fun v _=>m - (intOf v).toNat)
 case atStart=>exact ⟨0,Nat.zero_le _,rfl,Turned.refl _ _,by rw [Nat.zero_mul,placeL,HL0.out];exact hO⟩
 case round =>
  obtain ⟨i,hi,rfl,hT,hOw⟩:=hrel;by_cases hlt:i<m
  · obtain ⟨_,z1,z2,z3,y1,y2,y3,y4,_⟩:=KEY.out wr hT
    go_wp2_with fail
    go_loopw [23] (fun v wr=>∃ k:Nat,k≤m∧v=.int .i64 k∧Turned W wr b0∧OwnN wr (w.heap.size+2) (some ⟨b0,0,none⟩) k0 (placeL n p m lm (i*m+k))) (fun v _=>m - (intOf v).toNat)
    case atStart=>exact ⟨0,Nat.zero_le _,rfl,hT.grew gw0,hOw.grew gw0⟩
    case round =>
     clear y1 y2 y3 y4 z1 z2 z3;obtain ⟨k,hk,rfl,hT,hOw⟩:=hrel;by_cases hlk:k<m
     · obtain ⟨hG,z1,z2,z3,y1,y2,y3,y4,_⟩:=KEY.out wr hT
       have z0:w.heap.size<wr.heap.size:=by omega
       have hq:i*m+k<lm.length:=by rw [HLM.out];exact grid_lt hlt hlk
       obtain ⟨z,hz⟩:∃ z,lm[i*m+k]? = some z:=⟨lm[i*m+k],List.getElem?_eq_getElem hq⟩;obtain ⟨b,off,rfl,hb,c0,c1,c2,c3,c4⟩:=(H0.out.grew hG).cells hz;have hj:(p - 1+i)*n+(p - 1)+k<l0.length:=by rw [HLEN.out];exact placeI_lt p1 hp hlt hlk
       obtain ⟨zo,d0,d1,d2,d3,d4,df,_,_⟩:=hOw.at (i:=(p - 1+i)*n+(p - 1)+k) (by rw [placeL_length,← HLEN.out];exact hj);obtain ⟨R,hR⟩:∃ R,(p - 1+i)*n=R:=⟨_,rfl⟩;obtain ⟨I,hI⟩:∃ I,i*m=I:=⟨_,rfl⟩;have hR1:((p:Int) - 1+i)*n=(R:Nat):=by
        rw [← hR,show (p:Int) - 1+i=((p - 1+i:Nat):Int) by omega];exact (Int.natCast_mul _ _).symm
       have hI1:(i:Int)*m=(I:Nat):=by rw [← hI];exact (Int.natCast_mul _ _).symm
       have hl36':l0.length≤36:=by have:=HLEN.out;have:=Nat.mul_le_mul n2 n2;omega
       rw [hR] at hj d0 d1 d2 d3 d4;rw [hI] at c0 c1 c2 c3 c4 hq;have hR2:R≤36:=by omega
       have hI2:I≤36:=by omega
       obtain ⟨J,hJ⟩:∃ J,R+(p - 1)+k=J:=⟨_,rfl⟩;have hJ1:(R:Int)+p - 1+k=(J:Nat):=by omega
       have hQ1:(I:Int)+k=((I+k:Nat):Int):=by omega
       obtain ⟨Q,hQ⟩:∃ Q,I+k=Q:=⟨_,rfl⟩;rw [hQ] at hQ1 c0 c1 c2 c3 c4 hq;rw [hJ] at hj d0 d1 d2 d3 d4;have hj':(J:Int)<l0.length:=by omega
       have hq':(Q:Int)<lm.length:=by omega
       have f0:=df (J*5);have f1:=df (J*5+1);have f2:=df (J*5+2);have f3:=df (J*5+3);have f4:=df (J*5+4);have HT:=hid hT;have HOW:=hid hOw;have HZ:=hid hz;have HR:=hid hR;have HI':=hid hI;have HQ:=hid hQ;have HJ:=hid hJ;clear df hT hOw hz hR hI hQ hJ hG hO;have z01:=fun m0:Nat=>Nat.lt_add_right m0 (z0)
       have z02:=fun m0 m1:Nat=>Nat.lt_add_right m1 (z01 m0)
       have z03:=fun m0 m1 m2:Nat=>Nat.lt_add_right m2 (z02 m0 m1)
       have z11:=fun m0:Nat=>Nat.lt_add_right m0 (z1)
       have z12:=fun m0 m1:Nat=>Nat.lt_add_right m1 (z11 m0)
       have z13:=fun m0 m1 m2:Nat=>Nat.lt_add_right m2 (z12 m0 m1)
       have z21:=fun m0:Nat=>Nat.lt_add_right m0 (z2)
       have z22:=fun m0 m1:Nat=>Nat.lt_add_right m1 (z21 m0)
       have z23:=fun m0 m1 m2:Nat=>Nat.lt_add_right m2 (z22 m0 m1)
       have z31:=fun m0:Nat=>Nat.lt_add_right m0 (z3)
       have z32:=fun m0 m1:Nat=>Nat.lt_add_right m1 (z31 m0)
       have z33:=fun m0 m1 m2:Nat=>Nat.lt_add_right m2 (z32 m0 m1)
       have hb1:=fun m0:Nat=>Nat.lt_add_right m0 (hb)
       have hb2:=fun m0 m1:Nat=>Nat.lt_add_right m1 (hb1 m0)
       have hb3:=fun m0 m1 m2:Nat=>Nat.lt_add_right m2 (hb2 m0 m1)
       go_wp2_with fail
       refine R3.wp_region_gentle_tail 23 (by kernel_rfl) (by kernel_rfl) (by kernel_rfl) ?_;simp only [List.take_succ_cons,List.take_zero,List.drop_succ_cons,List.drop_zero];repeat (first | go_big_quiet_skip | (go_big_quiet_want;go_big_quiet_op;first | go_big_quiet_on | fail))
       refine wpQuiet_nil ?_;rintro _ ⟨gg,ng,rfl⟩;go_wp2_with fail
       go_roundw
       case rel =>
        refine ⟨k+1,by omega,by go_num, ?_, ?_⟩
        · refine Turned.grew ?_ ⟨gg,ng,rfl⟩
          exact ((((HT.out.set _ _).set _ _).set _ _).set _ _).set _ _
        · refine OwnN.grew ?_ ⟨gg,ng,rfl⟩
          have e:placeL n p m lm (i*m+(k+1))=(placeL n p m lm (i*m+k)).set J z:=by
           show (placeL n p m lm (i*m+k)).set (placeI n p m (i*m+k)) (lm.getD (i*m+k) noneZ)=_
           rw [placeI_eq hlk,HR.out,HJ.out,List.getD_eq_getElem?_getD,HZ.out];rfl
          rw [e];exact HOW.out.put J z (by rw [placeL_length,← HLEN.out];exact hj)
       case measure=>simp [intOf];omega
     · obtain rfl:k=m:=by omega
       obtain ⟨_,z1,z2,z3,y1,y2,y3,y4,_⟩:=KEY.out wr hT;go_wp2_with fail
       go_roundw
       case rel=>exact ⟨i+1,by omega,by go_num,hT.grew gw0,by rw [Nat.add_mul,Nat.one_mul];exact hOw.grew gw0⟩
       case measure=>simp [intOf];omega
  · obtain rfl:i=m:=by omega
    obtain ⟨hG,z1,z2,z3,y1,y2,y3,y4,y5,y6,y7,y8⟩:=KEY.out wr hT;have hl1:l0.length=(placeN n p i lm).length:=by rw [HLEN.out];exact (placeL_length n p i lm _).symm
    have HL1:=hid hl1;have HG:=hid hG;have HOW:=hid hOw;have hlow:=HW7.out.2.1;clear hl1 hT hOw hG hO;go_wp2_with fail
    exact bodyPost_ret (v:=.agg #[.int .i64 n,.slice (some ⟨b0,0,none⟩) l0.length k0]) (by simp [results,Tryz.results53,go_sem,y5,y6]) rfl ⟨⟨_,_,by rw [HL1.out],(HOW.out.al (by (try simp only [go_sem]);(try simp only [List.append_assoc]);repeat (first | exact Al.refl _ _ | refine Al.drewN ?_ _ | refine Al.grow ?_ _ | refine Al.alloc ?_ _ | refine Al.other ?_ _ _ (by simp [go_sem] <;> omega) | refine Al.set ?_ _ _ _ (by simp [go_sem] <;> omega)))).mono' (by omega)⟩,(by repeat (first | exact Grew.refl _ | exact HG.out | refine Grew.drewN ?_ _ | refine Grew.grow ?_ _ | refine Grew.alloc ?_ _ | refine Grew.drew ?_ | refine Grew.set ?_ (Nat.le_refl _) _ _ | refine Grew.set ?_ (by omega) _ _))⟩
open Go Go.RowKit Amp Msh
theorem run_lookup_nil2 (s:ByteArray) (w:World) :
  (Instr.lookup 63 (.map none) (.string s) true).run Tryz.prog w=.ok (.tuple #[.agg #[.int .i64 0,.slice none 0 0],.bool false]) w:=by
 have h1:Instr.findNow .string (.string s) ([]:List MapEntry) 0=some none:=rfl;simp [Instr.lookup,run_underlying Tryz.underlying63,MapKept.run_checkKey Tryz.underlying9 (show MapKept.IsKey .string (.string s) from trivial),MapKept.run_findKey Tryz.underlying9 h1,Result.andThen,go_sem]
attribute [go_sem high] run_lookup_nil2
def MatV (v:Value) (w:World) (n:Int) (l:List Num):Prop:=∃ (a0:Option Addr) (k0:Nat),v=.agg #[.int .i64 n,.slice a0 l.length k0]∧Nms w a0 l
theorem MatV.grew {v:Value} {w w':World} {n:Int} {l:List Num} (h:MatV v w n l) (g:Grew w w'):MatV v w' n l:=by
 exact k63_
def MatE (v:Value) (w:World) (n:Int) (r:List Num × Int):Prop:=∃ (a0:Option Addr) (k0:Nat),v=.tuple #[.agg #[.int .i64 n,.slice a0 r.1.length k0],.int .i64 r.2]∧Nms w a0 r.1
theorem MatE.grew {v:Value} {w w':World} {n:Int} {r:List Num × Int} (h:MatE v w n r) (g:Grew w w'):MatE v w' n r:=by
 exact k63_
theorem Nms.al {w w':World} {a0:Option Addr} {l:List Num} (h:Nms w a0 l) {b:Nat} (hb:∀ b1 o1,a0=some ⟨b1,o1,none⟩→l≠[]→b1≠b) (hw:∀ k,k≠b→k<w.heap.size→w'.heap[k]? = w.heap[k]?) (hs:w.heap.size≤w'.heap.size):Nms w' a0 l:=by
 rcases h with h | ⟨b1,off,h,hb1,hc⟩
 · exact .inl h
 · by_cases hl:l=[]
   · exact .inl hl
   have hne:=hb b1 off h hl;have e:=hw b1 hne hb1;refine .inr ⟨b1,off,h,Nat.lt_of_lt_of_le hb1 hs,fun i z hz=>?_⟩;obtain ⟨c0,c1,c2,c3,c4⟩:=hc i z hz;simp only [World.cell?] at *
   rw [e];exact ⟨c0,c1,c2,c3,c4⟩
theorem Nms.ne {w:World} {b1 o1 b:Nat} {l:List Num} {x:Int} {a:Option Addr} {p q:Nat} {T:TypeId} (h:Nms w (some ⟨b1,o1,none⟩) l) (hl:l≠[]) (hb:w.heap[b]? = some (.cells #[.int .i64 x,.slice a p q] T)):b1≠b:=by
 rintro rfl;obtain ⟨z,hz⟩:∃ z,l[0]? = some z:=⟨l[0]'(List.length_pos_iff.2 hl),List.getElem?_eq_getElem (List.length_pos_iff.2 hl)⟩;obtain ⟨b2,o2,h1,_,c0,c1,_⟩:=h.cells hz;injection h1 with h1;injection h1 with h2 h3;subst h2;subst h3;simp only [World.cell?,hb] at c0 c1;match o1,c0,c1 with
 | 0,_,c1=>simp at c1
 | 1,c0,_=>simp at c0
 | k+2,c0,_=>simp at c0
theorem Nms.turned {W w:World} {b:Nat} {a0:Option Addr} {l:List Num} {x:Int} {a:Option Addr} {p q:Nat} {T:TypeId} (h:Nms W a0 l) (ht:Turned W w b) (hb:W.heap[b]? = some (.cells #[.int .i64 x,.slice a p q] T)):Nms w a0 l :=
 h.al (b:=b) (fun b1 o1 e hl=>by subst e;exact h.ne hl hb) (fun k hk hks=>ht.block hks hk) ht.size
theorem MatV.turned {W w:World} {b:Nat} {v:Value} {n:Int} {l:List Num} {x:Int} {a:Option Addr} {p q:Nat} {T:TypeId} (h:MatV v W n l) (ht:Turned W w b) (hb:W.heap[b]? = some (.cells #[.int .i64 x,.slice a p q] T)):MatV v w n l:=by
 obtain ⟨a0,k0,h1,h2⟩:=h;exact ⟨a0,k0,h1,h2.turned ht hb⟩
theorem MatE.turned {W w:World} {b:Nat} {v:Value} {n:Int} {r:List Num × Int} {x:Int} {a:Option Addr} {p q:Nat} {T:TypeId} (h:MatE v W n r) (ht:Turned W w b) (hb:W.heap[b]? = some (.cells #[.int .i64 x,.slice a p q] T)):MatE v w n r:=by
 obtain ⟨a0,k0,h1,h2⟩:=h;exact ⟨a0,k0,h1,h2.turned ht hb⟩
def MadeN (n:Nat) (R:List Num × Int) (w:World) (e:Ending) (w':World):Prop :=
 (∃ (a0:Option Addr) (k0:Nat),e=.returned (.tuple #[.agg #[.int .i64 (rowsOf n R.2),.slice a0 R.1.length k0],.int .i64 R.2])∧Nms w' a0 R.1)∧Grew w w'
theorem MadeN.bad {n:Nat} {R:List Num × Int} {w w':World} {r:Int} (hR:R=([],r)) (hr:¬ r=0) (g:Grew w w'):MadeN n R w (.returned (.tuple #[.agg #[.int .i64 0,.slice none 0 0],.int .i64 r])) w':=by
 subst hR;exact ⟨⟨none,0,by simp [rowsOf,hr],.inl rfl⟩,g⟩
def MatB (b:Nat) (n:Int) (l:List Num) (w:World):Prop:=∃ (a9:Option Addr) (k9:Nat),w.heap[b]? = some (.cells #[.int .i64 n,.slice a9 l.length k9] 35)∧Nms w a9 l
def Cls (W0:World) (b:Nat) (o:Obj) (L:Nat→Prop) (W:World):Prop:=Turned W0 W b∧(¬ L 10→W.heap[b]? = some o)
theorem clsG {W0 W W':World} {b8 i:Nat} {L:Nat→Prop} {o:Obj} (hb:b8<W0.heap.size) (hg:Cls W0 b8 o L W) (gr:Grew W W'):Cls W0 b8 o (fun j=>L j∨j=i) W' :=
 ⟨hg.1.grew gr,fun h=>(gr.block b8 (Nat.lt_of_lt_of_le hb hg.1.size)).trans (hg.2 fun h'=>h (.inl h'))⟩
theorem clsS {W0 W W':World} {b8:Nat} {L:Nat→Prop} {o:Obj} (hg:Cls W0 b8 o L W) (ht:Turned W W' b8):Cls W0 b8 o (fun j=>L j∨j=10) W' :=
 ⟨hg.1.trans ht,fun h=>absurd (.inr rfl) h⟩
def ItsAt' (n:Nat) (its:List It) (R:List Num × Int) (i:Nat) (l:List Num) (E:Int):Prop:=(E=0∧itsM n (its.drop i) l=R∧l.length=n*n∧VldL l)∨(E≠0∧R=([],E)∧l=[])
set_option maxRecDepth 100000 in
set_option maxHeartbeats 4000000 in
theorem made_its (n:Nat) (a0:Option Addr) (cap:Nat) (its:List It) (w:World) (n1:1≤n) (n2:n≤6) (hl:its.length≤5000) (hc:Its w a0 its) (hok:okIts n its=true) :
  Calls Tryz.prog 26 #[.int .i64 n,.slice a0 its.length cap,.map none] w (MadeN n (itsM n its (idN n)) w):=by
 have HI:=hid fun w=>aIdentity_any n w n1 n2
 have HC:=hid hc;have HOK:=hid hok;obtain ⟨R,hR⟩:∃ R,itsM n its (idN n)=R:=⟨_,rfl⟩;rw [hR];have HR:=hid hR;clear hc hok hR;go_enter Tryz.func26,Tryz.ntmps26
 go_wp2_with fail
 refine (HI.out _).mono ?_;rintro e w' ⟨⟨a1,k1,rfl,ho⟩,g,n',rfl⟩;dsimp only [rowsOf];obtain ⟨l0,hl0⟩:∃ l0,idN n=l0:=⟨_,rfl⟩;rw [hl0] at ho ⊢;have HO:=hid ho;have HL0:=hid hl0;clear ho hl0;go_wp2_with fail
 obtain ⟨W,hW⟩:∃ W,W=(((w.alloc (.cells #[.int .i64 0,.slice none 0 0] 35)).grow g).alloc (.cells #[.int .i64 n,.slice a1 l0.length k1] 35)).drewN n':=⟨_,rfl⟩;obtain ⟨b8,hb8⟩:∃ b8,b8=w.heap.size+1+g.length:=⟨_,rfl⟩;have hWg:Grew w W:=by rw [hW];exact gw0
 have hWs:W.heap.size=w.heap.size+1+g.length+1:=by rw [hW];simp [go_sem]
 have hN:Nms W a1 l0:=by
  rw [hW];exact (HO.out.grew ((Grew.refl _).alloc _)).nms
 have hB8:W.heap[b8]? = some (.cells #[.int .i64 n,.slice a1 l0.length k1] 35):=by
  rw [hW,hb8,World.heap_drewN];exact blk_new (by simp [go_sem])
 have hC:W.cell? ⟨w.heap.size,0,none⟩=some (.int .i64 0)∧W.cell? ⟨w.heap.size,1,none⟩=some (.slice none 0 0)∧W.frozen? ⟨w.heap.size,0,none⟩=false∧W.frozen? ⟨w.heap.size,1,none⟩=false:=by
  rw [hW];simp [go_sem]
 have hB0:W.heap[w.heap.size]? = some (.cells #[.int .i64 0,.slice none 0 0] 35):=by
  rw [hW,World.heap_drewN,blk_past (by simp [go_sem] <;> omega),World.grow_heap_lt _ _ _ (by simp [go_sem])];exact blk_new rfl
 rw [← hW,← hb8];have HWG:=hid hWg;have HW8:Hid (b8<W.heap.size∧w.heap.size<b8):=hid (by omega);clear hW hWg hb8 hWs HO;have KEY:=hid fun wr (hT:Turned W wr b8)=>(show Grew w wr∧w.heap.size<wr.heap.size∧b8<wr.heap.size∧wr.cell? ⟨w.heap.size,0,none⟩=some (.int .i64 0)∧wr.cell? ⟨w.heap.size,1,none⟩=some (.slice none 0 0)∧wr.frozen? ⟨w.heap.size,0,none⟩=false∧wr.frozen? ⟨w.heap.size,1,none⟩=false∧Hid (wr.heap[w.heap.size]? = some (.cells #[.int .i64 0,.slice none 0 0] 35)) from by
  obtain ⟨h1,h2⟩:=HW8.out;have hs:=hT.size;obtain ⟨q1,q2,q3,q4⟩:=hC;have e1:=hT.block (k:=w.heap.size) (by omega) (by omega);refine ⟨hT.toGrew HWG.out (by omega),by omega,by omega, ?_, ?_, ?_, ?_,e1.trans hB0⟩
  · rw [← q1];simp [World.cell?,e1]
  · rw [← q2];simp [World.cell?,e1]
  · rw [← q3];simp [World.frozen?,e1]
  · rw [← q4];simp [World.frozen?,e1])
 clear hC hB0;go_loopw [9,21] (fun e v wr=>∃ (i:Nat) (l:List Num) (E:Int),i≤its.length∧v=.int .i64 i∧e=.int .i64 E∧Hid (ItsAt' n its R i l E)∧Turned W wr b8∧∃ (ao:Option Addr) (ko:Nat),wr.heap[b8]? = some (.cells #[.int .i64 (rowsOf n E),.slice ao l.length ko] 35)∧Nms wr ao l) (fun _ v _=>its.length - (intOf v).toNat)
 case atStart=>exact ⟨0,l0,0,Nat.zero_le _,rfl,rfl,hid (.inl ⟨rfl,by rw [← HL0.out];exact HR.out,by rw [← HL0.out];exact idN_length n,by rw [← HL0.out];exact idN_valid n⟩),Turned.refl _ _,a1,k1,by rw [rowsOf,if_pos rfl];exact hB8,hN⟩
 case round =>
  obtain ⟨i,l,E,hi,rfl,rfl,hs,hT,ao,ko,hBo,hNo⟩:=hrel;obtain ⟨hG,z0,z8,y0,y1,y2,y3,HB0⟩:=KEY.out wr hT;have HG:=hid hG;have HT:=hid hT;have HBo:=hid hBo;have HNo:=hid hNo;have c80:wr.cell? ⟨b8,0,none⟩=some (.int .i64 (rowsOf n E)):=by simp [World.cell?,hBo]
  have c81:wr.cell? ⟨b8,1,none⟩=some (.slice ao l.length ko):=by simp [World.cell?,hBo]
  have f80:wr.frozen? ⟨b8,0,none⟩=false:=by simp [World.frozen?,hBo]
  have f81:wr.frozen? ⟨b8,1,none⟩=false:=by simp [World.frozen?,hBo]
  clear hG hT hBo hNo hB8 hN;have z01:=fun m0:Nat=>Nat.lt_add_right m0 (z0)
  have z02:=fun m0 m1:Nat=>Nat.lt_add_right m1 (z01 m0)
  have z03:=fun m0 m1 m2:Nat=>Nat.lt_add_right m2 (z02 m0 m1)
  have z81:=fun m0:Nat=>Nat.lt_add_right m0 (z8)
  have z82:=fun m0 m1:Nat=>Nat.lt_add_right m1 (z81 m0)
  have z83:=fun m0 m1 m2:Nat=>Nat.lt_add_right m2 (z82 m0 m1)
  by_cases hlt:i<its.length
  · obtain ⟨x,hx⟩:∃ x,its[i]? = some x:=⟨its[i],List.getElem?_eq_getElem hlt⟩
    obtain ⟨b,off,rfl,hb,c0,c1,c2,c3⟩:=(HC.out.grew HG.out).cells hx;have hb1:=fun m0:Nat=>Nat.lt_add_right m0 (hb)
    have hb2:=fun m0 m1:Nat=>Nat.lt_add_right m1 (hb1 m0)
    have hb3:=fun m0 m1 m2:Nat=>Nat.lt_add_right m2 (hb2 m0 m1)
    have Hx:=hid hx;clear hx;by_cases hE:E=0
    case neg =>
     have e1:(E != 0)=true:=by simpa using hE
     have hbad:Hid (R=([],E)∧¬ E=0):=by
      rcases hs.out with h | h
      · exact absurd h.1 hE
      · exact ⟨h.2.1,h.1⟩
     clear hs hE;go_wp2_with fail
     exact bodyPost_ret (v:=.tuple #[.agg #[.int .i64 0,.slice none 0 0],.int .i64 E]) (by simp [results,Tryz.results26,go_sem,y0,y1,z0]) rfl (MadeN.bad hbad.out.1 hbad.out.2 (by repeat (first | exact Grew.refl _ | exact HG.out | refine Grew.drewN ?_ _ | refine Grew.grow ?_ _ | refine Grew.alloc ?_ _ | refine Grew.drew ?_ | refine Grew.set ?_ (Nat.le_refl _) _ _ | refine Grew.set ?_ (by omega) _ _)))
    subst hE;have hok:=okIts_at Hx.out HOK.out;obtain ⟨ok1,ok2,ok3,ok4,ok5,ok6⟩:=okIt_iff hok;obtain ⟨hs1,hs2,hs3⟩:itsM n (its.drop i) l=R∧l.length=n*n∧VldL l:=by
     rcases hs.out with h | h
     · exact h.2
     · exact absurd rfl h.1
    have HS:=hid (And.intro hs1 (And.intro hs2 hs3));have HOK1:=hid ok1;have HOK2:=hid (show 1≤x.pos∧x.pos+(ownW x.kind:Int)≤n+1∧1≤ownW x.kind from ⟨ok3,ok4,by unfold ownW;split <;> omega⟩);clear hs hok ok1 ok2 ok3 ok4 ok5 ok6 hs1 hs2 hs3;simp only [rowsOf,if_true] at c80 HBo;go_wp2_with fail
    refine (own_any x _ HOK1.out).mono ?_;rintro e w' ⟨⟨am,km,rfl,hom⟩,g2,n2',rfl⟩;obtain ⟨m,hm⟩:∃ m,ownW x.kind=m:=⟨_,rfl⟩;obtain ⟨lm,hlm⟩:∃ lm,ownM x.kind x.n=lm:=⟨_,rfl⟩;rw [hlm] at hom ⊢;rw [hm];have HOM:=hid hom;have HLM:=hid (And.intro hm hlm);clear hom hm hlm;go_wp2_with fail
    obtain ⟨W0,hW0⟩:∃ W0,W0=(((wr.alloc (.cells #[.int .i64 x.kind,.int .i64 x.pos,.int .i64 x.n,.string x.name] 51)).alloc (.cells #[.int .i64 m,.slice am lm.length km] 35)).grow g2).drewN n2':=⟨_,rfl⟩;have hGW0:Grew wr W0:=by rw [hW0];exact gw0
    have hW0s:wr.heap.size+1<W0.heap.size:=by rw [hW0];simp [go_sem] <;> omega
    have hk:W0.cell? ⟨wr.heap.size,1,none⟩=some (.int .i64 x.pos)∧W0.cell? ⟨wr.heap.size+1,0,none⟩=some (.int .i64 m)∧W0.cell? ⟨wr.heap.size+1,1,none⟩=some (.slice am lm.length km):=by rw [hW0];simp [go_sem]
    obtain ⟨k1',k2',k3'⟩:=hk;have hNm:Nms W0 am lm:=by rw [hW0];exact (HOM.out.al (by (try simp only [go_sem]);(try simp only [List.append_assoc]);repeat (first | exact Al.refl _ _ | refine Al.drewN ?_ _ | refine Al.grow ?_ _ | refine Al.alloc ?_ _ | refine Al.other ?_ _ _ (by simp [go_sem] <;> omega) | refine Al.set ?_ _ _ _ (by simp [go_sem] <;> omega)))).nms
    have hNo:Nms W0 ao l:=HNo.out.grew hGW0;have hB8:W0.heap[b8]? = some (.cells #[.int .i64 n,.slice ao l.length ko] 35):=(hGW0.block b8 z8).trans HBo.out;have hb80:b8<W0.heap.size:=Nat.lt_of_lt_of_le z8 hGW0.size;obtain ⟨hp1,hp2,hp3⟩:=HOK2.out;obtain ⟨hm,hlm⟩:=HLM.out;obtain ⟨hs1,hs2,hs3⟩:=HS.out;have hlmV:VldL lm:=by rw [← hlm];exact ownM_valid _ _
    have hlmL:lm.length=m*m:=by rw [← hlm,← hm];exact ownM_length _ _
    obtain ⟨lp,hlp⟩:∃ lp,placeN n x.pos.toNat m lm=lp:=⟨_,rfl⟩;have hlpV:VldL lp:=by rw [← hlp];exact placeL_valid hlmV _
    have hlpL:lp.length=n*n:=by rw [← hlp];exact placeL_length _ _ _ _ _
    have HP:=hid fun W (hN:Nms W am lm)=>(show Calls Tryz.prog 53 #[.int .i64 n,.int .i64 x.pos,.agg #[.int .i64 m,.slice am lm.length km]] W (MatP n lp W) from by
     have h:=place_any n x.pos.toNat m am km lm W n1 n2 (by rw [← hm];exact hp3) (by omega) (by rw [hm] at hp2;omega) hlmL hN;rw [Int.toNat_of_nonneg (by omega),hlp] at h;exact h)
    obtain ⟨⟨rl,re⟩,hr⟩:∃ r,mulM n lp l=r:=⟨_,rfl⟩;have HM:=hid fun W a2 k2 (hA:Nms W a2 lp) (hB:Nms W ao l)=>aMulM_any n a2 ao k2 ko lp l W n1 n2 hlpL hs2 hA hB hlpV hs3
    rw [hr] at HM;have HSTEP:Hid (stepM n x l=(rl,re)):=hid (by unfold stepM;rw [hm,hlm,hlp];exact hr);have HVL:Hid (VldL rl∧(re=0→rl.length=n*n)):=hid (by
     have h1:=mulM_valid n lp l;have h2:=@matR_length n (fun i k=>rowN (prow lp l n i k));have h3:matR n (fun i k=>rowN (prow lp l n i k))=(rl,re):=hr;rw [h3] at h2;rw [hr] at h1;exact ⟨h1,h2⟩)
    rw [← hW0];have HGW0:=hid hGW0;clear hW0 hGW0 hp1 hp2 hp3 hm hlm hlmV hlmL hlp hlpV hlpL hr hs1 hs2 hs3;have RN:Hid (rowsOf n re=rowsOf n re):=rfl;obtain ⟨N,hN⟩:∃ N,rowsOf n re=N:=⟨_,rfl⟩;have HN:=hid hN;refine R4.wp_region_slotsC 11 (fun ix vs W=>match ix with | 0=>vs 0=.int .i64 n | 1=>vs 1=.pointer (some ⟨wr.heap.size,1,none⟩) | 2=>vs 2=.int .i64 x.pos | 3=>vs 3=.agg #[.int .i64 m,.slice am lm.length km] | 4=>MatV (vs 4) W n lp | 5=>vs 5=.agg #[.int .i64 n,.slice ao l.length ko] | 6=>MatE (vs 6) W N (rl,re) | 7=>MatE (vs 7) W N (rl,re) | 8=>MatV (vs 8) W N rl | 9=>vs 9=.int .i64 re | 10=>MatB b8 N rl W | _=>True) (fun L W=>Cls W0 b8 (.cells #[.int .i64 n,.slice ao l.length ko] 35) L W) (by kernel_rfl) (by kernel_rfl) ?slst ?sldep ⟨(Turned.refl W0 b8).grew (Grew.refl _).drew,fun _=>hB8⟩ ?slop ?slq
    case slst =>
     exact k1_
    case sldep =>
     exact k2_
    case slop =>
     exact k3_
    case slq =>
     intro vs W2 hC hn;have hn9:vs 9=.int .i64 re:=hn 9 (by decide) (by decide);obtain ⟨a9,k9,hb9,hN9⟩:MatB b8 N rl W2:=hn 10 (by decide) (by decide);have HT2:Hid (Turned W W2 b8):=HT.out.trans (((Turned.refl wr b8).grew HGW0.out).trans hC.1);change wpList _ _ _ _ (Act.put (Act.put (Act.put (Act.put (Act.put (Act.put (Act.put (Act.put (Act.put (Act.put (Act.put _ (some 41) (vs 0)) (some 42) (vs 1)) (some 43) (vs 2)) (some 44) (vs 3)) (some 45) (vs 4)) (some 46) (vs 5)) (some 47) (vs 6)) (some 40) (vs 7)) (some 48) (vs 8)) (some 49) (vs 9)) none (vs 10)) _;simp only [Act.put,List.setIfInBounds_toArray,List.set_cons_zero,List.set_cons_succ,List.drop_succ_cons,List.drop_zero,hn9];have HB9:=hid hb9;have HN9:=hid hN9;clear hn hn9 hb9 hN9 hC hN;go_wp2_with fail
     go_roundw
     case rel =>
      refine ⟨i+1,rl,re,by omega,by go_num,rfl,hid ?_,HT2.out,a9,k9, ?_,HN9.out⟩
      · have hs0:=HS.out.1
        by_cases he:re=0
        · refine .inl ⟨he, ?_,HVL.out.2 he,HVL.out.1⟩
          have h1:=itsM_step (l:=l) Hx.out (by rw [HSTEP.out];exact he);exact k78_
        · have h1:=itsM_stop (l:=l) Hx.out (by rw [HSTEP.out];exact he)
          rw [HSTEP.out] at h1;have h3:(mulM n (placeN n x.pos.toNat (ownW x.kind) (ownM x.kind x.n)) l)=(rl,re):=HSTEP.out;have h2:=seqR_err (L:=gridR n (fun i k=>rowN (prow (placeN n x.pos.toNat (ownW x.kind) (ownM x.kind x.n)) l n i k))) (by
           have h4:seqR (gridR n (fun i k=>rowN (prow (placeN n x.pos.toNat (ownW x.kind) (ownM x.kind x.n)) l n i k)))=(rl,re):=h3;rw [h4];exact he)
          have h4:seqR (gridR n (fun i k=>rowN (prow (placeN n x.pos.toNat (ownW x.kind) (ownM x.kind x.n)) l n i k)))=(rl,re):=h3;exact k64_
      · rw [HN.out];exact HB9.out
     case measure=>simp [intOf];omega
  · obtain rfl:i=its.length:=by omega
    have hfin:Hid (R=(l,E)):=by
     rcases hs.out with h | h
     · obtain ⟨h1,h2,h3,h4⟩:=h
       rw [List.drop_length,itsM] at h2;rw [← h2,h1];exact rfl
     · rw [h.2.2];exact h.2.1
    obtain ⟨N,hN⟩:∃ N,rowsOf n E=N:=⟨_,rfl⟩;rw [hN] at c80;have HN:=hid hN;clear hN hs;go_wp2_with fail
    exact bodyPost_ret (v:=.tuple #[.agg #[.int .i64 N,.slice ao l.length ko],.int .i64 E]) (by simp [results,Tryz.results26,go_sem,y0,y1]) rfl ⟨⟨ao,ko,by rw [hfin.out,HN.out],by rw [hfin.out];exact HNo.out.turned (b:=w.heap.size) (((Turned.refl _ _).set _ _).set _ _) HB0.out⟩,(by repeat (first | exact Grew.refl _ | exact HG.out | refine Grew.drewN ?_ _ | refine Grew.grow ?_ _ | refine Grew.alloc ?_ _ | refine Grew.drew ?_ | refine Grew.set ?_ (Nat.le_refl _) _ _ | refine Grew.set ?_ (by omega) _ _))⟩
open Go Go.RowKit Amp Msh
theorem Nms.swap {w:World} {x:Int} {a:Option Addr} {p q:Nat} {T:TypeId} {g:List Obj} {n:Nat} {a0:Option Addr} {l:List Num} (h:Nms (((w.alloc (.cells #[.int .i64 x,.slice a p q] T)).grow g).drewN n) a0 l) (o:Obj):Nms (((w.alloc o).grow g).drewN n) a0 l:=by
 have hb:(((w.alloc (.cells #[.int .i64 x,.slice a p q] T)).grow g).drewN n).heap[w.heap.size]? = some (.cells #[.int .i64 x,.slice a p q] T):=by
  rw [World.heap_drewN,World.grow_heap_lt _ _ _ (by simp)];exact blk_new rfl
 refine h.al (b:=w.heap.size) (fun b1 o1 e hl=>by subst e;exact h.ne hl hb) (fun k hk _=>?_) (by simp [go_sem]);rw [World.heap_drewN,World.heap_drewN];simp only [World.grow,Array.getElem?_append];have e1:(w.alloc o).heap.size=(w.alloc (.cells #[.int .i64 x,.slice a p q] T)).heap.size:=by simp
 rw [e1];split
 · show (w.heap.push o)[k]? = (w.heap.push _)[k]?
   rw [Array.getElem?_push,Array.getElem?_push,if_neg hk,if_neg hk]
 · rfl
set_option maxRecDepth 100000 in
set_option maxHeartbeats 800000 in
theorem matOf_any (g:Int) (a0:Option Addr) (cap:Nat) (l:List It) (w:World) (hl:l.length≤9223372036854775807) (hc:Its w a0 l) :
  Calls Tryz.prog 10 #[.int .i64 g,.slice a0 l.length cap] w (MadeN g.toNat (matOf g l) w):=by
 have HK:=hid fun w' (h:Grew w w')=>check_any g a0 cap l w' hl (hc.grew h)
 by_cases he:chkIts g l=0
 case neg =>
  have HR:Hid (matOf g l=([],chkIts g l)):=hid (by unfold matOf;rw [if_neg he]);obtain ⟨E,hE⟩:∃ E,chkIts g l=E:=⟨_,rfl⟩;rw [hE] at HK HR he;have e1:(E != 0)=true:=by simpa using he
  have HE:=hid he;clear he hE hc;go_enter Tryz.func10,Tryz.ntmps10
  go_wp2_with fail
  refine (HK.out _ gw0).mono ?_;rintro e w' ⟨rfl,g',n,rfl⟩;go_wp2_with fail
  exact bodyPost_ret (v:=.tuple #[.agg #[.int .i64 0,.slice none 0 0],.int .i64 E]) (by simp [results,Tryz.results10,go_sem]) rfl (MadeN.bad HR.out HE.out gw0)
 obtain ⟨g1,g2,h5,hok⟩:=chkIts_zero he;rw [he] at HK;obtain ⟨n,rfl⟩:=Int.eq_ofNat_of_zero_le (show 0≤g by omega);have HM:=hid fun w' (h:Grew w w')=>made_its n a0 cap l w' (by omega) (by omega) h5 (hc.grew h) hok
 obtain ⟨R,hR⟩:∃ R,itsM n l (idN n)=R:=⟨_,rfl⟩;rw [show matOf n l=R by unfold matOf;rw [if_pos he];exact hR];rw [hR] at HM;rw [Int.toNat_natCast];clear hR hok he hc g1 g2;go_enter Tryz.func10,Tryz.ntmps10
 go_wp2_with fail
 refine (HK.out _ gw0).mono ?_;rintro e w' ⟨rfl,g',n',rfl⟩;go_wp2_with fail
 refine (HM.out _ gw0).mono ?_;rintro e w' ⟨⟨a1,k1,rfl,hN⟩,g2,n2,rfl⟩;obtain ⟨N,hN'⟩:∃ N,rowsOf n R.2=N:=⟨_,rfl⟩;rw [hN'];have HN:=hid hN;have HN':=hid hN';clear hN hN';go_wp2_with fail
 exact bodyPost_ret (v:=.tuple #[.agg #[.int .i64 N,.slice a1 R.1.length k1],.int .i64 R.2]) (by simp [results,Tryz.results10,go_sem]) rfl ⟨⟨a1,k1,by rw [HN'.out],Nms.swap (by have:=HN.out;simp only [World.grow_drewN,World.grow_grow,World.drewN_drewN] at this;exact this) _⟩,gw0⟩
end Go.Proofs.YtchdmecjhaanfaaGreatDoor
