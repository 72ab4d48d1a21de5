import Derived.Test.YtchdmecjhaanfaaGreatDoorTidA
import Derived.Test.YtchdmecjhaanfaaGreatDoorMshInv
namespace Go.Proofs.YtchdmecjhaanfaaGreatDoor
open Go Go.RowKit Amp Msh
theorem itsCells_setN:∀ (l:List It) (i:Nat) (x:It) (p:Int),l[i]? = some x→itsCells (l.set i ⟨x.kind,x.pos,p,x.name⟩)=(itsCells l).set (i*4+2) (.int .i64 p)
 | [],i,x,p,h=>by simp at h
 | y :: t, 0, x, p, h => by
   simp at h;subst h;rfl
 | y :: t, i + 1, x, p, h => by
   simp at h;have ih:=itsCells_setN t i x p h;show itCells y++itsCells (t.set i _)=(itCells y++itsCells t).set ((i+1)*4+2) _
   rw [ih,List.set_append_right _ _ (by simp [itCells];omega)]
   congr 2
   simp [itCells];omega
theorem OwnI.setN {w:World} {base g k0:Nat} {l:List It} (h:OwnI w base (some ⟨g,0,none⟩) k0 l) {i:Nat} {x:It} (hx:l[i]? = some x) (p:Int):OwnI (w.setCell ⟨g,i*4+2,none⟩ (.int .i64 p)) base (some ⟨g,0,none⟩) k0 (l.set i ⟨x.kind,x.pos,p,x.name⟩):=by
 have h1:=(World.ownsRow.stored h (i*4+2) (.int .i64 p)).1;unfold OwnI;rw [List.length_set,itsCells_setN l i x p hx];exact h1
theorem onB_turn {y:It} (hk:y.kind=1) (hn:1≤y.n∧y.n≤7) {v:Int} (hv:1≤v∧v≤7) (g:Int):onB ⟨y.kind,y.pos,v,y.name⟩ g=onB y g:=by
 unfold onB;dsimp only;rw [show wid y.kind v y.name=wid y.kind y.n y.name by
  unfold wid;by_cases h:y.name.toList=[]
  · rw [if_pos h,if_pos h,if_pos ⟨hk,hv⟩,if_pos ⟨hk,hn⟩]
  · rw [if_neg h,if_neg h]]
theorem TidJ.setN {B bt q bI kI kG:Nat} {aG:Option Addr} {a:Nat→Option Addr} {k:Nat→Nat} {S:List (It × Bool)} {y:It} {b:Bool} {W:World} (h1:W.heap[bt]? = some (.cells (tdC (some ⟨bI,0,none⟩) S.length kI aG S.length kG fun g=>.slice (a g) (stk S g).length (k g)).toArray 128))
  (h2:OwnI W B (some ⟨bI,0,none⟩) kI (S.map Prod.fst)) (h3:OwnB W B aG kG (S.map fun s=>!s.2)) (h4:∀ g,g<7→OwnZ W B (a g) (k g) (stk S g)) (h5:∀ g h,g<7→h<7→g≠h→∀ q,a g=some q→a h=some q→False) (hat:S[q]? = some (y,b)) (v:Int) :
  TidJ B bt ((S.map Prod.fst).set q ⟨y.kind,y.pos,v,y.name⟩) S (W.setCell ⟨bI,q*4+2,none⟩ (.int .i64 v)):=by
 have hI:∃ cs,W.heap[bI]? = some (.cells cs 51):=by
  rcases h2.2 with ⟨h6,_⟩ | ⟨g,cap,cur,h6,_,h7,_⟩
  · cases h6
  · injection h6 with e1
    injection e1 with e1;injection e1 with e1;subst e1;exact ⟨cur,h7⟩
 obtain ⟨cs,hI⟩:=hI;have hne:bt≠bI:=by
  rintro rfl;rw [hI] at h1;simp at h1
 exact ⟨some ⟨bI,0,none⟩,kI,aG,kG,a,k,(heap_setCell_other W ⟨bI,q*4+2,none⟩ bt _ hne).trans h1,h2.setN (by simp [hat]) v,own_set h3 hI (by decide) _ _,fun g hg=>own_set (h4 g hg) hI (by decide) _ _,h5⟩
theorem stk_off (S:List (It × Bool)) (k:Nat) (y y':It) (g:Int):stk (S.set k (y,false)) g=stk (S.set k (y',false)) g:=by
 by_cases hk:k<S.length
 · have h:=stk_same (S:=S.set k (y,false)) (g:=g) (k:=k) (s:=(y,false)) (s':=(y',false)) (by simp [hk]) (by simp [onS])
   rw [List.set_set] at h;exact h.symm
 · rw [List.set_eq_of_length_le (by omega),List.set_eq_of_length_le (by omega)]
set_option maxRecDepth 100000 in
set_option maxHeartbeats 4000000 in
theorem put_phase (B bt p q:Nat) (nn:Int) (nm:ByteArray) (S:List (It × Bool)) (y:It) (w W:World) (hS:S.length≤5000) (hp1:1≤p) (hp6:p≤6) (h:TidB B bt S W) (hat:S[q]? = some (y,true)) (ht:lastIx (onS (p:Int)) S=some q) (hyk:y.kind=1) (hyp:y.pos=p) (hyn:1≤y.n∧y.n≤7) (hnn:1≤nn∧nn≤7) (e8:((y.n+nn) % 8==0)=false)
  (hoth:∀ g:Nat,g<7→g≠p→onB y g=false) (hw:Grew w W) (hB:w.heap.size≤B) (hbt:w.heap.size≤bt) :
  Calls Tryz.prog 70 #[.pointer (some ⟨bt,0,none⟩),.agg #[.int .i64 1,.int .i64 p,.int .i64 nn,.string nm]] W fun e W'=>(∃ v,e=.returned v)∧TidB B bt (S.set q (⟨y.kind,y.pos,(y.n+nn) % 8,y.name⟩,true)) W'∧Grew w W':=by
 have hlt:q<S.length:=(List.getElem?_eq_some_iff.1 hat).1;have HT:=hid h;have HG:=hid fun w'=>guidesK_one 1 p nn nm w' rfl
 have htp:topI S p=q:=by unfold topI;rw [ht]
 have HTOP:=hid fun W' (hg:Grew W W')=>top_any B bt p _ S W' hS (by omega) (h.grew hg)
 rw [htp] at HTOP;have HD:=hid (And.intro hat (And.intro ht (And.intro hoth (And.intro hB hbt))));have HW:=hid hw;clear h hat ht hoth hB hbt hw htp;go_enter Tryz.func70,Tryz.ntmps70
 go_wp2_with fail
 refine (HG.out _).mono ?_;rintro e W1 ⟨⟨bg,rfl,hgb,hbg⟩,hg1⟩;have hgW:Grew W W1:=Grew.trans gw0 hg1;have h3:W1.heap[W.heap.size]? = some (.cells #[.int .i64 1,.int .i64 p,.int .i64 nn,.string nm] 51):=(hg1.block _ (by simp)).trans (heap_new _ _);have hgb:W.heap.size<bg:=by have:=hgb;simp at this;omega
 obtain ⟨b3,hb3⟩:∃ b3,b3=W.heap.size:=⟨_,rfl⟩;rw [← hb3] at h3 ⊢;have zg:=(Array.getElem?_eq_some_iff.1 hbg).1;have z3:=(Array.getElem?_eq_some_iff.1 h3).1;have g0:W1.cell? ⟨bg,0,none⟩=some (.int .i64 p):=by simp [World.cell?,hbg]
 have k0:W1.cell? ⟨b3,0,none⟩=some (.int .i64 1):=by simp [World.cell?,h3]
 have k1:W1.cell? ⟨b3,1,none⟩=some (.int .i64 p):=by simp [World.cell?,h3]
 have k2:W1.cell? ⟨b3,2,none⟩=some (.int .i64 nn):=by simp [World.cell?,h3]
 have k3:W1.cell? ⟨b3,3,none⟩=some (.string nm):=by simp [World.cell?,h3]
 obtain ⟨aI,kI,aG,kG,a,k,h1,h2,h4,h5,h6⟩:=HT.out.ex;obtain ⟨bI,hbI,hbIB,zI0,_⟩:=h2.here (by intro e;rw [List.map_eq_nil_iff] at e;rw [e] at hlt;simp at hlt);subst hbI;have h1:=(hgW.block bt (Array.getElem?_eq_some_iff.1 h1).1).trans h1;have h2:=h2.grew hgW;have h4:=h4.grew hgW;have h5:∀ g,g<7→OwnZ W1 B (a g) (k g) (stk S g):=fun g hg=>(h5 g hg).grew hgW
 have zt:=(Array.getElem?_eq_some_iff.1 h1).1;have zI:=Nat.lt_of_lt_of_le zI0 hgW.size;have hfI:∀ j,W1.frozen? ⟨bI,j,none⟩=false:=fun j=>World.ownsRow.frozenAt h2 j
 obtain ⟨b',off',hbb,hb',c0,c1,c2,c3⟩:=(OwnI.its h2).cells (i:=q) (z:=y) (by simp [HD.out.1]);cases hbb;simp only [Nat.zero_add] at c0 c1 c2 c3;rw [hyk] at c0;rw [hyp] at c1;have t0:W1.cell? ⟨bt,0,none⟩=some (.slice (some ⟨bI,0,none⟩) S.length kI):=by simp [World.cell?,h1,tdC]
 have HALL:=hid (And.intro h1 (And.intro h2 (And.intro h4 (And.intro h5 h6))));have HGW:=hid hgW;have HBG:=hid (And.intro hgb hbg);have HBI:=hid (And.intro hbIB zI0);have zg1:=fun m0:Nat=>Nat.lt_add_right m0 (zg)
 have zg2:=fun m0 m1:Nat=>Nat.lt_add_right m1 (zg1 m0)
 have zg3:=fun m0 m1 m2:Nat=>Nat.lt_add_right m2 (zg2 m0 m1)
 have z31:=fun m0:Nat=>Nat.lt_add_right m0 (z3)
 have z32:=fun m0 m1:Nat=>Nat.lt_add_right m1 (z31 m0)
 have z33:=fun m0 m1 m2:Nat=>Nat.lt_add_right m2 (z32 m0 m1)
 have zt1:=fun m0:Nat=>Nat.lt_add_right m0 (zt)
 have zt2:=fun m0 m1:Nat=>Nat.lt_add_right m1 (zt1 m0)
 have zt3:=fun m0 m1 m2:Nat=>Nat.lt_add_right m2 (zt2 m0 m1)
 have zI1:=fun m0:Nat=>Nat.lt_add_right m0 (zI)
 have zI2:=fun m0 m1:Nat=>Nat.lt_add_right m1 (zI1 m0)
 have zI3:=fun m0 m1 m2:Nat=>Nat.lt_add_right m2 (zI2 m0 m1)
 clear h1 h2 h4 h5 h6 hgW hg1 hbg h3 hgb hb3 hb' hbIB HG zI0;go_wp2_with fail
 refine (HTOP.out _ (HGW.out.trans gw0)).mono ?_;rintro e w' ⟨rfl,g2,m2,rfl⟩;go_wp2_with fail
 refine wp_region_gentle_lit (by kernel_rfl) (by kernel_rfl) ?_;repeat (first | go_big_quiet_skip | (go_big_quiet_want;go_big_quiet_op;first | go_big_quiet_on | fail))
 refine wpQuiet_nil ?_;rintro _ ⟨gg,ng,rfl⟩;go_wp2_with fail
 refine R3.wp_region_gentle_tail 17 (by kernel_rfl) (by kernel_rfl) (by kernel_rfl) ?_;simp only [List.take_succ_cons,List.take_zero,List.drop_succ_cons,List.drop_zero];repeat (first | go_big_quiet_skip | (go_big_quiet_want;go_big_quiet_op;first | go_big_quiet_on | fail))
 refine wpQuiet_nil ?_;rintro _ ⟨gg,ng,rfl⟩;go_wp2_with fail
 obtain ⟨h1,h2,h4,h5,h6⟩:=HALL.out;obtain ⟨hgb,hbg⟩:=HBG.out;obtain ⟨hbIB,zI0⟩:=HBI.out;obtain ⟨hat,ht,hoth,hB,hbt⟩:=HD.out;have hJ:=TidJ.setN h1 h2 h4 h5 h6 hat ((y.n+nn) % 8);have hWs:Grew w (W1.setCell ⟨bI,q*4+2,none⟩ (.int .i64 ((y.n+nn) % 8))):=(HW.out.trans HGW.out).set (Nat.le_trans hB hbIB) _ _;have hne:(y.n+nn) % 8≠0:=by simpa using e8
 have hJ2:TidB B bt (S.set q (⟨y.kind,y.pos,(y.n+nn) % 8,y.name⟩,true)) (W1.setCell ⟨bI,q*4+2,none⟩ (.int .i64 ((y.n+nn) % 8))):=hJ.congr (by rw [List.map_set]) (by simp) (by
  rw [List.map_set];apply List.ext_getElem?;intro j;rw [List.getElem?_set];by_cases hj:q=j
  · subst hj
    rw [if_pos rfl,if_pos (by rw [List.length_map];exact hlt)];simp [hat]
  · rw [if_neg hj]) (fun g _=>(stk_same hat (by unfold onS;dsimp only;rw [onB_turn hyk hyn (by omega)])).symm)
 ((try simp only [Exit.inBlock,Exit.then]);refine bodyPost_ret (results_none rfl _ _ _) rfl ?_)
 exact ⟨⟨_,rfl⟩,hJ2.grew gw0,hWs.trans gw0⟩
set_option maxRecDepth 100000 in
set_option maxHeartbeats 4000000 in
theorem put_phase0 (B bt p q:Nat) (nn:Int) (nm:ByteArray) (S:List (It × Bool)) (y:It) (w W:World) (hS:S.length≤5000) (hp1:1≤p) (hp6:p≤6) (h:TidB B bt S W) (hat:S[q]? = some (y,true)) (ht:lastIx (onS (p:Int)) S=some q) (hyk:y.kind=1) (hyp:y.pos=p) (hyn:1≤y.n∧y.n≤7) (hnn:1≤nn∧nn≤7) (e8:((y.n+nn) % 8==0)=true)
  (hoth:∀ g:Nat,g<7→g≠p→onB y g=false) (hw:Grew w W) (hB:w.heap.size≤B) (hbt:w.heap.size≤bt) :
  Calls Tryz.prog 70 #[.pointer (some ⟨bt,0,none⟩),.agg #[.int .i64 1,.int .i64 p,.int .i64 nn,.string nm]] W fun e W'=>(∃ v,e=.returned v)∧TidB B bt (S.set q (⟨y.kind,y.pos,(y.n+nn) % 8,y.name⟩,false)) W'∧Grew w W':=by
 have hlt:q<S.length:=(List.getElem?_eq_some_iff.1 hat).1;have HT:=hid h;have HG:=hid fun w'=>guidesK_one 1 p nn nm w' rfl
 have htp:topI S p=q:=by unfold topI;rw [ht]
 have HTOP:=hid fun W' (hg:Grew W W')=>top_any B bt p _ S W' hS (by omega) (h.grew hg)
 rw [htp] at HTOP;have HD:=hid (And.intro hat (And.intro ht (And.intro hoth (And.intro hB hbt))));have HW:=hid hw;clear h hat ht hoth hB hbt hw htp;go_enter Tryz.func70,Tryz.ntmps70
 go_wp2_with fail
 refine (HG.out _).mono ?_;rintro e W1 ⟨⟨bg,rfl,hgb,hbg⟩,hg1⟩;have hgW:Grew W W1:=Grew.trans gw0 hg1;have h3:W1.heap[W.heap.size]? = some (.cells #[.int .i64 1,.int .i64 p,.int .i64 nn,.string nm] 51):=(hg1.block _ (by simp)).trans (heap_new _ _);have hgb:W.heap.size<bg:=by have:=hgb;simp at this;omega
 obtain ⟨b3,hb3⟩:∃ b3,b3=W.heap.size:=⟨_,rfl⟩;rw [← hb3] at h3 ⊢;have zg:=(Array.getElem?_eq_some_iff.1 hbg).1;have z3:=(Array.getElem?_eq_some_iff.1 h3).1;have g0:W1.cell? ⟨bg,0,none⟩=some (.int .i64 p):=by simp [World.cell?,hbg]
 have k0:W1.cell? ⟨b3,0,none⟩=some (.int .i64 1):=by simp [World.cell?,h3]
 have k1:W1.cell? ⟨b3,1,none⟩=some (.int .i64 p):=by simp [World.cell?,h3]
 have k2:W1.cell? ⟨b3,2,none⟩=some (.int .i64 nn):=by simp [World.cell?,h3]
 have k3:W1.cell? ⟨b3,3,none⟩=some (.string nm):=by simp [World.cell?,h3]
 obtain ⟨aI,kI,aG,kG,a,k,h1,h2,h4,h5,h6⟩:=HT.out.ex;obtain ⟨bI,hbI,hbIB,zI0,_⟩:=h2.here (by intro e;rw [List.map_eq_nil_iff] at e;rw [e] at hlt;simp at hlt);subst hbI;have h1:=(hgW.block bt (Array.getElem?_eq_some_iff.1 h1).1).trans h1;have h2:=h2.grew hgW;have h4:=h4.grew hgW;have h5:∀ g,g<7→OwnZ W1 B (a g) (k g) (stk S g):=fun g hg=>(h5 g hg).grew hgW
 have zt:=(Array.getElem?_eq_some_iff.1 h1).1;have zI:=Nat.lt_of_lt_of_le zI0 hgW.size;have hfI:∀ j,W1.frozen? ⟨bI,j,none⟩=false:=fun j=>World.ownsRow.frozenAt h2 j
 obtain ⟨b',off',hbb,hb',c0,c1,c2,c3⟩:=(OwnI.its h2).cells (i:=q) (z:=y) (by simp [HD.out.1]);cases hbb;simp only [Nat.zero_add] at c0 c1 c2 c3;rw [hyk] at c0;rw [hyp] at c1;have t0:W1.cell? ⟨bt,0,none⟩=some (.slice (some ⟨bI,0,none⟩) S.length kI):=by simp [World.cell?,h1,tdC]
 have HALL:=hid (And.intro h1 (And.intro h2 (And.intro h4 (And.intro h5 h6))));have HGW:=hid hgW;have HBG:=hid (And.intro hgb hbg);have HBI:=hid (And.intro hbIB zI0);have zg1:=fun m0:Nat=>Nat.lt_add_right m0 (zg)
 have zg2:=fun m0 m1:Nat=>Nat.lt_add_right m1 (zg1 m0)
 have zg3:=fun m0 m1 m2:Nat=>Nat.lt_add_right m2 (zg2 m0 m1)
 have z31:=fun m0:Nat=>Nat.lt_add_right m0 (z3)
 have z32:=fun m0 m1:Nat=>Nat.lt_add_right m1 (z31 m0)
 have z33:=fun m0 m1 m2:Nat=>Nat.lt_add_right m2 (z32 m0 m1)
 have zt1:=fun m0:Nat=>Nat.lt_add_right m0 (zt)
 have zt2:=fun m0 m1:Nat=>Nat.lt_add_right m1 (zt1 m0)
 have zt3:=fun m0 m1 m2:Nat=>Nat.lt_add_right m2 (zt2 m0 m1)
 have zI1:=fun m0:Nat=>Nat.lt_add_right m0 (zI)
 have zI2:=fun m0 m1:Nat=>Nat.lt_add_right m1 (zI1 m0)
 have zI3:=fun m0 m1 m2:Nat=>Nat.lt_add_right m2 (zI2 m0 m1)
 clear h1 h2 h4 h5 h6 hgW hg1 hbg h3 hgb hb3 hb' hbIB HG zI0;go_wp2_with fail
 refine (HTOP.out _ (HGW.out.trans gw0)).mono ?_;rintro e w' ⟨rfl,g2,m2,rfl⟩;go_wp2_with fail
 refine wp_region_gentle_lit (by kernel_rfl) (by kernel_rfl) ?_;repeat (first | go_big_quiet_skip | (go_big_quiet_want;go_big_quiet_op;first | go_big_quiet_on | fail))
 refine wpQuiet_nil ?_;rintro _ ⟨gg,ng,rfl⟩;go_wp2_with fail
 refine R3.wp_region_gentle_tail 17 (by kernel_rfl) (by kernel_rfl) (by kernel_rfl) ?_;simp only [List.take_succ_cons,List.take_zero,List.drop_succ_cons,List.drop_zero];repeat (first | go_big_quiet_skip | (go_big_quiet_want;go_big_quiet_op;first | go_big_quiet_on | fail))
 refine wpQuiet_nil ?_;rintro _ ⟨gg,ng,rfl⟩;go_wp2_with fail
 obtain ⟨h1,h2,h4,h5,h6⟩:=HALL.out;obtain ⟨hgb,hbg⟩:=HBG.out;obtain ⟨hbIB,zI0⟩:=HBI.out;obtain ⟨hat,ht,hoth,hB,hbt⟩:=HD.out;have hJ:=TidJ.setN h1 h2 h4 h5 h6 hat ((y.n+nn) % 8);have hWs:Grew w (W1.setCell ⟨bI,q*4+2,none⟩ (.int .i64 ((y.n+nn) % 8))):=(HW.out.trans HGW.out).set (Nat.le_trans hB hbIB) _ _;have hbg2:(W1.setCell ⟨bI,q*4+2,none⟩ (.int .i64 ((y.n+nn) % 8))).heap[bg]? = some (.cells #[.int .i64 p] 3):=(heap_setCell_other W1 ⟨bI,q*4+2,none⟩ bg _ (by show bg≠bI;omega)).trans hbg;have HBG2:=hid hbg2;have HJ:=hid hJ;have HWS:=hid hWs;clear hJ hWs hbg2 h1 h2 h4 h5 h6 hbg;refine (drop_1 B bt p q bg _ S y w _ hS (by omega) (HJ.out.grew gw0) hat ht hoth (Eq.trans (Grew.block (a:=W1.setCell ⟨bI,q*4+2,none⟩ (.int .i64 ((y.n+nn) % 8))) gw0 bg (by simpa using zg)) HBG2.out) (HWS.out.trans gw0) hB hbt).mono ?_;rintro e W3 ⟨⟨v,rfl⟩,hT3,hg3⟩;have HT3:=hid hT3;have HG3:=hid hg3;clear hT3 hg3;go_wp2_with fail
 ((try simp only [Exit.inBlock,Exit.then]);refine bodyPost_ret (results_none rfl _ _ _) rfl ?_)
 exact ⟨⟨_,rfl⟩,HT3.out.congr (by rw [List.map_set]) (by simp) (by rw [List.map_set,List.map_set]) (fun g _=>stk_off S q _ _ g),HG3.out⟩
set_option maxRecDepth 100000 in
set_option maxHeartbeats 4000000 in
theorem put_cross (B bt p q:Nat) (nn:Int) (nm:ByteArray) (S:List (It × Bool)) (y:It) (w W:World) (hS:S.length≤5000) (hp1:1≤p) (hp6:p≤5) (h:TidB B bt S W) (hat:S[q]? = some (y,true)) (ht:lastIx (onS (p:Int)) S=some q) (ht1:lastIx (onS ((p:Int)+1)) S=some q) (hyk:y.kind=3) (hyp:y.pos=p)
  (hoth:∀ g:Nat,g<7→g≠p→g≠p+1→onB y g=false) (hw:Grew w W) (hB:w.heap.size≤B) (hbt:w.heap.size≤bt) :
  Calls Tryz.prog 70 #[.pointer (some ⟨bt,0,none⟩),.agg #[.int .i64 3,.int .i64 p,.int .i64 nn,.string nm]] W fun e W'=>(∃ v,e=.returned v)∧TidB B bt (S.set q (y,false)) W'∧Grew w W':=by
 have hlt:q<S.length:=(List.getElem?_eq_some_iff.1 hat).1;have HT:=hid h;have HG:=hid fun w'=>guidesK_two 3 p nn nm w' (by decide) (by omega) (by omega)
 have htp:topI S p=q:=by unfold topI;rw [ht]
 have HTOP:=hid fun W' (hg:Grew W W')=>top_any B bt p _ S W' hS (by omega) (h.grew hg)
 rw [htp] at HTOP;have htp1:topI S ((p+1:Nat):Int)=q:=by unfold topI;rw [show (((p+1:Nat):Int))=(p:Int)+1 by omega,ht1]
 have HTOP1:=hid fun W' (hg:Grew W W')=>top_any B bt (p+1) _ S W' hS (by omega) (h.grew hg)
 rw [htp1,show (((p+1:Nat):Int))=(p:Int)+1 by omega] at HTOP1;have HT1:=hid ht1;clear htp1 ht1;have HD:=hid (And.intro hat (And.intro ht (And.intro hoth (And.intro hB hbt))));have HW:=hid hw;clear h hat ht hoth hB hbt hw htp;go_enter Tryz.func70,Tryz.ntmps70
 go_wp2_with fail
 refine (HG.out _).mono ?_;rintro e W1 ⟨⟨bg,rfl,hgb,hbg⟩,hg1⟩;have hgW:Grew W W1:=Grew.trans gw0 hg1;have h3:W1.heap[W.heap.size]? = some (.cells #[.int .i64 3,.int .i64 p,.int .i64 nn,.string nm] 51):=(hg1.block _ (by simp)).trans (heap_new _ _);have hgb:W.heap.size<bg:=by have:=hgb;simp at this;omega
 obtain ⟨b3,hb3⟩:∃ b3,b3=W.heap.size:=⟨_,rfl⟩;rw [← hb3] at h3 ⊢;have zg:=(Array.getElem?_eq_some_iff.1 hbg).1;have z3:=(Array.getElem?_eq_some_iff.1 h3).1;have g0:W1.cell? ⟨bg,0,none⟩=some (.int .i64 p):=by simp [World.cell?,hbg]
 have g1:W1.cell? ⟨bg,1,none⟩=some (.int .i64 ((p:Int)+1)):=by simp [World.cell?,hbg]
 have k0:W1.cell? ⟨b3,0,none⟩=some (.int .i64 3):=by simp [World.cell?,h3]
 have k1:W1.cell? ⟨b3,1,none⟩=some (.int .i64 p):=by simp [World.cell?,h3]
 have k2:W1.cell? ⟨b3,2,none⟩=some (.int .i64 nn):=by simp [World.cell?,h3]
 have k3:W1.cell? ⟨b3,3,none⟩=some (.string nm):=by simp [World.cell?,h3]
 obtain ⟨aI,kI,aG,kG,a,k,h1,h2,h4,h5,h6⟩:=HT.out.ex;obtain ⟨bI,hbI,hbIB,zI0,_⟩:=h2.here (by intro e;rw [List.map_eq_nil_iff] at e;rw [e] at hlt;simp at hlt);subst hbI;have h1:=(hgW.block bt (Array.getElem?_eq_some_iff.1 h1).1).trans h1;have h2:=h2.grew hgW;have h4:=h4.grew hgW;have h5:∀ g,g<7→OwnZ W1 B (a g) (k g) (stk S g):=fun g hg=>(h5 g hg).grew hgW
 have zt:=(Array.getElem?_eq_some_iff.1 h1).1;have zI:=Nat.lt_of_lt_of_le zI0 hgW.size;have hfI:∀ j,W1.frozen? ⟨bI,j,none⟩=false:=fun j=>World.ownsRow.frozenAt h2 j
 obtain ⟨b',off',hbb,hb',c0,c1,c2,c3⟩:=(OwnI.its h2).cells (i:=q) (z:=y) (by simp [HD.out.1]);cases hbb;simp only [Nat.zero_add] at c0 c1 c2 c3;rw [hyk] at c0;rw [hyp] at c1;have t0:W1.cell? ⟨bt,0,none⟩=some (.slice (some ⟨bI,0,none⟩) S.length kI):=by simp [World.cell?,h1,tdC]
 have HALL:=hid (And.intro h1 (And.intro h2 (And.intro h4 (And.intro h5 h6))));have HGW:=hid hgW;have HBG:=hid (And.intro hgb hbg);have HBI:=hid (And.intro hbIB zI0);have zg1:=fun m0:Nat=>Nat.lt_add_right m0 (zg)
 have zg2:=fun m0 m1:Nat=>Nat.lt_add_right m1 (zg1 m0)
 have zg3:=fun m0 m1 m2:Nat=>Nat.lt_add_right m2 (zg2 m0 m1)
 have z31:=fun m0:Nat=>Nat.lt_add_right m0 (z3)
 have z32:=fun m0 m1:Nat=>Nat.lt_add_right m1 (z31 m0)
 have z33:=fun m0 m1 m2:Nat=>Nat.lt_add_right m2 (z32 m0 m1)
 have zt1:=fun m0:Nat=>Nat.lt_add_right m0 (zt)
 have zt2:=fun m0 m1:Nat=>Nat.lt_add_right m1 (zt1 m0)
 have zt3:=fun m0 m1 m2:Nat=>Nat.lt_add_right m2 (zt2 m0 m1)
 have zI1:=fun m0:Nat=>Nat.lt_add_right m0 (zI)
 have zI2:=fun m0 m1:Nat=>Nat.lt_add_right m1 (zI1 m0)
 have zI3:=fun m0 m1 m2:Nat=>Nat.lt_add_right m2 (zI2 m0 m1)
 clear h1 h2 h4 h5 h6 hgW hg1 hbg h3 hgb hb3 hb' hbIB HG zI0;go_wp2_with fail
 refine (HTOP.out _ (HGW.out.trans gw0)).mono ?_;rintro e w' ⟨rfl,g2,m2,rfl⟩;go_wp2_with fail
 refine wp_region_gentle_lit (by kernel_rfl) (by kernel_rfl) ?_;repeat (first | go_big_quiet_skip | (go_big_quiet_want;go_big_quiet_op;first | go_big_quiet_on | fail))
 refine wpQuiet_nil ?_;rintro _ ⟨gg,ng,rfl⟩;go_wp2_with fail
 refine (HTOP1.out _ (HGW.out.trans gw0)).mono ?_;rintro e w' ⟨rfl,g5,m5,rfl⟩;go_wp2_with fail
 obtain ⟨h1,h2,h4,h5,h6⟩:=HALL.out;obtain ⟨hgb,hbg⟩:=HBG.out;obtain ⟨hbIB,zI0⟩:=HBI.out;obtain ⟨hat,ht,hoth,hB,hbt⟩:=HD.out;clear h1 h2 h4 h5 h6;refine (drop_2 B bt p q bg _ S y w _ hS (by omega) (HT.out.grew (HGW.out.trans gw0)) hat ht HT1.out hoth (Eq.trans (Grew.block (a:=W1) gw0 bg zg) hbg) (HW.out.trans (HGW.out.trans gw0)) hB hbt).mono ?_;rintro e W3 ⟨⟨v,rfl⟩,hT3,hg3⟩;have HT3:=hid hT3;have HG3:=hid hg3;clear hT3 hg3 hbg;go_wp2_with fail
 ((try simp only [Exit.inBlock,Exit.then]);refine bodyPost_ret (results_none rfl _ _ _) rfl ?_)
 exact ⟨⟨_,rfl⟩,HT3.out.congr (by rw [List.map_set];exact (List.set_eq_self_of hat).symm) rfl rfl (fun g _=>rfl),HG3.out⟩
end Go.Proofs.YtchdmecjhaanfaaGreatDoor
