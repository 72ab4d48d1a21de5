import Derived.Test.YtchdmecjhaanfaaGreatDoorMshLin
import Derived.Test.YtchdmecjhaanfaaGreatDoorMshJ
import Derived.Test.YtchdmecjhaanfaaGreatDoorMshX
import Derived.Test.YtchdmecjhaanfaaGreatDoorColA
import Derived.Laws.AppendOwn
namespace Go.Proofs.YtchdmecjhaanfaaGreatDoor
open Go Go.RowKit Amp Msh
def boCells (l:List Bool):List Value:=l.map Value.bool
def OwnB (w:World) (base:Nat) (a0:Option Addr) (k0:Nat) (l:List Bool):Prop:=w.ownsRow base 4 1 (.slice a0 l.length k0) l.length (boCells l)
theorem OwnB.nil (w:World) (base:Nat):OwnB w base none 0 []:=World.ownsRow_nil w base 4 1
theorem OwnB.grew {w w':World} {base:Nat} {a0:Option Addr} {k0:Nat} {l:List Bool} (h:OwnB w base a0 k0 l) (g:Grew w w'):OwnB w' base a0 k0 l:=World.ownsRow.grew h g
theorem own_kind {w:World} {base:Nat} {e:TypeId} {size n:Nat} {v:Value} {xs:List Value} (h:w.ownsRow base e size v n xs) {b:Nat} {cs:Array Value} {t:TypeId} {fz:Nat × Nat} (hb:w.heap[b]? = some (.cells cs t fz)) (hne:t≠e):v.ownBlock≠some b:=by
 rcases h.2 with ⟨rfl,_⟩ | ⟨g,cap,cur,rfl,_,hg,_⟩
 · simp [Value.ownBlock]
 · intro e1
   obtain rfl:g=b:=by simpa [Value.ownBlock] using e1
   rw [hg] at hb;simp at hb;exact hne hb.2.1.symm
def tdC (aI:Option Addr) (nI kI:Nat) (aG:Option Addr) (nG kG:Nat) (st:Nat→Value):List Value:=[.slice aI nI kI,.slice aG nG kG]++(List.range 7).map st
structure TidJ (B bt:Nat) (I:List It) (S:List (It × Bool)) (W:World):Prop where
 ex:∃ (aI:Option Addr) (kI:Nat) (aG:Option Addr) (kG:Nat) (a:Nat→Option Addr) (k:Nat→Nat),
  W.heap[bt]? = some (.cells (tdC aI S.length kI aG S.length kG fun g=>.slice (a g) (stk S g).length (k g)).toArray 128) ∧
  OwnI W B aI kI I∧OwnB W B aG kG (S.map fun s=>!s.2)∧(∀ g,g<7→OwnZ W B (a g) (k g) (stk S g)) ∧
  (∀ g h,g<7→h<7→g≠h→∀ q,a g=some q→a h=some q→False)
abbrev TidB (B bt:Nat) (S:List (It × Bool)) (W:World):Prop:=TidJ B bt (S.map Prod.fst) S W
theorem TidJ.grew {B bt:Nat} {I:List It} {S:List (It × Bool)} {W W':World} (h:TidJ B bt I S W) (g:Grew W W'):TidJ B bt I S W':=by
 obtain ⟨aI,kI,aG,kG,a,k,h1,h2,h3,h4,h5⟩:=h.ex;exact ⟨aI,kI,aG,kG,a,k,(g.block bt (Array.getElem?_eq_some_iff.1 h1).1).trans h1,h2.grew g,h3.grew g,fun i hi=>(h4 i hi).grew g,h5⟩
theorem TidJ.congr {B bt:Nat} {I I':List It} {S S':List (It × Bool)} {W:World} (h:TidJ B bt I S W) (hI:I=I') (hl:S.length=S'.length) (hG:(S.map fun s=>!s.2)=S'.map fun s=>!s.2) (hZ:∀ g:Nat,g<7→stk S g=stk S' g):TidJ B bt I' S' W:=by
 obtain ⟨aI,kI,aG,kG,a,k,h1,h2,h3,h4,h5⟩:=h.ex;subst hI;refine ⟨aI,kI,aG,kG,a,k, ?_,h2,by rw [← hG];exact h3,fun g hg=>by rw [← hZ g hg];exact h4 g hg,h5⟩;rw [h1,hl]
 congr 3
 unfold tdC
 congr 1
 exact List.map_congr_left fun g hg=>by rw [hZ g (List.mem_range.1 hg)]
theorem tdC_at {aI aG:Option Addr} {nI kI nG kG:Nat} {st:Nat→Value} {g:Nat} (hg:g<7):(tdC aI nI kI aG nG kG st)[2+g]? = some (st g):=by
 unfold tdC;rw [List.getElem?_append_right (by simp)];simp [List.getElem?_range hg]
set_option maxRecDepth 100000 in
set_option maxHeartbeats 800000 in
theorem top_any (B bt p:Nat) (I:List It) (S:List (It × Bool)) (W:World) (hS:S.length≤5000) (hp:p<7) (h:TidJ B bt I S W) :
  Calls Tryz.prog 117 #[.pointer (some ⟨bt,0,none⟩),.int .i64 p] W fun e w'=>e=.returned (.int .i64 (topI S p))∧Grew W w':=by
 obtain ⟨aI,kI,aG,kG,a,k,h1,h2,h3,h4,h5⟩:=h.ex;have zt:=(Array.getElem?_eq_some_iff.1 h1).1;have c0:W.cell? ⟨bt,2+p,none⟩=some (.slice (a p) (stk S p).length (k p)):=by
  have e:=tdC_at (aI:=aI) (nI:=S.length) (kI:=kI) (aG:=aG) (nG:=S.length) (kG:=kG) (st:=fun g=>.slice (a g) (stk S g).length (k g)) hp;simp [World.cell?,h1,e]
 have ho:=h4 p hp;have hb:=stkO_length p S 0;rcases stk_top S p with ⟨e1,e2,_⟩ | ⟨L,q,e1,e2,_,hq⟩
 · rw [e1] at c0 ho
   rw [e2];clear h1 h2 h3 h4 h5 h ho e1 e2 hb;go_enter Tryz.func117,Tryz.ntmps117
   go_wp2_with fail
   go_ret;exact ⟨rfl,gw0⟩
 · have hlen:(stk S p).length=L.length+1:=by rw [e1];simp
   have hb':L.length+1≤5000:=by rw [← hlen];exact Nat.le_trans hb hS
   have hI:=ho.zs;obtain ⟨bo,oo,hao,hbo,d0⟩:=hI.cells (i:=L.length) (z:=(q:Int)) (by rw [e1];simp);rw [hlen,hao] at c0;rw [e2];clear h1 h2 h3 h4 h5 h ho e1 e2 hb hlen hI hao;go_enter Tryz.func117,Tryz.ntmps117
   go_wp2_with fail
   go_ret;exact ⟨rfl,gw0⟩
open Go Go.RowKit Amp Msh
theorem tdC_set {aI aG:Option Addr} {nI kI nG kG:Nat} {st:Nat→Value} {g:Nat} (v:Value):(tdC aI nI kI aG nG kG st).set (2+g) v=tdC aI nI kI aG nG kG (fun i=>if i=g then v else st i):=by
 unfold tdC;rw [List.set_append_right _ _ (by simp)]
 congr 1
 apply List.ext_getElem
 · simp
 · intro i h1 h2
   simp at h2;simp [List.getElem_set];by_cases hi:g=i
   · rw [if_pos hi,if_pos hi.symm]
   · rw [if_neg hi,if_neg (fun e=>hi e.symm)]
theorem List.set_eq_self_of {l:List (It × Bool)} {i:Nat} {y:It} (h:l[i]? = some (y,true)):(l.map Prod.fst).set i y=l.map Prod.fst:=by
 apply List.ext_getElem?;intro j;rw [List.getElem?_set];by_cases hj:i=j
 · subst hj
   rw [if_pos rfl,if_pos (by rw [List.length_map];exact (List.getElem?_eq_some_iff.1 h).1)];simp [h]
 · rw [if_neg hj]
theorem tdC_congr {aI aG:Option Addr} {nI kI nG kG:Nat} {st st':Nat→Value} (h:∀ g,g<7→st g=st' g):tdC aI nI kI aG nG kG st=tdC aI nI kI aG nG kG st':=by
 unfold tdC
 congr 1
 exact List.map_congr_left fun g hg=>h g (List.mem_range.1 hg)
theorem own_set {w:World} {base:Nat} {e:TypeId} {size n:Nat} {v:Value} {xs:List Value} (h:w.ownsRow base e size v n xs) {b:Nat} {cs:Array Value} {t:TypeId} {fz:Nat × Nat} (hb:w.heap[b]? = some (.cells cs t fz)) (hne:t≠e) (i:Nat) (u:Value):(w.setCell ⟨b,i,none⟩ u).ownsRow base e size v n xs :=
 World.ownsRow.kept h (grownBy_set w b i u) (.inr (own_kind h hb hne))
theorem OwnZ.take {w:World} {base g k0:Nat} {l:List Int} (h:OwnZ w base (some ⟨g,0,none⟩) k0 l) (j:Nat) (hj:j≤l.length):OwnZ w base (some ⟨g,0,none⟩) k0 (l.take j):=by
 have e:zCells (l.take j)=(zCells l).take j:=by simp [zCells,List.map_take]
 have hl:(l.take j).length=j:=by rw [List.length_take];omega
 refine ⟨zCells_length _, ?_⟩;rcases h.2 with ⟨h1,_⟩ | ⟨g',cap,cur,h1,h2,h3,h4,h5,h6,h7⟩
 · cases h1
 · injection h1 with e1 e2 e3
   subst e3;refine .inr ⟨g',k0,cur,by rw [e1],h2,h3,by omega,h5,h6, ?_⟩;rw [hl,e,← h7,List.take_take,Nat.mul_one,Nat.mul_one,Nat.min_eq_left (by omega)]
theorem OwnB.here {w:World} {base k0:Nat} {a0:Option Addr} {l:List Bool} (h:OwnB w base a0 k0 l) (hl:0<l.length):∃ g,a0=some ⟨g,0,none⟩∧base≤g∧(∃ cs,w.heap[g]? = some (.cells cs 4))∧(∀ (j:Nat) (b:Bool),l[j]? = some b→w.cell? ⟨g,j,none⟩=some (.bool b))∧(∀ j,w.frozen? ⟨g,j,none⟩=false)∧∀ j,OwnB (w.setCell ⟨g,j,none⟩ (.bool true)) base a0 k0 (l.set j true):=by
 rcases h.2 with ⟨_,h2⟩ | ⟨g,cap,cur,h1,h2,h3,_⟩
 · omega
 · injection h1 with e1 e2 e3
   subst e1;subst e3;refine ⟨g,rfl,h2,⟨cur,h3⟩,fun j b hb=>?_,fun j=>World.ownsRow.frozenAt h j,fun j=>?_⟩
   · have hj:j<l.length:=(List.getElem?_eq_some_iff.1 hb).1
     rw [World.ownsRow.cellAt h j (by omega)];simp [boCells,hb]
   · have h4:=(World.ownsRow.stored h j (.bool true)).1
     unfold OwnB;rw [List.length_set,show boCells (l.set j true)=(boCells l).set j (.bool true) by simp [boCells,List.map_set]];exact h4
theorem OwnZ.head {w:World} {base k0:Nat} {a0:Option Addr} {l:List Int} (h:OwnZ w base a0 k0 l) (hl:1≤l.length):∃ g,a0=some ⟨g,0,none⟩∧l.length≤k0∧base≤g:=by
 rcases h.2 with ⟨_,h2⟩ | ⟨g,cap,cur,h1,h2,h3,h4,_⟩
 · omega
 · injection h1 with e1 e2 e3
   subst e1;subst e3;exact ⟨g,rfl,h4,h2⟩
set_option maxHeartbeats 800000 in
theorem guidesK_one (k p n:Int) (s:ByteArray) (w:World) (hk:k=1) :
  Calls Tryz.prog 103 #[.agg #[.int .i64 k,.int .i64 p,.int .i64 n,.string s]] w fun e w'=>(∃ b,e=.returned (.slice (some ⟨b,0,none⟩) 1 1)∧w.heap.size≤b∧w'.heap[b]? = some (.cells #[.int .i64 p] 3))∧Grew w w':=by
 subst hk;go_enter Tryz.func103,Tryz.ntmps103
 go_wp2_with fail
 have hh:=heap_new (w.alloc (.cells #[.int .i64 1,.int .i64 p,.int .i64 n,.string s] 51)) (.cells #[.int .i64 p] 3);rw [World.size_alloc] at hh;go_ret;exact ⟨⟨_,rfl,by simp [go_sem],hh⟩,gw0⟩
set_option maxHeartbeats 800000 in
theorem guidesK_two (k p n:Int) (s:ByteArray) (w:World) (hk:¬ k=1) (h1:1≤p) (h6:p≤6) :
  Calls Tryz.prog 103 #[.agg #[.int .i64 k,.int .i64 p,.int .i64 n,.string s]] w fun e w'=>(∃ b,e=.returned (.slice (some ⟨b,0,none⟩) 2 2)∧w.heap.size≤b∧w'.heap[b]? = some (.cells #[.int .i64 p,.int .i64 (p+1)] 3))∧Grew w w':=by
 have e1:(k==1)=false:=by simpa using hk
 clear hk;go_enter Tryz.func103,Tryz.ntmps103
 go_wp2_with fail
 have hh:=heap_new (w.alloc (.cells #[.int .i64 k,.int .i64 p,.int .i64 n,.string s] 51)) (.cells #[.int .i64 p,.int .i64 (p+1)] 3);rw [World.size_alloc] at hh;go_ret;exact ⟨⟨_,rfl,by simp [go_sem],hh⟩,gw0⟩
set_option maxRecDepth 100000 in
set_option maxHeartbeats 4000000 in
theorem drop_1 (B bt p at' bg:Nat) (I:List It) (S:List (It × Bool)) (y:It) (w W:World) (hS:S.length≤5000) (hp:p<7) (h:TidJ B bt I S W) (hat:S[at']? = some (y,true)) (t0:lastIx (onS (p:Int)) S=some at')
  (hoth:∀ q:Nat,q<7→q≠p→onB y q=false) (hbg:W.heap[bg]? = some (.cells #[.int .i64 p] 3)) (hw:Grew w W) (hB:w.heap.size≤B) (hbt:w.heap.size≤bt) :
  Calls Tryz.prog 118 #[.pointer (some ⟨bt,0,none⟩),.int .i64 at',.slice (some ⟨bg,0,none⟩) 1 1] W fun e W'=>(∃ v,e=.returned v)∧TidJ B bt I (S.set at' (y,false)) W'∧Grew w W':=by
 obtain ⟨aI,kI,aG,kG,a,k,h1,h2,h3,h4,h5⟩:=h.ex;have hlt:at'<S.length:=(List.getElem?_eq_some_iff.1 hat).1;have zt:=(Array.getElem?_eq_some_iff.1 h1).1;obtain ⟨bG,hbG,hbGB,⟨csG,hcG⟩,hcells,hfG,hsetG⟩:=h3.here (by simp;omega);subst hbG;have hne:bG≠bt:=by
  rintro rfl;rw [hcG] at h1;simp at h1
 have zG:=(Array.getElem?_eq_some_iff.1 hcG).1;have hngG:bg≠bG:=by
  rintro rfl;rw [hcG] at hbg;simp at hbg
 have hngt:bg≠bt:=by
  rintro rfl;rw [h1] at hbg;simp at hbg
 have zg:=(Array.getElem?_eq_some_iff.1 hbg).1;have g0:W.cell? ⟨bg,0,none⟩=some (.int .i64 p):=by simp [World.cell?,hbg]
 have cG:=hcells at' false (by simp [hat]);have c1:W.cell? ⟨bt,1,none⟩=some (.slice (some ⟨bG,0,none⟩) S.length kG):=by simp [World.cell?,h1,tdC]
 have ft:∀ j,W.frozen? ⟨bt,j,none⟩=false:=fun j=>by simp [World.frozen?,h1]
 obtain ⟨d0,l0⟩:=stk_drop t0 y;have c2:W.cell? ⟨bt,2+p,none⟩=some (.slice (a p) (stk S p).length (k p)):=by
  have e:=tdC_at (aI:=aI) (nI:=S.length) (kI:=kI) (aG:=some ⟨bG,0,none⟩) (nG:=S.length) (kG:=kG) (st:=fun g=>.slice (a g) (stk S g).length (k g)) (g:=p) (by omega);simp [World.cell?,h1,e]
 have o0:=h4 p (by omega);obtain ⟨x0,hx0,hc0,hx0B⟩:=o0.head l0;rw [hx0] at c2;have hb0:=stkO_length p S 0;obtain ⟨n0,hn0⟩:∃ n,(stk S p).length=n+1:=⟨(stk S p).length - 1,by omega⟩;rw [hn0] at c2 hc0;have hm0:n0≤5000:=by have:(stk S p).length≤S.length:=hb0;omega
 have HALL:=hid (And.intro h1 (And.intro h2 (And.intro h4 h5)));have HSET:=hid hsetG;have HG:=hid hcG;have HW:=hid hw;have HD:=hid (And.intro hat (And.intro hoth (And.intro hB hbt)));have zt1:=fun m0:Nat=>Nat.lt_add_right m0 (zt)
 have zt2:=fun m0 m1:Nat=>Nat.lt_add_right m1 (zt1 m0)
 have zt3:=fun m0 m1 m2:Nat=>Nat.lt_add_right m2 (zt2 m0 m1)
 have zG1:=fun m0:Nat=>Nat.lt_add_right m0 (zG)
 have zG2:=fun m0 m1:Nat=>Nat.lt_add_right m1 (zG1 m0)
 have zG3:=fun m0 m1 m2:Nat=>Nat.lt_add_right m2 (zG2 m0 m1)
 have zg1:=fun m0:Nat=>Nat.lt_add_right m0 (zg)
 have zg2:=fun m0 m1:Nat=>Nat.lt_add_right m1 (zg1 m0)
 have zg3:=fun m0 m1 m2:Nat=>Nat.lt_add_right m2 (zg2 m0 m1)
 clear hbg h h1 h2 h3 h4 h5 hat hcells hsetG hcG hw hoth hB hbt hb0;go_enter Tryz.func118,Tryz.ntmps118
 go_wp2_with fail
 refine wp_loop_rounds 2 ?_;simp only [rounds_succ];go_wp2_with fail
 refine R3.wp_region_gentle_tail 19 (by kernel_rfl) (by kernel_rfl) (by kernel_rfl) ?_;simp only [List.take_succ_cons,List.take_zero,List.drop_succ_cons,List.drop_zero];repeat (first | go_big_quiet_skip | (go_big_quiet_want;go_big_quiet_op;first | go_big_quiet_on | fail))
 refine wpQuiet_nil ?_;rintro _ ⟨gg,ng,rfl⟩;go_wp2_with fail
 simp only [rounds_succ];go_wp2_with fail
 go_end0
 obtain ⟨h1,h2,h4,h5⟩:=HALL.out;obtain ⟨hat,hoth,hB,hbt⟩:=HD.out;have s1:=(heap_setCell_other W ⟨bG,at',none⟩ bt (.bool true) (fun e=>hne e.symm)).trans h1;have s2:=heap_setCell_same _ bt (2+p) _ _ (.slice (some ⟨x0,0,none⟩) n0 (k p)) s1;simp only [List.setIfInBounds_toArray,tdC_set] at s2;have u1:=own_set h2 HG.out (by decide) at' (.bool true);have u2:=own_set u1 s1 (by decide) (2+p) (.slice (some ⟨x0,0,none⟩) n0 (k p));have v1:=HSET.out at';have v2:=own_set v1 s1 (by decide) (2+p) (.slice (some ⟨x0,0,none⟩) n0 (k p));have key:∀ g:Nat,g<7→g≠p→stk (S.set at' (y,false)) g=stk S g:=fun g hg hne=>stk_same hat (by unfold onS;rw [hoth g hg hne];rfl)
 have zs:∀ g,g<7→OwnZ ((W.setCell ⟨bG,at',none⟩ (.bool true)).setCell ⟨bt,2+p,none⟩ (.slice (some ⟨x0,0,none⟩) n0 (k p))) B (a g) (k g) (stk (S.set at' (y,false)) g):=fun g hg=>by
  have w1:=own_set (h4 g hg) HG.out (by decide) at' (.bool true);have w2:=own_set w1 s1 (by decide) (2+p) (.slice (some ⟨x0,0,none⟩) n0 (k p));by_cases hg0:g=p
  · subst hg0
    rw [d0,hn0];rw [hx0] at w2 ⊢;exact OwnZ.take w2 _ (by rw [hn0];omega)
  · rw [key g hg hg0]
    exact w2
 have hT:TidJ B bt I (S.set at' (y,false)) ((W.setCell ⟨bG,at',none⟩ (.bool true)).setCell ⟨bt,2+p,none⟩ (.slice (some ⟨x0,0,none⟩) n0 (k p))):=⟨aI,kI,some ⟨bG,0,none⟩,kG,a,k,by
  rw [List.length_set,tdC_congr (st':=fun i=>if i=p then (.slice (some ⟨x0,0,none⟩) n0 (k p)) else .slice (a i) (stk S i).length (k i)) ?_]
  · exact s2
  · intro g hg
    try dsimp only
    by_cases hg0:g=p
    · subst hg0
      rw [if_pos rfl,d0,hn0,hx0,List.length_take,hn0]
      congr 1
      omega
    · rw [if_neg hg0,key g hg hg0],u2,by rw [show (S.set at' (y,false)).map (fun s=>!s.2)=(S.map fun s=>!s.2).set at' true by rw [List.map_set];rfl];exact v2,zs,h5⟩
 exact ⟨⟨_,rfl⟩,hT.grew gw0,Grew.trans ((HW.out.set (Nat.le_trans hB hbGB) _ _).set hbt _ _) gw0⟩
set_option maxRecDepth 100000 in
set_option maxHeartbeats 4000000 in
theorem drop_2 (B bt p at' bg:Nat) (I:List It) (S:List (It × Bool)) (y:It) (w W:World) (hS:S.length≤5000) (hp:p+1<7) (h:TidJ B bt I S W) (hat:S[at']? = some (y,true)) (t0:lastIx (onS (p:Int)) S=some at') (t1:lastIx (onS ((p:Int)+1)) S=some at')
  (hoth:∀ q:Nat,q<7→q≠p→q≠p+1→onB y q=false) (hbg:W.heap[bg]? = some (.cells #[.int .i64 p,.int .i64 ((p:Int)+1)] 3)) (hw:Grew w W) (hB:w.heap.size≤B) (hbt:w.heap.size≤bt) :
  Calls Tryz.prog 118 #[.pointer (some ⟨bt,0,none⟩),.int .i64 at',.slice (some ⟨bg,0,none⟩) 2 2] W fun e W'=>(∃ v,e=.returned v)∧TidJ B bt I (S.set at' (y,false)) W'∧Grew w W':=by
 obtain ⟨aI,kI,aG,kG,a,k,h1,h2,h3,h4,h5⟩:=h.ex;have hlt:at'<S.length:=(List.getElem?_eq_some_iff.1 hat).1;have zt:=(Array.getElem?_eq_some_iff.1 h1).1;obtain ⟨bG,hbG,hbGB,⟨csG,hcG⟩,hcells,hfG,hsetG⟩:=h3.here (by simp;omega);subst hbG;have hne:bG≠bt:=by
  rintro rfl;rw [hcG] at h1;simp at h1
 have zG:=(Array.getElem?_eq_some_iff.1 hcG).1;have hngG:bg≠bG:=by
  rintro rfl;rw [hcG] at hbg;simp at hbg
 have hngt:bg≠bt:=by
  rintro rfl;rw [h1] at hbg;simp at hbg
 have zg:=(Array.getElem?_eq_some_iff.1 hbg).1;have g0:W.cell? ⟨bg,0,none⟩=some (.int .i64 p):=by simp [World.cell?,hbg]
 have g1:W.cell? ⟨bg,1,none⟩=some (.int .i64 ((p:Int)+1)):=by simp [World.cell?,hbg]
 have cG:=hcells at' false (by simp [hat]);have c1:W.cell? ⟨bt,1,none⟩=some (.slice (some ⟨bG,0,none⟩) S.length kG):=by simp [World.cell?,h1,tdC]
 have ft:∀ j,W.frozen? ⟨bt,j,none⟩=false:=fun j=>by simp [World.frozen?,h1]
 obtain ⟨d0,l0⟩:=stk_drop t0 y;have c2:W.cell? ⟨bt,2+p,none⟩=some (.slice (a p) (stk S p).length (k p)):=by
  have e:=tdC_at (aI:=aI) (nI:=S.length) (kI:=kI) (aG:=some ⟨bG,0,none⟩) (nG:=S.length) (kG:=kG) (st:=fun g=>.slice (a g) (stk S g).length (k g)) (g:=p) (by omega);simp [World.cell?,h1,e]
 have o0:=h4 p (by omega);obtain ⟨x0,hx0,hc0,hx0B⟩:=o0.head l0;rw [hx0] at c2;have hb0:=stkO_length p S 0;obtain ⟨n0,hn0⟩:∃ n,(stk S p).length=n+1:=⟨(stk S p).length - 1,by omega⟩;rw [hn0] at c2 hc0;have hm0:n0≤5000:=by have:(stk S p).length≤S.length:=hb0;omega
 obtain ⟨d1,l1⟩:=stk_drop t1 y;have c3:W.cell? ⟨bt,2+(p+1),none⟩=some (.slice (a (p+1)) (stk S (p+1)).length (k (p+1))):=by
  have e:=tdC_at (aI:=aI) (nI:=S.length) (kI:=kI) (aG:=some ⟨bG,0,none⟩) (nG:=S.length) (kG:=kG) (st:=fun g=>.slice (a g) (stk S g).length (k g)) (g:=(p+1)) (by omega);simp [World.cell?,h1,e]
 have o1:=h4 (p+1) (by omega);try rw [show (((p+1:Nat):Int))=(p:Int)+1 by omega] at o1
 obtain ⟨x1,hx1,hc1,hx1B⟩:=o1.head l1;rw [hx1] at c3;have hb1:=stkO_length ((p:Int)+1) S 0;obtain ⟨n1,hn1⟩:∃ n,(stk S ((p:Int)+1)).length=n+1:=⟨(stk S ((p:Int)+1)).length - 1,by omega⟩;rw [hn1] at c3 hc1;have hm1:n1≤5000:=by have:(stk S ((p:Int)+1)).length≤S.length:=hb1;omega
 have HALL:=hid (And.intro h1 (And.intro h2 (And.intro h4 h5)));have HSET:=hid hsetG;have HG:=hid hcG;have HW:=hid hw;have HD:=hid (And.intro hat (And.intro hoth (And.intro hB hbt)));have zt1:=fun m0:Nat=>Nat.lt_add_right m0 (zt)
 have zt2:=fun m0 m1:Nat=>Nat.lt_add_right m1 (zt1 m0)
 have zt3:=fun m0 m1 m2:Nat=>Nat.lt_add_right m2 (zt2 m0 m1)
 have zG1:=fun m0:Nat=>Nat.lt_add_right m0 (zG)
 have zG2:=fun m0 m1:Nat=>Nat.lt_add_right m1 (zG1 m0)
 have zG3:=fun m0 m1 m2:Nat=>Nat.lt_add_right m2 (zG2 m0 m1)
 have zg1:=fun m0:Nat=>Nat.lt_add_right m0 (zg)
 have zg2:=fun m0 m1:Nat=>Nat.lt_add_right m1 (zg1 m0)
 have zg3:=fun m0 m1 m2:Nat=>Nat.lt_add_right m2 (zg2 m0 m1)
 clear hbg h h1 h2 h3 h4 h5 hat hcells hsetG hcG hw hoth hB hbt hb0 hb1;go_enter Tryz.func118,Tryz.ntmps118
 go_wp2_with fail
 refine wp_loop_rounds 3 ?_;simp only [rounds_succ];go_wp2_with fail
 refine R3.wp_region_gentle_tail 19 (by kernel_rfl) (by kernel_rfl) (by kernel_rfl) ?_;simp only [List.take_succ_cons,List.take_zero,List.drop_succ_cons,List.drop_zero];repeat (first | go_big_quiet_skip | (go_big_quiet_want;go_big_quiet_op;first | go_big_quiet_on | fail))
 refine wpQuiet_nil ?_;rintro _ ⟨gg,ng,rfl⟩;go_wp2_with fail
 simp only [rounds_succ];go_wp2_with fail
 refine R3.wp_region_gentle_tail 19 (by kernel_rfl) (by kernel_rfl) (by kernel_rfl) ?_;simp only [List.take_succ_cons,List.take_zero,List.drop_succ_cons,List.drop_zero];repeat (first | go_big_quiet_skip | (go_big_quiet_want;go_big_quiet_op;first | go_big_quiet_on | fail))
 refine wpQuiet_nil ?_;rintro _ ⟨gg,ng,rfl⟩;go_wp2_with fail
 simp only [rounds_succ];go_wp2_with fail
 go_end0
 obtain ⟨h1,h2,h4,h5⟩:=HALL.out;obtain ⟨hat,hoth,hB,hbt⟩:=HD.out;have s1:=(heap_setCell_other W ⟨bG,at',none⟩ bt (.bool true) (fun e=>hne e.symm)).trans h1;have s2:=heap_setCell_same _ bt (2+p) _ _ (.slice (some ⟨x0,0,none⟩) n0 (k p)) s1;have s3:=heap_setCell_same _ bt (2+(p+1)) _ _ (.slice (some ⟨x1,0,none⟩) n1 (k (p+1))) s2;simp only [List.setIfInBounds_toArray,tdC_set] at s3;have u1:=own_set h2 HG.out (by decide) at' (.bool true);have u2:=own_set u1 s1 (by decide) (2+p) (.slice (some ⟨x0,0,none⟩) n0 (k p));have v1:=HSET.out at';have v2:=own_set v1 s1 (by decide) (2+p) (.slice (some ⟨x0,0,none⟩) n0 (k p));have u3:=own_set u2 s2 (by decide) (2+(p+1)) (.slice (some ⟨x1,0,none⟩) n1 (k (p+1)));have v3:=own_set v2 s2 (by decide) (2+(p+1)) (.slice (some ⟨x1,0,none⟩) n1 (k (p+1)));have key:∀ g:Nat,g<7→g≠p→g≠p+1→stk (S.set at' (y,false)) g=stk S g:=fun g hg hne hne2=>stk_same hat (by unfold onS;rw [hoth g hg hne hne2];rfl)
 have zs:∀ g,g<7→OwnZ (((W.setCell ⟨bG,at',none⟩ (.bool true)).setCell ⟨bt,2+p,none⟩ (.slice (some ⟨x0,0,none⟩) n0 (k p))).setCell ⟨bt,2+(p+1),none⟩ (.slice (some ⟨x1,0,none⟩) n1 (k (p+1)))) B (a g) (k g) (stk (S.set at' (y,false)) g):=fun g hg=>by
  have w1:=own_set (h4 g hg) HG.out (by decide) at' (.bool true);have w2:=own_set w1 s1 (by decide) (2+p) (.slice (some ⟨x0,0,none⟩) n0 (k p));have w3:=own_set w2 s2 (by decide) (2+(p+1)) (.slice (some ⟨x1,0,none⟩) n1 (k (p+1)));by_cases hg0:g=p
  · subst hg0
    rw [d0,hn0];rw [hx0] at w3 ⊢;exact OwnZ.take w3 _ (by rw [hn0];omega)
  by_cases hg1:g=p+1
  · subst hg1
    rw [show (((p+1:Nat):Int))=(p:Int)+1 by omega] at w3 ⊢;rw [d1,hn1];rw [hx1] at w3 ⊢;exact OwnZ.take w3 _ (by rw [hn1];omega)
  · rw [key g hg hg0 hg1]
    exact w3
 have hT:TidJ B bt I (S.set at' (y,false)) (((W.setCell ⟨bG,at',none⟩ (.bool true)).setCell ⟨bt,2+p,none⟩ (.slice (some ⟨x0,0,none⟩) n0 (k p))).setCell ⟨bt,2+(p+1),none⟩ (.slice (some ⟨x1,0,none⟩) n1 (k (p+1)))):=⟨aI,kI,some ⟨bG,0,none⟩,kG,a,k,by
  rw [List.length_set,tdC_congr (st':=fun i=>if i=p+1 then (.slice (some ⟨x1,0,none⟩) n1 (k (p+1))) else if i=p then (.slice (some ⟨x0,0,none⟩) n0 (k p)) else .slice (a i) (stk S i).length (k i)) ?_]
  · exact s3
  · intro g hg
    try dsimp only
    by_cases hg1:g=p+1
    · subst hg1
      rw [if_pos rfl,show (((p+1:Nat):Int))=(p:Int)+1 by omega,d1,hn1,hx1,List.length_take,hn1]
      congr 1
      omega
    rw [if_neg hg1];by_cases hg0:g=p
    · subst hg0
      rw [if_pos rfl,d0,hn0,hx0,List.length_take,hn0]
      congr 1
      omega
    · rw [if_neg hg0,key g hg hg0 hg1],u3,by rw [show (S.set at' (y,false)).map (fun s=>!s.2)=(S.map fun s=>!s.2).set at' true by rw [List.map_set];rfl];exact v3,zs,h5⟩
 exact ⟨⟨_,rfl⟩,hT.grew gw0,Grew.trans (((HW.out.set (Nat.le_trans hB hbGB) _ _).set hbt _ _).set hbt _ _) gw0⟩
end Go.Proofs.YtchdmecjhaanfaaGreatDoor
