import Derived.Test.YtchdmecjhaanfaaGreatDoorTidG
namespace Go.Proofs.YtchdmecjhaanfaaGreatDoor
open Go Go.RowKit Amp Msh
set_option maxRecDepth 100000 in
set_option maxHeartbeats 4000000 in
theorem put_cross2 (B bt p:Nat) (y:It) (q:Nat) (nn:Int) (nm:ByteArray) (S:List (It × Bool)) (w W:World) (hS:S.length≤4000) (hp1:1≤p) (hp:p+1<7) (h:TidB B bt S W) (hat:S[q]? = some (y,true)) (ht:lastIx (onS (p:Int)) S=some q) (ek:y.kind=3) (ep:y.pos=p) (he5:(topI S ((p+1:Nat):Int)==(q:Int))=false)
  (hon:∀ g:Nat,g<7→onB ⟨3,p,nn,nm⟩ g=(decide (g=p)||decide (g=p+1))) (hw:Grew w W) (hB:w.heap.size≤B) (hBW:B≤W.heap.size) (hbt:w.heap.size≤bt) :
  Calls Tryz.prog 70 #[.pointer (some ⟨bt,0,none⟩),.agg #[.int .i64 3,.int .i64 p,.int .i64 nn,.string nm]] W fun e W'=>(∃ v,e=.returned v)∧TidB B bt (S++[((⟨3,p,nn,nm⟩:It),true)]) W'∧Grew w W':=by
 have hlt:q<S.length:=(List.getElem?_eq_some_iff.1 hat).1;have HT:=hid h;have HG:=hid fun w'=>guidesK_two 3 p nn nm w' (by decide) (by omega) (by omega)
 have htp:topI S p=q:=by unfold topI;rw [ht]
 have HTOP:=hid fun W' (hg:Grew W W')=>top_any B bt p _ S W' (by omega) (by omega) (h.grew hg)
 rw [htp] at HTOP;clear htp;obtain ⟨T1,hT1⟩:∃ t,topI S ((p+1:Nat):Int)=t:=⟨_,rfl⟩;have e5:(T1==(q:Int))=false:=by rw [← hT1];exact he5
 have HTOP1:=hid fun W' (hg:Grew W W')=>top_any B bt (p+1) _ S W' (by omega) (by omega) (h.grew hg)
 rw [hT1,show (((p+1:Nat):Int))=(p:Int)+1 by omega] at HTOP1;clear hT1 he5;have HON:=hid hon;have HBw:=hid hB;have HBT:=hid hbt;have HW:=hid hw;have HD:=hid hat;clear h hon hB hw hbt hat ht;go_enter Tryz.func70,Tryz.ntmps70
 go_wp2_with fail
 refine (HG.out _).mono ?_;rintro e W1 ⟨⟨bg,rfl,hgb,hbg⟩,hg1⟩;have hgW:Grew W W1:=Grew.trans gw0 hg1;have h3:W1.heap[W.heap.size]? = some (.cells #[.int .i64 3,.int .i64 p,.int .i64 nn,.string nm] 51):=(hg1.block _ (by simp)).trans (heap_new _ _);have hgb:W.heap.size<bg:=by have:=hgb;simp at this;omega
 obtain ⟨b3,hb3⟩:∃ b3,b3=W.heap.size:=⟨_,rfl⟩;rw [← hb3] at h3 ⊢;have zg:=(Array.getElem?_eq_some_iff.1 hbg).1;have z3:=(Array.getElem?_eq_some_iff.1 h3).1;have g0:W1.cell? ⟨bg,0,none⟩=some (.int .i64 p):=by simp [World.cell?,hbg]
 have g1:W1.cell? ⟨bg,1,none⟩=some (.int .i64 ((p:Int)+1)):=by simp [World.cell?,hbg]
 have k0:W1.cell? ⟨b3,0,none⟩=some (.int .i64 3):=by simp [World.cell?,h3]
 have k1:W1.cell? ⟨b3,1,none⟩=some (.int .i64 p):=by simp [World.cell?,h3]
 have k2:W1.cell? ⟨b3,2,none⟩=some (.int .i64 nn):=by simp [World.cell?,h3]
 have k3:W1.cell? ⟨b3,3,none⟩=some (.string nm):=by simp [World.cell?,h3]
 obtain ⟨aI0,kI0,aG0,kG0,a00,k00,h1,h2,h4,h5,h6⟩:=HT.out.ex;obtain ⟨bI,hbI,hbIB,zI0,_⟩:=h2.here (by intro e;rw [List.map_eq_nil_iff] at e;rw [e] at hlt;simp at hlt);subst hbI;have h1:=(hgW.block bt (Array.getElem?_eq_some_iff.1 h1).1).trans h1;have h2:=h2.grew hgW;have zI:=Nat.lt_of_lt_of_le zI0 hgW.size;obtain ⟨b',off',hbb,hb',c0,c1,c2,c3⟩:=(OwnI.its h2).cells (i:=q) (z:=y) (by simp [HD.out]);cases hbb;simp only [Nat.zero_add] at c0 c1 c2 c3;rw [ek] at c0;rw [ep] at c1;have t0:W1.cell? ⟨bt,0,none⟩=some (.slice (some ⟨bI,0,none⟩) S.length kI0):=by simp [World.cell?,h1,tdC]
 have zt:=(Array.getElem?_eq_some_iff.1 h1).1;have zt1:=fun m0:Nat=>Nat.lt_add_right m0 (zt)
 have zt2:=fun m0 m1:Nat=>Nat.lt_add_right m1 (zt1 m0)
 have zt3:=fun m0 m1 m2:Nat=>Nat.lt_add_right m2 (zt2 m0 m1)
 have zI1:=fun m0:Nat=>Nat.lt_add_right m0 (zI)
 have zI2:=fun m0 m1:Nat=>Nat.lt_add_right m1 (zI1 m0)
 have zI3:=fun m0 m1 m2:Nat=>Nat.lt_add_right m2 (zI2 m0 m1)
 clear h1 h2 h4 h5 h6 zI0 hbIB hb';have HGW:=hid hgW;have HBG:=hid (And.intro hgb (And.intro hbg (And.intro hb3 h3)));have zg1:=fun m0:Nat=>Nat.lt_add_right m0 (zg)
 have zg2:=fun m0 m1:Nat=>Nat.lt_add_right m1 (zg1 m0)
 have zg3:=fun m0 m1 m2:Nat=>Nat.lt_add_right m2 (zg2 m0 m1)
 have z31:=fun m0:Nat=>Nat.lt_add_right m0 (z3)
 have z32:=fun m0 m1:Nat=>Nat.lt_add_right m1 (z31 m0)
 have z33:=fun m0 m1 m2:Nat=>Nat.lt_add_right m2 (z32 m0 m1)
 clear hgW hg1 hbg h3 hgb hb3 HG;go_wp2_with fail
 refine (HTOP.out _ (HGW.out.trans gw0)).mono ?_;rintro e w' ⟨rfl,g2,m2,rfl⟩;go_wp2_with fail
 refine wp_region_gentle_lit (by kernel_rfl) (by kernel_rfl) ?_;repeat (first | go_big_quiet_skip | (go_big_quiet_want;go_big_quiet_op;first | go_big_quiet_on | fail))
 refine wpQuiet_nil ?_;rintro _ ⟨gg,ng,rfl⟩;go_wp2_with fail
 refine (HTOP1.out _ (HGW.out.trans gw0)).mono ?_;rintro e w' ⟨rfl,g5,m5,rfl⟩;go_wp2_with fail
 clear HTOP1;refine any_world (W:=W1) gw0 ?_;intro wL0 hgL;obtain ⟨hgb,hbg,hb3,h3⟩:=HBG.out;obtain ⟨x,hx⟩:∃ x:It,x=⟨3,p,nn,nm⟩:=⟨_,rfl⟩;obtain ⟨H,hH⟩:∃ H:List (Nat × Obj),H=[(b3,.cells (itCells x).toArray 51),(bg,.cells #[.int .i64 p,.int .i64 ((p:Int)+1)] 3)]:=⟨_,rfl⟩;have hT0:=HT.out.toP hBW (HGW.out.trans hgL) H (fun y hy=>by
  rw [hH] at hy;rcases List.mem_cons.1 hy with rfl | hy
  · exact ⟨by rw [hb3];exact Nat.le_refl _,(hgL.block b3 z3).trans (by rw [hx];exact h3)⟩
  · rw [List.mem_singleton] at hy
    subst hy;exact ⟨Nat.le_of_lt hgb,(hgL.block bg zg).trans hbg⟩)
 have HH3:=hid (show (b3,(.cells (itCells x).toArray 51:Obj))∈H by rw [hH];simp);have HHg:=hid (show (bg,(.cells #[.int .i64 p,.int .i64 ((p:Int)+1)] 3:Obj))∈H by rw [hH];simp);have HGL0:=hid (HW.out.trans (HGW.out.trans hgL));obtain ⟨I0,hI0⟩:∃ I,I=S.map Prod.fst:=⟨_,rfl⟩;obtain ⟨G0,hG0⟩:∃ G,G=S.map fun s=>!s.2:=⟨_,rfl⟩
 obtain ⟨Z0,hZ0⟩:∃ Z:Nat→List Int,Z=fun g:Nat=>stk S (g:Int):=⟨_,rfl⟩
 have lI:I0.length≤5000:=by rw [hI0,List.length_map];omega
 have lG:G0.length≤5000:=by rw [hG0,List.length_map];omega
 have lZ0:(Z0 p).length≤5000:=by rw [hZ0];exact Nat.le_trans (stkO_length _ _ _) (by omega)
 have lZp:(Z0 (p+1)).length≤5000:=by rw [hZ0];exact Nat.le_trans (stkO_length _ _ _) (by omega)
 rw [← hI0,← hG0,← hZ0] at hT0;have HT0:=hid hT0;have HI0:=hid hI0;have HG0:=hid hG0;have HZ0:=hid hZ0;have HX:=hid hx;clear hT0 hI0 hG0 hZ0 hH hx hgb hbg hb3 h3 hgL HBG HT HTOP HGW HW g0 k0 k1 k2 k3 zg zg1 zg2 zg3 z3 z31 z32 z33 g1 t0 zt zt1 zt2 zt3 zI zI1 zI2 zI3 c0 c1 c2 c3 HD;refine wp_loop_rounds 3 ?_;obtain ⟨aI,kI,aG,kG,a,k,hP⟩:=HT0.out;have HR:=hid (hP.rest (p:=p) (by omega) HGL0.out False);have hgd:wL0.cell? ⟨bg,0,none⟩=some (.int .i64 (p:Int)):=by simp [World.cell?,(hP.held _ HHg.out).1]
 have zgd:bg<wL0.heap.size:=(Array.getElem?_eq_some_iff.1 (hP.held _ HHg.out).1).1;obtain ⟨Zn0,hZn0⟩:∃ l,l=Z0 p++[(I0.length:Int)]:=⟨_,rfl⟩;have HZn0:=hid hZn0;clear hP hZn0;simp only [rounds_succ];go_wp2_with fail
 refine R4.wp_region_slotsC 17 (fun ix vs W=>match ix with | 0=>vs 0=.pointer (some ⟨bt,0,none⟩) | 1=>vs 1=.int .i64 (p:Int) | 2=>vs 2=.pointer (some ⟨bt,0,none⟩) | 3=>vs 3=.int .i64 (p:Int) | 4=>vs 4=.pointer (some ⟨bt,0,none⟩) | 5=>vs 5=.pointer (some ⟨bt,2,none⟩) | 6=>vs 6=.pointer (some ⟨bt,2+p,none⟩) | 7=>vs 7=.slice (a p) (Z0 p).length (k p) | 8=>vs 8=.pointer (some ⟨bt,0,none⟩) | 9=>vs 9=.pointer (some ⟨bt,0,none⟩) | 10=>vs 10=.pointer (some ⟨bt,0,none⟩) | 11=>vs 11=.slice aI I0.length kI | 12=>vs 12=.int .i64 I0.length | 13=>LitB #[.int .i64 I0.length] 3 wL0.heap.size (vs 13) W | 14=>NewZ B p H a Zn0 (vs 14) W | 15=>vs 15=.pointer (some ⟨bt,0,none⟩) | 16=>vs 16=.pointer (some ⟨bt,2,none⟩) | _=>True) (fun L W=>ClsZ w wL0.heap.size H B bt p I0 G0 Z0 aI kI aG kG a k L W) (by kernel_rfl) (by kernel_rfl) ?slst ?sldep (HR.out.grows (Grew.refl _).drew) ?slop ?slq
 case slst =>
  exact k4_
 case sldep =>
  exact k5_
 case slop =>
  exact k6_
 case slq =>
  intro vs Wj hC hn;have hn0:=hn 0 (by decide) (by decide);have hn1:=hn 1 (by decide) (by decide);have hn2:=hn 2 (by decide) (by decide);have hn3:=hn 3 (by decide) (by decide);have hn4:=hn 4 (by decide) (by decide);have hn5:=hn 5 (by decide) (by decide);have hn6:=hn 6 (by decide) (by decide);have hn7:=hn 7 (by decide) (by decide);have hn8:=hn 8 (by decide) (by decide);have hn9:=hn 9 (by decide) (by decide);have hn10:=hn 10 (by decide) (by decide);have hn11:=hn 11 (by decide) (by decide);have hn12:=hn 12 (by decide) (by decide);have hn13:=hn 13 (by decide) (by decide);have hn14:=hn 14 (by decide) (by decide);have hn15:=hn 15 (by decide) (by decide);have hn16:=hn 16 (by decide) (by decide);change wpList _ _ _ _ (Act.put (Act.put (Act.put (Act.put (Act.put (Act.put (Act.put (Act.put (Act.put (Act.put (Act.put (Act.put (Act.put (Act.put (Act.put (Act.put (Act.put _ (some 102) (vs 0)) (some 103) (vs 1)) (some 104) (vs 2)) (some 105) (vs 3)) (some 106) (vs 4)) (some 107) (vs 5)) (some 108) (vs 6)) (some 109) (vs 7)) (some 110) (vs 8)) (some 111) (vs 9)) (some 112) (vs 10)) (some 113) (vs 11)) (some 114) (vs 12)) (some 115) (vs 13)) (some 116) (vs 14)) (some 117) (vs 15)) (some 118) (vs 16)) _;rw [hn0,hn1,hn2,hn3,hn4,hn5,hn6,hn7,hn8,hn9,hn10,hn11,hn12,hn15,hn16];clear hn hn0 hn1 hn2 hn3 hn4 hn5 hn6 hn7 hn8 hn9 hn10 hn11 hn12 hn15 hn16;simp only [Act.put,List.setIfInBounds_toArray,List.set_cons_zero,List.set_cons_succ,List.drop_succ_cons,List.drop_zero];obtain ⟨a2,k2,e14,hN2⟩:=hn14;rw [e14];clear hn13;have hNZ:NewZ B p H a Zn0 (.slice a2 Zn0.length k2) Wj:=⟨a2,k2,rfl,hN2⟩;have hGj:Grew w (Wj.setCell ⟨bt,2+p,none⟩ (.slice a2 Zn0.length k2)):=hC.grew.set HBT.out _ _;have hTj:=hC.close hNZ;have zt:=(Array.getElem?_eq_some_iff.1 hC.blk).1;have ft:∀ j,Wj.frozen? ⟨bt,j,none⟩=false:=fun j=>by simp [World.frozen?,hC.blk]
  have cP:Wj.cell? ⟨bt,2+p,none⟩=some (.slice (a p) (Z0 p).length (k p)):=by
   exact k74_
  have HTj:=hid hTj;have HGj:=hid hGj;clear hC hNZ hN2 hGj hTj e14 HR hgd zgd;go_wp2_with fail
  obtain ⟨wL1,hW1⟩:∃ W',W'=Wj.setCell ⟨bt,2+p,none⟩ (.slice a2 Zn0.length k2):=⟨_,rfl⟩;rw [← hW1] at HTj HGj;obtain ⟨Z1,hZo⟩:∃ Z,Z=fun g=>if g=p then Zn0 else Z0 g:=⟨_,rfl⟩
  rw [← hZo] at HTj;have HZ1:=hid hZo;have HT1:=hid HTj.out;have HGL1:=hid HGj.out;rw [← hW1];clear hW1 hZo HTj HGj zt ft cP;have lZ1:(Z1 (p+1)).length≤5000:=by rw [HZ1.out];dsimp only;rw [if_neg (by omega)];exact lZp
  obtain ⟨aI,kI,aG,kG,a,k,hP⟩:=HT1.out;have HR:=hid (hP.rest (p:=(p+1)) (by omega) HGL1.out False);have hgd:wL1.cell? ⟨bg,1,none⟩=some (.int .i64 ((p:Int)+1)):=by simp [World.cell?,(hP.held _ HHg.out).1]
  have zgd:bg<wL1.heap.size:=(Array.getElem?_eq_some_iff.1 (hP.held _ HHg.out).1).1;obtain ⟨Zn1,hZn1⟩:∃ l,l=Z1 (p+1)++[(I0.length:Int)]:=⟨_,rfl⟩;have HZn1:=hid hZn1;clear hP hZn1;simp only [rounds_succ];go_wp2_with fail
  refine R4.wp_region_slotsC 17 (fun ix vs W=>match ix with | 0=>vs 0=.pointer (some ⟨bt,0,none⟩) | 1=>vs 1=.int .i64 ((p:Int)+1) | 2=>vs 2=.pointer (some ⟨bt,0,none⟩) | 3=>vs 3=.int .i64 ((p:Int)+1) | 4=>vs 4=.pointer (some ⟨bt,0,none⟩) | 5=>vs 5=.pointer (some ⟨bt,2,none⟩) | 6=>vs 6=.pointer (some ⟨bt,2+(p+1),none⟩) | 7=>vs 7=.slice (a (p+1)) (Z1 (p+1)).length (k (p+1)) | 8=>vs 8=.pointer (some ⟨bt,0,none⟩) | 9=>vs 9=.pointer (some ⟨bt,0,none⟩) | 10=>vs 10=.pointer (some ⟨bt,0,none⟩) | 11=>vs 11=.slice aI I0.length kI | 12=>vs 12=.int .i64 I0.length | 13=>LitB #[.int .i64 I0.length] 3 wL1.heap.size (vs 13) W | 14=>NewZ B (p+1) H a Zn1 (vs 14) W | 15=>vs 15=.pointer (some ⟨bt,0,none⟩) | 16=>vs 16=.pointer (some ⟨bt,2,none⟩) | _=>True) (fun L W=>ClsZ w wL1.heap.size H B bt (p+1) I0 G0 Z1 aI kI aG kG a k L W) (by kernel_rfl) (by kernel_rfl) ?slst ?sldep (HR.out.grows (Grew.refl _).drew) ?slop ?slq
  case slst =>
   exact k4_
  case sldep =>
   exact k10_
  case slop =>
   exact k11_
  case slq =>
   intro vs Wj hC hn;have hn0:=hn 0 (by decide) (by decide);have hn1:=hn 1 (by decide) (by decide);have hn2:=hn 2 (by decide) (by decide);have hn3:=hn 3 (by decide) (by decide);have hn4:=hn 4 (by decide) (by decide);have hn5:=hn 5 (by decide) (by decide);have hn6:=hn 6 (by decide) (by decide);have hn7:=hn 7 (by decide) (by decide);have hn8:=hn 8 (by decide) (by decide);have hn9:=hn 9 (by decide) (by decide);have hn10:=hn 10 (by decide) (by decide);have hn11:=hn 11 (by decide) (by decide);have hn12:=hn 12 (by decide) (by decide);have hn13:=hn 13 (by decide) (by decide);have hn14:=hn 14 (by decide) (by decide);have hn15:=hn 15 (by decide) (by decide);have hn16:=hn 16 (by decide) (by decide);change wpList _ _ _ _ (Act.put (Act.put (Act.put (Act.put (Act.put (Act.put (Act.put (Act.put (Act.put (Act.put (Act.put (Act.put (Act.put (Act.put (Act.put (Act.put (Act.put _ (some 102) (vs 0)) (some 103) (vs 1)) (some 104) (vs 2)) (some 105) (vs 3)) (some 106) (vs 4)) (some 107) (vs 5)) (some 108) (vs 6)) (some 109) (vs 7)) (some 110) (vs 8)) (some 111) (vs 9)) (some 112) (vs 10)) (some 113) (vs 11)) (some 114) (vs 12)) (some 115) (vs 13)) (some 116) (vs 14)) (some 117) (vs 15)) (some 118) (vs 16)) _;rw [hn0,hn1,hn2,hn3,hn4,hn5,hn6,hn7,hn8,hn9,hn10,hn11,hn12,hn15,hn16];clear hn hn0 hn1 hn2 hn3 hn4 hn5 hn6 hn7 hn8 hn9 hn10 hn11 hn12 hn15 hn16;simp only [Act.put,List.setIfInBounds_toArray,List.set_cons_zero,List.set_cons_succ,List.drop_succ_cons,List.drop_zero];obtain ⟨a2,k2,e14,hN2⟩:=hn14;rw [e14];clear hn13;have hNZ:NewZ B (p+1) H a Zn1 (.slice a2 Zn1.length k2) Wj:=⟨a2,k2,rfl,hN2⟩;have hGj:Grew w (Wj.setCell ⟨bt,2+(p+1),none⟩ (.slice a2 Zn1.length k2)):=hC.grew.set HBT.out _ _;have hTj:=hC.close hNZ;have zt:=(Array.getElem?_eq_some_iff.1 hC.blk).1;have ft:∀ j,Wj.frozen? ⟨bt,j,none⟩=false:=fun j=>by simp [World.frozen?,hC.blk]
   have cP:Wj.cell? ⟨bt,2+(p+1),none⟩=some (.slice (a (p+1)) (Z1 (p+1)).length (k (p+1))):=by
    exact k80_
   have HTj:=hid hTj;have HGj:=hid hGj;clear hC hNZ hN2 hGj hTj e14 HR hgd zgd;go_wp2_with fail
   obtain ⟨wL2,hW2⟩:∃ W',W'=Wj.setCell ⟨bt,2+(p+1),none⟩ (.slice a2 Zn1.length k2):=⟨_,rfl⟩;rw [← hW2] at HTj HGj;obtain ⟨Z2,hZo⟩:∃ Z,Z=fun g=>if g=(p+1) then Zn1 else Z1 g:=⟨_,rfl⟩
   rw [← hZo] at HTj;have HZ2:=hid hZo;have HT2:=hid HTj.out;have HGL2:=hid HGj.out;rw [← hW2];clear hW2 hZo HTj HGj zt ft cP;obtain ⟨aI,kI,aG,kG,a,k,hP⟩:=HT2.out;obtain ⟨hF,hR⟩:=hP.restF (b3:=b3) (x:=x) HH3.out HGL2.out HBw.out HBT.out;have HF:=hid hF;have HR:=hid (hR False False False);clear hP hF hR;simp only [rounds_succ];go_wp2_with fail
   refine R4.wp_region_slotsC 18 (fun ix vs W=>match ix with | 0=>vs 0=.pointer (some ⟨bt,0,none⟩) | 1=>vs 1=.pointer (some ⟨bt,0,none⟩) | 2=>vs 2=.pointer (some ⟨bt,0,none⟩) | 3=>vs 3=.pointer (some ⟨bt,0,none⟩) | 4=>vs 4=.pointer (some ⟨bt,0,none⟩) | 5=>vs 5=.slice aI I0.length kI | 6=>vs 6=.agg #[.int .i64 x.kind,.int .i64 x.pos,.int .i64 x.n,.string x.name] | 7=>LitB (itCells x).toArray 51 wL2.heap.size (vs 7) W | 8=>NewI B (I0++[x]) (vs 8) W | 9=>vs 9=.pointer (some ⟨bt,0,none⟩) | 10=>vs 10=.pointer (some ⟨bt,0,none⟩) | 11=>vs 11=.pointer (some ⟨bt,1,none⟩) | 12=>vs 12=.slice aG G0.length kG | 13=>LitB #[.bool false] 4 wL2.heap.size (vs 13) W | 14=>NewB B (G0++[false]) (vs 14) W | 15=>vs 15=.pointer (some ⟨bt,0,none⟩) | 16=>vs 16=.pointer (some ⟨bt,0,none⟩) | 17=>StI x bt I0 G0 Z2 aG kG a k (vs 8) W | _=>True) (fun L W=>ClsF w wL2.heap.size b3 x B bt I0 G0 Z2 aI kI aG kG a k L W) (by kernel_rfl) (by kernel_rfl) ?slst ?sldep (HR.out.grows HF.out.sb (Grew.refl _).drew) ?slop ?slq
   case slst =>
    exact k7_
   case sldep =>
    exact k12_
   case slop =>
    exact k13_
   case slq =>
    exact k54_
end Go.Proofs.YtchdmecjhaanfaaGreatDoor
