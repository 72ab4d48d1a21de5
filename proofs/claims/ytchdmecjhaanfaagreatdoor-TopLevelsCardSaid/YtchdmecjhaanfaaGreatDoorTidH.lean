import Derived.Test.YtchdmecjhaanfaaGreatDoorTidG
namespace Go.Proofs.YtchdmecjhaanfaaGreatDoor
open Go Go.RowKit Amp Msh
theorem _root_.k9_ {p:Prop} (h:p:=by
 intro ix o hix ho vs W L hg hL hn hall hdown;match ix,hix,ho,hL with
 | 0, _, ho, _ =>
   obtain rfl:=Option.some.inj ho;change R4.Oper.slotAt _ _ { tmps:=_,defers:=_ } _ _;go_simp;exact ⟨ClsF.keep hg HF.out.sb (Grew.refl _),R4.upd_same _ _ _,.inl (Grew.refl _)⟩
 | 1, _, ho, _ =>
   obtain rfl:=Option.some.inj ho;change R4.Oper.slotAt _ _ { tmps:=_,defers:=_ } _ _;go_simp;exact ⟨ClsF.keep hg HF.out.sb (Grew.refl _),R4.upd_same _ _ _,.inl (Grew.refl _)⟩
 | 2, _, ho, _ =>
   obtain rfl:=Option.some.inj ho;change R4.Oper.slotAt _ _ { tmps:=_,defers:=_ } _ _;go_simp;exact ⟨ClsF.keep hg HF.out.sb (Grew.refl _),R4.upd_same _ _ _,.inl (Grew.refl _)⟩
 | 3, _, ho, _ =>
   obtain rfl:=Option.some.inj ho;have hn2:=(hn 2 (by decide)).2;try dsimp only at hn2
   change R4.Oper.slotAt _ _ (Act.put _ (some 123) (vs 2)) _ _;conv=>arg 3;rw [hn2]
   clear hn2;go_simp;exact ⟨ClsF.keep hg HF.out.sb (Grew.refl _),R4.upd_same _ _ _,.inl (Grew.refl _)⟩
 | 4, _, ho, _ =>
   obtain rfl:=Option.some.inj ho;have hn3:=(hn 3 (by decide)).2;try dsimp only at hn3
   change R4.Oper.slotAt _ _ (Act.put _ (some 124) (vs 3)) _ _;conv=>arg 3;rw [hn3]
   clear hn3;go_simp;exact ⟨ClsF.keep hg HF.out.sb (Grew.refl _),R4.upd_same _ _ _,.inl (Grew.refl _)⟩
 | 5, _, ho, hL =>
   obtain rfl:=Option.some.inj ho;have hn4:=(hn 4 (by decide)).2;try dsimp only at hn4
   change R4.Oper.slotAt _ _ (Act.put _ (some 125) (vs 4)) _ _;conv=>arg 3;rw [hn4]
   clear hn4;have h17:¬ L 17:=fun h=>hL (R4.down_waits hdown 17 rfl h (by decide))
   have zt:=(Array.getElem?_eq_some_iff.1 (hg.blk h17)).1;have c0:W.cell? ⟨bt,0,none⟩=some (.slice aI I0.length kI):=by simp [World.cell?,hg.blk h17,tdC]
   go_simp;exact ⟨ClsF.keep hg HF.out.sb (Grew.refl _),R4.upd_same _ _ _,.inl (Grew.refl _)⟩
 | 6, _, ho, _ =>
   obtain rfl:=Option.some.inj ho;change R4.Oper.slotAt _ _ { tmps:=_,defers:=_ } _ _;have z3:=(Array.getElem?_eq_some_iff.1 hg.item).1;have ⟨q0,q1,q2,q3⟩:W.cell? ⟨b3,0,none⟩=some (.int .i64 x.kind)∧W.cell? ⟨b3,1,none⟩=some (.int .i64 x.pos)∧W.cell? ⟨b3,2,none⟩=some (.int .i64 x.n)∧W.cell? ⟨b3,3,none⟩=some (.string x.name):=by simp [World.cell?,hg.item,itCells]
   go_simp;exact ⟨ClsF.keep hg HF.out.sb (Grew.refl _),R4.upd_same _ _ _,.inl (Grew.refl _)⟩
 | 7, _, ho, _ =>
   obtain rfl:=Option.some.inj ho;have hn6:=(hn 6 (by decide)).2;try dsimp only at hn6
   change R4.Oper.slotAt _ _ (Act.put _ (some 127) (vs 6)) _ _;conv=>arg 3;rw [hn6]
   clear hn6;go_simp;exact ⟨ClsF.keep hg HF.out.sb gw0,by rw [R4.upd_same];exact LitB.new hg.len (by simp),.inl gw0⟩
 | 8, _, ho, hL =>
   obtain rfl:=Option.some.inj ho;have hn5:=(hn 5 (by decide)).2;have hn7:=(hn 7 (by decide)).2;try dsimp only at hn5 hn7
   change R4.Oper.slotAt _ _ (Act.put (Act.put _ (some 126) (vs 5)) (some 128) (vs 7)) _ _;conv=>arg 3;rw [hn5]
   clear hn5;have h17:¬ L 17:=fun h=>hL (R4.down_waits hdown 17 rfl h (by decide))
   obtain ⟨bx,ex,lx,hx⟩:=hn7;conv=>arg 3;rw [ex]
   clear ex;refine R4.slot_append (v:=.slice aI I0.length kI) (vx:=.slice (some ⟨bx,0,none⟩) 1 1) _ _ _ rfl rfl rfl ?_;refine (hg.appI HF.out hL hx lI 1 _).imp fun v' h=>h.imp fun W' h=>⟨h.1,h.2.1.weak (fun _=>.inr rfl) .inl .inl, ?_,.inr fun jx hjx hLj=>?_⟩
   · show NewI _ _ (R4.upd vs 8 v' 8) W'
     rw [R4.upd_same];exact h.2.2.1
   · have hv:=hall jx hjx hLj
     match jx,hjx,hv,hLj with
     | 0,_,hv,_=>exact hv
     | 1,_,hv,_=>exact hv
     | 2,_,hv,_=>exact hv
     | 3,_,hv,_=>exact hv
     | 4,_,hv,_=>exact hv
     | 5,_,hv,_=>exact hv
     | 6,_,hv,_=>exact hv
     | 7,_,hv,_=>exact LitB.by hv h.2.2.2 (slice_low HF.out.lowI)
     | 8,_,hv,hLj=>exact absurd hLj hL
     | 9,_,hv,_=>exact hv
     | 10,_,hv,_=>exact hv
     | 11,_,hv,_=>exact hv
     | 12,_,hv,_=>exact hv
     | 13,_,hv,_=>exact LitB.by hv h.2.2.2 (slice_low HF.out.lowI)
     | 14,_,hv,_=>exact NewB.by hv (hg.its hL) h.2.2.2
     | 15,_,hv,_=>exact hv
     | 16,_,hv,_=>exact hv
     | 17,_,hv,hLj=>exact absurd hLj h17
     | kx+18,hjx,_,_=>exact absurd hjx (by omega)
 | 9, _, ho, _ =>
   obtain rfl:=Option.some.inj ho;change R4.Oper.slotAt _ _ { tmps:=_,defers:=_ } _ _;go_simp;exact ⟨ClsF.keep hg HF.out.sb (Grew.refl _),R4.upd_same _ _ _,.inl (Grew.refl _)⟩
 | 10, _, ho, _ =>
   obtain rfl:=Option.some.inj ho;have hn9:=(hn 9 (by decide)).2;try dsimp only at hn9
   change R4.Oper.slotAt _ _ (Act.put _ (some 130) (vs 9)) _ _;conv=>arg 3;rw [hn9]
   clear hn9;go_simp;exact ⟨ClsF.keep hg HF.out.sb (Grew.refl _),R4.upd_same _ _ _,.inl (Grew.refl _)⟩
 | 11, _, ho, _ =>
   obtain rfl:=Option.some.inj ho;have hn10:=(hn 10 (by decide)).2;try dsimp only at hn10
   change R4.Oper.slotAt _ _ (Act.put _ (some 131) (vs 10)) _ _;conv=>arg 3;rw [hn10]
   clear hn10;go_simp;exact ⟨ClsF.keep hg HF.out.sb (Grew.refl _),R4.upd_same _ _ _,.inl (Grew.refl _)⟩
 | 12, _, ho, hL =>
   obtain rfl:=Option.some.inj ho;have hn11:=(hn 11 (by decide)).2;try dsimp only at hn11
   change R4.Oper.slotAt _ _ (Act.put _ (some 132) (vs 11)) _ _;conv=>arg 3;rw [hn11]
   clear hn11;have h17:¬ L 17:=fun h=>hL (R4.down_waits hdown 17 rfl h (by decide))
   have zt:=(Array.getElem?_eq_some_iff.1 (hg.blk h17)).1;have c1:W.cell? ⟨bt,1,none⟩=some (.slice aG G0.length kG):=by simp [World.cell?,hg.blk h17,tdC]
   go_simp;exact ⟨ClsF.keep hg HF.out.sb (Grew.refl _),R4.upd_same _ _ _,.inl (Grew.refl _)⟩
 | 13, _, ho, _ =>
   obtain rfl:=Option.some.inj ho;change R4.Oper.slotAt _ _ { tmps:=_,defers:=_ } _ _;go_simp;exact ⟨ClsF.keep hg HF.out.sb gw0,by rw [R4.upd_same];exact LitB.new hg.len (by simp),.inl gw0⟩
 | 14, _, ho, hL =>
   obtain rfl:=Option.some.inj ho;have hn12:=(hn 12 (by decide)).2;have hn13:=(hn 13 (by decide)).2;try dsimp only at hn12 hn13
   change R4.Oper.slotAt _ _ (Act.put (Act.put _ (some 133) (vs 12)) (some 134) (vs 13)) _ _;conv=>arg 3;rw [hn12]
   clear hn12;have h17:¬ L 17:=fun h=>hL (R4.down_waits hdown 17 rfl h (by decide))
   obtain ⟨bx,ex,lx,hx⟩:=hn13;conv=>arg 3;rw [ex]
   clear ex;refine R4.slot_append (v:=.slice aG G0.length kG) (vx:=.slice (some ⟨bx,0,none⟩) 1 1) _ _ _ rfl rfl rfl ?_;refine (hg.appG HF.out hL hx lG 1 _).imp fun v' h=>h.imp fun W' h=>⟨h.1,h.2.1.weak .inl (fun _=>.inr rfl) .inl, ?_,.inr fun jx hjx hLj=>?_⟩
   · show NewB _ _ (R4.upd vs 14 v' 14) W'
     rw [R4.upd_same];exact h.2.2.1
   · have hv:=hall jx hjx hLj
     match jx,hjx,hv,hLj with
     | 0,_,hv,_=>exact hv
     | 1,_,hv,_=>exact hv
     | 2,_,hv,_=>exact hv
     | 3,_,hv,_=>exact hv
     | 4,_,hv,_=>exact hv
     | 5,_,hv,_=>exact hv
     | 6,_,hv,_=>exact hv
     | 7,_,hv,_=>exact LitB.by hv h.2.2.2 (slice_low HF.out.lowG)
     | 8,_,hv,_=>exact NewI.by hv (hg.gon hL) h.2.2.2
     | 9,_,hv,_=>exact hv
     | 10,_,hv,_=>exact hv
     | 11,_,hv,_=>exact hv
     | 12,_,hv,_=>exact hv
     | 13,_,hv,_=>exact LitB.by hv h.2.2.2 (slice_low HF.out.lowG)
     | 14,_,hv,hLj=>exact absurd hLj hL
     | 15,_,hv,_=>exact hv
     | 16,_,hv,_=>exact hv
     | 17,_,hv,hLj=>exact absurd hLj h17
     | kx+18,hjx,_,_=>exact absurd hjx (by omega)
 | 15, _, ho, _ =>
   obtain rfl:=Option.some.inj ho;have hn0:=(hn 0 (by decide)).2;try dsimp only at hn0
   change R4.Oper.slotAt _ _ (Act.put _ (some 121) (vs 0)) _ _;conv=>arg 3;rw [hn0]
   clear hn0;go_simp;exact ⟨ClsF.keep hg HF.out.sb (Grew.refl _),R4.upd_same _ _ _,.inl (Grew.refl _)⟩
 | 16, _, ho, _ =>
   obtain rfl:=Option.some.inj ho;have hn15:=(hn 15 (by decide)).2;try dsimp only at hn15
   change R4.Oper.slotAt _ _ (Act.put _ (some 136) (vs 15)) _ _;conv=>arg 3;rw [hn15]
   clear hn15;go_simp;exact ⟨ClsF.keep hg HF.out.sb (Grew.refl _),R4.upd_same _ _ _,.inl (Grew.refl _)⟩
 | 17, _, ho, hL =>
   obtain rfl:=Option.some.inj ho;have hn16:=(hn 16 (by decide)).2;have hn8:=(hn 8 (by decide)).2;try dsimp only at hn16 hn8
   change R4.Oper.slotAt _ _ (Act.put (Act.put _ (some 137) (vs 16)) (some 129) (vs 8)) _ _;conv=>arg 3;rw [hn16]
   clear hn16;obtain ⟨a2,k2,e8,h8⟩:=hn8;conv=>arg 3;rw [e8]
   have E8:=hid e8;clear e8;have zt:=(Array.getElem?_eq_some_iff.1 (hg.blk hL)).1;have f0:W.frozen? ⟨bt,0,none⟩=false:=by simp [World.frozen?,hg.blk hL]
   have c0:W.cell? ⟨bt,0,none⟩=some (.slice aI I0.length kI):=by simp [World.cell?,hg.blk hL,tdC]
   obtain ⟨N8,hN8⟩:∃ N,(I0++[x]).length=N:=⟨_,rfl⟩;have hS:=hg.store HF.out hL a2 k2;rw [hN8] at hS ⊢;have HS:=hid hS;have HN8:=hid hN8;clear hS hN8;go_simp;obtain ⟨h1,h2⟩:=HS.out;have HB:=hg.blk hL;refine ⟨h1.weak .inl .inl (fun _=>.inr rfl), ?_,.inr fun jx hjx hLj=>?_⟩
   · show StI x bt I0 G0 Z1 aG kG a k (R4.upd vs 17 _ 8) _
     rw [R4.upd_other _ _ (by decide)];exact ⟨a2,k2,E8.out,by rw [HN8.out];exact h2⟩
   · have hv:=hall jx hjx hLj
     match jx,hjx,hv,hLj with
     | 0,_,hv,_=>exact hv
     | 1,_,hv,_=>exact hv
     | 2,_,hv,_=>exact hv
     | 3,_,hv,_=>exact hv
     | 4,_,hv,_=>exact hv
     | 5,_,hv,_=>exact hv
     | 6,_,hv,_=>exact hv
     | 7,_,hv,_=>exact LitB.set hv HF.out.sb _ _
     | 8,_,hv,_=>exact NewI.set hv HB _ _
     | 9,_,hv,_=>exact hv
     | 10,_,hv,_=>exact hv
     | 11,_,hv,_=>exact hv
     | 12,_,hv,_=>exact hv
     | 13,_,hv,_=>exact LitB.set hv HF.out.sb _ _
     | 14,_,hv,_=>exact NewB.set hv HB _ _
     | 15,_,hv,_=>exact hv
     | 16,_,hv,_=>exact hv
     | 17,_,hv,hLj=>exact absurd hLj hL
     | kx+18,hjx,_,_=>exact absurd hjx (by omega)
 | kx+18,hix,_,_=>exact absurd hix (by omega)):p:=h
theorem _root_.k8_ {p:Prop} (h:p:=by
 intro ix o vs vs' W hix ho h hv hn;match ix,hix,ho,h,hv with
 | 0,_,_,h,hv=>exact Eq.trans hv h
 | 1,_,_,h,hv=>exact Eq.trans hv h
 | 2,_,_,h,hv=>exact Eq.trans hv h
 | 3,_,_,h,hv=>exact Eq.trans hv h
 | 4,_,_,h,hv=>exact Eq.trans hv h
 | 5,_,_,h,hv=>exact Eq.trans hv h
 | 6,_,_,h,hv=>exact Eq.trans hv h
 | 7,_,_,h,hv=>show LitB (itCells x).toArray 51 wL1.heap.size (vs' 7) W;rw [hv];exact h
 | 8,_,_,h,hv=>show NewI B (I0++[x]) (vs' 8) W;rw [hv];exact h
 | 9,_,_,h,hv=>exact Eq.trans hv h
 | 10,_,_,h,hv=>exact Eq.trans hv h
 | 11,_,_,h,hv=>exact Eq.trans hv h
 | 12,_,_,h,hv=>exact Eq.trans hv h
 | 13,_,_,h,hv=>show LitB #[.bool false] 4 wL1.heap.size (vs' 13) W;rw [hv];exact h
 | 14,_,_,h,hv=>show NewB B (G0++[false]) (vs' 14) W;rw [hv];exact h
 | 15,_,_,h,hv=>exact Eq.trans hv h
 | 16,_,_,h,hv=>exact Eq.trans hv h
 | 17,_,ho,h,hv=>show StI x bt I0 G0 Z1 aG kG a k (vs' 8) W;rw [hn 8 (by cases ho;decide)];exact h
 | kx+18,hix,_,_,_=>exact absurd hix (by omega)):p:=h
set_option maxRecDepth 100000 in
set_option maxHeartbeats 4000000 in
theorem put_first1 (B bt p:Nat) (nn:Int) (nm:ByteArray) (S:List (It × Bool)) (w W:World) (hS:S.length≤4000) (hp1:1≤p) (hp:p<7) (h:TidB B bt S W) (ht:lastIx (onS (p:Int)) S=none)
  (hon:∀ g:Nat,g<7→onB ⟨1,p,nn,nm⟩ g=decide (g=p)) (hw:Grew w W) (hB:w.heap.size≤B) (hBW:B≤W.heap.size) (hbt:w.heap.size≤bt) :
  Calls Tryz.prog 70 #[.pointer (some ⟨bt,0,none⟩),.agg #[.int .i64 1,.int .i64 p,.int .i64 nn,.string nm]] W fun e W'=>(∃ v,e=.returned v)∧TidB B bt (S++[((⟨1,p,nn,nm⟩:It),true)]) W'∧Grew w W':=by
 have HT:=hid h;have HG:=hid fun w'=>guidesK_one 1 p nn nm w' rfl
 have htp:topI S p=-1:=by unfold topI;rw [ht]
 have HTOP:=hid fun W' (hg:Grew W W')=>top_any B bt p _ S W' (by omega) (by omega) (h.grew hg)
 rw [htp] at HTOP;clear htp;have HON:=hid hon;have HBw:=hid hB;have HBT:=hid hbt;have HW:=hid hw;clear h hon hB hw hbt ht;go_enter Tryz.func70,Tryz.ntmps70
 go_wp2_with fail
 refine (HG.out _).mono ?_;rintro e W1 ⟨⟨bg,rfl,hgb,hbg⟩,hg1⟩;have hgW:Grew W W1:=Grew.trans gw0 hg1;have h3:W1.heap[W.heap.size]? = some (.cells #[.int .i64 1,.int .i64 p,.int .i64 nn,.string nm] 51):=(hg1.block _ (by simp)).trans (heap_new _ _);have hgb:W.heap.size<bg:=by have:=hgb;simp at this;omega
 obtain ⟨b3,hb3⟩:∃ b3,b3=W.heap.size:=⟨_,rfl⟩;rw [← hb3] at h3 ⊢;have zg:=(Array.getElem?_eq_some_iff.1 hbg).1;have z3:=(Array.getElem?_eq_some_iff.1 h3).1;have g0:W1.cell? ⟨bg,0,none⟩=some (.int .i64 p):=by simp [World.cell?,hbg]
 have k0:W1.cell? ⟨b3,0,none⟩=some (.int .i64 1):=by simp [World.cell?,h3]
 have k1:W1.cell? ⟨b3,1,none⟩=some (.int .i64 p):=by simp [World.cell?,h3]
 have k2:W1.cell? ⟨b3,2,none⟩=some (.int .i64 nn):=by simp [World.cell?,h3]
 have k3:W1.cell? ⟨b3,3,none⟩=some (.string nm):=by simp [World.cell?,h3]
 have HGW:=hid hgW;have HBG:=hid (And.intro hgb (And.intro hbg (And.intro hb3 h3)));have zg1:=fun m0:Nat=>Nat.lt_add_right m0 (zg)
 have zg2:=fun m0 m1:Nat=>Nat.lt_add_right m1 (zg1 m0)
 have zg3:=fun m0 m1 m2:Nat=>Nat.lt_add_right m2 (zg2 m0 m1)
 have z31:=fun m0:Nat=>Nat.lt_add_right m0 (z3)
 have z32:=fun m0 m1:Nat=>Nat.lt_add_right m1 (z31 m0)
 have z33:=fun m0 m1 m2:Nat=>Nat.lt_add_right m2 (z32 m0 m1)
 clear hgW hg1 hbg h3 hgb hb3 HG;go_wp2_with fail
 refine (HTOP.out _ (HGW.out.trans gw0)).mono ?_;rintro e w' ⟨rfl,g2,m2,rfl⟩;go_wp2_with fail
 refine wp_region_gentle_lit (by kernel_rfl) (by kernel_rfl) ?_;repeat (first | go_big_quiet_skip | (go_big_quiet_want;go_big_quiet_op;first | go_big_quiet_on | fail))
 refine wpQuiet_nil ?_;rintro _ ⟨gg,ng,rfl⟩;go_wp2_with fail
 refine any_world (W:=W1) gw0 ?_;intro wL0 hgL;obtain ⟨hgb,hbg,hb3,h3⟩:=HBG.out;obtain ⟨x,hx⟩:∃ x:It,x=⟨1,p,nn,nm⟩:=⟨_,rfl⟩;obtain ⟨H,hH⟩:∃ H:List (Nat × Obj),H=[(b3,.cells (itCells x).toArray 51),(bg,.cells #[.int .i64 p] 3)]:=⟨_,rfl⟩;have hT0:=HT.out.toP hBW (HGW.out.trans hgL) H (fun y hy=>by
  rw [hH] at hy;rcases List.mem_cons.1 hy with rfl | hy
  · exact ⟨by rw [hb3];exact Nat.le_refl _,(hgL.block b3 z3).trans (by rw [hx];exact h3)⟩
  · rw [List.mem_singleton] at hy
    subst hy;exact ⟨Nat.le_of_lt hgb,(hgL.block bg zg).trans hbg⟩)
 have HH3:=hid (show (b3,(.cells (itCells x).toArray 51:Obj))∈H by rw [hH];simp);have HHg:=hid (show (bg,(.cells #[.int .i64 p] 3:Obj))∈H by rw [hH];simp);have HGL0:=hid (HW.out.trans (HGW.out.trans hgL));obtain ⟨I0,hI0⟩:∃ I,I=S.map Prod.fst:=⟨_,rfl⟩;obtain ⟨G0,hG0⟩:∃ G,G=S.map fun s=>!s.2:=⟨_,rfl⟩
 obtain ⟨Z0,hZ0⟩:∃ Z:Nat→List Int,Z=fun g:Nat=>stk S (g:Int):=⟨_,rfl⟩
 have lI:I0.length≤5000:=by rw [hI0,List.length_map];omega
 have lG:G0.length≤5000:=by rw [hG0,List.length_map];omega
 have lZ0:(Z0 p).length≤5000:=by rw [hZ0];exact Nat.le_trans (stkO_length _ _ _) (by omega)
 rw [← hI0,← hG0,← hZ0] at hT0;have HT0:=hid hT0;have HI0:=hid hI0;have HG0:=hid hG0;have HZ0:=hid hZ0;have HX:=hid hx;clear hT0 hI0 hG0 hZ0 hH hx hgb hbg hb3 h3 hgL HBG HT HTOP HGW HW g0 k0 k1 k2 k3 zg zg1 zg2 zg3 z3 z31 z32 z33;refine wp_loop_rounds 2 ?_;obtain ⟨aI,kI,aG,kG,a,k,hP⟩:=HT0.out;have HR:=hid (hP.rest (p:=p) (by omega) HGL0.out False);have hgd:wL0.cell? ⟨bg,0,none⟩=some (.int .i64 (p:Int)):=by simp [World.cell?,(hP.held _ HHg.out).1]
 have zgd:bg<wL0.heap.size:=(Array.getElem?_eq_some_iff.1 (hP.held _ HHg.out).1).1;obtain ⟨Zn0,hZn0⟩:∃ l,l=Z0 p++[(I0.length:Int)]:=⟨_,rfl⟩;have HZn0:=hid hZn0;clear hP hZn0;simp only [rounds_succ];go_wp2_with fail
 refine R4.wp_region_slotsC 17 (fun ix vs W=>match ix with | 0=>vs 0=.pointer (some ⟨bt,0,none⟩) | 1=>vs 1=.int .i64 (p:Int) | 2=>vs 2=.pointer (some ⟨bt,0,none⟩) | 3=>vs 3=.int .i64 (p:Int) | 4=>vs 4=.pointer (some ⟨bt,0,none⟩) | 5=>vs 5=.pointer (some ⟨bt,2,none⟩) | 6=>vs 6=.pointer (some ⟨bt,2+p,none⟩) | 7=>vs 7=.slice (a p) (Z0 p).length (k p) | 8=>vs 8=.pointer (some ⟨bt,0,none⟩) | 9=>vs 9=.pointer (some ⟨bt,0,none⟩) | 10=>vs 10=.pointer (some ⟨bt,0,none⟩) | 11=>vs 11=.slice aI I0.length kI | 12=>vs 12=.int .i64 I0.length | 13=>LitB #[.int .i64 I0.length] 3 wL0.heap.size (vs 13) W | 14=>NewZ B p H a Zn0 (vs 14) W | 15=>vs 15=.pointer (some ⟨bt,0,none⟩) | 16=>vs 16=.pointer (some ⟨bt,2,none⟩) | _=>True) (fun L W=>ClsZ w wL0.heap.size H B bt p I0 G0 Z0 aI kI aG kG a k L W) (by kernel_rfl) (by kernel_rfl) ?slst ?sldep (HR.out.grows (Grew.refl _).drew) ?slop ?slq
 case slst =>
  exact k4_
 case sldep =>
  exact k5_
 case slop =>
  exact k6_
 case slq =>
  intro vs Wj hC hn;have hn0:=hn 0 (by decide) (by decide);have hn1:=hn 1 (by decide) (by decide);have hn2:=hn 2 (by decide) (by decide);have hn3:=hn 3 (by decide) (by decide);have hn4:=hn 4 (by decide) (by decide);have hn5:=hn 5 (by decide) (by decide);have hn6:=hn 6 (by decide) (by decide);have hn7:=hn 7 (by decide) (by decide);have hn8:=hn 8 (by decide) (by decide);have hn9:=hn 9 (by decide) (by decide);have hn10:=hn 10 (by decide) (by decide);have hn11:=hn 11 (by decide) (by decide);have hn12:=hn 12 (by decide) (by decide);have hn13:=hn 13 (by decide) (by decide);have hn14:=hn 14 (by decide) (by decide);have hn15:=hn 15 (by decide) (by decide);have hn16:=hn 16 (by decide) (by decide);change wpList _ _ _ _ (Act.put (Act.put (Act.put (Act.put (Act.put (Act.put (Act.put (Act.put (Act.put (Act.put (Act.put (Act.put (Act.put (Act.put (Act.put (Act.put (Act.put _ (some 102) (vs 0)) (some 103) (vs 1)) (some 104) (vs 2)) (some 105) (vs 3)) (some 106) (vs 4)) (some 107) (vs 5)) (some 108) (vs 6)) (some 109) (vs 7)) (some 110) (vs 8)) (some 111) (vs 9)) (some 112) (vs 10)) (some 113) (vs 11)) (some 114) (vs 12)) (some 115) (vs 13)) (some 116) (vs 14)) (some 117) (vs 15)) (some 118) (vs 16)) _;rw [hn0,hn1,hn2,hn3,hn4,hn5,hn6,hn7,hn8,hn9,hn10,hn11,hn12,hn15,hn16];clear hn hn0 hn1 hn2 hn3 hn4 hn5 hn6 hn7 hn8 hn9 hn10 hn11 hn12 hn15 hn16;simp only [Act.put,List.setIfInBounds_toArray,List.set_cons_zero,List.set_cons_succ,List.drop_succ_cons,List.drop_zero];obtain ⟨a2,k2,e14,hN2⟩:=hn14;rw [e14];clear hn13;have hNZ:NewZ B p H a Zn0 (.slice a2 Zn0.length k2) Wj:=⟨a2,k2,rfl,hN2⟩;have hGj:Grew w (Wj.setCell ⟨bt,2+p,none⟩ (.slice a2 Zn0.length k2)):=hC.grew.set HBT.out _ _;have hTj:=hC.close hNZ;have zt:=(Array.getElem?_eq_some_iff.1 hC.blk).1;have ft:∀ j,Wj.frozen? ⟨bt,j,none⟩=false:=fun j=>by simp [World.frozen?,hC.blk]
  have cP:Wj.cell? ⟨bt,2+p,none⟩=some (.slice (a p) (Z0 p).length (k p)):=by
   exact k74_
  have HTj:=hid hTj;have HGj:=hid hGj;clear hC hNZ hN2 hGj hTj e14 HR hgd zgd;go_wp2_with fail
  obtain ⟨wL1,hW1⟩:∃ W',W'=Wj.setCell ⟨bt,2+p,none⟩ (.slice a2 Zn0.length k2):=⟨_,rfl⟩;rw [← hW1] at HTj HGj;obtain ⟨Z1,hZo⟩:∃ Z,Z=fun g=>if g=p then Zn0 else Z0 g:=⟨_,rfl⟩
  rw [← hZo] at HTj;have HZ1:=hid hZo;have HT1:=hid HTj.out;have HGL1:=hid HGj.out;rw [← hW1];clear hW1 hZo HTj HGj zt ft cP;obtain ⟨aI,kI,aG,kG,a,k,hP⟩:=HT1.out;obtain ⟨hF,hR⟩:=hP.restF (b3:=b3) (x:=x) HH3.out HGL1.out HBw.out HBT.out;have HF:=hid hF;have HR:=hid (hR False False False);clear hP hF hR;simp only [rounds_succ];go_wp2_with fail
  refine R4.wp_region_slotsC 18 (fun ix vs W=>match ix with | 0=>vs 0=.pointer (some ⟨bt,0,none⟩) | 1=>vs 1=.pointer (some ⟨bt,0,none⟩) | 2=>vs 2=.pointer (some ⟨bt,0,none⟩) | 3=>vs 3=.pointer (some ⟨bt,0,none⟩) | 4=>vs 4=.pointer (some ⟨bt,0,none⟩) | 5=>vs 5=.slice aI I0.length kI | 6=>vs 6=.agg #[.int .i64 x.kind,.int .i64 x.pos,.int .i64 x.n,.string x.name] | 7=>LitB (itCells x).toArray 51 wL1.heap.size (vs 7) W | 8=>NewI B (I0++[x]) (vs 8) W | 9=>vs 9=.pointer (some ⟨bt,0,none⟩) | 10=>vs 10=.pointer (some ⟨bt,0,none⟩) | 11=>vs 11=.pointer (some ⟨bt,1,none⟩) | 12=>vs 12=.slice aG G0.length kG | 13=>LitB #[.bool false] 4 wL1.heap.size (vs 13) W | 14=>NewB B (G0++[false]) (vs 14) W | 15=>vs 15=.pointer (some ⟨bt,0,none⟩) | 16=>vs 16=.pointer (some ⟨bt,0,none⟩) | 17=>StI x bt I0 G0 Z1 aG kG a k (vs 8) W | _=>True) (fun L W=>ClsF w wL1.heap.size b3 x B bt I0 G0 Z1 aI kI aG kG a k L W) (by kernel_rfl) (by kernel_rfl) ?slst ?sldep (HR.out.grows HF.out.sb (Grew.refl _).drew) ?slop ?slq
  case slst =>
   exact k7_
  case sldep =>
   exact k8_
  case slop =>
   exact k9_
  case slq =>
   intro vs Wj hC hn;have hn0:=hn 0 (by decide) (by decide);have hn1:=hn 1 (by decide) (by decide);have hn2:=hn 2 (by decide) (by decide);have hn3:=hn 3 (by decide) (by decide);have hn4:=hn 4 (by decide) (by decide);have hn5:=hn 5 (by decide) (by decide);have hn6:=hn 6 (by decide) (by decide);have hn7:=hn 7 (by decide) (by decide);have hn8:=hn 8 (by decide) (by decide);have hn9:=hn 9 (by decide) (by decide);have hn10:=hn 10 (by decide) (by decide);have hn11:=hn 11 (by decide) (by decide);have hn12:=hn 12 (by decide) (by decide);have hn13:=hn 13 (by decide) (by decide);have hn14:=hn 14 (by decide) (by decide);have hn15:=hn 15 (by decide) (by decide);have hn16:=hn 16 (by decide) (by decide);have hn17:=hn 17 (by decide) (by decide);change wpList _ _ _ _ (Act.put (Act.put (Act.put (Act.put (Act.put (Act.put (Act.put (Act.put (Act.put (Act.put (Act.put (Act.put (Act.put (Act.put (Act.put (Act.put (Act.put (Act.put _ (some 121) (vs 0)) (some 122) (vs 1)) (some 123) (vs 2)) (some 124) (vs 3)) (some 125) (vs 4)) (some 126) (vs 5)) (some 127) (vs 6)) (some 128) (vs 7)) (some 129) (vs 8)) (some 130) (vs 9)) (some 131) (vs 10)) (some 132) (vs 11)) (some 133) (vs 12)) (some 134) (vs 13)) (some 135) (vs 14)) (some 136) (vs 15)) (some 137) (vs 16)) none (vs 17)) _;rw [hn0,hn1,hn2,hn3,hn4,hn5,hn6,hn9,hn10,hn11,hn12,hn15,hn16];clear hn hn0 hn1 hn2 hn3 hn4 hn5 hn6 hn9 hn10 hn11 hn12 hn15 hn16;simp only [Act.put,List.setIfInBounds_toArray,List.set_cons_zero,List.set_cons_succ,List.drop_succ_cons,List.drop_zero];obtain ⟨a3,k3,e14,hG3⟩:=hn14;rw [e14];obtain ⟨a2,k2,e8,hI2⟩:=hn8;obtain ⟨a4,k4,e84,hb⟩:=hn17;rw [e8] at e84;injection e84 with e1 e2 e3;subst e1;subst e3;obtain ⟨hTj,hGj⟩:=hC.close HF.out hI2 hb hG3;have zt:=(Array.getElem?_eq_some_iff.1 hb).1;have f1:Wj.frozen? ⟨bt,1,none⟩=false:=by simp [World.frozen?,hb]
   have c1:Wj.cell? ⟨bt,1,none⟩=some (.slice aG G0.length kG):=by simp [World.cell?,hb,tdC]
   obtain ⟨NG,hNG⟩:∃ N,(G0++[false]).length=N:=⟨_,rfl⟩;rw [hNG] at hTj hGj ⊢;have HTj:=hid hTj;have HGj:=hid hGj;clear hC hn7 hn13 hI2 hb hG3 hTj hGj hNG e8 e14 e2 HR;go_wp2_with fail
   go_end0
   exact ⟨⟨_,rfl⟩,HTj.out.toB (by rw [HI0.out,HX.out];simp) (by rw [HG0.out];simp) (fun g hg=>by
    rw [stk_snoc,HON.out g hg];have hl:S.length=I0.length:=by rw [HI0.out];simp
    rw [hl];rw [HZ1.out,HZn0.out];dsimp only;rw [HZ0.out];dsimp only;by_cases hgp:g=p
    · rw [if_pos hgp,if_pos (by simp [hgp]),hgp]
    · rw [if_neg hgp,if_neg (by simp [hgp]),List.append_nil]),HGj.out⟩
open Go Go.RowKit Amp Msh
set_option maxRecDepth 100000 in
set_option maxHeartbeats 4000000 in
theorem put_kind1 (B bt p:Nat) (y:It) (q:Nat) (nn:Int) (nm:ByteArray) (S:List (It × Bool)) (w W:World) (hS:S.length≤4000) (hp1:1≤p) (hp:p<7) (h:TidB B bt S W) (hat:S[q]? = some (y,true)) (ht:lastIx (onS (p:Int)) S=some q) (ek:(y.kind==1)=false)
  (hon:∀ g:Nat,g<7→onB ⟨1,p,nn,nm⟩ g=decide (g=p)) (hw:Grew w W) (hB:w.heap.size≤B) (hBW:B≤W.heap.size) (hbt:w.heap.size≤bt) :
  Calls Tryz.prog 70 #[.pointer (some ⟨bt,0,none⟩),.agg #[.int .i64 1,.int .i64 p,.int .i64 nn,.string nm]] W fun e W'=>(∃ v,e=.returned v)∧TidB B bt (S++[((⟨1,p,nn,nm⟩:It),true)]) W'∧Grew w W':=by
 have hlt:q<S.length:=(List.getElem?_eq_some_iff.1 hat).1;have HT:=hid h;have HG:=hid fun w'=>guidesK_one 1 p nn nm w' rfl
 have htp:topI S p=q:=by unfold topI;rw [ht]
 have HTOP:=hid fun W' (hg:Grew W W')=>top_any B bt p _ S W' (by omega) (by omega) (h.grew hg)
 rw [htp] at HTOP;clear htp;have HON:=hid hon;have HBw:=hid hB;have HBT:=hid hbt;have HW:=hid hw;have HD:=hid hat;clear h hon hB hw hbt hat ht;go_enter Tryz.func70,Tryz.ntmps70
 go_wp2_with fail
 refine (HG.out _).mono ?_;rintro e W1 ⟨⟨bg,rfl,hgb,hbg⟩,hg1⟩;have hgW:Grew W W1:=Grew.trans gw0 hg1;have h3:W1.heap[W.heap.size]? = some (.cells #[.int .i64 1,.int .i64 p,.int .i64 nn,.string nm] 51):=(hg1.block _ (by simp)).trans (heap_new _ _);have hgb:W.heap.size<bg:=by have:=hgb;simp at this;omega
 obtain ⟨b3,hb3⟩:∃ b3,b3=W.heap.size:=⟨_,rfl⟩;rw [← hb3] at h3 ⊢;have zg:=(Array.getElem?_eq_some_iff.1 hbg).1;have z3:=(Array.getElem?_eq_some_iff.1 h3).1;have g0:W1.cell? ⟨bg,0,none⟩=some (.int .i64 p):=by simp [World.cell?,hbg]
 have k0:W1.cell? ⟨b3,0,none⟩=some (.int .i64 1):=by simp [World.cell?,h3]
 have k1:W1.cell? ⟨b3,1,none⟩=some (.int .i64 p):=by simp [World.cell?,h3]
 have k2:W1.cell? ⟨b3,2,none⟩=some (.int .i64 nn):=by simp [World.cell?,h3]
 have k3:W1.cell? ⟨b3,3,none⟩=some (.string nm):=by simp [World.cell?,h3]
 obtain ⟨aI0,kI0,aG0,kG0,a00,k00,h1,h2,h4,h5,h6⟩:=HT.out.ex;obtain ⟨bI,hbI,hbIB,zI0,_⟩:=h2.here (by intro e;rw [List.map_eq_nil_iff] at e;rw [e] at hlt;simp at hlt);subst hbI;have h1:=(hgW.block bt (Array.getElem?_eq_some_iff.1 h1).1).trans h1;have h2:=h2.grew hgW;have zI:=Nat.lt_of_lt_of_le zI0 hgW.size;obtain ⟨b',off',hbb,hb',c0,c1,c2,c3⟩:=(OwnI.its h2).cells (i:=q) (z:=y) (by simp [HD.out]);cases hbb;simp only [Nat.zero_add] at c0 c1 c2 c3;have t0:W1.cell? ⟨bt,0,none⟩=some (.slice (some ⟨bI,0,none⟩) S.length kI0):=by simp [World.cell?,h1,tdC]
 have zt:=(Array.getElem?_eq_some_iff.1 h1).1;have zt1:=fun m0:Nat=>Nat.lt_add_right m0 (zt)
 have zt2:=fun m0 m1:Nat=>Nat.lt_add_right m1 (zt1 m0)
 have zt3:=fun m0 m1 m2:Nat=>Nat.lt_add_right m2 (zt2 m0 m1)
 have zI1:=fun m0:Nat=>Nat.lt_add_right m0 (zI)
 have zI2:=fun m0 m1:Nat=>Nat.lt_add_right m1 (zI1 m0)
 have zI3:=fun m0 m1 m2:Nat=>Nat.lt_add_right m2 (zI2 m0 m1)
 clear h1 h2 h4 h5 h6 zI0 hbIB hb';have HGW:=hid hgW;have HBG:=hid (And.intro hgb (And.intro hbg (And.intro hb3 h3)));have zg1:=fun m0:Nat=>Nat.lt_add_right m0 (zg)
 have zg2:=fun m0 m1:Nat=>Nat.lt_add_right m1 (zg1 m0)
 have zg3:=fun m0 m1 m2:Nat=>Nat.lt_add_right m2 (zg2 m0 m1)
 have z31:=fun m0:Nat=>Nat.lt_add_right m0 (z3)
 have z32:=fun m0 m1:Nat=>Nat.lt_add_right m1 (z31 m0)
 have z33:=fun m0 m1 m2:Nat=>Nat.lt_add_right m2 (z32 m0 m1)
 clear hgW hg1 hbg h3 hgb hb3 HG;go_wp2_with fail
 refine (HTOP.out _ (HGW.out.trans gw0)).mono ?_;rintro e w' ⟨rfl,g2,m2,rfl⟩;go_wp2_with fail
 refine wp_region_gentle_lit (by kernel_rfl) (by kernel_rfl) ?_;repeat (first | go_big_quiet_skip | (go_big_quiet_want;go_big_quiet_op;first | go_big_quiet_on | fail))
 refine wpQuiet_nil ?_;rintro _ ⟨gg,ng,rfl⟩;go_wp2_with fail
 refine any_world (W:=W1) gw0 ?_;intro wL0 hgL;obtain ⟨hgb,hbg,hb3,h3⟩:=HBG.out;obtain ⟨x,hx⟩:∃ x:It,x=⟨1,p,nn,nm⟩:=⟨_,rfl⟩;obtain ⟨H,hH⟩:∃ H:List (Nat × Obj),H=[(b3,.cells (itCells x).toArray 51),(bg,.cells #[.int .i64 p] 3)]:=⟨_,rfl⟩;have hT0:=HT.out.toP hBW (HGW.out.trans hgL) H (fun y hy=>by
  rw [hH] at hy;rcases List.mem_cons.1 hy with rfl | hy
  · exact ⟨by rw [hb3];exact Nat.le_refl _,(hgL.block b3 z3).trans (by rw [hx];exact h3)⟩
  · rw [List.mem_singleton] at hy
    subst hy;exact ⟨Nat.le_of_lt hgb,(hgL.block bg zg).trans hbg⟩)
 have HH3:=hid (show (b3,(.cells (itCells x).toArray 51:Obj))∈H by rw [hH];simp);have HHg:=hid (show (bg,(.cells #[.int .i64 p] 3:Obj))∈H by rw [hH];simp);have HGL0:=hid (HW.out.trans (HGW.out.trans hgL));obtain ⟨I0,hI0⟩:∃ I,I=S.map Prod.fst:=⟨_,rfl⟩;obtain ⟨G0,hG0⟩:∃ G,G=S.map fun s=>!s.2:=⟨_,rfl⟩
 obtain ⟨Z0,hZ0⟩:∃ Z:Nat→List Int,Z=fun g:Nat=>stk S (g:Int):=⟨_,rfl⟩
 have lI:I0.length≤5000:=by rw [hI0,List.length_map];omega
 have lG:G0.length≤5000:=by rw [hG0,List.length_map];omega
 have lZ0:(Z0 p).length≤5000:=by rw [hZ0];exact Nat.le_trans (stkO_length _ _ _) (by omega)
 rw [← hI0,← hG0,← hZ0] at hT0;have HT0:=hid hT0;have HI0:=hid hI0;have HG0:=hid hG0;have HZ0:=hid hZ0;have HX:=hid hx;clear hT0 hI0 hG0 hZ0 hH hx hgb hbg hb3 h3 hgL HBG HT HTOP HGW HW g0 k0 k1 k2 k3 zg zg1 zg2 zg3 z3 z31 z32 z33 t0 zt zt1 zt2 zt3 zI zI1 zI2 zI3 c0 c1 c2 c3 HD;refine wp_loop_rounds 2 ?_;obtain ⟨aI,kI,aG,kG,a,k,hP⟩:=HT0.out;have HR:=hid (hP.rest (p:=p) (by omega) HGL0.out False);have hgd:wL0.cell? ⟨bg,0,none⟩=some (.int .i64 (p:Int)):=by simp [World.cell?,(hP.held _ HHg.out).1]
 have zgd:bg<wL0.heap.size:=(Array.getElem?_eq_some_iff.1 (hP.held _ HHg.out).1).1;obtain ⟨Zn0,hZn0⟩:∃ l,l=Z0 p++[(I0.length:Int)]:=⟨_,rfl⟩;have HZn0:=hid hZn0;clear hP hZn0;simp only [rounds_succ];go_wp2_with fail
 refine R4.wp_region_slotsC 17 (fun ix vs W=>match ix with | 0=>vs 0=.pointer (some ⟨bt,0,none⟩) | 1=>vs 1=.int .i64 (p:Int) | 2=>vs 2=.pointer (some ⟨bt,0,none⟩) | 3=>vs 3=.int .i64 (p:Int) | 4=>vs 4=.pointer (some ⟨bt,0,none⟩) | 5=>vs 5=.pointer (some ⟨bt,2,none⟩) | 6=>vs 6=.pointer (some ⟨bt,2+p,none⟩) | 7=>vs 7=.slice (a p) (Z0 p).length (k p) | 8=>vs 8=.pointer (some ⟨bt,0,none⟩) | 9=>vs 9=.pointer (some ⟨bt,0,none⟩) | 10=>vs 10=.pointer (some ⟨bt,0,none⟩) | 11=>vs 11=.slice aI I0.length kI | 12=>vs 12=.int .i64 I0.length | 13=>LitB #[.int .i64 I0.length] 3 wL0.heap.size (vs 13) W | 14=>NewZ B p H a Zn0 (vs 14) W | 15=>vs 15=.pointer (some ⟨bt,0,none⟩) | 16=>vs 16=.pointer (some ⟨bt,2,none⟩) | _=>True) (fun L W=>ClsZ w wL0.heap.size H B bt p I0 G0 Z0 aI kI aG kG a k L W) (by kernel_rfl) (by kernel_rfl) ?slst ?sldep (HR.out.grows (Grew.refl _).drew) ?slop ?slq
 case slst =>
  exact k4_
 case sldep =>
  exact k5_
 case slop =>
  exact k6_
 case slq =>
  intro vs Wj hC hn;have hn0:=hn 0 (by decide) (by decide);have hn1:=hn 1 (by decide) (by decide);have hn2:=hn 2 (by decide) (by decide);have hn3:=hn 3 (by decide) (by decide);have hn4:=hn 4 (by decide) (by decide);have hn5:=hn 5 (by decide) (by decide);have hn6:=hn 6 (by decide) (by decide);have hn7:=hn 7 (by decide) (by decide);have hn8:=hn 8 (by decide) (by decide);have hn9:=hn 9 (by decide) (by decide);have hn10:=hn 10 (by decide) (by decide);have hn11:=hn 11 (by decide) (by decide);have hn12:=hn 12 (by decide) (by decide);have hn13:=hn 13 (by decide) (by decide);have hn14:=hn 14 (by decide) (by decide);have hn15:=hn 15 (by decide) (by decide);have hn16:=hn 16 (by decide) (by decide);change wpList _ _ _ _ (Act.put (Act.put (Act.put (Act.put (Act.put (Act.put (Act.put (Act.put (Act.put (Act.put (Act.put (Act.put (Act.put (Act.put (Act.put (Act.put (Act.put _ (some 102) (vs 0)) (some 103) (vs 1)) (some 104) (vs 2)) (some 105) (vs 3)) (some 106) (vs 4)) (some 107) (vs 5)) (some 108) (vs 6)) (some 109) (vs 7)) (some 110) (vs 8)) (some 111) (vs 9)) (some 112) (vs 10)) (some 113) (vs 11)) (some 114) (vs 12)) (some 115) (vs 13)) (some 116) (vs 14)) (some 117) (vs 15)) (some 118) (vs 16)) _;rw [hn0,hn1,hn2,hn3,hn4,hn5,hn6,hn7,hn8,hn9,hn10,hn11,hn12,hn15,hn16];clear hn hn0 hn1 hn2 hn3 hn4 hn5 hn6 hn7 hn8 hn9 hn10 hn11 hn12 hn15 hn16;simp only [Act.put,List.setIfInBounds_toArray,List.set_cons_zero,List.set_cons_succ,List.drop_succ_cons,List.drop_zero];obtain ⟨a2,k2,e14,hN2⟩:=hn14;rw [e14];clear hn13;have hNZ:NewZ B p H a Zn0 (.slice a2 Zn0.length k2) Wj:=⟨a2,k2,rfl,hN2⟩;have hGj:Grew w (Wj.setCell ⟨bt,2+p,none⟩ (.slice a2 Zn0.length k2)):=hC.grew.set HBT.out _ _;have hTj:=hC.close hNZ;have zt:=(Array.getElem?_eq_some_iff.1 hC.blk).1;have ft:∀ j,Wj.frozen? ⟨bt,j,none⟩=false:=fun j=>by simp [World.frozen?,hC.blk]
  have cP:Wj.cell? ⟨bt,2+p,none⟩=some (.slice (a p) (Z0 p).length (k p)):=by
   exact k74_
  have HTj:=hid hTj;have HGj:=hid hGj;clear hC hNZ hN2 hGj hTj e14 HR hgd zgd;go_wp2_with fail
  obtain ⟨wL1,hW1⟩:∃ W',W'=Wj.setCell ⟨bt,2+p,none⟩ (.slice a2 Zn0.length k2):=⟨_,rfl⟩;rw [← hW1] at HTj HGj;obtain ⟨Z1,hZo⟩:∃ Z,Z=fun g=>if g=p then Zn0 else Z0 g:=⟨_,rfl⟩
  rw [← hZo] at HTj;have HZ1:=hid hZo;have HT1:=hid HTj.out;have HGL1:=hid HGj.out;rw [← hW1];clear hW1 hZo HTj HGj zt ft cP;obtain ⟨aI,kI,aG,kG,a,k,hP⟩:=HT1.out;obtain ⟨hF,hR⟩:=hP.restF (b3:=b3) (x:=x) HH3.out HGL1.out HBw.out HBT.out;have HF:=hid hF;have HR:=hid (hR False False False);clear hP hF hR;simp only [rounds_succ];go_wp2_with fail
  refine R4.wp_region_slotsC 18 (fun ix vs W=>match ix with | 0=>vs 0=.pointer (some ⟨bt,0,none⟩) | 1=>vs 1=.pointer (some ⟨bt,0,none⟩) | 2=>vs 2=.pointer (some ⟨bt,0,none⟩) | 3=>vs 3=.pointer (some ⟨bt,0,none⟩) | 4=>vs 4=.pointer (some ⟨bt,0,none⟩) | 5=>vs 5=.slice aI I0.length kI | 6=>vs 6=.agg #[.int .i64 x.kind,.int .i64 x.pos,.int .i64 x.n,.string x.name] | 7=>LitB (itCells x).toArray 51 wL1.heap.size (vs 7) W | 8=>NewI B (I0++[x]) (vs 8) W | 9=>vs 9=.pointer (some ⟨bt,0,none⟩) | 10=>vs 10=.pointer (some ⟨bt,0,none⟩) | 11=>vs 11=.pointer (some ⟨bt,1,none⟩) | 12=>vs 12=.slice aG G0.length kG | 13=>LitB #[.bool false] 4 wL1.heap.size (vs 13) W | 14=>NewB B (G0++[false]) (vs 14) W | 15=>vs 15=.pointer (some ⟨bt,0,none⟩) | 16=>vs 16=.pointer (some ⟨bt,0,none⟩) | 17=>StI x bt I0 G0 Z1 aG kG a k (vs 8) W | _=>True) (fun L W=>ClsF w wL1.heap.size b3 x B bt I0 G0 Z1 aI kI aG kG a k L W) (by kernel_rfl) (by kernel_rfl) ?slst ?sldep (HR.out.grows HF.out.sb (Grew.refl _).drew) ?slop ?slq
  case slst =>
   exact k7_
  case sldep =>
   exact k8_
  case slop =>
   exact k9_
  case slq =>
   intro vs Wj hC hn;have hn0:=hn 0 (by decide) (by decide);have hn1:=hn 1 (by decide) (by decide);have hn2:=hn 2 (by decide) (by decide);have hn3:=hn 3 (by decide) (by decide);have hn4:=hn 4 (by decide) (by decide);have hn5:=hn 5 (by decide) (by decide);have hn6:=hn 6 (by decide) (by decide);have hn7:=hn 7 (by decide) (by decide);have hn8:=hn 8 (by decide) (by decide);have hn9:=hn 9 (by decide) (by decide);have hn10:=hn 10 (by decide) (by decide);have hn11:=hn 11 (by decide) (by decide);have hn12:=hn 12 (by decide) (by decide);have hn13:=hn 13 (by decide) (by decide);have hn14:=hn 14 (by decide) (by decide);have hn15:=hn 15 (by decide) (by decide);have hn16:=hn 16 (by decide) (by decide);have hn17:=hn 17 (by decide) (by decide);change wpList _ _ _ _ (Act.put (Act.put (Act.put (Act.put (Act.put (Act.put (Act.put (Act.put (Act.put (Act.put (Act.put (Act.put (Act.put (Act.put (Act.put (Act.put (Act.put (Act.put _ (some 121) (vs 0)) (some 122) (vs 1)) (some 123) (vs 2)) (some 124) (vs 3)) (some 125) (vs 4)) (some 126) (vs 5)) (some 127) (vs 6)) (some 128) (vs 7)) (some 129) (vs 8)) (some 130) (vs 9)) (some 131) (vs 10)) (some 132) (vs 11)) (some 133) (vs 12)) (some 134) (vs 13)) (some 135) (vs 14)) (some 136) (vs 15)) (some 137) (vs 16)) none (vs 17)) _;rw [hn0,hn1,hn2,hn3,hn4,hn5,hn6,hn9,hn10,hn11,hn12,hn15,hn16];clear hn hn0 hn1 hn2 hn3 hn4 hn5 hn6 hn9 hn10 hn11 hn12 hn15 hn16;simp only [Act.put,List.setIfInBounds_toArray,List.set_cons_zero,List.set_cons_succ,List.drop_succ_cons,List.drop_zero];obtain ⟨a3,k3,e14,hG3⟩:=hn14;rw [e14];obtain ⟨a2,k2,e8,hI2⟩:=hn8;obtain ⟨a4,k4,e84,hb⟩:=hn17;rw [e8] at e84;injection e84 with e1 e2 e3;subst e1;subst e3;obtain ⟨hTj,hGj⟩:=hC.close HF.out hI2 hb hG3;have zt:=(Array.getElem?_eq_some_iff.1 hb).1;have f1:Wj.frozen? ⟨bt,1,none⟩=false:=by simp [World.frozen?,hb]
   have c1:Wj.cell? ⟨bt,1,none⟩=some (.slice aG G0.length kG):=by simp [World.cell?,hb,tdC]
   obtain ⟨NG,hNG⟩:∃ N,(G0++[false]).length=N:=⟨_,rfl⟩;rw [hNG] at hTj hGj ⊢;have HTj:=hid hTj;have HGj:=hid hGj;clear hC hn7 hn13 hI2 hb hG3 hTj hGj hNG e8 e14 e2 HR;go_wp2_with fail
   go_end0
   exact ⟨⟨_,rfl⟩,HTj.out.toB (by rw [HI0.out,HX.out];simp) (by rw [HG0.out];simp) (fun g hg=>by
    rw [stk_snoc,HON.out g hg];have hl:S.length=I0.length:=by rw [HI0.out];simp
    rw [hl];rw [HZ1.out,HZn0.out];dsimp only;rw [HZ0.out];dsimp only;by_cases hgp:g=p
    · rw [if_pos hgp,if_pos (by simp [hgp]),hgp]
    · rw [if_neg hgp,if_neg (by simp [hgp]),List.append_nil]),HGj.out⟩
end Go.Proofs.YtchdmecjhaanfaaGreatDoor
