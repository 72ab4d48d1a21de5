import Derived.Test.YtchdmecjhaanfaaGreatDoorTidA
import Derived.Test.YtchdmecjhaanfaaGreatDoorMshInv
import Derived.Test.YtchdmecjhaanfaaGreatDoorHouse
namespace Go.Proofs.YtchdmecjhaanfaaGreatDoor
open Go Go.RowKit Amp Msh
theorem _root_.k80_ {p:Prop} (h:p:=by
 have e:=tdC_at (aI:=aI) (nI:=I0.length) (kI:=kI) (aG:=aG) (nG:=G0.length) (kG:=kG) (st:=fun g=>.slice (a g) (Z1 g).length (k g)) (g:=(p+1)) (by omega);simp [World.cell?,hC.blk,e]):p:=h
theorem _root_.k74_ {p:Prop} (h:p:=by
 have e:=tdC_at (aI:=aI) (nI:=I0.length) (kI:=kI) (aG:=aG) (nG:=G0.length) (kG:=kG) (st:=fun g=>.slice (a g) (Z0 g).length (k g)) (g:=p) (by omega);simp [World.cell?,hC.blk,e]):p:=h
theorem _root_.k54_ {p:Prop} (h:p:=by
 intro vs Wj hC hn;have hn0:=hn 0 (by decide) (by decide);have hn1:=hn 1 (by decide) (by decide);have hn2:=hn 2 (by decide) (by decide);have hn3:=hn 3 (by decide) (by decide);have hn4:=hn 4 (by decide) (by decide);have hn5:=hn 5 (by decide) (by decide);have hn6:=hn 6 (by decide) (by decide);have hn7:=hn 7 (by decide) (by decide);exact k39_):p:=h
theorem _root_.k39_ {p:Prop} (h:p:=by
 have hn8:=hn 8 (by decide) (by decide);have hn9:=hn 9 (by decide) (by decide);have hn10:=hn 10 (by decide) (by decide);have hn11:=hn 11 (by decide) (by decide);have hn12:=hn 12 (by decide) (by decide);have hn13:=hn 13 (by decide) (by decide);have hn14:=hn 14 (by decide) (by decide);have hn15:=hn 15 (by decide) (by decide);have hn16:=hn 16 (by decide) (by decide);have hn17:=hn 17 (by decide) (by decide);change wpList _ _ _ _ (Act.put (Act.put (Act.put (Act.put (Act.put (Act.put (Act.put (Act.put (Act.put (Act.put (Act.put (Act.put (Act.put (Act.put (Act.put (Act.put (Act.put (Act.put _ (some 121) (vs 0)) (some 122) (vs 1)) (some 123) (vs 2)) (some 124) (vs 3)) (some 125) (vs 4)) (some 126) (vs 5)) (some 127) (vs 6)) (some 128) (vs 7)) (some 129) (vs 8)) (some 130) (vs 9)) (some 131) (vs 10)) (some 132) (vs 11)) (some 133) (vs 12)) (some 134) (vs 13)) (some 135) (vs 14)) (some 136) (vs 15)) (some 137) (vs 16)) none (vs 17)) _;exact k23_):p:=h
theorem _root_.k23_ {p:Prop} (h:p:=by
 rw [hn0,hn1,hn2,hn3,hn4,hn5,hn6,hn9,hn10,hn11,hn12,hn15,hn16];clear hn hn0 hn1 hn2 hn3 hn4 hn5 hn6 hn9 hn10 hn11 hn12 hn15 hn16;simp only [Act.put,List.setIfInBounds_toArray,List.set_cons_zero,List.set_cons_succ,List.drop_succ_cons,List.drop_zero];obtain ⟨a3,k3,e14,hG3⟩:=hn14;rw [e14];obtain ⟨a2,k2,e8,hI2⟩:=hn8;obtain ⟨a4,k4,e84,hb⟩:=hn17;rw [e8] at e84;injection e84 with e1 e2 e3;subst e1;subst e3;exact k17_):p:=h
theorem _root_.k17_ {p:Prop} (h:p:=by
 obtain ⟨hTj,hGj⟩:=hC.close HF.out hI2 hb hG3;have zt:=(Array.getElem?_eq_some_iff.1 hb).1;have f1:Wj.frozen? ⟨bt,1,none⟩=false:=by simp [World.frozen?,hb]
 have c1:Wj.cell? ⟨bt,1,none⟩=some (.slice aG G0.length kG):=by simp [World.cell?,hb,tdC]
 obtain ⟨NG,hNG⟩:∃ N,(G0++[false]).length=N:=⟨_,rfl⟩;rw [hNG] at hTj hGj ⊢;have HTj:=hid hTj;have HGj:=hid hGj;clear hC hn7 hn13 hI2 hb hG3 hTj hGj hNG e8 e14 e2 HR;go_wp2_with fail
 go_end0
 exact ⟨⟨_,rfl⟩,HTj.out.toB (by rw [HI0.out,HX.out];simp) (by rw [HG0.out];simp) (fun g hg=>by
  rw [stk_snoc,HON.out g hg];have hl:S.length=I0.length:=by rw [HI0.out];simp
  rw [hl];rw [HZ2.out,HZn1.out,HZ1.out,HZn0.out];dsimp only;rw [HZ0.out];dsimp only;by_cases hgp:g=p
  · rw [if_neg (by omega),if_pos hgp,if_pos (by simp [hgp]),hgp]
  · by_cases hgq:g=p+1
    · rw [if_pos hgq,if_neg (by omega),if_pos (by simp [hgq]),hgq]
    · rw [if_neg hgq,if_neg hgp,if_neg (by simp [hgp,hgq]),List.append_nil]),HGj.out⟩):p:=h
theorem _root_.k13_ {p:Prop} (h:p:=by
 intro ix o hix ho vs W L hg hL hn hall hdown;match ix,hix,ho,hL with
 | 0, _, ho, _ =>
   obtain rfl:=Option.some.inj ho;change R4.Oper.slotAt _ _ { tmps:=_,defers:=_ } _ _;go_simp;exact ⟨ClsF.keep hg HF.out.sb (Grew.refl _),R4.upd_same _ _ _,.inl (Grew.refl _)⟩
 | 1, _, ho, _ =>
   obtain rfl:=Option.some.inj ho;change R4.Oper.slotAt _ _ { tmps:=_,defers:=_ } _ _;go_simp;exact ⟨ClsF.keep hg HF.out.sb (Grew.refl _),R4.upd_same _ _ _,.inl (Grew.refl _)⟩
 | 2, _, ho, _ =>
   obtain rfl:=Option.some.inj ho;change R4.Oper.slotAt _ _ { tmps:=_,defers:=_ } _ _;go_simp;exact ⟨ClsF.keep hg HF.out.sb (Grew.refl _),R4.upd_same _ _ _,.inl (Grew.refl _)⟩
 | 3, _, ho, _ =>
   obtain rfl:=Option.some.inj ho;have hn2:=(hn 2 (by decide)).2;try dsimp only at hn2
   change R4.Oper.slotAt _ _ (Act.put _ (some 123) (vs 2)) _ _;conv=>arg 3;rw [hn2]
   clear hn2;go_simp;exact ⟨ClsF.keep hg HF.out.sb (Grew.refl _),R4.upd_same _ _ _,.inl (Grew.refl _)⟩
 | 4, _, ho, _ =>
   obtain rfl:=Option.some.inj ho;have hn3:=(hn 3 (by decide)).2;try dsimp only at hn3
   change R4.Oper.slotAt _ _ (Act.put _ (some 124) (vs 3)) _ _;conv=>arg 3;rw [hn3]
   clear hn3;go_simp;exact ⟨ClsF.keep hg HF.out.sb (Grew.refl _),R4.upd_same _ _ _,.inl (Grew.refl _)⟩
 | 5, _, ho, hL =>
   obtain rfl:=Option.some.inj ho;have hn4:=(hn 4 (by decide)).2;try dsimp only at hn4
   change R4.Oper.slotAt _ _ (Act.put _ (some 125) (vs 4)) _ _;conv=>arg 3;rw [hn4]
   clear hn4;have h17:¬ L 17:=fun h=>hL (R4.down_waits hdown 17 rfl h (by decide))
   have zt:=(Array.getElem?_eq_some_iff.1 (hg.blk h17)).1;have c0:W.cell? ⟨bt,0,none⟩=some (.slice aI I0.length kI):=by simp [World.cell?,hg.blk h17,tdC]
   go_simp;exact ⟨ClsF.keep hg HF.out.sb (Grew.refl _),R4.upd_same _ _ _,.inl (Grew.refl _)⟩
 | 6, _, ho, _ =>
   obtain rfl:=Option.some.inj ho;change R4.Oper.slotAt _ _ { tmps:=_,defers:=_ } _ _;have z3:=(Array.getElem?_eq_some_iff.1 hg.item).1;have ⟨q0,q1,q2,q3⟩:W.cell? ⟨b3,0,none⟩=some (.int .i64 x.kind)∧W.cell? ⟨b3,1,none⟩=some (.int .i64 x.pos)∧W.cell? ⟨b3,2,none⟩=some (.int .i64 x.n)∧W.cell? ⟨b3,3,none⟩=some (.string x.name):=by simp [World.cell?,hg.item,itCells]
   go_simp;exact ⟨ClsF.keep hg HF.out.sb (Grew.refl _),R4.upd_same _ _ _,.inl (Grew.refl _)⟩
 | 7, _, ho, _ =>
   obtain rfl:=Option.some.inj ho;have hn6:=(hn 6 (by decide)).2;try dsimp only at hn6
   change R4.Oper.slotAt _ _ (Act.put _ (some 127) (vs 6)) _ _;conv=>arg 3;rw [hn6]
   clear hn6;go_simp;exact ⟨ClsF.keep hg HF.out.sb gw0,by rw [R4.upd_same];exact LitB.new hg.len (by simp),.inl gw0⟩
 | 8, _, ho, hL =>
   obtain rfl:=Option.some.inj ho;have hn5:=(hn 5 (by decide)).2;have hn7:=(hn 7 (by decide)).2;try dsimp only at hn5 hn7
   change R4.Oper.slotAt _ _ (Act.put (Act.put _ (some 126) (vs 5)) (some 128) (vs 7)) _ _;conv=>arg 3;rw [hn5]
   clear hn5;have h17:¬ L 17:=fun h=>hL (R4.down_waits hdown 17 rfl h (by decide))
   obtain ⟨bx,ex,lx,hx⟩:=hn7;conv=>arg 3;rw [ex]
   clear ex;refine R4.slot_append (v:=.slice aI I0.length kI) (vx:=.slice (some ⟨bx,0,none⟩) 1 1) _ _ _ rfl rfl rfl ?_;refine (hg.appI HF.out hL hx lI 1 _).imp fun v' h=>h.imp fun W' h=>⟨h.1,h.2.1.weak (fun _=>.inr rfl) .inl .inl, ?_,.inr fun jx hjx hLj=>?_⟩
   · show NewI _ _ (R4.upd vs 8 v' 8) W'
     rw [R4.upd_same];exact h.2.2.1
   · have hv:=hall jx hjx hLj
     match jx,hjx,hv,hLj with
     | 0,_,hv,_=>exact hv
     | 1,_,hv,_=>exact hv
     | 2,_,hv,_=>exact hv
     | 3,_,hv,_=>exact hv
     | 4,_,hv,_=>exact hv
     | 5,_,hv,_=>exact hv
     | 6,_,hv,_=>exact hv
     | 7,_,hv,_=>exact LitB.by hv h.2.2.2 (slice_low HF.out.lowI)
     | 8,_,hv,hLj=>exact absurd hLj hL
     | 9,_,hv,_=>exact hv
     | 10,_,hv,_=>exact hv
     | 11,_,hv,_=>exact hv
     | 12,_,hv,_=>exact hv
     | 13,_,hv,_=>exact LitB.by hv h.2.2.2 (slice_low HF.out.lowI)
     | 14,_,hv,_=>exact NewB.by hv (hg.its hL) h.2.2.2
     | 15,_,hv,_=>exact hv
     | 16,_,hv,_=>exact hv
     | 17,_,hv,hLj=>exact absurd hLj h17
     | kx+18,hjx,_,_=>exact absurd hjx (by omega)
 | 9, _, ho, _ =>
   obtain rfl:=Option.some.inj ho;change R4.Oper.slotAt _ _ { tmps:=_,defers:=_ } _ _;go_simp;exact ⟨ClsF.keep hg HF.out.sb (Grew.refl _),R4.upd_same _ _ _,.inl (Grew.refl _)⟩
 | 10, _, ho, _ =>
   obtain rfl:=Option.some.inj ho;have hn9:=(hn 9 (by decide)).2;try dsimp only at hn9
   change R4.Oper.slotAt _ _ (Act.put _ (some 130) (vs 9)) _ _;conv=>arg 3;rw [hn9]
   clear hn9;go_simp;exact ⟨ClsF.keep hg HF.out.sb (Grew.refl _),R4.upd_same _ _ _,.inl (Grew.refl _)⟩
 | 11, _, ho, _ =>
   obtain rfl:=Option.some.inj ho;have hn10:=(hn 10 (by decide)).2;try dsimp only at hn10
   change R4.Oper.slotAt _ _ (Act.put _ (some 131) (vs 10)) _ _;conv=>arg 3;rw [hn10]
   clear hn10;go_simp;exact ⟨ClsF.keep hg HF.out.sb (Grew.refl _),R4.upd_same _ _ _,.inl (Grew.refl _)⟩
 | 12, _, ho, hL =>
   obtain rfl:=Option.some.inj ho;have hn11:=(hn 11 (by decide)).2;try dsimp only at hn11
   change R4.Oper.slotAt _ _ (Act.put _ (some 132) (vs 11)) _ _;conv=>arg 3;rw [hn11]
   clear hn11;have h17:¬ L 17:=fun h=>hL (R4.down_waits hdown 17 rfl h (by decide))
   have zt:=(Array.getElem?_eq_some_iff.1 (hg.blk h17)).1;have c1:W.cell? ⟨bt,1,none⟩=some (.slice aG G0.length kG):=by simp [World.cell?,hg.blk h17,tdC]
   go_simp;exact ⟨ClsF.keep hg HF.out.sb (Grew.refl _),R4.upd_same _ _ _,.inl (Grew.refl _)⟩
 | 13, _, ho, _ =>
   obtain rfl:=Option.some.inj ho;change R4.Oper.slotAt _ _ { tmps:=_,defers:=_ } _ _;go_simp;exact ⟨ClsF.keep hg HF.out.sb gw0,by rw [R4.upd_same];exact LitB.new hg.len (by simp),.inl gw0⟩
 | 14, _, ho, hL =>
   obtain rfl:=Option.some.inj ho;have hn12:=(hn 12 (by decide)).2;have hn13:=(hn 13 (by decide)).2;try dsimp only at hn12 hn13
   change R4.Oper.slotAt _ _ (Act.put (Act.put _ (some 133) (vs 12)) (some 134) (vs 13)) _ _;conv=>arg 3;rw [hn12]
   clear hn12;have h17:¬ L 17:=fun h=>hL (R4.down_waits hdown 17 rfl h (by decide))
   obtain ⟨bx,ex,lx,hx⟩:=hn13;conv=>arg 3;rw [ex]
   clear ex;refine R4.slot_append (v:=.slice aG G0.length kG) (vx:=.slice (some ⟨bx,0,none⟩) 1 1) _ _ _ rfl rfl rfl ?_;refine (hg.appG HF.out hL hx lG 1 _).imp fun v' h=>h.imp fun W' h=>⟨h.1,h.2.1.weak .inl (fun _=>.inr rfl) .inl, ?_,.inr fun jx hjx hLj=>?_⟩
   · show NewB _ _ (R4.upd vs 14 v' 14) W'
     rw [R4.upd_same];exact h.2.2.1
   · have hv:=hall jx hjx hLj
     match jx,hjx,hv,hLj with
     | 0,_,hv,_=>exact hv
     | 1,_,hv,_=>exact hv
     | 2,_,hv,_=>exact hv
     | 3,_,hv,_=>exact hv
     | 4,_,hv,_=>exact hv
     | 5,_,hv,_=>exact hv
     | 6,_,hv,_=>exact hv
     | 7,_,hv,_=>exact LitB.by hv h.2.2.2 (slice_low HF.out.lowG)
     | 8,_,hv,_=>exact NewI.by hv (hg.gon hL) h.2.2.2
     | 9,_,hv,_=>exact hv
     | 10,_,hv,_=>exact hv
     | 11,_,hv,_=>exact hv
     | 12,_,hv,_=>exact hv
     | 13,_,hv,_=>exact LitB.by hv h.2.2.2 (slice_low HF.out.lowG)
     | 14,_,hv,hLj=>exact absurd hLj hL
     | 15,_,hv,_=>exact hv
     | 16,_,hv,_=>exact hv
     | 17,_,hv,hLj=>exact absurd hLj h17
     | kx+18,hjx,_,_=>exact absurd hjx (by omega)
 | 15, _, ho, _ =>
   obtain rfl:=Option.some.inj ho;have hn0:=(hn 0 (by decide)).2;try dsimp only at hn0
   change R4.Oper.slotAt _ _ (Act.put _ (some 121) (vs 0)) _ _;conv=>arg 3;rw [hn0]
   clear hn0;go_simp;exact ⟨ClsF.keep hg HF.out.sb (Grew.refl _),R4.upd_same _ _ _,.inl (Grew.refl _)⟩
 | 16, _, ho, _ =>
   obtain rfl:=Option.some.inj ho;have hn15:=(hn 15 (by decide)).2;try dsimp only at hn15
   change R4.Oper.slotAt _ _ (Act.put _ (some 136) (vs 15)) _ _;conv=>arg 3;rw [hn15]
   clear hn15;go_simp;exact ⟨ClsF.keep hg HF.out.sb (Grew.refl _),R4.upd_same _ _ _,.inl (Grew.refl _)⟩
 | 17, _, ho, hL =>
   obtain rfl:=Option.some.inj ho;have hn16:=(hn 16 (by decide)).2;have hn8:=(hn 8 (by decide)).2;try dsimp only at hn16 hn8
   change R4.Oper.slotAt _ _ (Act.put (Act.put _ (some 137) (vs 16)) (some 129) (vs 8)) _ _;conv=>arg 3;rw [hn16]
   clear hn16;obtain ⟨a2,k2,e8,h8⟩:=hn8;conv=>arg 3;rw [e8]
   have E8:=hid e8;clear e8;have zt:=(Array.getElem?_eq_some_iff.1 (hg.blk hL)).1;have f0:W.frozen? ⟨bt,0,none⟩=false:=by simp [World.frozen?,hg.blk hL]
   have c0:W.cell? ⟨bt,0,none⟩=some (.slice aI I0.length kI):=by simp [World.cell?,hg.blk hL,tdC]
   obtain ⟨N8,hN8⟩:∃ N,(I0++[x]).length=N:=⟨_,rfl⟩;have hS:=hg.store HF.out hL a2 k2;rw [hN8] at hS ⊢;have HS:=hid hS;have HN8:=hid hN8;clear hS hN8;go_simp;obtain ⟨h1,h2⟩:=HS.out;have HB:=hg.blk hL;refine ⟨h1.weak .inl .inl (fun _=>.inr rfl), ?_,.inr fun jx hjx hLj=>?_⟩
   · show StI x bt I0 G0 Z2 aG kG a k (R4.upd vs 17 _ 8) _
     rw [R4.upd_other _ _ (by decide)];exact ⟨a2,k2,E8.out,by rw [HN8.out];exact h2⟩
   · have hv:=hall jx hjx hLj
     match jx,hjx,hv,hLj with
     | 0,_,hv,_=>exact hv
     | 1,_,hv,_=>exact hv
     | 2,_,hv,_=>exact hv
     | 3,_,hv,_=>exact hv
     | 4,_,hv,_=>exact hv
     | 5,_,hv,_=>exact hv
     | 6,_,hv,_=>exact hv
     | 7,_,hv,_=>exact LitB.set hv HF.out.sb _ _
     | 8,_,hv,_=>exact NewI.set hv HB _ _
     | 9,_,hv,_=>exact hv
     | 10,_,hv,_=>exact hv
     | 11,_,hv,_=>exact hv
     | 12,_,hv,_=>exact hv
     | 13,_,hv,_=>exact LitB.set hv HF.out.sb _ _
     | 14,_,hv,_=>exact NewB.set hv HB _ _
     | 15,_,hv,_=>exact hv
     | 16,_,hv,_=>exact hv
     | 17,_,hv,hLj=>exact absurd hLj hL
     | kx+18,hjx,_,_=>exact absurd hjx (by omega)
 | kx+18,hix,_,_=>exact absurd hix (by omega)):p:=h
theorem _root_.k12_ {p:Prop} (h:p:=by
 intro ix o vs vs' W hix ho h hv hn;match ix,hix,ho,h,hv with
 | 0,_,_,h,hv=>exact Eq.trans hv h
 | 1,_,_,h,hv=>exact Eq.trans hv h
 | 2,_,_,h,hv=>exact Eq.trans hv h
 | 3,_,_,h,hv=>exact Eq.trans hv h
 | 4,_,_,h,hv=>exact Eq.trans hv h
 | 5,_,_,h,hv=>exact Eq.trans hv h
 | 6,_,_,h,hv=>exact Eq.trans hv h
 | 7,_,_,h,hv=>show LitB (itCells x).toArray 51 wL2.heap.size (vs' 7) W;rw [hv];exact h
 | 8,_,_,h,hv=>show NewI B (I0++[x]) (vs' 8) W;rw [hv];exact h
 | 9,_,_,h,hv=>exact Eq.trans hv h
 | 10,_,_,h,hv=>exact Eq.trans hv h
 | 11,_,_,h,hv=>exact Eq.trans hv h
 | 12,_,_,h,hv=>exact Eq.trans hv h
 | 13,_,_,h,hv=>show LitB #[.bool false] 4 wL2.heap.size (vs' 13) W;rw [hv];exact h
 | 14,_,_,h,hv=>show NewB B (G0++[false]) (vs' 14) W;rw [hv];exact h
 | 15,_,_,h,hv=>exact Eq.trans hv h
 | 16,_,_,h,hv=>exact Eq.trans hv h
 | 17,_,ho,h,hv=>show StI x bt I0 G0 Z2 aG kG a k (vs' 8) W;rw [hn 8 (by cases ho;decide)];exact h
 | kx+18,hix,_,_,_=>exact absurd hix (by omega)):p:=h
theorem _root_.k11_ {p:Prop} (h:p:=by
 intro ix o hix ho vs W L hg hL hn hall hdown;match ix,hix,ho,hL with
 | 0, _, ho, _ =>
   obtain rfl:=Option.some.inj ho;change R4.Oper.slotAt _ _ { tmps:=_,defers:=_ } _ _;go_simp;exact ⟨ClsZ.keep hg (Grew.refl _),R4.upd_same _ _ _,.inl (Grew.refl _)⟩
 | 1, _, ho, _ =>
   obtain rfl:=Option.some.inj ho;change R4.Oper.slotAt _ _ { tmps:=_,defers:=_ } _ _;go_simp;exact ⟨ClsZ.keep hg (Grew.refl _),R4.upd_same _ _ _,.inl (Grew.refl _)⟩
 | 2, _, ho, _ =>
   obtain rfl:=Option.some.inj ho;change R4.Oper.slotAt _ _ { tmps:=_,defers:=_ } _ _;go_simp;exact ⟨ClsZ.keep hg (Grew.refl _),R4.upd_same _ _ _,.inl (Grew.refl _)⟩
 | 3, _, ho, _ =>
   obtain rfl:=Option.some.inj ho;change R4.Oper.slotAt _ _ { tmps:=_,defers:=_ } _ _;go_simp;exact ⟨ClsZ.keep hg (Grew.refl _),R4.upd_same _ _ _,.inl (Grew.refl _)⟩
 | 4, _, ho, _ =>
   obtain rfl:=Option.some.inj ho;have hn2:=(hn 2 (by decide)).2;try dsimp only at hn2
   change R4.Oper.slotAt _ _ (Act.put _ (some 104) (vs 2)) _ _;conv=>arg 3;rw [hn2]
   clear hn2;go_simp;exact ⟨ClsZ.keep hg (Grew.refl _),R4.upd_same _ _ _,.inl (Grew.refl _)⟩
 | 5, _, ho, _ =>
   obtain rfl:=Option.some.inj ho;have hn4:=(hn 4 (by decide)).2;try dsimp only at hn4
   change R4.Oper.slotAt _ _ (Act.put _ (some 106) (vs 4)) _ _;conv=>arg 3;rw [hn4]
   clear hn4;go_simp;exact ⟨ClsZ.keep hg (Grew.refl _),R4.upd_same _ _ _,.inl (Grew.refl _)⟩
 | 6, _, ho, _ =>
   obtain rfl:=Option.some.inj ho;have hn5:=(hn 5 (by decide)).2;have hn3:=(hn 3 (by decide)).2;try dsimp only at hn5 hn3
   change R4.Oper.slotAt _ _ (Act.put (Act.put _ (some 107) (vs 5)) (some 105) (vs 3)) _ _;conv=>arg 3;rw [hn5,hn3]
   clear hn5 hn3;have hpi:((p:Int)+1)<7:=by omega
   go_simp;exact ⟨ClsZ.keep hg (Grew.refl _),R4.upd_same _ _ _,.inl (Grew.refl _)⟩
 | 7, _, ho, _ =>
   obtain rfl:=Option.some.inj ho;have hn6:=(hn 6 (by decide)).2;try dsimp only at hn6
   change R4.Oper.slotAt _ _ (Act.put _ (some 108) (vs 6)) _ _;conv=>arg 3;rw [hn6]
   clear hn6;have zt:=(Array.getElem?_eq_some_iff.1 hg.blk).1;have cP:W.cell? ⟨bt,2+(p+1),none⟩=some (.slice (a (p+1)) (Z1 (p+1)).length (k (p+1))):=by
    have e:=tdC_at (aI:=aI) (nI:=I0.length) (kI:=kI) (aG:=aG) (nG:=G0.length) (kG:=kG) (st:=fun g=>.slice (a g) (Z1 g).length (k g)) (g:=(p+1)) (by omega);simp [World.cell?,hg.blk,e]
   go_simp;exact ⟨ClsZ.keep hg (Grew.refl _),R4.upd_same _ _ _,.inl (Grew.refl _)⟩
 | 8, _, ho, _ =>
   obtain rfl:=Option.some.inj ho;change R4.Oper.slotAt _ _ { tmps:=_,defers:=_ } _ _;go_simp;exact ⟨ClsZ.keep hg (Grew.refl _),R4.upd_same _ _ _,.inl (Grew.refl _)⟩
 | 9, _, ho, _ =>
   obtain rfl:=Option.some.inj ho;have hn8:=(hn 8 (by decide)).2;try dsimp only at hn8
   change R4.Oper.slotAt _ _ (Act.put _ (some 110) (vs 8)) _ _;conv=>arg 3;rw [hn8]
   clear hn8;go_simp;exact ⟨ClsZ.keep hg (Grew.refl _),R4.upd_same _ _ _,.inl (Grew.refl _)⟩
 | 10, _, ho, _ =>
   obtain rfl:=Option.some.inj ho;have hn9:=(hn 9 (by decide)).2;try dsimp only at hn9
   change R4.Oper.slotAt _ _ (Act.put _ (some 111) (vs 9)) _ _;conv=>arg 3;rw [hn9]
   clear hn9;go_simp;exact ⟨ClsZ.keep hg (Grew.refl _),R4.upd_same _ _ _,.inl (Grew.refl _)⟩
 | 11, _, ho, _ =>
   obtain rfl:=Option.some.inj ho;have hn10:=(hn 10 (by decide)).2;try dsimp only at hn10
   change R4.Oper.slotAt _ _ (Act.put _ (some 112) (vs 10)) _ _;conv=>arg 3;rw [hn10]
   clear hn10;have zt:=(Array.getElem?_eq_some_iff.1 hg.blk).1;have c0:W.cell? ⟨bt,0,none⟩=some (.slice aI I0.length kI):=by simp [World.cell?,hg.blk,tdC]
   go_simp;exact ⟨ClsZ.keep hg (Grew.refl _),R4.upd_same _ _ _,.inl (Grew.refl _)⟩
 | 12, _, ho, _ =>
   obtain rfl:=Option.some.inj ho;have hn11:=(hn 11 (by decide)).2;try dsimp only at hn11
   change R4.Oper.slotAt _ _ (Act.put _ (some 113) (vs 11)) _ _;conv=>arg 3;rw [hn11]
   clear hn11;go_simp;exact ⟨ClsZ.keep hg (Grew.refl _),R4.upd_same _ _ _,.inl (Grew.refl _)⟩
 | 13, _, ho, _ =>
   obtain rfl:=Option.some.inj ho;have hn12:=(hn 12 (by decide)).2;try dsimp only at hn12
   change R4.Oper.slotAt _ _ (Act.put _ (some 114) (vs 12)) _ _;conv=>arg 3;rw [hn12]
   clear hn12;go_simp;exact ⟨ClsZ.keep hg gw0,by rw [R4.upd_same];exact LitB.new hg.len (by simp),.inl gw0⟩
 | 14, _, ho, hL =>
   obtain rfl:=Option.some.inj ho;have hn7:=(hn 7 (by decide)).2;have hn13:=(hn 13 (by decide)).2;try dsimp only at hn7 hn13
   change R4.Oper.slotAt _ _ (Act.put (Act.put _ (some 109) (vs 7)) (some 115) (vs 13)) _ _;conv=>arg 3;rw [hn7]
   clear hn7;obtain ⟨b13,e13,l13,h13⟩:=hn13;conv=>arg 3;rw [e13]
   clear e13;refine R4.slot_append (v:=.slice (a (p+1)) (Z1 (p+1)).length (k (p+1))) (vx:=.slice (some ⟨b13,0,none⟩) 1 1) _ _ _ rfl rfl rfl ?_;refine (hg.app hL (by omega) h13 lZ1 HBw.out 1 _).imp fun v' h=>h.imp fun W' h=>⟨h.1,h.2.1.weak (fun _=>.inr rfl), ?_,.inr fun jx hjx hLj=>?_⟩
   · show NewZ _ _ _ _ _ (R4.upd vs 14 v' 14) W'
     rw [R4.upd_same,HZn1.out];exact h.2.2.1
   · have hv:=hall jx hjx hLj
     match jx,hjx,hv,hLj with
     | 0,_,hv,_=>exact hv
     | 1,_,hv,_=>exact hv
     | 2,_,hv,_=>exact hv
     | 3,_,hv,_=>exact hv
     | 4,_,hv,_=>exact hv
     | 5,_,hv,_=>exact hv
     | 6,_,hv,_=>exact hv
     | 7,_,hv,_=>exact hv
     | 8,_,hv,_=>exact hv
     | 9,_,hv,_=>exact hv
     | 10,_,hv,_=>exact hv
     | 11,_,hv,_=>exact hv
     | 12,_,hv,_=>exact hv
     | 13,_,hv,_=>exact LitB.by hv h.2.2.2 (slice_low hg.low)
     | 14,_,hv,hLj=>exact absurd hLj hL
     | 15,_,hv,_=>exact hv
     | 16,_,hv,_=>exact hv
     | kx+17,hjx,_,_=>exact absurd hjx (by omega)
 | 15, _, ho, _ =>
   obtain rfl:=Option.some.inj ho;have hn0:=(hn 0 (by decide)).2;try dsimp only at hn0
   change R4.Oper.slotAt _ _ (Act.put _ (some 102) (vs 0)) _ _;conv=>arg 3;rw [hn0]
   clear hn0;go_simp;exact ⟨ClsZ.keep hg (Grew.refl _),R4.upd_same _ _ _,.inl (Grew.refl _)⟩
 | 16, _, ho, _ =>
   obtain rfl:=Option.some.inj ho;have hn15:=(hn 15 (by decide)).2;try dsimp only at hn15
   change R4.Oper.slotAt _ _ (Act.put _ (some 117) (vs 15)) _ _;conv=>arg 3;rw [hn15]
   clear hn15;go_simp;exact ⟨ClsZ.keep hg (Grew.refl _),R4.upd_same _ _ _,.inl (Grew.refl _)⟩
 | kx+17,hix,_,_=>exact absurd hix (by omega)):p:=h
theorem _root_.k10_ {p:Prop} (h:p:=by
 intro ix o vs vs' W hix ho h hv hn;match ix,hix,ho,h,hv with
 | 0,_,_,h,hv=>exact Eq.trans hv h
 | 1,_,_,h,hv=>exact Eq.trans hv h
 | 2,_,_,h,hv=>exact Eq.trans hv h
 | 3,_,_,h,hv=>exact Eq.trans hv h
 | 4,_,_,h,hv=>exact Eq.trans hv h
 | 5,_,_,h,hv=>exact Eq.trans hv h
 | 6,_,_,h,hv=>exact Eq.trans hv h
 | 7,_,_,h,hv=>exact Eq.trans hv h
 | 8,_,_,h,hv=>exact Eq.trans hv h
 | 9,_,_,h,hv=>exact Eq.trans hv h
 | 10,_,_,h,hv=>exact Eq.trans hv h
 | 11,_,_,h,hv=>exact Eq.trans hv h
 | 12,_,_,h,hv=>exact Eq.trans hv h
 | 13,_,_,h,hv=>show LitB #[.int .i64 I0.length] 3 wL1.heap.size (vs' 13) W;rw [hv];exact h
 | 14,_,_,h,hv=>show NewZ B (p+1) H a Zn1 (vs' 14) W;rw [hv];exact h
 | 15,_,_,h,hv=>exact Eq.trans hv h
 | 16,_,_,h,hv=>exact Eq.trans hv h
 | kx+17,hix,_,_,_=>exact absurd hix (by omega)):p:=h
theorem _root_.k7_ {p:Prop} (h:p:=by
 intro ix vs W W' h hg;match ix,h with
 | 0,h=>exact h
 | 1,h=>exact h
 | 2,h=>exact h
 | 3,h=>exact h
 | 4,h=>exact h
 | 5,h=>exact h
 | 6,h=>exact h
 | 7,h=>exact LitB.grew h hg
 | 8,h=>exact NewI.grew h hg
 | 9,h=>exact h
 | 10,h=>exact h
 | 11,h=>exact h
 | 12,h=>exact h
 | 13,h=>exact LitB.grew h hg
 | 14,h=>exact NewB.grew h hg
 | 15,h=>exact h
 | 16,h=>exact h
 | 17,h=>exact StI.grew h hg
 | _+18,_=>trivial):p:=h
theorem _root_.k6_ {p:Prop} (h:p:=by
 intro ix o hix ho vs W L hg hL hn hall hdown;match ix,hix,ho,hL with
 | 0, _, ho, _ =>
   obtain rfl:=Option.some.inj ho;change R4.Oper.slotAt _ _ { tmps:=_,defers:=_ } _ _;go_simp;exact ⟨ClsZ.keep hg (Grew.refl _),R4.upd_same _ _ _,.inl (Grew.refl _)⟩
 | 1, _, ho, _ =>
   obtain rfl:=Option.some.inj ho;change R4.Oper.slotAt _ _ { tmps:=_,defers:=_ } _ _;go_simp;exact ⟨ClsZ.keep hg (Grew.refl _),R4.upd_same _ _ _,.inl (Grew.refl _)⟩
 | 2, _, ho, _ =>
   obtain rfl:=Option.some.inj ho;change R4.Oper.slotAt _ _ { tmps:=_,defers:=_ } _ _;go_simp;exact ⟨ClsZ.keep hg (Grew.refl _),R4.upd_same _ _ _,.inl (Grew.refl _)⟩
 | 3, _, ho, _ =>
   obtain rfl:=Option.some.inj ho;change R4.Oper.slotAt _ _ { tmps:=_,defers:=_ } _ _;go_simp;exact ⟨ClsZ.keep hg (Grew.refl _),R4.upd_same _ _ _,.inl (Grew.refl _)⟩
 | 4, _, ho, _ =>
   obtain rfl:=Option.some.inj ho;have hn2:=(hn 2 (by decide)).2;try dsimp only at hn2
   change R4.Oper.slotAt _ _ (Act.put _ (some 104) (vs 2)) _ _;conv=>arg 3;rw [hn2]
   clear hn2;go_simp;exact ⟨ClsZ.keep hg (Grew.refl _),R4.upd_same _ _ _,.inl (Grew.refl _)⟩
 | 5, _, ho, _ =>
   obtain rfl:=Option.some.inj ho;have hn4:=(hn 4 (by decide)).2;try dsimp only at hn4
   change R4.Oper.slotAt _ _ (Act.put _ (some 106) (vs 4)) _ _;conv=>arg 3;rw [hn4]
   clear hn4;go_simp;exact ⟨ClsZ.keep hg (Grew.refl _),R4.upd_same _ _ _,.inl (Grew.refl _)⟩
 | 6, _, ho, _ =>
   obtain rfl:=Option.some.inj ho;have hn5:=(hn 5 (by decide)).2;have hn3:=(hn 3 (by decide)).2;try dsimp only at hn5 hn3
   change R4.Oper.slotAt _ _ (Act.put (Act.put _ (some 107) (vs 5)) (some 105) (vs 3)) _ _;conv=>arg 3;rw [hn5,hn3]
   clear hn5 hn3;have hpi:(p:Int)<7:=by omega
   go_simp;exact ⟨ClsZ.keep hg (Grew.refl _),R4.upd_same _ _ _,.inl (Grew.refl _)⟩
 | 7, _, ho, _ =>
   obtain rfl:=Option.some.inj ho;have hn6:=(hn 6 (by decide)).2;try dsimp only at hn6
   change R4.Oper.slotAt _ _ (Act.put _ (some 108) (vs 6)) _ _;conv=>arg 3;rw [hn6]
   clear hn6;have zt:=(Array.getElem?_eq_some_iff.1 hg.blk).1;have cP:W.cell? ⟨bt,2+p,none⟩=some (.slice (a p) (Z0 p).length (k p)):=by
    have e:=tdC_at (aI:=aI) (nI:=I0.length) (kI:=kI) (aG:=aG) (nG:=G0.length) (kG:=kG) (st:=fun g=>.slice (a g) (Z0 g).length (k g)) (g:=p) (by omega);simp [World.cell?,hg.blk,e]
   go_simp;exact ⟨ClsZ.keep hg (Grew.refl _),R4.upd_same _ _ _,.inl (Grew.refl _)⟩
 | 8, _, ho, _ =>
   obtain rfl:=Option.some.inj ho;change R4.Oper.slotAt _ _ { tmps:=_,defers:=_ } _ _;go_simp;exact ⟨ClsZ.keep hg (Grew.refl _),R4.upd_same _ _ _,.inl (Grew.refl _)⟩
 | 9, _, ho, _ =>
   obtain rfl:=Option.some.inj ho;have hn8:=(hn 8 (by decide)).2;try dsimp only at hn8
   change R4.Oper.slotAt _ _ (Act.put _ (some 110) (vs 8)) _ _;conv=>arg 3;rw [hn8]
   clear hn8;go_simp;exact ⟨ClsZ.keep hg (Grew.refl _),R4.upd_same _ _ _,.inl (Grew.refl _)⟩
 | 10, _, ho, _ =>
   obtain rfl:=Option.some.inj ho;have hn9:=(hn 9 (by decide)).2;try dsimp only at hn9
   change R4.Oper.slotAt _ _ (Act.put _ (some 111) (vs 9)) _ _;conv=>arg 3;rw [hn9]
   clear hn9;go_simp;exact ⟨ClsZ.keep hg (Grew.refl _),R4.upd_same _ _ _,.inl (Grew.refl _)⟩
 | 11, _, ho, _ =>
   obtain rfl:=Option.some.inj ho;have hn10:=(hn 10 (by decide)).2;try dsimp only at hn10
   change R4.Oper.slotAt _ _ (Act.put _ (some 112) (vs 10)) _ _;conv=>arg 3;rw [hn10]
   clear hn10;have zt:=(Array.getElem?_eq_some_iff.1 hg.blk).1;have c0:W.cell? ⟨bt,0,none⟩=some (.slice aI I0.length kI):=by simp [World.cell?,hg.blk,tdC]
   go_simp;exact ⟨ClsZ.keep hg (Grew.refl _),R4.upd_same _ _ _,.inl (Grew.refl _)⟩
 | 12, _, ho, _ =>
   obtain rfl:=Option.some.inj ho;have hn11:=(hn 11 (by decide)).2;try dsimp only at hn11
   change R4.Oper.slotAt _ _ (Act.put _ (some 113) (vs 11)) _ _;conv=>arg 3;rw [hn11]
   clear hn11;go_simp;exact ⟨ClsZ.keep hg (Grew.refl _),R4.upd_same _ _ _,.inl (Grew.refl _)⟩
 | 13, _, ho, _ =>
   obtain rfl:=Option.some.inj ho;have hn12:=(hn 12 (by decide)).2;try dsimp only at hn12
   change R4.Oper.slotAt _ _ (Act.put _ (some 114) (vs 12)) _ _;conv=>arg 3;rw [hn12]
   clear hn12;go_simp;exact ⟨ClsZ.keep hg gw0,by rw [R4.upd_same];exact LitB.new hg.len (by simp),.inl gw0⟩
 | 14, _, ho, hL =>
   obtain rfl:=Option.some.inj ho;have hn7:=(hn 7 (by decide)).2;have hn13:=(hn 13 (by decide)).2;try dsimp only at hn7 hn13
   change R4.Oper.slotAt _ _ (Act.put (Act.put _ (some 109) (vs 7)) (some 115) (vs 13)) _ _;conv=>arg 3;rw [hn7]
   clear hn7;obtain ⟨b13,e13,l13,h13⟩:=hn13;conv=>arg 3;rw [e13]
   clear e13;refine R4.slot_append (v:=.slice (a p) (Z0 p).length (k p)) (vx:=.slice (some ⟨b13,0,none⟩) 1 1) _ _ _ rfl rfl rfl ?_;refine (hg.app hL (by omega) h13 lZ0 HBw.out 1 _).imp fun v' h=>h.imp fun W' h=>⟨h.1,h.2.1.weak (fun _=>.inr rfl), ?_,.inr fun jx hjx hLj=>?_⟩
   · show NewZ _ _ _ _ _ (R4.upd vs 14 v' 14) W'
     rw [R4.upd_same,HZn0.out];exact h.2.2.1
   · have hv:=hall jx hjx hLj
     match jx,hjx,hv,hLj with
     | 0,_,hv,_=>exact hv
     | 1,_,hv,_=>exact hv
     | 2,_,hv,_=>exact hv
     | 3,_,hv,_=>exact hv
     | 4,_,hv,_=>exact hv
     | 5,_,hv,_=>exact hv
     | 6,_,hv,_=>exact hv
     | 7,_,hv,_=>exact hv
     | 8,_,hv,_=>exact hv
     | 9,_,hv,_=>exact hv
     | 10,_,hv,_=>exact hv
     | 11,_,hv,_=>exact hv
     | 12,_,hv,_=>exact hv
     | 13,_,hv,_=>exact LitB.by hv h.2.2.2 (slice_low hg.low)
     | 14,_,hv,hLj=>exact absurd hLj hL
     | 15,_,hv,_=>exact hv
     | 16,_,hv,_=>exact hv
     | kx+17,hjx,_,_=>exact absurd hjx (by omega)
 | 15, _, ho, _ =>
   obtain rfl:=Option.some.inj ho;have hn0:=(hn 0 (by decide)).2;try dsimp only at hn0
   change R4.Oper.slotAt _ _ (Act.put _ (some 102) (vs 0)) _ _;conv=>arg 3;rw [hn0]
   clear hn0;go_simp;exact ⟨ClsZ.keep hg (Grew.refl _),R4.upd_same _ _ _,.inl (Grew.refl _)⟩
 | 16, _, ho, _ =>
   obtain rfl:=Option.some.inj ho;have hn15:=(hn 15 (by decide)).2;try dsimp only at hn15
   change R4.Oper.slotAt _ _ (Act.put _ (some 117) (vs 15)) _ _;conv=>arg 3;rw [hn15]
   clear hn15;go_simp;exact ⟨ClsZ.keep hg (Grew.refl _),R4.upd_same _ _ _,.inl (Grew.refl _)⟩
 | kx+17,hix,_,_=>exact absurd hix (by omega)):p:=h
theorem _root_.k5_ {p:Prop} (h:p:=by
 intro ix o vs vs' W hix ho h hv hn;match ix,hix,ho,h,hv with
 | 0,_,_,h,hv=>exact Eq.trans hv h
 | 1,_,_,h,hv=>exact Eq.trans hv h
 | 2,_,_,h,hv=>exact Eq.trans hv h
 | 3,_,_,h,hv=>exact Eq.trans hv h
 | 4,_,_,h,hv=>exact Eq.trans hv h
 | 5,_,_,h,hv=>exact Eq.trans hv h
 | 6,_,_,h,hv=>exact Eq.trans hv h
 | 7,_,_,h,hv=>exact Eq.trans hv h
 | 8,_,_,h,hv=>exact Eq.trans hv h
 | 9,_,_,h,hv=>exact Eq.trans hv h
 | 10,_,_,h,hv=>exact Eq.trans hv h
 | 11,_,_,h,hv=>exact Eq.trans hv h
 | 12,_,_,h,hv=>exact Eq.trans hv h
 | 13,_,_,h,hv=>show LitB #[.int .i64 I0.length] 3 wL0.heap.size (vs' 13) W;rw [hv];exact h
 | 14,_,_,h,hv=>show NewZ B p H a Zn0 (vs' 14) W;rw [hv];exact h
 | 15,_,_,h,hv=>exact Eq.trans hv h
 | 16,_,_,h,hv=>exact Eq.trans hv h
 | kx+17,hix,_,_,_=>exact absurd hix (by omega)):p:=h
theorem _root_.k4_ {p:Prop} (h:p:=by
 intro ix vs W W' h hg;match ix,h with
 | 0,h=>exact h
 | 1,h=>exact h
 | 2,h=>exact h
 | 3,h=>exact h
 | 4,h=>exact h
 | 5,h=>exact h
 | 6,h=>exact h
 | 7,h=>exact h
 | 8,h=>exact h
 | 9,h=>exact h
 | 10,h=>exact h
 | 11,h=>exact h
 | 12,h=>exact h
 | 13,h=>exact LitB.grew h hg
 | 14,h=>exact NewZ.grew h hg
 | 15,h=>exact h
 | 16,h=>exact h
 | _+17,_=>trivial):p:=h
structure TidP (H:List (Nat × Obj)) (B bt:Nat) (I:List It) (G:List Bool) (Z:Nat→List Int) (aI:Option Addr) (kI:Nat) (aG:Option Addr) (kG:Nat) (a:Nat→Option Addr) (k:Nat→Nat) (W:World):Prop where
 blk:W.heap[bt]? = some (.cells (tdC aI I.length kI aG G.length kG fun g=>.slice (a g) (Z g).length (k g)).toArray 128)
 its:OwnI W B aI kI I
 gon:OwnB W B aG kG G
 stk:∀ g,g<7→OwnZ W B (a g) (k g) (Z g)
 far:∀ g h,g<7→h<7→g≠h→∀ q,a g=some q→a h=some q→False
 held:∀ x∈H,W.heap[x.1]? = some x.2∧x.1≠bt
 offZ:∀ x∈H,∀ g,g<7→∀ q,a g=some q→q.block≠x.1
 offI:∀ x∈H,∀ q,aI=some q→q.block≠x.1
 siz:B≤W.heap.size
def TidG (H:List (Nat × Obj)) (B bt:Nat) (I:List It) (G:List Bool) (Z:Nat→List Int) (W:World):Prop:=∃ (aI:Option Addr) (kI:Nat) (aG:Option Addr) (kG:Nat) (a:Nat→Option Addr) (k:Nat→Nat),TidP H B bt I G Z aI kI aG kG a k W
theorem own_at {w:World} {base:Nat} {e:TypeId} {size n k0:Nat} {a0:Option Addr} {xs:List Value} (h:w.ownsRow base e size (.slice a0 n k0) n xs):∀ q,a0=some q→q=⟨q.block,0,none⟩∧base≤q.block∧q.block<w.heap.size∧(∃ cs,w.heap[q.block]? = some (.cells cs e))∧(Value.slice a0 n k0).ownBlock=some q.block:=by
 intro q hq;rcases h.2 with ⟨h1,_⟩ | ⟨g,cap,cur,h1,h2,h3,_⟩
 · injection h1 with e1;rw [e1] at hq;cases hq
 · injection h1 with e1 e2 e3
   subst e1;injection hq with hq;subst hq;exact ⟨rfl,h2,(Array.getElem?_eq_some_iff.1 h3).1,⟨cur,h3⟩,rfl⟩
theorem own_blk {w:World} {base:Nat} {e:TypeId} {size n k0:Nat} {a0:Option Addr} {xs:List Value} (h:w.ownsRow base e size (.slice a0 n k0) n xs):∀ b,(Value.slice a0 n k0).ownBlock=some b→a0=some ⟨b,0,none⟩:=by
 intro b hb;rcases h.2 with ⟨h1,_⟩ | ⟨g,cap,cur,h1,_⟩
 · rw [h1] at hb;simp [Value.ownBlock] at hb
 · injection h1 with e1 e2 e3
   subst e1;simp [Value.ownBlock] at hb;subst hb;rfl
theorem own_apart {w:World} {base base':Nat} {e e':TypeId} {size size' n n':Nat} {v v':Value} {xs xs':List Value} (h:w.ownsRow base e size v n xs) (h':w.ownsRow base' e' size' v' n' xs') (hne:e≠e'):v.ownBlock=none∨v.ownBlock≠v'.ownBlock:=by
 rcases h.2 with ⟨rfl,_⟩ | ⟨g,cap,cur,rfl,_,hg,_⟩
 · exact .inl (by simp [Value.ownBlock])
 · right
   rcases h'.2 with ⟨rfl,_⟩ | ⟨g',cap',cur',rfl,_,hg',_⟩
   · simp [Value.ownBlock]
   · intro e1
     simp [Value.ownBlock] at e1;subst e1;rw [hg] at hg';simp at hg';exact hne hg'.2
theorem own_far {w:World} {base base':Nat} {e e':TypeId} {size size' n n' k0 k1:Nat} {a0 a1:Option Addr} {xs xs':List Value} (h:w.ownsRow base e size (.slice a0 n k0) n xs) (h':w.ownsRow base' e' size' (.slice a1 n' k1) n' xs') (hd:∀ q,a0=some q→a1=some q→False):(Value.slice a0 n k0).ownBlock=none∨(Value.slice a0 n k0).ownBlock≠(Value.slice a1 n' k1).ownBlock:=by
 cases hb:(Value.slice a0 n k0).ownBlock with
 | none=>exact .inl rfl
 | some b =>
   refine .inr fun e=>?_
   exact hd _ (own_blk h b hb) (own_blk h' b e.symm)
theorem TidP.grew {H:List (Nat × Obj)} {B bt:Nat} {I:List It} {G:List Bool} {Z:Nat→List Int} {aI:Option Addr} {kI:Nat} {aG:Option Addr} {kG:Nat} {a:Nat→Option Addr} {k:Nat→Nat} {W W':World} (h:TidP H B bt I G Z aI kI aG kG a k W) (g:Grew W W'):TidP H B bt I G Z aI kI aG kG a k W' :=
 ⟨(g.block bt (Array.getElem?_eq_some_iff.1 h.blk).1).trans h.blk,h.its.grew g,h.gon.grew g,fun i hi=>(h.stk i hi).grew g,h.far,fun x hx=>⟨(g.block _ (Array.getElem?_eq_some_iff.1 (h.held x hx).1).1).trans (h.held x hx).1,(h.held x hx).2⟩,h.offZ,h.offI,Nat.le_trans h.siz g.size⟩
theorem TidB.toP {B bt:Nat} {S:List (It × Bool)} {W W':World} (h:TidB B bt S W) (hB:B≤W.heap.size) (g:Grew W W') (H:List (Nat × Obj)) (hH:∀ x∈H,W.heap.size≤x.1∧W'.heap[x.1]? = some x.2):TidG H B bt (S.map Prod.fst) (S.map fun s=>!s.2) (fun g=>stk S g) W':=by
 obtain ⟨aI,kI,aG,kG,a,k,h1,h2,h3,h4,h5⟩:=h.ex;have zt:=(Array.getElem?_eq_some_iff.1 h1).1;refine ⟨aI,kI,aG,kG,a,k, ?_,h2.grew g,h3.grew g,fun i hi=>(h4 i hi).grew g,h5,fun x hx=>⟨(hH x hx).2,fun e=>?_⟩,fun x hx i hi q hq e=>?_,fun x hx q hq e=>?_,Nat.le_trans hB g.size⟩
 · rw [List.length_map,List.length_map]
   exact (g.block bt zt).trans h1
 · have:=(hH x hx).1;omega
 · have h6:=(own_at (h4 i hi) q hq).2.2.1
   have:=(hH x hx).1;omega
 · have h6:=(own_at (show W.ownsRow B 51 4 _ _ _ from h2) q hq).2.2.1
   have:=(hH x hx).1;omega
theorem TidG.toB {H:List (Nat × Obj)} {B bt:Nat} {S:List (It × Bool)} {W:World} {I:List It} {G:List Bool} {Z:Nat→List Int} (h:TidG H B bt I G Z W) (hI:I=S.map Prod.fst) (hG:G=S.map fun s=>!s.2) (hZ:∀ g,g<7→Z g=stk S g):TidB B bt S W:=by
 obtain ⟨aI,kI,aG,kG,a,k,h⟩:=h;subst hI;subst hG;refine ⟨aI,kI,aG,kG,a,k, ?_,h.its,h.gon,fun g hg=>by rw [← hZ g hg];exact h.stk g hg,h.far⟩;have h1:=h.blk;rw [List.length_map,List.length_map] at h1;rw [tdC_congr (st':=fun g=>.slice (a g) (Z g).length (k g)) fun g hg=>by rw [hZ g hg]];exact h1
structure RestZ (w0:World) (n:Nat) (H:List (Nat × Obj)) (B bt p:Nat) (I:List It) (G:List Bool) (Z:Nat→List Int) (aI:Option Addr) (kI:Nat) (aG:Option Addr) (kG:Nat) (a:Nat→Option Addr) (k:Nat→Nat) (L:Prop) (W:World):Prop where
 grew:Grew w0 W
 blk:W.heap[bt]? = some (.cells (tdC aI I.length kI aG G.length kG fun g=>.slice (a g) (Z g).length (k g)).toArray 128)
 its:OwnI W B aI kI I
 gon:OwnB W B aG kG G
 oth:∀ g,g<7→g≠p→OwnZ W B (a g) (k g) (Z g)
 cur:¬ L→OwnZ W B (a p) (k p) (Z p)
 far:∀ g h,g<7→h<7→g≠h→∀ q,a g=some q→a h=some q→False
 held:∀ x∈H,W.heap[x.1]? = some x.2∧x.1≠bt
 offZ:∀ x∈H,∀ g,g<7→∀ q,a g=some q→q.block≠x.1
 offI:∀ x∈H,∀ q,aI=some q→q.block≠x.1
 siz:B≤W.heap.size
 len:n≤W.heap.size
 low:∀ q,a p=some q→q.block<n
theorem RestZ.grows {w0:World} {n:Nat} {H:List (Nat × Obj)} {B bt p:Nat} {I:List It} {G:List Bool} {Z:Nat→List Int} {aI:Option Addr} {kI:Nat} {aG:Option Addr} {kG:Nat} {a:Nat→Option Addr} {k:Nat→Nat} {L:Prop} {W W':World} (h:RestZ w0 n H B bt p I G Z aI kI aG kG a k L W) (g:Grew W W'):RestZ w0 n H B bt p I G Z aI kI aG kG a k L W' :=
 ⟨h.grew.trans g,(g.block bt (Array.getElem?_eq_some_iff.1 h.blk).1).trans h.blk,h.its.grew g,h.gon.grew g,fun i hi hp=>(h.oth i hi hp).grew g,fun hl=>(h.cur hl).grew g,h.far,fun x hx=>⟨(g.block _ (Array.getElem?_eq_some_iff.1 (h.held x hx).1).1).trans (h.held x hx).1,(h.held x hx).2⟩,h.offZ,h.offI,Nat.le_trans h.siz g.size,Nat.le_trans h.len g.size,h.low⟩
theorem RestZ.weak {w0:World} {n:Nat} {H:List (Nat × Obj)} {B bt p:Nat} {I:List It} {G:List Bool} {Z:Nat→List Int} {aI:Option Addr} {kI:Nat} {aG:Option Addr} {kG:Nat} {a:Nat→Option Addr} {k:Nat→Nat} {L L':Prop} {W:World} (h:RestZ w0 n H B bt p I G Z aI kI aG kG a k L W) (hl:L→L'):RestZ w0 n H B bt p I G Z aI kI aG kG a k L' W:=⟨h.grew,h.blk,h.its,h.gon,h.oth,fun hn=>h.cur fun x=>hn (hl x),h.far,h.held,h.offZ,h.offI,h.siz,h.len,h.low⟩
theorem TidP.rest {p:Nat} {H:List (Nat × Obj)} {B bt:Nat} {I:List It} {G:List Bool} {Z:Nat→List Int} {aI:Option Addr} {kI:Nat} {aG:Option Addr} {kG:Nat} {a:Nat→Option Addr} {k:Nat→Nat} {w0 W:World} (h:TidP H B bt I G Z aI kI aG kG a k W) (hp:p<7) (g:Grew w0 W) (L:Prop):RestZ w0 W.heap.size H B bt p I G Z aI kI aG kG a k L W:=⟨g,h.blk,h.its,h.gon,fun i hi _=>h.stk i hi,fun _=>h.stk p hp,h.far,h.held,h.offZ,h.offI,h.siz,Nat.le_refl _,fun q hq=>(own_at (h.stk p hp) q hq).2.2.1⟩
def NewZ (B p:Nat) (H:List (Nat × Obj)) (a:Nat→Option Addr) (l:List Int) (v:Value) (W:World):Prop:=∃ a2 k2,v=.slice a2 l.length k2∧OwnZ W B a2 k2 l∧(∀ h,h<7→h≠p→∀ q,a2=some q→a h=some q→False)∧∀ x∈H,∀ q,a2=some q→q.block≠x.1
theorem NewZ.grew {B p:Nat} {H:List (Nat × Obj)} {a:Nat→Option Addr} {l:List Int} {v:Value} {W W':World} (h:NewZ B p H a l v W) (g:Grew W W'):NewZ B p H a l v W':=by
 obtain ⟨a2,k2,h1,h2,h3⟩:=h;exact ⟨a2,k2,h1,h2.grew g,h3⟩
theorem RestZ.app {w0:World} {n:Nat} {H:List (Nat × Obj)} {B bt p:Nat} {I:List It} {G:List Bool} {Z:Nat→List Int} {aI:Option Addr} {kI:Nat} {aG:Option Addr} {kG:Nat} {a:Nat→Option Addr} {k:Nat→Nat} {L:Prop} {W:World} (h:RestZ w0 n H B bt p I G Z aI kI aG kG a k L W) (hL:¬ L) (hp:p<7) {b:Nat} {z:Int} (hz:W.heap[b]? = some (.cells #[.int .i64 z] 3)) (hl:(Z p).length≤5000) (hB:w0.heap.size≤B) (c:Nat) (ty:TypeId) :
  ∃ v' W',(Builtin.append_ #[55,55] ty #[.slice (a p) (Z p).length (k p),.slice (some ⟨b,0,none⟩) 1 c]).run Tryz.prog W=.ok v' W'∧RestZ w0 n H B bt p I G Z aI kI aG kG a k True W'∧NewZ B p H a (Z p++[z]) v' W'∧W.grownBy W' (Value.slice (a p) (Z p).length (k p)).ownBlock:=by
 obtain ⟨i0,hi,hz0,hz1,hz2⟩:=info_parts info_z;have hown:=h.cur hL;obtain ⟨v',W',hr,ho,hg,hloc,hd⟩:=run_append_behind (P:=Tryz.prog) W B 55 ty 3 i0 (.int .i64 0) 1 8 Tryz.underlying55 hi hz0 hz1 hz2 rfl (by decide) _ _ (zCells (Z p)) hown ⟨b,0,none⟩ 1 c [.int .i64 z] rfl (fun j u hj=>by
  match j,hj with
  | 0,hj=>simp at hj;subst hj;simp [Addr.add,World.cell?,hz]) (fun u hu=>zCells_one (l:=[z]) hu) (by unfold maxLen;omega) (by omega) h.siz
 obtain ⟨a2,k2,rfl⟩:=ownsRow_slice ho;rw [show (Z p).length+1=(Z p++[z]).length by simp,show zCells (Z p)++[.int .i64 z]=zCells (Z p++[z]) by simp [zCells]] at ho;rw [show (Z p).length+1=(Z p++[z]).length by simp] at hr hloc;have hbt:=(Array.getElem?_eq_some_iff.1 h.blk).1;refine ⟨_,W',hr,⟨Grew.by h.grew hg hd (fun j hj=>Nat.le_trans hB (ownsRow_above hown j hj)),(hg.block bt hbt (fun e=>own_kind hown h.blk (by decide) e.symm)).trans h.blk,World.ownsRow.kept h.its hg (own_apart h.its hown (by decide)),World.ownsRow.kept h.gon hg (own_apart h.gon hown (by decide)),fun g hgl hgp=>World.ownsRow.kept (h.oth g hgl hgp) hg (own_far (h.oth g hgl hgp) hown (h.far g p hgl hp hgp)),fun hn=>absurd trivial hn,h.far,fun x hx=>⟨?_,(h.held x hx).2⟩,h.offZ,h.offI,Nat.le_trans h.siz hg.size,Nat.le_trans h.len hg.size,h.low⟩,⟨a2,k2,rfl,ho,fun g hgl hgp q h2 h3=>?_,fun x hx q h2=>?_⟩,hg⟩
 · refine (hg.block _ (Array.getElem?_eq_some_iff.1 (h.held x hx).1).1 fun e=>?_).trans (h.held x hx).1
   exact h.offZ x hx p hp _ (own_blk hown _ e.symm) rfl
 · have h4:=own_at ho q h2
   rcases hloc with hloc | hloc
   · rw [h4.2.2.2.2] at hloc
     have h5:=own_blk hown _ hloc.symm;rw [← h4.1] at h5;exact h.far g p hgl hp hgp q h3 h5
   · rw [h4.2.2.2.2] at hloc
     have h6:=(own_at (h.oth g hgl hgp) q h3).2.2.1;injection hloc with hloc;omega
 · have h4:=own_at ho q h2
   rcases hloc with hloc | hloc
   · rw [h4.2.2.2.2] at hloc
     exact fun e=>h.offZ x hx p hp _ (own_blk hown _ hloc.symm) e
   · rw [h4.2.2.2.2] at hloc
     injection hloc with hloc;have:=(Array.getElem?_eq_some_iff.1 (h.held x hx).1).1;omega
theorem RestZ.close {w0:World} {n:Nat} {H:List (Nat × Obj)} {B bt p:Nat} {I:List It} {G:List Bool} {Z:Nat→List Int} {aI:Option Addr} {kI:Nat} {aG:Option Addr} {kG:Nat} {a:Nat→Option Addr} {k:Nat→Nat} {L:Prop} {W:World} (h:RestZ w0 n H B bt p I G Z aI kI aG kG a k L W) {l:List Int} {v:Value} (hn:NewZ B p H a l v W):TidG H B bt I G (fun g=>if g=p then l else Z g) (W.setCell ⟨bt,2+p,none⟩ v):=by
 obtain ⟨a2,k2,rfl,ho,hf,hh⟩:=hn;have s1:=heap_setCell_same W bt (2+p) _ _ (.slice a2 l.length k2) h.blk;simp only [List.setIfInBounds_toArray,tdC_set] at s1;refine ⟨aI,kI,aG,kG,fun g=>if g=p then a2 else a g,fun g=>if g=p then k2 else k g, ?_,own_set h.its h.blk (by decide) _ _,own_set h.gon h.blk (by decide) _ _,fun g hg=>?_,fun g g' hg hg' hne q h1 h2=>?_,fun x hx=>⟨?_,(h.held x hx).2⟩,fun x hx g hg q hq=>?_,h.offI,by simpa using h.siz⟩
 · rw [tdC_congr (st':=fun i=>if i=p then (.slice a2 l.length k2) else .slice (a i) (Z i).length (k i)) ?_]
   · exact s1
   · intro g _
     by_cases hgp:g=p
     · simp only [if_pos hgp]
     · simp only [if_neg hgp]
 · by_cases hgp:g=p
   · simp only [if_pos hgp]
     exact own_set ho h.blk (by decide) _ _
   · simp only [if_neg hgp]
     exact own_set (h.oth g hg hgp) h.blk (by decide) _ _
 · by_cases hgp:g=p
   · rw [if_pos hgp] at h1
     rw [if_neg (fun e=>hne (hgp.trans e.symm))] at h2;exact hf g' hg' (fun e=>hne (hgp.trans e.symm)) q h1 h2
   · rw [if_neg hgp] at h1
     by_cases hgp':g'=p
     · rw [if_pos hgp'] at h2
       exact hf g hg hgp q h2 h1
     · rw [if_neg hgp'] at h2
       exact h.far g g' hg hg' hne q h1 h2
 · rw [heap_setCell_other _ _ _ _ (h.held x hx).2]
   exact (h.held x hx).1
 · by_cases hgp:g=p
   · rw [if_pos hgp] at hq
     exact hh x hx q hq
   · rw [if_neg hgp] at hq
     exact h.offZ x hx g hg q hq
open Go Go.RowKit Amp Msh
theorem R4.slot_append {P:Program} {o:Oper} {act:Act} {w:World} {V:Value→World→Prop} (s x:Operand) (t:TypeId) (ho:o.op=.call { callee:=.builtin .append,args:=#[s,x],argTypes:=#[t,t] }) {v vx:Value} (hs:act.eval s=v) (hx:act.eval x=vx)
  (h:∃ v' w',(Builtin.append_ #[t,t] o.type #[v,vx]).run P w=.ok v' w'∧V v' w'):R4.Oper.slotAt P o act w V:=by
 obtain ⟨v',w',hr,h⟩:=h;unfold R4.Oper.slotAt execOp;simp only [ho,resolve,invoke,builtin,Sem.run_bind,Sem.run_pure,Result.andThen_ok,List.map_toArray,List.map_cons,List.map_nil,hs,hx,hr];exact h
def LitB (C:Array Value) (T:TypeId) (n:Nat) (v:Value) (W:World):Prop:=∃ b:Nat,v=.slice (some ⟨b,0,none⟩) 1 1∧n≤b∧W.heap[b]? = some (.cells C T)
theorem LitB.grew {C:Array Value} {T:TypeId} {n:Nat} {v:Value} {W W':World} (h:LitB C T n v W) (g:Grew W W'):LitB C T n v W':=by
 obtain ⟨b,h1,h2,h3⟩:=h;exact ⟨b,h1,h2,(g.block b (Array.getElem?_eq_some_iff.1 h3).1).trans h3⟩
theorem LitB.by {C:Array Value} {T:TypeId} {n:Nat} {v:Value} {W W':World} {ob:Option Nat} (h:LitB C T n v W) (g:W.grownBy W' ob) (hl:∀ b,ob=some b→b<n):LitB C T n v W':=by
 obtain ⟨b,h1,h2,h3⟩:=h;exact ⟨b,h1,h2,(g.block b (Array.getElem?_eq_some_iff.1 h3).1 fun e=>absurd (hl b e.symm) (by omega)).trans h3⟩
theorem LitB.set {C:Array Value} {T:TypeId} {n b:Nat} {v:Value} {W:World} (h:LitB C T n v W) (hb:b<n) (i:Nat) (u:Value):LitB C T n v (W.setCell ⟨b,i,none⟩ u):=by
 obtain ⟨c,h1,h2,h3⟩:=h;exact ⟨c,h1,h2,(heap_setCell_other _ _ _ _ (by show c≠b;omega)).trans h3⟩
theorem LitB.new {C:Array Value} {T:TypeId} {n b:Nat} {W:World} (hn:n≤W.heap.size) (hb:b=W.heap.size):LitB C T n (.slice (some ⟨b,0,none⟩) 1 1) (W.alloc (.cells C T)):=by
 subst hb;exact ⟨_,rfl,hn,heap_new _ _⟩
theorem slice_low {n m k0:Nat} {a0:Option Addr} (h:∀ q,a0=some q→q.block<n):∀ b,(Value.slice a0 m k0).ownBlock=some b→b<n:=by
 intro b hb;cases a0 with
 | none=>simp [Value.ownBlock] at hb
 | some q =>
   have h1:=h q rfl;simp [Value.ownBlock] at hb;omega
def NewI (B:Nat) (l:List It) (v:Value) (W:World):Prop:=∃ a2 k2,v=.slice a2 l.length k2∧OwnI W B a2 k2 l
def NewB (B:Nat) (l:List Bool) (v:Value) (W:World):Prop:=∃ a2 k2,v=.slice a2 l.length k2∧OwnB W B a2 k2 l
theorem NewI.grew {B:Nat} {l:List It} {v:Value} {W W':World} (h:NewI B l v W) (g:Grew W W'):NewI B l v W':=by
 obtain ⟨a2,k2,h1,h2⟩:=h;exact ⟨a2,k2,h1,h2.grew g⟩
theorem NewB.grew {B:Nat} {l:List Bool} {v:Value} {W W':World} (h:NewB B l v W) (g:Grew W W'):NewB B l v W':=by
 obtain ⟨a2,k2,h1,h2⟩:=h;exact ⟨a2,k2,h1,h2.grew g⟩
theorem NewI.by {B:Nat} {l:List It} {v:Value} {W W':World} {aG:Option Addr} {kG:Nat} {G:List Bool} (h:NewI B l v W) (hG:OwnB W B aG kG G) (g:W.grownBy W' (Value.slice aG G.length kG).ownBlock):NewI B l v W':=by
 obtain ⟨a2,k2,h1,h2⟩:=h;exact ⟨a2,k2,h1,World.ownsRow.kept h2 g (own_apart h2 hG (by decide))⟩
theorem NewB.by {B:Nat} {l:List Bool} {v:Value} {W W':World} {aI:Option Addr} {kI:Nat} {I:List It} (h:NewB B l v W) (hI:OwnI W B aI kI I) (g:W.grownBy W' (Value.slice aI I.length kI).ownBlock):NewB B l v W':=by
 obtain ⟨a2,k2,h1,h2⟩:=h;exact ⟨a2,k2,h1,World.ownsRow.kept h2 g (own_apart h2 hI (by decide))⟩
def StI (x:It) (bt:Nat) (I:List It) (G:List Bool) (Z:Nat→List Int) (aG:Option Addr) (kG:Nat) (a:Nat→Option Addr) (k:Nat→Nat) (v:Value) (W:World):Prop:=∃ a2 k2,v=.slice a2 (I++[x]).length k2∧W.heap[bt]? = some (.cells (tdC a2 (I++[x]).length k2 aG G.length kG fun g=>.slice (a g) (Z g).length (k g)).toArray 128)
theorem StI.grew {x:It} {bt:Nat} {I:List It} {G:List Bool} {Z:Nat→List Int} {aG:Option Addr} {kG:Nat} {a:Nat→Option Addr} {k:Nat→Nat} {v:Value} {W W':World} (h:StI x bt I G Z aG kG a k v W) (g:Grew W W'):StI x bt I G Z aG kG a k v W':=by
 obtain ⟨a2,k2,h1,h3⟩:=h;exact ⟨a2,k2,h1,(g.block bt (Array.getElem?_eq_some_iff.1 h3).1).trans h3⟩
structure RestF (w0:World) (n b3:Nat) (x:It) (B bt:Nat) (I:List It) (G:List Bool) (Z:Nat→List Int) (aI:Option Addr) (kI:Nat) (aG:Option Addr) (kG:Nat) (a:Nat→Option Addr) (k:Nat→Nat) (L8 L14 L17:Prop) (W:World):Prop where
 grew:Grew w0 W
 blk:¬ L17→W.heap[bt]? = some (.cells (tdC aI I.length kI aG G.length kG fun g=>.slice (a g) (Z g).length (k g)).toArray 128)
 its:¬ L8→OwnI W B aI kI I
 gon:¬ L14→OwnB W B aG kG G
 stk:∀ g,g<7→OwnZ W B (a g) (k g) (Z g)
 item:W.heap[b3]? = some (.cells (itCells x).toArray 51)
 len:n≤W.heap.size
theorem RestF.grows {w0:World} {n b3:Nat} {x:It} {B bt:Nat} {I:List It} {G:List Bool} {Z:Nat→List Int} {aI:Option Addr} {kI:Nat} {aG:Option Addr} {kG:Nat} {a:Nat→Option Addr} {k:Nat→Nat} {L8 L14 L17:Prop} {W W':World} (h:RestF w0 n b3 x B bt I G Z aI kI aG kG a k L8 L14 L17 W) (hbt:bt<n) (g:Grew W W'):RestF w0 n b3 x B bt I G Z aI kI aG kG a k L8 L14 L17 W' :=
 ⟨h.grew.trans g,fun hl=>(g.block bt (Nat.lt_of_lt_of_le hbt h.len)).trans (h.blk hl),fun hl=>(h.its hl).grew g,fun hl=>(h.gon hl).grew g,fun i hi=>(h.stk i hi).grew g,(g.block b3 (Array.getElem?_eq_some_iff.1 h.item).1).trans h.item,Nat.le_trans h.len g.size⟩
theorem RestF.weak {w0:World} {n b3:Nat} {x:It} {B bt:Nat} {I:List It} {G:List Bool} {Z:Nat→List Int} {aI:Option Addr} {kI:Nat} {aG:Option Addr} {kG:Nat} {a:Nat→Option Addr} {k:Nat→Nat} {L8 L14 L17 M8 M14 M17:Prop} {W:World} (h:RestF w0 n b3 x B bt I G Z aI kI aG kG a k L8 L14 L17 W) (h8:L8→M8) (h14:L14→M14) (h17:L17→M17):RestF w0 n b3 x B bt I G Z aI kI aG kG a k M8 M14 M17 W :=
 ⟨h.grew,fun hn=>h.blk fun x=>hn (h17 x),fun hn=>h.its fun x=>hn (h8 x),fun hn=>h.gon fun x=>hn (h14 x),h.stk,h.item,h.len⟩
structure FixF (w0:World) (n b3:Nat) (x:It) (B bt:Nat) (I:List It) (G:List Bool) (Z:Nat→List Int) (aI:Option Addr) (kI:Nat) (aG:Option Addr) (kG:Nat) (a:Nat→Option Addr) (k:Nat→Nat):Prop where
 sb:bt<n
 nb:b3≠bt
 offI:∀ q,aI=some q→q.block≠b3
 lowI:∀ q,aI=some q→q.block<n
 lowG:∀ q,aG=some q→q.block<n
 base:w0.heap.size≤B
 len:B≤n
 far:∀ g h,g<7→h<7→g≠h→∀ q,a g=some q→a h=some q→False
 sw:w0.heap.size≤bt
theorem TidP.restF {H:List (Nat × Obj)} {B bt b3:Nat} {x:It} {I:List It} {G:List Bool} {Z:Nat→List Int} {aI:Option Addr} {kI:Nat} {aG:Option Addr} {kG:Nat} {a:Nat→Option Addr} {k:Nat→Nat} {w0 W:World} (h:TidP H B bt I G Z aI kI aG kG a k W) (hH:(b3,(.cells (itCells x).toArray 51:Obj))∈H) (g:Grew w0 W) (hB:w0.heap.size≤B) (hbt:w0.heap.size≤bt) :
  FixF w0 W.heap.size b3 x B bt I G Z aI kI aG kG a k∧∀ L8 L14 L17,RestF w0 W.heap.size b3 x B bt I G Z aI kI aG kG a k L8 L14 L17 W :=
 ⟨⟨(Array.getElem?_eq_some_iff.1 h.blk).1,(h.held _ hH).2,h.offI _ hH,fun q hq=>(own_at (show W.ownsRow B 51 4 _ _ _ from h.its) q hq).2.2.1,fun q hq=>(own_at (show W.ownsRow B 4 1 _ _ _ from h.gon) q hq).2.2.1,hB,h.siz,h.far,hbt⟩,fun _ _ _=>⟨g,fun _=>h.blk,fun _=>h.its,fun _=>h.gon,h.stk,(h.held _ hH).1,Nat.le_refl _⟩⟩
theorem RestF.appI {w0:World} {n b3:Nat} {x:It} {B bt:Nat} {I:List It} {G:List Bool} {Z:Nat→List Int} {aI:Option Addr} {kI:Nat} {aG:Option Addr} {kG:Nat} {a:Nat→Option Addr} {k:Nat→Nat} {L8 L14 L17:Prop} {W:World} (h:RestF w0 n b3 x B bt I G Z aI kI aG kG a k L8 L14 L17 W) (f:FixF w0 n b3 x B bt I G Z aI kI aG kG a k) (hL:¬ L8) {b:Nat} (hz:W.heap[b]? = some (.cells (itCells x).toArray 51)) (hl:I.length≤5000) (c:Nat) (ty:TypeId) :
  ∃ v' W',(Builtin.append_ #[26,26] ty #[.slice aI I.length kI,.slice (some ⟨b,0,none⟩) 1 c]).run Tryz.prog W=.ok v' W'∧RestF w0 n b3 x B bt I G Z aI kI aG kG a k True L14 L17 W'∧NewI B (I++[x]) v' W'∧W.grownBy W' (Value.slice aI I.length kI).ownBlock:=by
 obtain ⟨i0,hi,hz0,hz1,hz2⟩:=info_parts info_it;have hown:=h.its hL;obtain ⟨v',W',hr,ho,hg,_,hd⟩:=run_append_behind (P:=Tryz.prog) W B 26 ty 51 i0 (.agg #[.int .i64 0,.int .i64 0,.int .i64 0,.string ⟨#[]⟩]) 4 40 Tryz.underlying26 hi hz0 hz1 hz2 rfl (by decide) _ _ (itsCells I) hown ⟨b,0,none⟩ 1 c (itCells x) rfl (itCells_in (by simp [World.cell?,hz,itCells]) (by simp [World.cell?,hz,itCells]) (by simp [World.cell?,hz,itCells]) (by simp [World.cell?,hz,itCells])) (fun u hu=>itCells_one hu) (by unfold maxLen;omega) (by omega) (Nat.le_trans f.len h.len);obtain ⟨a2,k2,rfl⟩:=ownsRow_slice ho;rw [show I.length+1=(I++[x]).length by simp,show itsCells I++itCells x=itsCells (I++[x]) by simp [itsCells]] at ho;rw [show I.length+1=(I++[x]).length by simp] at hr;refine ⟨_,W',hr,⟨Grew.by h.grew hg hd (fun j hj=>Nat.le_trans f.base (ownsRow_above hown j hj)),fun hn=>(hg.block bt (Nat.lt_of_lt_of_le f.sb h.len) (fun e=>own_kind hown (h.blk hn) (by decide) e.symm)).trans (h.blk hn),fun hn=>absurd trivial hn,fun hn=>World.ownsRow.kept (h.gon hn) hg (own_apart (h.gon hn) hown (by decide)),fun g hgl=>World.ownsRow.kept (h.stk g hgl) hg (own_apart (h.stk g hgl) hown (by decide)), ?_,Nat.le_trans h.len hg.size⟩,⟨a2,k2,rfl,ho⟩,hg⟩;refine (hg.block _ (Array.getElem?_eq_some_iff.1 h.item).1 fun e=>?_).trans h.item;exact f.offI _ (own_blk hown _ e.symm) rfl
theorem info_b:(Tryz.prog.info? 4).map (fun i=>(i.zero,i.size,i.bytes))=some (some (.bool false),1,1):=by kernel_rfl
theorem RestF.appG {w0:World} {n b3:Nat} {x:It} {B bt:Nat} {I:List It} {G:List Bool} {Z:Nat→List Int} {aI:Option Addr} {kI:Nat} {aG:Option Addr} {kG:Nat} {a:Nat→Option Addr} {k:Nat→Nat} {L8 L14 L17:Prop} {W:World} (h:RestF w0 n b3 x B bt I G Z aI kI aG kG a k L8 L14 L17 W) (f:FixF w0 n b3 x B bt I G Z aI kI aG kG a k) (hL:¬ L14) {b:Nat} {z:Bool} (hz:W.heap[b]? = some (.cells #[.bool z] 4)) (hl:G.length≤5000) (c:Nat) (ty:TypeId) :
  ∃ v' W',(Builtin.append_ #[125,125] ty #[.slice aG G.length kG,.slice (some ⟨b,0,none⟩) 1 c]).run Tryz.prog W=.ok v' W'∧RestF w0 n b3 x B bt I G Z aI kI aG kG a k L8 True L17 W'∧NewB B (G++[z]) v' W'∧W.grownBy W' (Value.slice aG G.length kG).ownBlock:=by
 obtain ⟨i0,hi,hz0,hz1,hz2⟩:=info_parts info_b;have hown:=h.gon hL;obtain ⟨v',W',hr,ho,hg,_,hd⟩:=run_append_behind (P:=Tryz.prog) W B 125 ty 4 i0 (.bool false) 1 1 Tryz.underlying125 hi hz0 hz1 hz2 rfl (by decide) _ _ (boCells G) hown ⟨b,0,none⟩ 1 c [.bool z] rfl (fun j u hj=>by
  match j,hj with
  | 0,hj=>simp at hj;subst hj;simp [Addr.add,World.cell?,hz]) (fun u hu=>by simp at hu;subst hu;rfl) (by unfold maxLen;omega) (by omega) (Nat.le_trans f.len h.len)
 obtain ⟨a2,k2,rfl⟩:=ownsRow_slice ho;rw [show G.length+1=(G++[z]).length by simp,show boCells G++[.bool z]=boCells (G++[z]) by simp [boCells]] at ho;rw [show G.length+1=(G++[z]).length by simp] at hr;refine ⟨_,W',hr,⟨Grew.by h.grew hg hd (fun j hj=>Nat.le_trans f.base (ownsRow_above hown j hj)),fun hn=>(hg.block bt (Nat.lt_of_lt_of_le f.sb h.len) (fun e=>own_kind hown (h.blk hn) (by decide) e.symm)).trans (h.blk hn),fun hn=>World.ownsRow.kept (h.its hn) hg (own_apart (h.its hn) hown (by decide)),fun hn=>absurd trivial hn,fun g hgl=>World.ownsRow.kept (h.stk g hgl) hg (own_apart (h.stk g hgl) hown (by decide)), ?_,Nat.le_trans h.len hg.size⟩,⟨a2,k2,rfl,ho⟩,hg⟩;refine (hg.block _ (Array.getElem?_eq_some_iff.1 h.item).1 fun e=>?_).trans h.item;exact own_kind hown h.item (by decide) e.symm
theorem tdC_set0 {aI aG:Option Addr} {nI kI nG kG:Nat} {st:Nat→Value} (a2:Option Addr) (n2 k2:Nat):(tdC aI nI kI aG nG kG st).set 0 (.slice a2 n2 k2)=tdC a2 n2 k2 aG nG kG st:=rfl
theorem tdC_set1 {aI aG:Option Addr} {nI kI nG kG:Nat} {st:Nat→Value} (a2:Option Addr) (n2 k2:Nat):(tdC aI nI kI aG nG kG st).set 1 (.slice a2 n2 k2)=tdC aI nI kI a2 n2 k2 st:=rfl
theorem RestF.store {w0:World} {n b3:Nat} {x:It} {B bt:Nat} {I:List It} {G:List Bool} {Z:Nat→List Int} {aI:Option Addr} {kI:Nat} {aG:Option Addr} {kG:Nat} {a:Nat→Option Addr} {k:Nat→Nat} {L8 L14 L17:Prop} {W:World} (h:RestF w0 n b3 x B bt I G Z aI kI aG kG a k L8 L14 L17 W) (f:FixF w0 n b3 x B bt I G Z aI kI aG kG a k) (h17:¬ L17) (a2:Option Addr) (k2:Nat) :
  RestF w0 n b3 x B bt I G Z aI kI aG kG a k L8 L14 True (W.setCell ⟨bt,0,none⟩ (.slice a2 (I++[x]).length k2))∧(W.setCell ⟨bt,0,none⟩ (.slice a2 (I++[x]).length k2)).heap[bt]? = some (.cells (tdC a2 (I++[x]).length k2 aG G.length kG fun g=>.slice (a g) (Z g).length (k g)).toArray 128):=by
 have hb:=h.blk h17;refine ⟨⟨h.grew.set f.sw _ _,fun hn=>absurd trivial hn,fun hn=>own_set (h.its hn) hb (by decide) _ _,fun hn=>own_set (h.gon hn) hb (by decide) _ _,fun g hg=>own_set (h.stk g hg) hb (by decide) _ _, ?_,by simpa using h.len⟩, ?_⟩
 · rw [heap_setCell_other _ _ _ _ f.nb]
   exact h.item
 · have s1:=heap_setCell_same W bt 0 _ _ (.slice a2 (I++[x]).length k2) hb
   simp only [List.setIfInBounds_toArray,tdC_set0] at s1;exact s1
theorem RestF.close {w0:World} {n b3:Nat} {x:It} {B bt:Nat} {I:List It} {G:List Bool} {Z:Nat→List Int} {aI:Option Addr} {kI:Nat} {aG:Option Addr} {kG:Nat} {a:Nat→Option Addr} {k:Nat→Nat} {L8 L14 L17:Prop} {W:World} (h:RestF w0 n b3 x B bt I G Z aI kI aG kG a k L8 L14 L17 W) (f:FixF w0 n b3 x B bt I G Z aI kI aG kG a k) {l:List Bool} {a2 a3:Option Addr} {k2 k3:Nat} (hI:OwnI W B a2 k2 (I++[x])) (hb:W.heap[bt]? = some (.cells (tdC a2 (I++[x]).length k2 aG G.length kG fun g=>.slice (a g) (Z g).length (k g)).toArray 128)) (hG:OwnB W B a3 k3 l) :
  TidG [] B bt (I++[x]) l Z (W.setCell ⟨bt,1,none⟩ (.slice a3 l.length k3))∧Grew w0 (W.setCell ⟨bt,1,none⟩ (.slice a3 l.length k3)):=by
 have s1:=heap_setCell_same W bt 1 _ _ (.slice a3 l.length k3) hb;simp only [List.setIfInBounds_toArray,tdC_set1] at s1;exact ⟨⟨a2,k2,a3,k3,a,k,s1,own_set hI hb (by decide) _ _,own_set hG hb (by decide) _ _,fun g hg=>own_set (h.stk g hg) hb (by decide) _ _,f.far,fun _ hx=>absurd hx List.not_mem_nil,fun _ hx=>absurd hx List.not_mem_nil,fun _ hx=>absurd hx List.not_mem_nil,by simpa using Nat.le_trans f.len h.len⟩,h.grew.set f.sw _ _⟩
def ClsZ (w0:World) (n:Nat) (H:List (Nat × Obj)) (B bt p:Nat) (I:List It) (G:List Bool) (Z:Nat→List Int) (aI:Option Addr) (kI:Nat) (aG:Option Addr) (kG:Nat) (a:Nat→Option Addr) (k:Nat→Nat) (L:Nat→Prop) (W:World):Prop:=RestZ w0 n H B bt p I G Z aI kI aG kG a k (L 14) W
theorem ClsZ.keep {w0:World} {n:Nat} {H:List (Nat × Obj)} {B bt p:Nat} {I:List It} {G:List Bool} {Z:Nat→List Int} {aI:Option Addr} {kI:Nat} {aG:Option Addr} {kG:Nat} {a:Nat→Option Addr} {k:Nat→Nat} {L:Nat→Prop} {W W':World} {i:Nat} (h:ClsZ w0 n H B bt p I G Z aI kI aG kG a k L W) (g:Grew W W'):ClsZ w0 n H B bt p I G Z aI kI aG kG a k (fun j=>L j∨j=i) W':=RestZ.weak (RestZ.grows h g) .inl
def ClsF (w0:World) (n b3:Nat) (x:It) (B bt:Nat) (I:List It) (G:List Bool) (Z:Nat→List Int) (aI:Option Addr) (kI:Nat) (aG:Option Addr) (kG:Nat) (a:Nat→Option Addr) (k:Nat→Nat) (L:Nat→Prop) (W:World):Prop:=RestF w0 n b3 x B bt I G Z aI kI aG kG a k (L 8) (L 14) (L 17) W
theorem ClsF.keep {w0:World} {n b3:Nat} {x:It} {B bt:Nat} {I:List It} {G:List Bool} {Z:Nat→List Int} {aI:Option Addr} {kI:Nat} {aG:Option Addr} {kG:Nat} {a:Nat→Option Addr} {k:Nat→Nat} {L:Nat→Prop} {W W':World} {i:Nat} (h:ClsF w0 n b3 x B bt I G Z aI kI aG kG a k L W) (hb:bt<n) (g:Grew W W'):ClsF w0 n b3 x B bt I G Z aI kI aG kG a k (fun j=>L j∨j=i) W':=RestF.weak (RestF.grows h hb g) .inl .inl .inl
open Go Go.RowKit Amp Msh
theorem any_world {P:Program} {c:Code} {Q:Exit→Act→World→Prop} {a:Act} {W w:World} (g:Grew W w) (h:∀ wL,Grew W wL→c.wp P Q a wL):c.wp P Q a w:=h _ g
theorem NewI.set {B:Nat} {l:List It} {v:Value} {W:World} {b:Nat} {cs:Array Value} {fz:Nat × Nat} (h:NewI B l v W) (hb:W.heap[b]? = some (.cells cs 128 fz)) (i:Nat) (u:Value):NewI B l v (W.setCell ⟨b,i,none⟩ u):=by
 obtain ⟨a2,k2,h1,h2⟩:=h;exact ⟨a2,k2,h1,own_set h2 hb (by decide) _ _⟩
theorem NewB.set {B:Nat} {l:List Bool} {v:Value} {W:World} {b:Nat} {cs:Array Value} {fz:Nat × Nat} (h:NewB B l v W) (hb:W.heap[b]? = some (.cells cs 128 fz)) (i:Nat) (u:Value):NewB B l v (W.setCell ⟨b,i,none⟩ u):=by
 obtain ⟨a2,k2,h1,h2⟩:=h;exact ⟨a2,k2,h1,own_set h2 hb (by decide) _ _⟩
end Go.Proofs.YtchdmecjhaanfaaGreatDoor
