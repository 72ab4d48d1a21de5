import Derived.Test.YtchdmecjhaanfaaGreatDoorTopC
import Derived.Test.YtchdmecjhaanfaaGreatDoorTopD
import Derived.Test.YtchdmecjhaanfaaGreatDoorTopE
import Derived.Test.YtchdmecjhaanfaaGreatDoorRdA
import Derived.Test.YtchdmecjhaanfaaGreatDoorRdA
import Derived.Test.YtchdmecjhaanfaaGreatDoorNetD
import Derived.Test.YtchdmecjhaanfaaGreatDoorNetF
import Derived.Test.YtchdmecjhaanfaaGreatDoorMshW
import Derived.Test.YtchdmecjhaanfaaGreatDoorMshLeb
namespace Go.Proofs.YtchdmecjhaanfaaGreatDoor
open Go Go.RowKit Amp Msh
theorem _root_.k46_ {p:Prop} (h:p:=by
 refine (lit_any _).mono ?_;rintro e w' ⟨rfl,gl,ml,rfl⟩;go_wp2_with fail
 go_ret;exact ⟨rfl,blw HBW4.out gw0⟩):p:=h
theorem _root_.k36_ {p:Prop} (h:p:=by
 refine (lit_any _).mono ?_;rintro e w' ⟨rfl,gl,ml,rfl⟩;go_wp2_with fail
 go_ret;exact ⟨rfl,blw HBL.out gw0⟩):p:=h
theorem itsE_e4 {E:Env} (hE:∀ s p,E s=some p→VldL p.2) {n:Nat}:∀ (its:List It) (l:List Num),VldL l→E4 (itsE E n its l).2
 | [],_,_=>.inl rfl
 | x :: t, l, h => by
   unfold itsE;by_cases hs:(stepE E n x l).2=0
   · rw [if_pos hs]
     exact itsE_e4 hE t _ (mulM_valid _ _ _)
   · rw [if_neg hs]
     refine mulM_e4 (placeL_valid ?_ _) h;unfold itemM;split
     · cases he:E x.name with
       | none=>exact VldL.of fun z hz=>by cases hz
       | some p=>exact hE _ _ he
     · exact ownM_valid _ _
theorem envF_v:∀ (C:List Cl) (Ms:List (List Num)),(∀ M∈Ms,VldL M)→∀ s p,envF C Ms s=some p→VldL p.2
 | c :: C, M :: Ms, h, s, p, hp => by
   unfold envF at hp;split at hp
   · injection hp with hp
     rw [← hp];exact h M List.mem_cons_self
   · exact envF_v C Ms (fun N hN=>h N (List.mem_cons_of_mem _ hN)) s p hp
 | [],_,_,_,_,hp=>by simp [envF] at hp
 | _::_,[],_,_,_,hp=>by simp [envF] at hp
theorem netM_e4:∀ (L C:List Cl) (Ms:List (List Num)),(∀ M∈Ms,VldL M)→E4 (netM C Ms L).2
 | [],_,_,_=>.inl rfl
 | c :: t, C, Ms, h => by
   unfold netM;split
   · rename_i h0
     refine netM_e4 t _ _ fun N hN=>?_
     rcases List.mem_append.1 hN with hN | hN
     · exact h N hN
     · rw [List.mem_singleton] at hN
       rw [hN];exact (itsE_shape c.items _ (idN_valid _) (idN_length _) h0).1
   · exact itsE_e4 (envF_v C Ms h) _ _ (idN_valid _)
theorem matNet_e4 {L:List Cl} (hv:vnet L=true):E4 (matNet L).2.2:=by
 unfold matNet;rw [if_pos hv];split
 · exact .inl rfl
 · exact netM_e4 L [] [] fun M h=>absurd h List.not_mem_nil
theorem matOf_e4 {g:Int} {F:List It} (hk:chkIts g F=0):E4 (matOf g F).2:=by
 unfold matOf;rw [if_pos hk];exact itsM_e4 _ _ (idN_valid _)
theorem matNet_gd {L:List Cl} {g:Int} {A:List Num} (h:matNet L=(g,A,0)) {c:Cl} (hc:L[L.length - 1]? = some c):g=c.gd:=by
 unfold matNet at h;split at h
 · split at h
   · injection h with h1 _
     rw [← h1,List.getLast?_eq_getElem?,hc];rfl
   · rename_i h0
     injection h with _ h2;injection h2 with _ h3;exact absurd h3 h0
 · injection h with _ h2
   injection h2 with _ h3;cases h3
theorem flat_e4 {L:List Cl} (hv:vnet L=true):(flatN L).2=0∨(flatN L).2=4:=by
 unfold flatN;rw [if_pos hv];split
 · exact .inr rfl
 · exact .inl rfl
theorem fmt_zero {L:List Cl} (h:(fmtN L).2=0):vnet L=true∧(netT L).length≤4000∧(fmtN L).1=netT L:=by
 unfold fmtN at h ⊢;split at h
 · rename_i hv
   split at h
   · rename_i h4
     refine ⟨hv,h4, ?_⟩;rw [if_pos hv,if_pos h4]
   · cases h
 · cases h
set_option maxRecDepth 100000 in
set_option maxHeartbeats 8000000 in
theorem topLevels_walk (a0:Option Addr) (cap:Nat) (L:List Cl) (aV:Option Addr) (kV:Nat) (V:List Num) (w:World) (hl:L.length≤9223372036854775807) (hN:Net w a0 L) (hk:CsOk L) (hcap:L.length≤cap) (hV:Nms w aV V) (hVl:V.length≤9223372036854775807) (hLd:LaidN w) :
  Calls Tryz.prog 3 #[.slice a0 L.length cap,.slice aV V.length kV] w fun e w'=>e=.returned (.bool true)∧Below w.heap.size w w':=by
 have HVA:=hid (rvnet_any a0 cap L w hl hN hk hcap);obtain ⟨v,hv⟩:∃ v,vnet L=v:=⟨_,rfl⟩;rw [hv] at HVA;cases v with
 | false =>
   clear hN hk hV hv hLd hcap;go_enter Tryz.func3,Tryz.ntmps3
   go_wp2_with fail
   refine HVA.out.mono ?_;rintro e w' ⟨rfl,g,m,rfl⟩;go_wp2_with fail
   refine (lit_any _).mono ?_;rintro e w' ⟨rfl,gl,ml,rfl⟩;go_wp2_with fail
   go_ret;exact ⟨rfl,Grew.below gw0⟩
 | true =>
 have hlen:=(vnet_all hv).1;by_cases h8:L.length≤8
 case neg =>
  have e8:decide ((8:Int)<L.length)=true:=decide_eq_true (by omega);have e9:decide (8<L.length)=true:=decide_eq_true (by omega);clear hN hk hV hv hLd hcap;go_enter Tryz.func3,Tryz.ntmps3
  go_wp2_with fail
  refine HVA.out.mono ?_;rintro e w' ⟨rfl,g,m,rfl⟩;go_wp2_with fail
  refine (lit_any _).mono ?_;rintro e w' ⟨rfl,gl,ml,rfl⟩;go_wp2_with fail
  go_ret;exact ⟨rfl,Grew.below gw0⟩
 case pos =>
 have e8:decide ((8:Int)<L.length)=false:=decide_eq_false (by omega);have e9:decide (8<L.length)=false:=decide_eq_false (by omega);have HFT:=hid fun w' (hg:Grew w w')=>flat_any a0 cap L w' hl (hN.grew hg) hk
 obtain ⟨⟨F,eF⟩,hF⟩:∃ R,flatN L=R:=⟨_,rfl⟩;have heF:eF=0∨eF=4:=by have:=flat_e4 hv;rwa [hF] at this
 rw [hF] at HFT;have HF:=hid hF;have HN:=hid hN;have HK:=hid hk;have HV:=hid hV;have HLD:=hid hLd;clear hN hk hV hF hLd;go_enter Tryz.func3,Tryz.ntmps3
 go_wp2_with fail
 refine HVA.out.mono ?_;rintro e w' ⟨rfl,g,m,rfl⟩;go_wp2_with fail
 go_loopw [5,30] (fun t v wr=>∃ (i:Nat) (S:Int),i≤L.length∧v=.int .i64 i∧t=.int .i64 S∧(0≤S∧S≤200*i)∧Grew w wr) (fun _ v _=>L.length - (intOf v).toNat)
 case atStart=>exact ⟨0,0,Nat.zero_le _,rfl,rfl,⟨Int.le_refl 0,by omega⟩,gw0⟩
 case round =>
  obtain ⟨i,S,hi,rfl,rfl,⟨s1,s2⟩,hg⟩:=hrel;by_cases hlt:i<L.length
  case pos =>
   obtain ⟨c,hc⟩:∃ c,L[i]? = some c:=⟨L[i],List.getElem?_eq_getElem hlt⟩;have hc2:c.items.length≤200:=(vcell_iff.1 ((vnet_all hv).2 i c hc)).2.2.2.1;obtain ⟨b,off,rfl,hb,c0,c1,a2,k2,c2,_⟩:=(HN.out.grew hg).cells hc;have HG:=hid hg;have hb1:=fun m0:Nat=>Nat.lt_add_right m0 (hb)
   have hb2:=fun m0 m1:Nat=>Nat.lt_add_right m1 (hb1 m0)
   have hb3:=fun m0 m1 m2:Nat=>Nat.lt_add_right m2 (hb2 m0 m1)
   clear hc hg;go_wp2_with fail
   go_roundw
   case rel=>exact ⟨i+1,_,by omega,by go_num,rfl,⟨by omega,by omega⟩,HG.out.trans gw0⟩
   case measure=>simp [intOf];omega
  case neg =>
   obtain rfl:i=L.length:=by omega
   have HG:=hid hg;clear hg;go_wp2_with fail
   refine (HFT.out _ (HG.out.trans gw0)).mono ?_;rintro e W1 ⟨⟨aF,kF,rfl,hO⟩,hg1⟩;dsimp only at hO ⊢;have hg1:Grew w W1:=HG.out.trans (Grew.trans gw0 hg1);have HI:=hid (OwnI.its hO);have HG:=hid hg1;clear hO hg1 HFT;have hBL:Below w.heap.size w W1:=HG.out.below;have HBL:=hid hBL;clear hBL;by_cases h60:S≤60
   case neg =>
    have d60:decide ((60:Int)<S)=true:=decide_eq_true (by omega);rcases heF with rfl | rfl
    · go_wp2_with fail
      exact k36_
    · go_wp2_with fail
      exact k36_
   case pos =>
   have d60:decide ((60:Int)<S)=false:=decide_eq_false (by omega);rcases heF with rfl | rfl
   case inr =>
    go_wp2_with fail
    exact k36_
   case inl =>
   by_cases hF2:F.length≤200
   case neg =>
    have d2:decide ((200:Int)<F.length)=true:=decide_eq_true (by omega);have d3:decide (200<F.length)=true:=decide_eq_true (by omega);go_wp2_with fail
    exact k36_
   case pos =>
   have d2:decide ((200:Int)<F.length)=false:=decide_eq_false (by omega);have d3:decide (200<F.length)=false:=decide_eq_false (by omega);obtain ⟨c,hc⟩:∃ c,L[L.length - 1]? = some c:=⟨L[L.length - 1]'(by omega),List.getElem?_eq_getElem (by omega)⟩;have hgd:=gd_ok hv hc;obtain ⟨n,hn⟩:∃ n:Nat,c.gd=n:=⟨c.gd.toNat,by omega⟩;have hck:=flat_chk hv HF.out hc (by omega);have HGD:=hid fun w' (hg:Grew W1 w')=>guides_any a0 cap L c w' hl ((HN.out.below HBL.out).grew hg) hc
   have HCT:=hid fun w' (hg:Grew W1 w')=>counted_any a0 cap L c aF kF F w' ((HN.out.below HBL.out).grew hg) HK.out hv hc HF.out (HI.out.grew hg) hF2
   rw [hn] at HGD HCT hgd hck;obtain ⟨⟨gM,A,E1⟩,hA1⟩:∃ R,matNet L=R:=⟨_,rfl⟩;obtain ⟨⟨B,E2⟩,hB1⟩:∃ R,matOf n F=R:=⟨_,rfl⟩;have he1:E1=0∨E1=4:=by have:=matNet_e4 hv;rw [hA1] at this;exact this
   have he2:E2=0∨E2=4:=by have:=matOf_e4 hck;rw [hB1] at this;exact this
   have HC:=hid hc;have HCN:=hid hn;have HA:=hid hA1;have HB:=hid hB1;have HMN:=hid fun w' (hb:Below w.heap.size w w')=>matrixP_any a0 cap L w' hl (HN.out.below hb) HK.out
   rw [HA.out] at HMN;have HMO:=hid fun w' (hb:Below W1.heap.size W1 w')=>matOf_any n aF kF F w' (by omega) (HI.out.belowT hb)
   rw [HB.out,Int.toNat_natCast] at HMO;clear hc hn hck hA1 hB1;go_wp2_with fail
   refine (HGD.out _ gw0).mono ?_;rintro e w' ⟨rfl,g2,m2,rfl⟩;go_wp2_with fail
   refine (HCT.out _ gw0).mono ?_;rintro e W2 ⟨rfl,hB2⟩;dsimp only;have hB2:Below W1.heap.size W1 W2:=Below.trans (Grew.below (a:=W1) gw0) (hB2.mono (Grew.size (a:=W1) gw0));have HB2:=hid hB2;have HBW2:=hid (HBL.out.trans (hB2.mono HBL.out.size));clear hB2 HGD HCT;go_wp2_with fail
   refine (HMN.out _ (blw HBW2.out gw0)).mono ?_;rintro e W3 ⟨⟨am,km,rfl,hA⟩,hg3⟩;dsimp only at hA ⊢;have hg3:Grew W2 W3:=Grew.trans (a:=W2) gw0 hg3;have HAm:=hid hA;have HB3:=hid (blw HB2.out hg3);have HBW3:=hid (blw HBW2.out hg3);clear hA hg3 HB2 HBW2;go_wp2_with fail
   refine (HMO.out _ (blw HB3.out gw0)).mono ?_;rintro e W4 ⟨⟨af,kf,rfl,hBm⟩,hg4⟩;dsimp only at hBm ⊢;obtain ⟨N2,hN2⟩:∃ N,rowsOf n E2=N:=⟨_,rfl⟩;rw [hN2];have HN2:=hid hN2;obtain ⟨b11,hb11⟩:∃ b,W3.heap.size=b:=⟨_,rfl⟩;rw [hb11];have h11:W4.heap[b11]? = some (.cells #[.int .i64 gM,.slice am A.length km] 35):=by rw [← hb11];exact (Grew.block hg4 _ (by simp [go_sem])).trans (heap_new _ _)
   have hg34:Grew W3 W4:=Grew.trans ((Grew.refl W3).alloc _) hg4;have x4:W4.cell? ⟨b11,0,none⟩=some (.int .i64 gM):=by simp [World.cell?,h11]
   have y4:W4.cell? ⟨b11,1,none⟩=some (.slice am A.length km):=by simp [World.cell?,h11]
   have l4:=(Array.getElem?_eq_some_iff.1 h11).1;have HBm:=hid hBm;have HAm:=hid (HAm.out.grew hg34);have HB4:=hid (blw HB3.out hg34);have HBW4:=hid (blw HBW3.out hg34);have l41:=fun m0:Nat=>Nat.lt_add_right m0 (l4)
   have l42:=fun m0 m1:Nat=>Nat.lt_add_right m1 (l41 m0)
   have l43:=fun m0 m1 m2:Nat=>Nat.lt_add_right m2 (l42 m0 m1)
   clear hBm hN2 hb11 h11 hg34 hg4 HMN HMO HB3 HBW3;rcases he1 with rfl | rfl
   case inr =>
    rcases he2 with rfl | rfl
    · go_wp2_with fail
      exact k46_
    · go_wp2_with fail
      exact k46_
   case inl =>
   rcases he2 with rfl | rfl
   case inr =>
    go_wp2_with fail
    exact k46_
   case inl =>
   obtain rfl:N2=(n:Int):=by rw [← HN2.out,rowsOf,if_pos rfl]
   obtain rfl:gM=(n:Int):=(matNet_gd HA.out HC.out).trans HCN.out;obtain ⟨hAB,hAv,hAl⟩:=levels_same hv HA.out HF.out HB.out;subst hAB;rw [Int.toNat_natCast] at hAl;have n2:n≤6:=by omega
   have h36:n*n≤36:=Nat.mul_le_mul n2 n2;have hA36:A.length≤36:=by omega
   have HA1:=hid HB.out;have HSH:=hid fun w' (hg:Grew W4 w')=>shaped_ok n am km A w' n2 hAl (HAm.out.grew hg) hAv
   have HSM:=hid fun w' (hg:Grew W4 w')=>sameMatrix_same n am af km kf A w' (by omega) (HAm.out.grew hg) (HBm.out.grew hg)
   have HFM:=hid fun w' (hb:Below w.heap.size w w')=>formatN_any a0 cap L w' hl (HN.out.below hb) HK.out (HLD.out.below hb).lay.tab
   obtain ⟨T,hT⟩:∃ T,(fmtN L).1=T:=⟨_,rfl⟩;obtain ⟨E,hE⟩:∃ E,(fmtN L).2=E:=⟨_,rfl⟩;rw [hT,hE] at HFM;have HT:=hid hT;have HE:=hid hE;clear hAl hT hE;go_wp2_with fail
   refine (HSH.out _ gw0).mono ?_;rintro e w' ⟨rfl,g5,m5,rfl⟩;go_wp2_with fail
   refine (HSM.out _ gw0).mono ?_;rintro e w' ⟨rfl,g6,m6,rfl⟩;go_wp2_with fail
   refine (HFM.out _ (blw HBW4.out gw0)).mono ?_;rintro e W5 ⟨rfl,hB5⟩;dsimp only;have hB45:Below W4.heap.size W4 W5:=Below.trans (Grew.below (a:=W4) gw0) (hB5.mono (Grew.size (a:=W4) gw0));have x5:=(Below.cell (p:=⟨b11,0,none⟩) hB45 l4).trans x4;have y5:=(Below.cell (p:=⟨b11,1,none⟩) hB45 l4).trans y4;have l5:=Nat.lt_of_lt_of_le l4 hB45.size;have HM5:=hid (nms_below HAm.out hB45);have HB5:=hid (HBW4.out.trans (hB45.mono HBW4.out.size));have HI5:=hid ((HI.out.belowT HB4.out).belowT hB45);have HV5:=hid (nms_below HV.out HB5.out);clear hB5 hB45 x4 y4 l4 l41 l42 l43 HFM HSM HSH;by_cases hE0:E=0
   case neg =>
    have d4:(E==0)=false:=by simpa using hE0
    clear hE0;have X9:=hid x5;have Y9:=hid y5;have l9:=l5;have HI9:=HI5;have HM9:=HM5;have HV9:=HV5;have HB9:=HB5;clear x5 y5 l5;have HTD:=hid fun w' (hg:Grew W5 w')=>tidied_any n aF kF F am km A w' (HI9.out.grew hg) hF2 HA1.out (HM9.out.grew hg)
    have x9:=X9.out;have y9:=Y9.out;have l91:=fun m0:Nat=>Nat.lt_add_right m0 (l9)
    have l92:=fun m0 m1:Nat=>Nat.lt_add_right m1 (l91 m0)
    have l93:=fun m0 m1 m2:Nat=>Nat.lt_add_right m2 (l92 m0 m1)
    go_wp2_with fail
    refine (HTD.out _ gw0).mono ?_;rintro e Wt ⟨rfl,hBt⟩;dsimp only;have hBt:Below W5.heap.size W5 Wt:=Below.trans (Grew.below (a:=W5) gw0) (hBt.mono (Grew.size (a:=W5) gw0));have t0:=(Below.cell (p:=⟨b11,0,none⟩) hBt l9).trans x9;have t1:=(Below.cell (p:=⟨b11,1,none⟩) hBt l9).trans y9;have lt:=Nat.lt_of_lt_of_le l9 hBt.size;have HLT:=hid fun w' (hg:Grew Wt w')=>lightens_any n aF kF F am km A aV kV V w' ((HI9.out.belowT hBt).grew hg) hF2 HA1.out ((nms_below HM9.out hBt).grew hg) ((nms_below HV9.out hBt).grew hg) hVl
    have HBt:=hid (HB9.out.trans (hBt.mono HB9.out.size));have lt1:=fun m0:Nat=>Nat.lt_add_right m0 (lt)
    have lt2:=fun m0 m1:Nat=>Nat.lt_add_right m1 (lt1 m0)
    have lt3:=fun m0 m1 m2:Nat=>Nat.lt_add_right m2 (lt2 m0 m1)
    clear x9 y9 l91 l92 l93;go_wp2_with fail
    refine (HLT.out _ gw0).mono ?_;rintro e w' ⟨rfl,gt,mt,rfl⟩;go_wp2_with fail
    refine (lit_any _).mono ?_;rintro e w' ⟨rfl,gl,ml,rfl⟩;go_wp2_with fail
    go_ret;exact ⟨rfl,blw HBt.out gw0⟩
   case pos =>
   subst hE0;obtain ⟨_,hf4,hfT⟩:=fmt_zero HE.out;have hTT:T=netT L:=by rw [← HT.out,hfT]
   have hpar:parP T=(L,0):=by rw [hTT];exact parP_text hv hf4
   have hTl:T.length≤140737488351232:=by rw [hTT];omega
   have HPA:=hid fun w' (hb:Below w.heap.size w w')=>ppar_any T w' (HLD.out.below hb) hTl
   rw [hpar] at HPA;have HX5:=hid x5;have HY5:=hid y5;clear hf4 hfT hTT hpar hTl;go_wp2_with fail
   refine (HPA.out _ (blw HB5.out gw0)).mono ?_;rintro e W6 ⟨⟨a6,k6,rfl,hN6,_⟩,hB6⟩;dsimp only at hN6 ⊢;have hB56:Below W5.heap.size W5 W6:=Below.trans (Grew.below (a:=W5) gw0) (hB6.mono (Grew.size (a:=W5) gw0));have HM2:=hid fun w' (hg:Grew W6 w')=>matrixP_any a6 k6 L w' hl (hN6.grew hg) HK.out
   rw [HA.out] at HM2;have HB56:=hid hB56;clear hB6 hB56 HPA;go_wp2_with fail
   refine (HM2.out _ gw0).mono ?_;rintro e W7 ⟨⟨a7,k7,rfl,hA7⟩,hg7⟩;dsimp only at hA7 ⊢;have hg67:Grew W6 W7:=Grew.trans (a:=W6) gw0 hg7;have hB57:Below W5.heap.size W5 W7:=blw HB56.out hg67;have x7:=(Below.cell (p:=⟨b11,0,none⟩) hB57 l5).trans HX5.out;have y7:=(Below.cell (p:=⟨b11,1,none⟩) hB57 l5).trans HY5.out;have l9:=Nat.lt_of_lt_of_le l5 hB57.size;have HA7:=hid hA7;have HM9:=hid (nms_below HM5.out hB57);have HB9:=hid (HB5.out.trans (hB57.mono HB5.out.size));have HI9:=hid (HI5.out.belowT hB57);have HV9:=hid (nms_below HV5.out hB57);have HSN:=hid fun w' (hg:Grew W7 w')=>sameMatrix_same n a7 am k7 km A w' (by omega) (HA7.out.grew hg) (HM9.out.grew hg)
   have X9:=hid x7;have Y9:=hid y7;have lx1:=fun m0:Nat=>Nat.lt_add_right m0 l9
   have lx2:=fun m0 m1:Nat=>Nat.lt_add_right m1 (lx1 m0)
   clear hA7 hg7 hg67 hB57 HM2 HB56 x5 y5 hN6;go_wp2_with fail
   refine (HSN.out _ gw0).mono ?_;rintro e w' ⟨rfl,g8,m8,rfl⟩;clear lx1 lx2 x7 y7;have HTD:=hid fun w' (hg:Grew W7 w')=>tidied_any n aF kF F am km A w' (HI9.out.grew hg) hF2 HA1.out (HM9.out.grew hg)
   have x9:=X9.out;have y9:=Y9.out;have l91:=fun m0:Nat=>Nat.lt_add_right m0 (l9)
   have l92:=fun m0 m1:Nat=>Nat.lt_add_right m1 (l91 m0)
   have l93:=fun m0 m1 m2:Nat=>Nat.lt_add_right m2 (l92 m0 m1)
   go_wp2_with fail
   refine (HTD.out _ gw0).mono ?_;rintro e Wt ⟨rfl,hBt⟩;dsimp only;have hBt:Below W7.heap.size W7 Wt:=Below.trans (Grew.below (a:=W7) gw0) (hBt.mono (Grew.size (a:=W7) gw0));have t0:=(Below.cell (p:=⟨b11,0,none⟩) hBt l9).trans x9;have t1:=(Below.cell (p:=⟨b11,1,none⟩) hBt l9).trans y9;have lt:=Nat.lt_of_lt_of_le l9 hBt.size;have HLT:=hid fun w' (hg:Grew Wt w')=>lightens_any n aF kF F am km A aV kV V w' ((HI9.out.belowT hBt).grew hg) hF2 HA1.out ((nms_below HM9.out hBt).grew hg) ((nms_below HV9.out hBt).grew hg) hVl
   have HBt:=hid (HB9.out.trans (hBt.mono HB9.out.size));have lt1:=fun m0:Nat=>Nat.lt_add_right m0 (lt)
   have lt2:=fun m0 m1:Nat=>Nat.lt_add_right m1 (lt1 m0)
   have lt3:=fun m0 m1 m2:Nat=>Nat.lt_add_right m2 (lt2 m0 m1)
   clear x9 y9 l91 l92 l93;go_wp2_with fail
   refine (HLT.out _ gw0).mono ?_;rintro e w' ⟨rfl,gt,mt,rfl⟩;go_wp2_with fail
   refine (lit_any _).mono ?_;rintro e w' ⟨rfl,gl,ml,rfl⟩;go_wp2_with fail
   go_ret;exact ⟨rfl,blw HBt.out gw0⟩
end Go.Proofs.YtchdmecjhaanfaaGreatDoor
