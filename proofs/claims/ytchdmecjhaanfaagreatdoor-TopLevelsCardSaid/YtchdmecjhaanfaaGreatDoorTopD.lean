import Derived.Test.YtchdmecjhaanfaaGreatDoorTidO
import Derived.Test.YtchdmecjhaanfaaGreatDoorMshInv
import Derived.Test.YtchdmecjhaanfaaGreatDoorMshLin
import Derived.Test.YtchdmecjhaanfaaGreatDoorTopA
import Derived.Test.YtchdmecjhaanfaaGreatDoorWidH
import Derived.Test.YtchdmecjhaanfaaGreatDoorMshW
import Derived.Test.YtchdmecjhaanfaaGreatDoorTxtA
import Derived.Test.YtchdmecjhaanfaaGreatDoorColA
namespace Go.Proofs.YtchdmecjhaanfaaGreatDoor
open Go Go.RowKit Amp Msh
theorem _root_.k34_ {p:Prop} (h:p:=by
 go_wp2_with fail
 refine (HUN.out _ gw0).mono ?_;rintro e w' ⟨rfl,gu,mu,rfl⟩;go_wp2_with fail
 go_ret;exact ⟨rfl,blw HB6.out gw0⟩):p:=h
theorem tid_inv_law {n:Nat} (hn:n≤6) {l:List It} {A B:List Num} (hok:okIts n l=true) (hA:itsM n l (idN n)=(A,0)) (hB:itsM n (invL (tidR l)) (idN n)=(B,0)):B=dagL n A:=by
 have sA:=itsM_shape l (idN n) (idN_valid n) (idN_length n) (by rw [hA]);have sB:=itsM_shape (invL (tidR l)) (idN n) (idN_valid n) (idN_length n) (by rw [hB]);rw [hA] at sA;rw [hB] at sB;obtain ⟨c,hc,hl⟩:=inv_lin hn (tidR l) (tidR_ok (by omega) l hok).1;obtain ⟨d,hd,ht⟩:=tidR_lin hn l hok;refine mat_ext sB.1 (dagL_valid sA.1) sB.2 (dagL_length n A) fun i k hi hk=>?_
 have h1:=itsM_id (n:=n) (its:=invL (tidR l)) (by rw [hB]) hi hk;have h2:=itsM_id (n:=n) (its:=l) (by rw [hA]) hk hi;rw [hB,hl i k hi hk,hc] at h1;rw [hA,ht k i hk hi] at h2;rw [MV_dag _ hi hk];show _=conjC (MV A n k i)
 apply rpow_inj (40*d+40*((tidR l).length+2*c));have e1:rpow (40*d+40*((tidR l).length+2*c)) (MV B n i k)=rpow (40*d) (rpow 40 (rpow (80*c) (conjC (LM n (tidR l) k i)))):=by
  rw [← h1,rpow_rpow]
 have e2:rpow (40*d+40*((tidR l).length+2*c)) (conjC (MV A n k i))=rpow (80*c) (conjC (rpow 40 (rpow (40*d) (LM n (tidR l) k i)))):=by
  rw [← h2,conj_rpow,rpow_rpow]
  congr 1
  omega
 rw [e1,e2,conj_rpow,conj_rpow,rpow_rpow,rpow_rpow,rpow_rpow,rpow_rpow]
 congr 1
 omega
theorem invE_of {g:Int} {its:List It} (hk:chkIts g its=0) (hl:(invL its).length≤5000):invE g its=(invL its,0):=by
 unfold invE;rw [if_pos hk,if_pos hl]
theorem nms_below {w w':World} {a0:Option Addr} {l:List Num} (h:Nms w a0 l) (hb:Below w.heap.size w w'):Nms w' a0 l:=by
 rcases h with h | ⟨b,off,h,hlt,hc⟩
 · exact .inl h
 · refine .inr ⟨b,off,h,Nat.lt_of_lt_of_le hlt hb.size,fun i z hz=>?_⟩
   obtain ⟨c0,c1,c2,c3,c4⟩:=hc i z hz;have hb':∀ o,w'.cell? ⟨b,o,none⟩=w.cell? ⟨b,o,none⟩:=fun o=>by simp [World.cell?,hb.block b hlt]
   exact ⟨(hb' _).trans c0,(hb' _).trans c1,(hb' _).trans c2,(hb' _).trans c3,(hb' _).trans c4⟩
theorem blw {w w1 w2:World} (h:Below w.heap.size w w1) (g:Grew w1 w2):Below w.heap.size w w2:=h.trans (g.below.mono h.size)
set_option maxRecDepth 100000 in
set_option maxHeartbeats 8000000 in
theorem tidied_any (n:Nat) (aF:Option Addr) (kF:Nat) (F:List It) (aM:Option Addr) (kM:Nat) (A:List Num) (w:World) (hF:Its w aF F) (hFl:F.length≤200) (hA:matOf n F=(A,0)) (hM:Nms w aM A) :
  Calls Tryz.prog 15 #[.int .i64 n,.slice aF F.length kF,.agg #[.int .i64 n,.slice aM A.length kM]] w fun e w'=>e=.returned (.bool true)∧Below w.heap.size w w':=by
 obtain ⟨hk,hI⟩:=matOf_zero hA;rw [Int.toNat_natCast] at hI;obtain ⟨q1,q2,q3,q4⟩:=chkIts_zero hk;have n1:1≤n:=by omega
 have n2:n≤6:=by omega
 have hok:okIts n F=true:=q4;obtain ⟨hAv,hAl⟩:VldL A∧A.length=n*n:=by
  have h:=itsM_shape F (idN n) (idN_valid n) (idN_length n) (by rw [hI])
  rwa [hI] at h
 have hAu:Uni n A:=by
  have h:=itsM_uni n2 F (idN n) hok (Uni.id n) (by rw [hI])
  rwa [hI] at h
 have h36:n*n≤36:=Nat.mul_le_mul n2 n2;have H1:=hid fun w' (hg:Grew w w')=>tidy_any n aF kF F w' (by omega) (hF.grew hg)
 obtain ⟨T,hT⟩:∃ T,tidR F=T:=⟨_,rfl⟩;have hTl:T.length≤F.length:=by rw [← hT];exact (tidR_ok q2 F hok).2
 have hTk:chkIts n T=0:=by rw [← hT];exact chk_of ⟨q1,q2⟩ (by have:=(tidR_ok q2 F hok).2;omega) (tidR_ok q2 F hok).1
 rw [show tidE n F=(T,0) by unfold tidE;rw [if_pos hk,hT]] at H1;have hil:=invL_length T;have hiv:invE n T=(invL T,0):=invE_of hTk (by omega);replace hil:(invL T).length≤5000:=by omega
 obtain ⟨⟨Bm,E2⟩,hB1⟩:∃ X,matOf n T=X:=⟨_,rfl⟩;obtain ⟨⟨Cm,E3⟩,hC1⟩:∃ X,matOf n (invL T)=X:=⟨_,rfl⟩;have HB1:=hid hB1;have HC1:=hid hC1;have HT:=hid hT;have hIA:=hid hI;have e3:decide ((F.length:Int)<T.length)=false:=decide_eq_false (by omega);have e3n:decide (F.length<T.length)=false:=decide_eq_false (by omega);have HIV2:=hid hiv;have HM:=hid hM;have HAL:=hid hAl;have hA36:A.length≤36:=by omega
 clear hAl hF hM hA hk hI hT hTk hB1 hC1 hiv q1 q2 q3 q4;go_enter Tryz.func15,Tryz.ntmps15
 go_wp2_with fail
 obtain ⟨b5,hb5⟩:∃ b5,w.heap.size=b5:=⟨_,rfl⟩;refine (H1.out _ gw0).mono ?_;rintro e W1 ⟨⟨a2,k2,rfl,hO⟩,hg1⟩;dsimp only at hO ⊢;rw [hb5];have h51:W1.heap[b5]? = some (.cells #[.int .i64 n,.slice aM A.length kM] 35):=by rw [← hb5];exact (Grew.block hg1 _ (by simp)).trans (heap_new _ _)
 have x0:W1.cell? ⟨b5,0,none⟩=some (.int .i64 n):=by simp [World.cell?,h51]
 have x1:W1.cell? ⟨b5,1,none⟩=some (.slice aM A.length kM):=by simp [World.cell?,h51]
 have l51:=(Array.getElem?_eq_some_iff.1 h51).1;have HG1:=hid (Grew.trans (a:=w) gw0 hg1);have HI:=hid (OwnI.its hO);have HMB:=hid fun w' (hg:Grew W1 w')=>matOf_any n a2 k2 T w' (by omega) (HI.out.grew hg)
 rw [HB1.out,Int.toNat_natCast] at HMB;have l511:=fun m0:Nat=>Nat.lt_add_right m0 (l51)
 have l512:=fun m0 m1:Nat=>Nat.lt_add_right m1 (l511 m0)
 have l513:=fun m0 m1 m2:Nat=>Nat.lt_add_right m2 (l512 m0 m1)
 clear hO hg1 H1 h51 hb5;go_wp2_with fail
 refine (HMB.out _ gw0).mono ?_;rintro e W2 ⟨⟨a3,k3,rfl,hB⟩,hg2⟩;dsimp only at hB ⊢;obtain ⟨N2,hN2⟩:∃ N,rowsOf n E2=N:=⟨_,rfl⟩;rw [hN2];have HN2:=hid hN2;have hg2:Grew W1 W2:=Grew.trans (a:=W1) gw0 hg2;have x0:=(hg2.cell l51 0).trans x0;have x1:=(hg2.cell l51 1).trans x1;have l5:=Nat.lt_of_lt_of_le l51 hg2.size;have HX0:=hid x0;have HX1:=hid x1;have HB:=hid hB;have HM2:=hid (HM.out.grew (HG1.out.trans hg2));have HB2:=hid (Grew.below (HG1.out.trans hg2));have HI2:=hid (HI.out.grew hg2);have HIV:=hid fun w' (hg:Grew W2 w')=>inv_any n a2 k2 T w' (by omega) (HI2.out.grew hg)
 rw [HIV2.out] at HIV;have l51:=fun m0:Nat=>Nat.lt_add_right m0 (l5)
 have l52:=fun m0 m1:Nat=>Nat.lt_add_right m1 (l51 m0)
 have l53:=fun m0 m1 m2:Nat=>Nat.lt_add_right m2 (l52 m0 m1)
 clear hN2 hB hg2 l51 l511 l512 l513;by_cases hE2:E2=0
 case neg =>
  have e8:(E2==0)=false:=by simpa using hE2
  clear hE2;go_wp2_with fail
  refine (HIV.out _ gw0).mono ?_;rintro e W4 ⟨⟨a4,k4,rfl,hO4⟩,hB4⟩;dsimp only at hO4 ⊢;have hB24:Below W2.heap.size W2 W4:=Below.trans (Grew.below (a:=W2) gw0) (hB4.mono (Grew.size (a:=W2) gw0));have x0:=(Below.cell (p:=⟨b5,0,none⟩) hB24 l5).trans HX0.out;have x1:=(Below.cell (p:=⟨b5,1,none⟩) hB24 l5).trans HX1.out;have l54:=Nat.lt_of_lt_of_le l5 hB24.size;have HI4:=hid (OwnI.its hO4);have HM4:=hid (nms_below HM2.out hB24);have HB24:=hid hB24;have HMC:=hid fun w' (hg:Grew W4 w')=>matOf_any n a4 k4 (invL T) w' (by omega) (HI4.out.grew hg)
  rw [HC1.out,Int.toNat_natCast] at HMC;have l541:=fun m0:Nat=>Nat.lt_add_right m0 (l54)
  have l542:=fun m0 m1:Nat=>Nat.lt_add_right m1 (l541 m0)
  have l543:=fun m0 m1 m2:Nat=>Nat.lt_add_right m2 (l542 m0 m1)
  clear hO4 hB4 hB24;go_wp2_with fail
  refine (HMC.out _ gw0).mono ?_;rintro e W5 ⟨⟨a6,k6,rfl,hC⟩,hg5⟩;dsimp only at hC ⊢;obtain ⟨N3,hN3⟩:∃ N,rowsOf n E3=N:=⟨_,rfl⟩;rw [hN3];have HN3:=hid hN3;have hg5:Grew W4 W5:=Grew.trans (a:=W4) gw0 hg5;have x0:=(hg5.cell l54 0).trans x0;have x1:=(hg5.cell l54 1).trans x1;have l55:=Nat.lt_of_lt_of_le l54 hg5.size;have HC:=hid hC;have HDG:=hid fun w' (hg:Grew W5 w')=>aDagger_any n aM kM A w' n1 n2 HAL.out ((HM4.out.grew hg5).grew hg) hAv
  have HG5:=hid hg5;have l551:=fun m0:Nat=>Nat.lt_add_right m0 (l55)
  have l552:=fun m0 m1:Nat=>Nat.lt_add_right m1 (l551 m0)
  have l553:=fun m0 m1 m2:Nat=>Nat.lt_add_right m2 (l552 m0 m1)
  clear hN3 hC hg5;go_wp2_with fail
  refine (HDG.out _ gw0).mono ?_;rintro e W6 ⟨⟨a7,k7,rfl,hD⟩,hg6⟩;obtain ⟨bC,hbC⟩:∃ b,W5.heap.size=b:=⟨_,rfl⟩;dsimp only [rowsOf] at hD ⊢;rw [if_pos rfl];rw [hbC];have hC6:W6.heap[bC]? = some (.cells #[.int .i64 N3,.slice a6 Cm.length k6] 35):=by rw [← hbC];exact (Grew.block hg6 _ (by simp)).trans (heap_new _ _)
  have hg56:Grew W5 W6:=Grew.trans ((Grew.refl W5).alloc _) hg6;have y0:W6.cell? ⟨bC,0,none⟩=some (.int .i64 N3):=by simp [World.cell?,hC6]
  have y1:W6.cell? ⟨bC,1,none⟩=some (.slice a6 Cm.length k6):=by simp [World.cell?,hC6]
  have lC:=(Array.getElem?_eq_some_iff.1 hC6).1;have x0:=(hg56.cell l55 0).trans x0;have x1:=(hg56.cell l55 1).trans x1;have l56:=Nat.lt_of_lt_of_le l55 hg56.size;have HC:=hid (HC.out.grew hg56);have HD:=hid hD.nms;have HM6:=hid ((HM4.out.grew HG5.out).grew hg56);have HB6:=hid (blw (HB2.out.trans (HB24.out.mono HB2.out.size)) (HG5.out.trans hg56));have l561:=fun m0:Nat=>Nat.lt_add_right m0 (l56)
  have l562:=fun m0 m1:Nat=>Nat.lt_add_right m1 (l561 m0)
  have l563:=fun m0 m1 m2:Nat=>Nat.lt_add_right m2 (l562 m0 m1)
  have lC1:=fun m0:Nat=>Nat.lt_add_right m0 (lC)
  have lC2:=fun m0 m1:Nat=>Nat.lt_add_right m1 (lC1 m0)
  have lC3:=fun m0 m1 m2:Nat=>Nat.lt_add_right m2 (lC2 m0 m1)
  clear hbC hC6 hg56 hg6 hD l55 l551 l552 l553 l54 l541 l542 l543;by_cases hE3:E3=0
  case neg =>
   have e9:(E3==0)=false:=by simpa using hE3
   clear hE3;have HUN:=hid fun w' (hg:Grew W6 w')=>unitary_any n aM kM A w' n1 n2 HAL.out (HM6.out.grew hg) hAv hAu
   exact k34_
  case pos =>
   subst hE3;obtain rfl:N3=(n:Int):=by rw [← HN3.out,rowsOf,if_pos rfl]
   have hIC:=(matOf_zero HC1.out).2;rw [Int.toNat_natCast] at hIC;obtain rfl:Cm=dagL n A:=tid_inv_law n2 hok hIA.out (by rw [HT.out];exact hIC);have HSD:=hid fun w' (hg:Grew W6 w')=>sameMatrix_same n a6 a7 k6 k7 (dagL n A) w' (by rw [dagL_length];omega) (HC.out.grew hg) (HD.out.grew hg)
   clear hIC;go_wp2_with fail
   refine (HSD.out _ gw0).mono ?_;rintro e w' ⟨rfl,gs,ms,rfl⟩;have HUN:=hid fun w' (hg:Grew W6 w')=>unitary_any n aM kM A w' n1 n2 HAL.out (HM6.out.grew hg) hAv hAu
   exact k34_
 case pos =>
  subst hE2;obtain rfl:N2=(n:Int):=by rw [← HN2.out,rowsOf,if_pos rfl]
  have hIB:=(matOf_zero HB1.out).2;rw [Int.toNat_natCast,← HT.out] at hIB;obtain rfl:Bm=A:=tidR_law n2 hok hIA.out hIB;have HSM:=hid fun w' (hg:Grew W2 w')=>sameMatrix_same n a3 aM k3 kM Bm w' (by omega) (HB.out.grew hg) (HM2.out.grew hg)
  clear hIB;go_wp2_with fail
  refine (HSM.out _ gw0).mono ?_;rintro e w' ⟨rfl,gs,ms,rfl⟩;go_wp2_with fail
  refine (HIV.out _ gw0).mono ?_;rintro e W4 ⟨⟨a4,k4,rfl,hO4⟩,hB4⟩;dsimp only at hO4 ⊢;have hB24:Below W2.heap.size W2 W4:=Below.trans (Grew.below (a:=W2) gw0) (hB4.mono (Grew.size (a:=W2) gw0));have x0:=(Below.cell (p:=⟨b5,0,none⟩) hB24 l5).trans HX0.out;have x1:=(Below.cell (p:=⟨b5,1,none⟩) hB24 l5).trans HX1.out;have l54:=Nat.lt_of_lt_of_le l5 hB24.size;have HI4:=hid (OwnI.its hO4);have HM4:=hid (nms_below HM2.out hB24);have HB24:=hid hB24;have HMC:=hid fun w' (hg:Grew W4 w')=>matOf_any n a4 k4 (invL T) w' (by omega) (HI4.out.grew hg)
  rw [HC1.out,Int.toNat_natCast] at HMC;have l541:=fun m0:Nat=>Nat.lt_add_right m0 (l54)
  have l542:=fun m0 m1:Nat=>Nat.lt_add_right m1 (l541 m0)
  have l543:=fun m0 m1 m2:Nat=>Nat.lt_add_right m2 (l542 m0 m1)
  clear hO4 hB4 hB24;go_wp2_with fail
  refine (HMC.out _ gw0).mono ?_;rintro e W5 ⟨⟨a6,k6,rfl,hC⟩,hg5⟩;dsimp only at hC ⊢;obtain ⟨N3,hN3⟩:∃ N,rowsOf n E3=N:=⟨_,rfl⟩;rw [hN3];have HN3:=hid hN3;have hg5:Grew W4 W5:=Grew.trans (a:=W4) gw0 hg5;have x0:=(hg5.cell l54 0).trans x0;have x1:=(hg5.cell l54 1).trans x1;have l55:=Nat.lt_of_lt_of_le l54 hg5.size;have HC:=hid hC;have HDG:=hid fun w' (hg:Grew W5 w')=>aDagger_any n aM kM Bm w' n1 n2 HAL.out ((HM4.out.grew hg5).grew hg) hAv
  have HG5:=hid hg5;have l551:=fun m0:Nat=>Nat.lt_add_right m0 (l55)
  have l552:=fun m0 m1:Nat=>Nat.lt_add_right m1 (l551 m0)
  have l553:=fun m0 m1 m2:Nat=>Nat.lt_add_right m2 (l552 m0 m1)
  clear hN3 hC hg5;go_wp2_with fail
  refine (HDG.out _ gw0).mono ?_;rintro e W6 ⟨⟨a7,k7,rfl,hD⟩,hg6⟩;obtain ⟨bC,hbC⟩:∃ b,W5.heap.size=b:=⟨_,rfl⟩;dsimp only [rowsOf] at hD ⊢;rw [if_pos rfl];rw [hbC];have hC6:W6.heap[bC]? = some (.cells #[.int .i64 N3,.slice a6 Cm.length k6] 35):=by rw [← hbC];exact (Grew.block hg6 _ (by simp)).trans (heap_new _ _)
  have hg56:Grew W5 W6:=Grew.trans ((Grew.refl W5).alloc _) hg6;have y0:W6.cell? ⟨bC,0,none⟩=some (.int .i64 N3):=by simp [World.cell?,hC6]
  have y1:W6.cell? ⟨bC,1,none⟩=some (.slice a6 Cm.length k6):=by simp [World.cell?,hC6]
  have lC:=(Array.getElem?_eq_some_iff.1 hC6).1;have x0:=(hg56.cell l55 0).trans x0;have x1:=(hg56.cell l55 1).trans x1;have l56:=Nat.lt_of_lt_of_le l55 hg56.size;have HC:=hid (HC.out.grew hg56);have HD:=hid hD.nms;have HM6:=hid ((HM4.out.grew HG5.out).grew hg56);have HB6:=hid (blw (HB2.out.trans (HB24.out.mono HB2.out.size)) (HG5.out.trans hg56));have l561:=fun m0:Nat=>Nat.lt_add_right m0 (l56)
  have l562:=fun m0 m1:Nat=>Nat.lt_add_right m1 (l561 m0)
  have l563:=fun m0 m1 m2:Nat=>Nat.lt_add_right m2 (l562 m0 m1)
  have lC1:=fun m0:Nat=>Nat.lt_add_right m0 (lC)
  have lC2:=fun m0 m1:Nat=>Nat.lt_add_right m1 (lC1 m0)
  have lC3:=fun m0 m1 m2:Nat=>Nat.lt_add_right m2 (lC2 m0 m1)
  clear hbC hC6 hg56 hg6 hD l55 l551 l552 l553 l54 l541 l542 l543;by_cases hE3:E3=0
  case neg =>
   have e9:(E3==0)=false:=by simpa using hE3
   clear hE3;have HUN:=hid fun w' (hg:Grew W6 w')=>unitary_any n aM kM Bm w' n1 n2 HAL.out (HM6.out.grew hg) hAv hAu
   exact k34_
  case pos =>
   subst hE3;obtain rfl:N3=(n:Int):=by rw [← HN3.out,rowsOf,if_pos rfl]
   have hIC:=(matOf_zero HC1.out).2;rw [Int.toNat_natCast] at hIC;obtain rfl:Cm=dagL n Bm:=tid_inv_law n2 hok hIA.out (by rw [HT.out];exact hIC);have HSD:=hid fun w' (hg:Grew W6 w')=>sameMatrix_same n a6 a7 k6 k7 (dagL n Bm) w' (by rw [dagL_length];omega) (HC.out.grew hg) (HD.out.grew hg)
   clear hIC;go_wp2_with fail
   refine (HSD.out _ gw0).mono ?_;rintro e w' ⟨rfl,gs,ms,rfl⟩;have HUN:=hid fun w' (hg:Grew W6 w')=>unitary_any n aM kM Bm w' n1 n2 HAL.out (HM6.out.grew hg) hAv hAu
   exact k34_
end Go.Proofs.YtchdmecjhaanfaaGreatDoor
