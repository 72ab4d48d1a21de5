import Derived.Test.YtchdmecjhaanfaaGreatDoorMshM
import Derived.Test.YtchdmecjhaanfaaGreatDoorMshPlain
import Derived.Test.YtchdmecjhaanfaaGreatDoorMshX
import Derived.Carry
namespace Go.Proofs.YtchdmecjhaanfaaGreatDoor
open Go Go.RowKit Amp Msh
theorem zero_mat (w:World):(zeroValue 35).run Tryz.prog w=.ok (.agg #[.int .i64 0,.slice none 0 0]) w:=by kernel_rfl
def MapM (w:World) (b n:Nat) (E:Env):Prop:=∃ f,MapV w b n f∧∀ s:ByteArray,(E s=none∧f s=none)∨∃ (m:Nat) (lm:List Num) (a:Option Addr) (k:Nat),E s=some (m,lm)∧f s=some (.agg #[.int .i64 m,.slice a lm.length k])∧Nms w a lm
theorem MapM.grew {w w':World} {b n:Nat} {E:Env} (h:MapM w b n E) (g:Grew w w'):MapM w' b n E:=by
 obtain ⟨f,h1,h2⟩:=h;refine ⟨f,h1.grew g,fun s=>?_⟩;rcases h2 s with h3 | ⟨m,lm,a,k,h3,h4,h5⟩
 · exact .inl h3
 · exact .inr ⟨m,lm,a,k,h3,h4,h5.grew g⟩
theorem MapM.lookN {w:World} {b n:Nat} {E:Env} (h:MapM w b n E) {s:ByteArray} (hs:s.size≤maxLen) (he:E s=none):(Instr.lookup 63 (.map (some b)) (.string s) true).run Tryz.prog w=.ok (.tuple #[.agg #[.int .i64 0,.slice none 0 0],.bool false]) w:=by
 obtain ⟨f,h1,h2⟩:=h;rw [h1.look Tryz.underlying63 (zero_mat w) s hs true];rcases h2 s with ⟨_,h3⟩ | ⟨m,lm,a,k,h3,_⟩
 · rw [h3];rfl
 · rw [he] at h3;cases h3
theorem MapM.lookS {w:World} {b n:Nat} {E:Env} (h:MapM w b n E) {s:ByteArray} (hs:s.size≤maxLen) {m:Nat} {lm:List Num} (he:E s=.some (m,lm)):∃ a k,(Instr.lookup 63 (.map (.some b)) (.string s) true).run Tryz.prog w=.ok (.tuple #[.agg #[.int .i64 m,.slice a lm.length k],.bool true]) w∧Nms w a lm:=by
 obtain ⟨f,h1,h2⟩:=h;rw [h1.look Tryz.underlying63 (zero_mat w) s hs true];rcases h2 s with ⟨h3,_⟩ | ⟨m',lm',a,k,h3,h4,h5⟩
 · rw [he] at h3;cases h3
 · rw [he] at h3
   have e1:=Option.some.inj h3;obtain ⟨rfl,rfl⟩:m=m'∧lm=lm':=⟨congrArg Prod.fst e1,congrArg Prod.snd e1⟩;rw [h4];exact ⟨a,k,rfl,h5⟩
def ItsAtE (E:Env) (n:Nat) (its:List It) (R:List Num × Int) (i:Nat) (l:List Num) (e:Int):Prop:=(e=0∧itsE E n (its.drop i) l=R∧l.length=n*n∧VldL l)∨(e≠0∧R=([],e)∧l=[])
set_option maxRecDepth 100000 in
set_option maxHeartbeats 8000000 in
theorem made_env (E:Env) (Fn:ByteArray→Int) (bm nn:Nat) (n:Nat) (a0:Option Addr) (cap:Nat) (its:List It) (w:World) (n1:1≤n) (n2:n≤6) (hl:its.length≤5000) (hc:Its w a0 its) (hok:okEs Fn n its=true) (hE:EnvOk Fn E) (hM:MapM w bm nn E) (hsz:∀ x∈its,x.name.size≤maxLen) :
  Calls Tryz.prog 26 #[.int .i64 n,.slice a0 its.length cap,.map (some bm)] w (MadeN n (itsE E n its (idN n)) w):=by
 have HI:=hid fun w=>aIdentity_any n w n1 n2
 have HC:=hid hc;have HOK:=hid hok;have HENV:=hid hE;have HMP:=hid hM;have HSZ:=hid hsz;obtain ⟨R,hR⟩:∃ R,itsE E n its (idN n)=R:=⟨_,rfl⟩;rw [hR];have HR:=hid hR;clear hc hok hR hE hM hsz;go_enter Tryz.func26,Tryz.ntmps26
 go_wp2_with fail
 refine (HI.out _).mono ?_;rintro e w' ⟨⟨a1,k1,rfl,ho⟩,g,n',rfl⟩;dsimp only [rowsOf];obtain ⟨l0,hl0⟩:∃ l0,idN n=l0:=⟨_,rfl⟩;rw [hl0] at ho ⊢;have HO:=hid ho;have HL0:=hid hl0;clear ho hl0;go_wp2_with fail
 obtain ⟨W,hW⟩:∃ W,W=(((w.alloc (.cells #[.int .i64 0,.slice none 0 0] 35)).grow g).alloc (.cells #[.int .i64 n,.slice a1 l0.length k1] 35)).drewN n':=⟨_,rfl⟩;obtain ⟨b8,hb8⟩:∃ b8,b8=w.heap.size+1+g.length:=⟨_,rfl⟩;have hWg:Grew w W:=by rw [hW];exact gw0
 have hWs:W.heap.size=w.heap.size+1+g.length+1:=by rw [hW];simp [go_sem]
 have hN:Nms W a1 l0:=by
  rw [hW];exact (HO.out.grew ((Grew.refl _).alloc _)).nms
 have hB8:W.heap[b8]? = some (.cells #[.int .i64 n,.slice a1 l0.length k1] 35):=by
  rw [hW,hb8,World.heap_drewN];exact blk_new (by simp [go_sem])
 have hC:W.cell? ⟨w.heap.size,0,none⟩=some (.int .i64 0)∧W.cell? ⟨w.heap.size,1,none⟩=some (.slice none 0 0)∧W.frozen? ⟨w.heap.size,0,none⟩=false∧W.frozen? ⟨w.heap.size,1,none⟩=false:=by
  rw [hW];simp [go_sem]
 have hB0:W.heap[w.heap.size]? = some (.cells #[.int .i64 0,.slice none 0 0] 35):=by
  rw [hW,World.heap_drewN,blk_past (by simp [go_sem] <;> omega),World.grow_heap_lt _ _ _ (by simp [go_sem])];exact blk_new rfl
 rw [← hW,← hb8];have HWG:=hid hWg;have HW8:Hid (b8<W.heap.size∧w.heap.size<b8):=hid (by omega);clear hW hWg hb8 hWs HO;have KEY:=hid fun wr (hT:Turned W wr b8)=>(show Grew w wr∧w.heap.size<wr.heap.size∧b8<wr.heap.size∧wr.cell? ⟨w.heap.size,0,none⟩=some (.int .i64 0)∧wr.cell? ⟨w.heap.size,1,none⟩=some (.slice none 0 0)∧wr.frozen? ⟨w.heap.size,0,none⟩=false∧wr.frozen? ⟨w.heap.size,1,none⟩=false∧Hid (wr.heap[w.heap.size]? = some (.cells #[.int .i64 0,.slice none 0 0] 35)) from by
  obtain ⟨h1,h2⟩:=HW8.out;have hs:=hT.size;obtain ⟨q1,q2,q3,q4⟩:=hC;have e1:=hT.block (k:=w.heap.size) (by omega) (by omega);refine ⟨hT.toGrew HWG.out (by omega),by omega,by omega, ?_, ?_, ?_, ?_,e1.trans hB0⟩
  · rw [← q1];simp [World.cell?,e1]
  · rw [← q2];simp [World.cell?,e1]
  · rw [← q3];simp [World.frozen?,e1]
  · rw [← q4];simp [World.frozen?,e1])
 clear hC hB0;go_loopw [9,21] (fun ev v wr=>∃ (i:Nat) (l:List Num) (e:Int),i≤its.length∧v=.int .i64 i∧ev=.int .i64 e∧Hid (ItsAtE E n its R i l e)∧Turned W wr b8∧∃ (ao:Option Addr) (ko:Nat),wr.heap[b8]? = some (.cells #[.int .i64 (rowsOf n e),.slice ao l.length ko] 35)∧Nms wr ao l) (fun _ v _=>its.length - (intOf v).toNat)
 case atStart=>exact ⟨0,l0,0,Nat.zero_le _,rfl,rfl,hid (.inl ⟨rfl,by rw [← HL0.out];exact HR.out,by rw [← HL0.out];exact idN_length n,by rw [← HL0.out];exact idN_valid n⟩),Turned.refl _ _,a1,k1,by rw [rowsOf,if_pos rfl];exact hB8,hN⟩
 case round =>
  obtain ⟨i,l,e,hi,rfl,rfl,hs,hT,ao,ko,hBo,hNo⟩:=hrel;obtain ⟨hG,z0,z8,y0,y1,y2,y3,HB0⟩:=KEY.out wr hT;have HG:=hid hG;have HT:=hid hT;have HBo:=hid hBo;have HNo:=hid hNo;have c80:wr.cell? ⟨b8,0,none⟩=some (.int .i64 (rowsOf n e)):=by simp [World.cell?,hBo]
  have c81:wr.cell? ⟨b8,1,none⟩=some (.slice ao l.length ko):=by simp [World.cell?,hBo]
  have f80:wr.frozen? ⟨b8,0,none⟩=false:=by simp [World.frozen?,hBo]
  have f81:wr.frozen? ⟨b8,1,none⟩=false:=by simp [World.frozen?,hBo]
  clear hG hT hBo hNo hB8 hN;have z01:=fun m0:Nat=>Nat.lt_add_right m0 (z0)
  have z02:=fun m0 m1:Nat=>Nat.lt_add_right m1 (z01 m0)
  have z03:=fun m0 m1 m2:Nat=>Nat.lt_add_right m2 (z02 m0 m1)
  have z81:=fun m0:Nat=>Nat.lt_add_right m0 (z8)
  have z82:=fun m0 m1:Nat=>Nat.lt_add_right m1 (z81 m0)
  have z83:=fun m0 m1 m2:Nat=>Nat.lt_add_right m2 (z82 m0 m1)
  by_cases hlt:i<its.length
  · obtain ⟨x,hx⟩:∃ x,its[i]? = some x:=⟨its[i],List.getElem?_eq_getElem hlt⟩
    obtain ⟨b,off,rfl,hb,c0,c1,c2,c3⟩:=(HC.out.grew HG.out).cells hx;have hb1:=fun m0:Nat=>Nat.lt_add_right m0 (hb)
    have hb2:=fun m0 m1:Nat=>Nat.lt_add_right m1 (hb1 m0)
    have hb3:=fun m0 m1 m2:Nat=>Nat.lt_add_right m2 (hb2 m0 m1)
    have Hx:=hid hx;clear hx;by_cases hE:e=0
    case neg =>
     have e1:(e != 0)=true:=by simpa using hE
     have hbad:Hid (R=([],e)∧¬ e=0):=by
      rcases hs.out with h | h
      · exact absurd h.1 hE
      · exact ⟨h.2.1,h.1⟩
     clear hs hE;go_wp2_with fail
     exact bodyPost_ret (v:=.tuple #[.agg #[.int .i64 0,.slice none 0 0],.int .i64 e]) (by simp [results,Tryz.results26,go_sem,y0,y1,z0]) rfl (MadeN.bad hbad.out.1 hbad.out.2 (by repeat (first | exact Grew.refl _ | exact HG.out | refine Grew.drewN ?_ _ | refine Grew.grow ?_ _ | refine Grew.alloc ?_ _ | refine Grew.drew ?_ | refine Grew.set ?_ (Nat.le_refl _) _ _ | refine Grew.set ?_ (by omega) _ _)))
    subst hE;obtain ⟨⟨m,lm⟩,hml⟩:∃ p,itemM E x=p:=⟨_,rfl⟩;obtain ⟨hio1,hio2,hio3⟩:=item_ok HENV.out (okEs_at Hx.out HOK.out) hml;obtain ⟨hs1,hs2,hs3⟩:itsE E n (its.drop i) l=R∧l.length=n*n∧VldL l:=by
     rcases hs.out with h | h
     · exact h.2
     · exact absurd rfl h.1
    have HS:=hid (And.intro hs1 (And.intro hs2 hs3));have HOK2:=hid hio1;have HLM:=hid hio2;have HML:=hid hml;have hxs:=HSZ.out x (List.mem_of_getElem? Hx.out);clear hs hs1 hs2 hs3 hio1 hio2 hml;simp only [rowsOf,if_true] at c80 HBo;rcases hio3 with ⟨hx4,hxe⟩ | ⟨hx4,hxe,hwid,hmo,hlmo⟩
    · skip
      obtain ⟨am,km,hrun,hNmw⟩:=MapM.lookS ((HMP.out.grew HG.out).grew ((Grew.refl wr).alloc (.cells #[.int .i64 x.kind,.int .i64 x.pos,.int .i64 x.n,.string x.name] 51))) hxs hxe;have HNMW:=hid hNmw;clear hxs hxe hNmw hx4;go_wp2_with fail
      obtain ⟨W0,hW0⟩:∃ W0,W0=(wr.alloc (.cells #[.int .i64 x.kind,.int .i64 x.pos,.int .i64 x.n,.string x.name] 51)).alloc (.cells #[.int .i64 m,.slice am lm.length km] 35):=⟨_,rfl⟩;have hGW0:Grew wr W0:=by rw [hW0];exact gw0
      have hW0s:wr.heap.size+1<W0.heap.size:=by rw [hW0];simp [go_sem] <;> omega
      have hk:W0.cell? ⟨wr.heap.size,1,none⟩=some (.int .i64 x.pos)∧W0.cell? ⟨wr.heap.size+1,0,none⟩=some (.int .i64 m)∧W0.cell? ⟨wr.heap.size+1,1,none⟩=some (.slice am lm.length km):=by rw [hW0];simp [go_sem]
      obtain ⟨k1',k2',k3'⟩:=hk;have hNm:Nms W0 am lm:=by rw [hW0];exact HNMW.out.grew gw0
      have hNo:Nms W0 ao l:=HNo.out.grew hGW0;have hB8:W0.heap[b8]? = some (.cells #[.int .i64 n,.slice ao l.length ko] 35):=(hGW0.block b8 z8).trans HBo.out;have hb80:b8<W0.heap.size:=Nat.lt_of_lt_of_le z8 hGW0.size;obtain ⟨hp1,hp2,hp3⟩:=HOK2.out;obtain ⟨hlmV,hlmL⟩:=HLM.out;obtain ⟨hs1,hs2,hs3⟩:=HS.out;obtain ⟨lp,hlp⟩:∃ lp,placeN n x.pos.toNat m lm=lp:=⟨_,rfl⟩;have hlpV:VldL lp:=by rw [← hlp];exact placeL_valid hlmV _
      have hlpL:lp.length=n*n:=by rw [← hlp];exact placeL_length _ _ _ _ _
      have HP:=hid fun W (hN:Nms W am lm)=>(show Calls Tryz.prog 53 #[.int .i64 n,.int .i64 x.pos,.agg #[.int .i64 m,.slice am lm.length km]] W (MatP n lp W) from by
       have h:=place_any n x.pos.toNat m am km lm W n1 n2 hp3 (by omega) (by omega) hlmL hN;rw [Int.toNat_of_nonneg (by omega),hlp] at h;exact h)
      obtain ⟨⟨rl,re⟩,hr⟩:∃ r,mulM n lp l=r:=⟨_,rfl⟩;have HM:=hid fun W a2 k2 (hA:Nms W a2 lp) (hB:Nms W ao l)=>aMulM_any n a2 ao k2 ko lp l W n1 n2 hlpL hs2 hA hB hlpV hs3
      rw [hr] at HM;have HSTEP:Hid (stepE E n x l=(rl,re)):=hid (by unfold stepE;rw [HML.out];dsimp only;rw [hlp];exact hr);have HSTEP2:Hid (mulM n (placeN n x.pos.toNat m lm) l=(rl,re)):=hid (by rw [hlp];exact hr);have HVL:Hid (VldL rl∧(re=0→rl.length=n*n)):=hid (by
       have h1:=mulM_valid n lp l;have h2:=@matR_length n (fun i k=>rowN (prow lp l n i k));have h3:matR n (fun i k=>rowN (prow lp l n i k))=(rl,re):=hr;rw [h3] at h2;rw [hr] at h1;exact ⟨h1,h2⟩)
      rw [← hW0];have HGW0:=hid hGW0;clear hW0 hGW0 hp1 hp2 hp3 hlmV hlmL hlp hlpV hlpL hr hs1 hs2 hs3;have RN:Hid (rowsOf n re=rowsOf n re):=rfl;obtain ⟨N,hN⟩:∃ N,rowsOf n re=N:=⟨_,rfl⟩;have HN:=hid hN;refine R4.wp_region_slotsC 11 (fun ix vs W=>match ix with | 0=>vs 0=.int .i64 n | 1=>vs 1=.pointer (some ⟨wr.heap.size,1,none⟩) | 2=>vs 2=.int .i64 x.pos | 3=>vs 3=.agg #[.int .i64 m,.slice am lm.length km] | 4=>MatV (vs 4) W n lp | 5=>vs 5=.agg #[.int .i64 n,.slice ao l.length ko] | 6=>MatE (vs 6) W N (rl,re) | 7=>MatE (vs 7) W N (rl,re) | 8=>MatV (vs 8) W N rl | 9=>vs 9=.int .i64 re | 10=>MatB b8 N rl W | _=>True) (fun L W=>Cls W0 b8 (.cells #[.int .i64 n,.slice ao l.length ko] 35) L W) (by kernel_rfl) (by kernel_rfl) ?slst ?sldep ⟨(Turned.refl W0 b8).grew (Grew.refl _).drew,fun _=>hB8⟩ ?slop ?slq
      case slst =>
       exact k1_
      case sldep =>
       exact k2_
      case slop =>
       exact k3_
      case slq =>
       intro vs W2 hC hn;have hn9:vs 9=.int .i64 re:=hn 9 (by decide) (by decide);obtain ⟨a9,k9,hb9,hN9⟩:MatB b8 N rl W2:=hn 10 (by decide) (by decide);have HT2:Hid (Turned W W2 b8):=HT.out.trans (((Turned.refl wr b8).grew HGW0.out).trans hC.1);change wpList _ _ _ _ (Act.put (Act.put (Act.put (Act.put (Act.put (Act.put (Act.put (Act.put (Act.put (Act.put (Act.put _ (some 41) (vs 0)) (some 42) (vs 1)) (some 43) (vs 2)) (some 44) (vs 3)) (some 45) (vs 4)) (some 46) (vs 5)) (some 47) (vs 6)) (some 40) (vs 7)) (some 48) (vs 8)) (some 49) (vs 9)) none (vs 10)) _;simp only [Act.put,List.setIfInBounds_toArray,List.set_cons_zero,List.set_cons_succ,List.drop_succ_cons,List.drop_zero,hn9];have HB9:=hid hb9;have HN9:=hid hN9;clear hn hn9 hb9 hN9 hC hN;go_wp2_with fail
       go_roundw
       case rel =>
        refine ⟨i+1,rl,re,by omega,by go_num,rfl,hid ?_,HT2.out,a9,k9, ?_,HN9.out⟩
        · have hs0:=HS.out.1
          by_cases he:re=0
          · refine .inl ⟨he, ?_,HVL.out.2 he,HVL.out.1⟩
            have h1:=itsE_step (l:=l) Hx.out (by rw [HSTEP.out];exact he);exact k78_
          · have h1:=itsE_stop (l:=l) Hx.out (by rw [HSTEP.out];exact he)
            rw [HSTEP.out] at h1;have h3:(mulM n (placeN n x.pos.toNat m lm) l)=(rl,re):=HSTEP2.out;have h2:=seqR_err (L:=gridR n (fun i k=>rowN (prow (placeN n x.pos.toNat m lm) l n i k))) (by
             have h4:seqR (gridR n (fun i k=>rowN (prow (placeN n x.pos.toNat m lm) l n i k)))=(rl,re):=h3;rw [h4];exact he)
            have h4:seqR (gridR n (fun i k=>rowN (prow (placeN n x.pos.toNat m lm) l n i k)))=(rl,re):=h3;exact k64_
        · rw [HN.out];exact HB9.out
       case measure=>simp [intOf];omega
    · skip
      have HW0:=hwid;have hrun:=MapM.lookN ((HMP.out.grew HG.out).grew ((Grew.refl wr).alloc (.cells #[.int .i64 x.kind,.int .i64 x.pos,.int .i64 x.n,.string x.name] 51))) hxs hxe;clear hwid hxe hxs hx4;go_wp2_with fail
      refine (own_any x _ HW0).mono ?_;rintro e w' ⟨⟨am,km,rfl,hom⟩,g2,n2',rfl⟩;rw [hlmo] at hom ⊢;rw [hmo];have HOM:=hid hom;clear hom;go_wp2_with fail
      obtain ⟨W0,hW0⟩:∃ W0,W0=(((wr.alloc (.cells #[.int .i64 x.kind,.int .i64 x.pos,.int .i64 x.n,.string x.name] 51)).alloc (.cells #[.int .i64 m,.slice am lm.length km] 35)).grow g2).drewN n2':=⟨_,rfl⟩;have hGW0:Grew wr W0:=by rw [hW0];exact gw0
      have hW0s:wr.heap.size+1<W0.heap.size:=by rw [hW0];simp [go_sem] <;> omega
      have hk:W0.cell? ⟨wr.heap.size,1,none⟩=some (.int .i64 x.pos)∧W0.cell? ⟨wr.heap.size+1,0,none⟩=some (.int .i64 m)∧W0.cell? ⟨wr.heap.size+1,1,none⟩=some (.slice am lm.length km):=by rw [hW0];simp [go_sem]
      obtain ⟨k1',k2',k3'⟩:=hk;have hNm:Nms W0 am lm:=by rw [hW0];exact (HOM.out.al (by (try simp only [go_sem]);(try simp only [List.append_assoc]);repeat (first | exact Al.refl _ _ | refine Al.drewN ?_ _ | refine Al.grow ?_ _ | refine Al.alloc ?_ _ | refine Al.other ?_ _ _ (by simp [go_sem] <;> omega) | refine Al.set ?_ _ _ _ (by simp [go_sem] <;> omega)))).nms
      have hNo:Nms W0 ao l:=HNo.out.grew hGW0;have hB8:W0.heap[b8]? = some (.cells #[.int .i64 n,.slice ao l.length ko] 35):=(hGW0.block b8 z8).trans HBo.out;have hb80:b8<W0.heap.size:=Nat.lt_of_lt_of_le z8 hGW0.size;obtain ⟨hp1,hp2,hp3⟩:=HOK2.out;obtain ⟨hlmV,hlmL⟩:=HLM.out;obtain ⟨hs1,hs2,hs3⟩:=HS.out;obtain ⟨lp,hlp⟩:∃ lp,placeN n x.pos.toNat m lm=lp:=⟨_,rfl⟩;have hlpV:VldL lp:=by rw [← hlp];exact placeL_valid hlmV _
      have hlpL:lp.length=n*n:=by rw [← hlp];exact placeL_length _ _ _ _ _
      have HP:=hid fun W (hN:Nms W am lm)=>(show Calls Tryz.prog 53 #[.int .i64 n,.int .i64 x.pos,.agg #[.int .i64 m,.slice am lm.length km]] W (MatP n lp W) from by
       have h:=place_any n x.pos.toNat m am km lm W n1 n2 hp3 (by omega) (by omega) hlmL hN;rw [Int.toNat_of_nonneg (by omega),hlp] at h;exact h)
      obtain ⟨⟨rl,re⟩,hr⟩:∃ r,mulM n lp l=r:=⟨_,rfl⟩;have HM:=hid fun W a2 k2 (hA:Nms W a2 lp) (hB:Nms W ao l)=>aMulM_any n a2 ao k2 ko lp l W n1 n2 hlpL hs2 hA hB hlpV hs3
      rw [hr] at HM;have HSTEP:Hid (stepE E n x l=(rl,re)):=hid (by unfold stepE;rw [HML.out];dsimp only;rw [hlp];exact hr);have HSTEP2:Hid (mulM n (placeN n x.pos.toNat m lm) l=(rl,re)):=hid (by rw [hlp];exact hr);have HVL:Hid (VldL rl∧(re=0→rl.length=n*n)):=hid (by
       have h1:=mulM_valid n lp l;have h2:=@matR_length n (fun i k=>rowN (prow lp l n i k));have h3:matR n (fun i k=>rowN (prow lp l n i k))=(rl,re):=hr;rw [h3] at h2;rw [hr] at h1;exact ⟨h1,h2⟩)
      rw [← hW0];have HGW0:=hid hGW0;clear hW0 hGW0 hp1 hp2 hp3 hlmV hlmL hlp hlpV hlpL hr hs1 hs2 hs3;have RN:Hid (rowsOf n re=rowsOf n re):=rfl;obtain ⟨N,hN⟩:∃ N,rowsOf n re=N:=⟨_,rfl⟩;have HN:=hid hN;refine R4.wp_region_slotsC 11 (fun ix vs W=>match ix with | 0=>vs 0=.int .i64 n | 1=>vs 1=.pointer (some ⟨wr.heap.size,1,none⟩) | 2=>vs 2=.int .i64 x.pos | 3=>vs 3=.agg #[.int .i64 m,.slice am lm.length km] | 4=>MatV (vs 4) W n lp | 5=>vs 5=.agg #[.int .i64 n,.slice ao l.length ko] | 6=>MatE (vs 6) W N (rl,re) | 7=>MatE (vs 7) W N (rl,re) | 8=>MatV (vs 8) W N rl | 9=>vs 9=.int .i64 re | 10=>MatB b8 N rl W | _=>True) (fun L W=>Cls W0 b8 (.cells #[.int .i64 n,.slice ao l.length ko] 35) L W) (by kernel_rfl) (by kernel_rfl) ?slst ?sldep ⟨(Turned.refl W0 b8).grew (Grew.refl _).drew,fun _=>hB8⟩ ?slop ?slq
      case slst =>
       exact k1_
      case sldep =>
       exact k2_
      case slop =>
       exact k3_
      case slq =>
       intro vs W2 hC hn;have hn9:vs 9=.int .i64 re:=hn 9 (by decide) (by decide);obtain ⟨a9,k9,hb9,hN9⟩:MatB b8 N rl W2:=hn 10 (by decide) (by decide);have HT2:Hid (Turned W W2 b8):=HT.out.trans (((Turned.refl wr b8).grew HGW0.out).trans hC.1);change wpList _ _ _ _ (Act.put (Act.put (Act.put (Act.put (Act.put (Act.put (Act.put (Act.put (Act.put (Act.put (Act.put _ (some 41) (vs 0)) (some 42) (vs 1)) (some 43) (vs 2)) (some 44) (vs 3)) (some 45) (vs 4)) (some 46) (vs 5)) (some 47) (vs 6)) (some 40) (vs 7)) (some 48) (vs 8)) (some 49) (vs 9)) none (vs 10)) _;simp only [Act.put,List.setIfInBounds_toArray,List.set_cons_zero,List.set_cons_succ,List.drop_succ_cons,List.drop_zero,hn9];have HB9:=hid hb9;have HN9:=hid hN9;clear hn hn9 hb9 hN9 hC hN;go_wp2_with fail
       go_roundw
       case rel =>
        refine ⟨i+1,rl,re,by omega,by go_num,rfl,hid ?_,HT2.out,a9,k9, ?_,HN9.out⟩
        · have hs0:=HS.out.1
          by_cases he:re=0
          · refine .inl ⟨he, ?_,HVL.out.2 he,HVL.out.1⟩
            have h1:=itsE_step (l:=l) Hx.out (by rw [HSTEP.out];exact he);exact k78_
          · have h1:=itsE_stop (l:=l) Hx.out (by rw [HSTEP.out];exact he)
            rw [HSTEP.out] at h1;have h3:(mulM n (placeN n x.pos.toNat m lm) l)=(rl,re):=HSTEP2.out;have h2:=seqR_err (L:=gridR n (fun i k=>rowN (prow (placeN n x.pos.toNat m lm) l n i k))) (by
             have h4:seqR (gridR n (fun i k=>rowN (prow (placeN n x.pos.toNat m lm) l n i k)))=(rl,re):=h3;rw [h4];exact he)
            have h4:seqR (gridR n (fun i k=>rowN (prow (placeN n x.pos.toNat m lm) l n i k)))=(rl,re):=h3;exact k64_
        · rw [HN.out];exact HB9.out
       case measure=>simp [intOf];omega
  · obtain rfl:i=its.length:=by omega
    have hfin:Hid (R=(l,e)):=by
     rcases hs.out with h | h
     · obtain ⟨h1,h2,h3,h4⟩:=h
       rw [List.drop_length,itsE] at h2;rw [← h2,h1];exact rfl
     · rw [h.2.2];exact h.2.1
    obtain ⟨N,hN⟩:∃ N,rowsOf n e=N:=⟨_,rfl⟩;rw [hN] at c80;have HN:=hid hN;clear hN hs;go_wp2_with fail
    exact bodyPost_ret (v:=.tuple #[.agg #[.int .i64 N,.slice ao l.length ko],.int .i64 e]) (by simp [results,Tryz.results26,go_sem,y0,y1]) rfl ⟨⟨ao,ko,by rw [hfin.out,HN.out],by rw [hfin.out];exact HNo.out.turned (b:=w.heap.size) (((Turned.refl _ _).set _ _).set _ _) HB0.out⟩,(by repeat (first | exact Grew.refl _ | exact HG.out | refine Grew.drewN ?_ _ | refine Grew.grow ?_ _ | refine Grew.alloc ?_ _ | refine Grew.drew ?_ | refine Grew.set ?_ (Nat.le_refl _) _ _ | refine Grew.set ?_ (by omega) _ _))⟩
open Go Go.RowKit Amp Msh
theorem MapV.isMap {w:World} {b n:Nat} {f:ByteArray→Option Value} (h:MapV w b n f):∃ es clock,w.heap[b]? = some (.map es clock):=by
 exact k72_
theorem Nms.byMap {W w:World} {b:Nat} {a0:Option Addr} {l:List Num} (h:Nms W a0 l) (ht:Turned W w b) (hb:∃ es clock,W.heap[b]? = some (.map es clock)):Nms w a0 l :=
 h.al (b:=b) (fun b1 o1 e hl e2=>by
  subst e;subst e2;obtain ⟨z,hz⟩:∃ z,l[0]? = some z:=⟨l[0]'(List.length_pos_iff.2 hl),List.getElem?_eq_getElem (List.length_pos_iff.2 hl)⟩;obtain ⟨b2,o2,h1,_,c0,_⟩:=h.cells hz;injection h1 with h1;injection h1 with h2 h3;subst h2;obtain ⟨es,clock,hb⟩:=hb;simp [World.cell?,hb] at c0) (fun k hk hks=>ht.block hks hk) ht.size
theorem MapM.turned {W w:World} {b bm n:Nat} {E:Env} {x:Int} {a:Option Addr} {p q:Nat} {T:TypeId} (h:MapM W bm n E) (ht:Turned W w b) (hb:W.heap[b]? = some (.cells #[.int .i64 x,.slice a p q] T)):MapM w bm n E:=by
 obtain ⟨f,h1,h2⟩:=h;have hne:bm≠b:=by
  rintro rfl;obtain ⟨es,clock,h3⟩:=h1.isMap;rw [h3] at hb;simp at hb
 refine ⟨f,h1.kept ht.grown (fun e=>hne (Option.some.inj e)),fun s=>?_⟩;rcases h2 s with h3 | ⟨m,lm,a,k,h3,h4,h5⟩
 · exact .inl h3
 · exact .inr ⟨m,lm,a,k,h3,h4,h5.turned ht hb⟩
def LastOk (L:List Cl) (i:Nat) (Ms:List (List Num)) (N:Int) (l:List Num):Prop:=(i=0∧N=0∧l=[])∨∃ (j:Nat) (c:Cl),i=j+1∧L[j]? = some c∧Ms.getLast? = some l∧N=c.gd
structure MatSt (w:World) (L:List Cl) (b2 bm b5 i:Nat) (Ms:List (List Num)) (W:World):Prop where
 grew:Grew w W
 zero:W.heap[b2]? = some (.cells #[.int .i64 0,.slice none 0 0] 35)
 map:MapM W bm i (envF (L.take i) Ms)
 cur:∃ (N:Int) (l:List Num) (a:Option Addr) (k:Nat),W.heap[b5]? = some (.cells #[.int .i64 N,.slice a l.length k] 35)∧Nms W a l∧LastOk L i Ms N l
theorem MatSt.grow {w:World} {L:List Cl} {b2 bm b5 i:Nat} {Ms:List (List Num)} {W W':World} (h:MatSt w L b2 bm b5 i Ms W) (g:Grew W W'):MatSt w L b2 bm b5 i Ms W':=by
 obtain ⟨N,l,a,k,h1,h2,h3⟩:=h.cur;exact ⟨h.grew.trans g,(g.block b2 (Array.getElem?_eq_some_iff.1 h.zero).1).trans h.zero,h.map.grew g,N,l,a,k,(g.block b5 (Array.getElem?_eq_some_iff.1 h1).1).trans h1,h2.grew g,h3⟩
theorem MapM.put {w w':World} {b n m:Nat} {E:Env} {f:ByteArray→Option Value} {q:ByteArray} {lm:List Num} {a:Option Addr} {k:Nat} (h1:MapV w b n f) (h2:∀ s:ByteArray,(E s=none∧f s=none)∨∃ (m:Nat) (lm:List Num) (a:Option Addr) (k:Nat),E s=some (m,lm)∧f s=some (.agg #[.int .i64 m,.slice a lm.length k])∧Nms w a lm)
  (hM:MapV w' b (n+1) (fun s=>if s=q then some (.agg #[.int .i64 m,.slice a lm.length k]) else f s)) (ht:Turned w w' b) (hN:Nms w a lm) {E':Env} (hE:∀ s,E' s=if s=q then some (m,lm) else E s):MapM w' b (n+1) E':=by
 refine ⟨_,hM,fun s=>?_⟩;rw [hE];by_cases hs:s=q
 · rw [if_pos hs]
   exact .inr ⟨m,lm,a,k,rfl,by rw [if_pos hs],hN.byMap ht h1.isMap⟩
 · rw [if_neg hs]
   rcases h2 s with ⟨h3,h4⟩ | ⟨m',lm',a',k',h3,h4,h5⟩
   · exact .inl ⟨h3,by rw [if_neg hs];exact h4⟩
   · exact .inr ⟨m',lm',a',k',h3,by rw [if_neg hs];exact h4,h5.byMap ht h1.isMap⟩
def MadeNet (R:Int × List Num × Int) (w:World) (e:Ending) (w':World):Prop :=
 (∃ (a0:Option Addr) (k0:Nat),e=.returned (.tuple #[.agg #[.int .i64 R.1,.slice a0 R.2.1.length k0],.int .i64 R.2.2])∧Nms w' a0 R.2.1)∧Grew w w'
theorem itsE_shape {E:Env} {n:Nat}:∀ (its:List It) (l:List Num),VldL l→l.length=n*n→(itsE E n its l).2=0→VldL (itsE E n its l).1∧(itsE E n its l).1.length=n*n
 | [],l,h1,h2,_=>⟨h1,h2⟩
 | x :: t, l, h1, h2, h3 => by
   unfold itsE at h3 ⊢;by_cases he:(stepE E n x l).2=0
   · rw [if_pos he] at h3 ⊢
     have hl:(stepE E n x l).1.length=n*n:=matR_length he;exact itsE_shape t _ (mulM_valid _ _ _) hl h3
   · rw [if_neg he] at h3
     exact absurd h3 he
set_option maxRecDepth 100000 in
set_option maxHeartbeats 4000000 in
theorem matrix_bad (a0:Option Addr) (cap:Nat) (L:List Cl) (w:World) (hl:L.length≤9223372036854775807) (hN:Net w a0 L) (hk:CsOk L) (hv:vnet L=false) :
  Calls Tryz.prog 9 #[.slice a0 L.length cap] w (MadeNet (0,[],30) w):=by
 have HVN:=hid fun w' (hg:Grew w w')=>vnetP_any a0 cap L w' hl (hN.grew hg) hk
 rw [hv] at HVN;clear hN hk hv hl;go_enter Tryz.func9,Tryz.ntmps9
 go_wp2_with fail
 refine (HVN.out _ gw0).mono ?_;rintro e w' ⟨rfl,g1,n1,rfl⟩;go_wp2_with fail
 exact bodyPost_ret (v:=.tuple #[.agg #[.int .i64 0,.slice none 0 0],.int .i64 30]) (by simp [results,Tryz.results9,go_sem]) rfl ⟨⟨none,0,rfl,.inl rfl⟩,(by repeat (first | exact Grew.refl _ | exact HG.out | refine Grew.drewN ?_ _ | refine Grew.grow ?_ _ | refine Grew.alloc ?_ _ | refine Grew.drew ?_ | refine Grew.set ?_ (Nat.le_refl _) _ _ | refine Grew.set ?_ (by omega) _ _))⟩
set_option maxRecDepth 100000 in
set_option maxHeartbeats 4000000 in
theorem matrix_main (a0:Option Addr) (cap:Nat) (L:List Cl) (w:World) (hl:L.length≤9223372036854775807) (hN:Net w a0 L) (hk:CsOk L) (hv:vnet L=true) :
  Calls Tryz.prog 9 #[.slice a0 L.length cap] w (MadeNet (if (netM [] [] L).2=0 then ((L.getLast?.map Cl.gd).getD 0,(netM [] [] L).1.getLast?.getD [],0) else (0,[],(netM [] [] L).2)) w):=by
 have HVN:=hid fun w' (hg:Grew w w')=>vnetP_any a0 cap L w' hl (hN.grew hg) hk
 rw [hv] at HVN;have HN:=hid hN;have HK:=hid hk;have HALL:=hid (vnet_all hv);obtain ⟨R,hR⟩:∃ R,netM [] [] L=R:=⟨_,rfl⟩;have HR:=hid hR;rw [hR];obtain ⟨X,hX⟩:∃ X:Int × List Num × Int,(if R.2=0 then ((L.getLast?.map Cl.gd).getD 0,R.1.getLast?.getD [],0) else (0,[],R.2))=X:=⟨_,rfl⟩;rw [hX];have HX:=hid hX;have hl20:L.length≤20:=HALL.out.1.2;have hmm:=@run_makeMap Tryz.prog;clear hN hk hv hR hX;go_enter Tryz.func9,Tryz.ntmps9
 go_wp2_with fail
 refine (HVN.out _ gw0).mono ?_;rintro e W1 ⟨rfl,hg1⟩;obtain ⟨b2,hb2⟩:∃ b2,b2=w.heap.size:=⟨_,rfl⟩;have hz2:W1.heap[b2]? = some (.cells #[.int .i64 0,.slice none 0 0] 35):=by
  rw [hb2];refine (hg1.block _ (by simp)).trans ?_;show (w.heap.push _)[w.heap.size]? = _
  simp
 have hgw:Grew w W1:=Grew.trans gw0 hg1;have hbB:w.heap.size≤b2:=by omega
 rw [← hb2];have HZ2:=hid hz2;have HGW:=hid hgw;clear hg1 hb2 hz2 hgw HVN;go_wp2_with fail
 obtain ⟨bm,hbm⟩:∃ b,b=W1.heap.size:=⟨_,rfl⟩;obtain ⟨W2,hW2⟩:∃ W2,W2=(W1.alloc (.map #[] 0)).alloc (.cells #[.int .i64 0,.slice none 0 0] 35):=⟨_,rfl⟩;obtain ⟨b5,hb5⟩:∃ b,b=W1.heap.size+1:=⟨_,rfl⟩;have hst:MatSt w L b2 bm b5 0 [] W2:=by
  have hm0:MapV (W1.alloc (.map #[] 0)) bm 0 fun _=>none:=MapV.made hbm
  have g12:Grew W1 W2:=by rw [hW2];exact gw0
  refine ⟨HGW.out.trans g12,(g12.block b2 (Array.getElem?_eq_some_iff.1 HZ2.out).1).trans HZ2.out,⟨_,by rw [hW2];exact hm0.grew gw0,fun s=>.inl ⟨by rw [List.take_zero];rfl,rfl⟩⟩,0,[],none,0, ?_,.inl rfl,.inl ⟨rfl,rfl,rfl⟩⟩;rw [hW2,hb5];exact blk_new (by simp [go_sem])
 have hB5:w.heap.size≤b5:=by have:=HGW.out.size;omega
 have hBm:w.heap.size≤bm:=by have:=HGW.out.size;omega
 have hb25:b2≠b5:=by have:=(Array.getElem?_eq_some_iff.1 HZ2.out).1;omega
 have hb2m:b2≠bm:=by have:=(Array.getElem?_eq_some_iff.1 HZ2.out).1;omega
 have hb5m:b5≠bm:=by omega
 rw [← hW2,← hb5,← hbm];have HST:=hid hst;have HBB:=hid (And.intro hbB (And.intro hB5 (And.intro hBm (And.intro hb25 (And.intro hb2m hb5m)))));clear hst hW2 hbm hb5 hbB hB5 hBm hb25 hb2m hb5m HZ2 HGW;go_loopw [16] (fun v wr=>∃ (i:Nat) (Ms:List (List Num)),i≤L.length∧v=.int .i64 i∧Hid (R=netM (L.take i) Ms (L.drop i))∧Hid (MsOk (L.take i) Ms)∧Hid (MatSt w L b2 bm b5 i Ms wr)) (fun v _=>L.length - (intOf v).toNat)
 case atStart=>exact ⟨0,[],Nat.zero_le _,rfl,HR.out.symm,⟨rfl,fun j c M h=>by simp at h⟩,HST.out⟩
 case round =>
  obtain ⟨i,Ms,hi,rfl,HV,HOK,HS⟩:=hrel;by_cases hlt:i<L.length
  case neg =>
   obtain rfl:i=L.length:=by omega
   have hv:=HV.out;rw [List.drop_length] at hv;obtain ⟨N,l,a,k,h5,hNl,hla⟩:=HS.out.cur;have hRR:X=(N,l,0):=by
    rw [← HX.out,hv];show (if (0:Int)=0 then ((L.getLast?.map Cl.gd).getD 0,Ms.getLast?.getD [],0) else _)=_
    rw [if_pos rfl];rcases hla with ⟨h1,_⟩ | ⟨j,c,h1,h2,h3,h4⟩
    · have:=HALL.out.1.1;omega
    · rw [h3,List.getLast?_eq_getElem?,h1,Nat.add_sub_cancel,h2,h4]
      rfl
   have h2:=HS.out.zero;have z5:=(Array.getElem?_eq_some_iff.1 h5).1;have z2:=(Array.getElem?_eq_some_iff.1 h2).1;have y0:wr.cell? ⟨b5,0,none⟩=some (.int .i64 N):=by simp [World.cell?,h5]
   have y1:wr.cell? ⟨b5,1,none⟩=some (.slice a l.length k):=by simp [World.cell?,h5]
   have x0:wr.cell? ⟨b2,0,none⟩=some (.int .i64 0):=by simp [World.cell?,h2]
   have x1:wr.cell? ⟨b2,1,none⟩=some (.slice none 0 0):=by simp [World.cell?,h2]
   have f0:wr.frozen? ⟨b2,0,none⟩=false:=by simp [World.frozen?,h2]
   have f1:wr.frozen? ⟨b2,1,none⟩=false:=by simp [World.frozen?,h2]
   have HNL:=hid (And.intro h2 hNl);have HRR:=hid hRR;have HG:=hid HS.out.grew;have z51:=fun m0:Nat=>Nat.lt_add_right m0 (z5)
   have z52:=fun m0 m1:Nat=>Nat.lt_add_right m1 (z51 m0)
   have z53:=fun m0 m1 m2:Nat=>Nat.lt_add_right m2 (z52 m0 m1)
   have z21:=fun m0:Nat=>Nat.lt_add_right m0 (z2)
   have z22:=fun m0 m1:Nat=>Nat.lt_add_right m1 (z21 m0)
   have z23:=fun m0 m1 m2:Nat=>Nat.lt_add_right m2 (z22 m0 m1)
   clear hv h5 hNl hla hRR h2 HS HV HOK;go_wp2_with fail
   have hts:Turned wr ((wr.setCell ⟨b2,0,none⟩ (.int .i64 N)).setCell ⟨b2,1,none⟩ (.slice a l.length k)) b2:=((Turned.refl _ _).set _ _).set _ _;exact bodyPost_ret (v:=.tuple #[.agg #[.int .i64 N,.slice a l.length k],.int .i64 0]) (by simp [results,Tryz.results9,go_sem,x0,x1]) rfl ⟨⟨a,k,by rw [HRR.out],by rw [HRR.out];exact HNL.out.2.turned hts HNL.out.1⟩,hts.toGrew HG.out HBB.out.1⟩
  case pos =>
   obtain ⟨c,hc⟩:∃ c,L[i]? = some c:=⟨L[i],List.getElem?_eq_getElem hlt⟩;obtain ⟨b,off,rfl,hb,c0,c1,a2,k2,c2,hits⟩:=(HN.out.grew HS.out.grew).cells hc;obtain ⟨k3,k4,k5⟩:=HK.out.at hc;obtain ⟨v1,v2,v3,v4,v5⟩:=vcell_iff.1 (HALL.out.2 i c hc);have hv:=HV.out;rw [netM_step hc] at hv;obtain ⟨n,hn⟩:∃ n:Nat,c.gd=n:=⟨c.gd.toNat,by omega⟩;rw [hn,Int.toNat_natCast] at hv;rw [hn] at c1 v5;have n1:1≤n:=by omega
   have n2:n≤6:=by omega
   have hE:=envOk HOK.out;have HMD:=hid fun w' (hg:Grew wr w')=>made_env (envF (L.take i) Ms) (gdF (L.take i)) bm i n a2 k2 c.items w' n1 n2 (by omega) (hits.grew hg) v5 hE (HS.out.map.grew hg) k5
   obtain ⟨⟨Ml,Ee⟩,hM⟩:∃ p,itsE (envF (L.take i) Ms) n c.items (idN n)=p:=⟨_,rfl⟩;have hsh:=@itsE_shape (envF (L.take i) Ms) n c.items (idN n) (idN_valid n) (idN_length n);rw [hM] at hv HMD hsh;obtain ⟨n5,hn5⟩:∃ n,c.items.length=n:=⟨_,rfl⟩;obtain ⟨q,hq⟩:∃ q,c.name=q:=⟨_,rfl⟩;rw [hn5] at HMD c2;rw [hq] at c0 k3;obtain ⟨N,l,a,k,h5,hNl,hla⟩:=HS.out.cur;have h2:=HS.out.zero;have z5:=(Array.getElem?_eq_some_iff.1 h5).1;have z2:=(Array.getElem?_eq_some_iff.1 h2).1;have HH5:=hid h5;have HH2:=hid h2;have HC:=hid (And.intro hc (And.intro hq (And.intro hn (And.intro v1 (And.intro v2 v3)))));have HVV:=hid hv;have HSH:=hid hsh;have hb1:=fun m0:Nat=>Nat.lt_add_right m0 (hb)
   have hb2:=fun m0 m1:Nat=>Nat.lt_add_right m1 (hb1 m0)
   have hb3:=fun m0 m1 m2:Nat=>Nat.lt_add_right m2 (hb2 m0 m1)
   have z51:=fun m0:Nat=>Nat.lt_add_right m0 (z5)
   have z52:=fun m0 m1:Nat=>Nat.lt_add_right m1 (z51 m0)
   have z53:=fun m0 m1 m2:Nat=>Nat.lt_add_right m2 (z52 m0 m1)
   have z21:=fun m0:Nat=>Nat.lt_add_right m0 (z2)
   have z22:=fun m0 m1:Nat=>Nat.lt_add_right m1 (z21 m0)
   have z23:=fun m0 m1 m2:Nat=>Nat.lt_add_right m2 (z22 m0 m1)
   clear hc hits hv hE hM hsh hn5 hq hn v1 v2 v3 v4 v5 k4 k5 hNl hla HV h5 h2;go_wp2_with fail
   refine (HMD.out _ gw0).mono ?_;rintro e W6 ⟨⟨am,km,rfl,hNm⟩,hg6⟩;dsimp only at hNm ⊢;have h7:W6.heap[wr.heap.size]? = some (.cells #[.string q,.int .i64 n,.slice a2 n5 k2] 28):=(hg6.block _ (by simp)).trans (blk_new rfl);have y7:W6.cell? ⟨wr.heap.size,0,none⟩=some (.string q):=by simp [World.cell?,h7]
   have z7:=(Array.getElem?_eq_some_iff.1 h7).1;have hg6:Grew wr W6:=Grew.trans gw0 hg6;have h5:=(hg6.block b5 z5).trans HH5.out;have h2:=(hg6.block b2 z2).trans HH2.out;have z5:=(Array.getElem?_eq_some_iff.1 h5).1;have z2:=(Array.getElem?_eq_some_iff.1 h2).1;obtain ⟨b7,hb7⟩:∃ b7,b7=wr.heap.size:=⟨_,rfl⟩;rw [← hb7] at y7 z7 ⊢;have y0:W6.cell? ⟨b5,0,none⟩=some (.int .i64 N):=by simp [World.cell?,h5]
   have y1:W6.cell? ⟨b5,1,none⟩=some (.slice a l.length k):=by simp [World.cell?,h5]
   have p0:W6.frozen? ⟨b5,0,none⟩=false:=by simp [World.frozen?,h5]
   have p1:W6.frozen? ⟨b5,1,none⟩=false:=by simp [World.frozen?,h5]
   have x0:W6.cell? ⟨b2,0,none⟩=some (.int .i64 0):=by simp [World.cell?,h2]
   have x1:W6.cell? ⟨b2,1,none⟩=some (.slice none 0 0):=by simp [World.cell?,h2]
   have f0:W6.frozen? ⟨b2,0,none⟩=false:=by simp [World.frozen?,h2]
   have f1:W6.frozen? ⟨b2,1,none⟩=false:=by simp [World.frozen?,h2]
   have hb57:b7≠b5:=by
    have:=(Array.getElem?_eq_some_iff.1 HH5.out).1;omega
   have hne25:b2≠b5:=HBB.out.2.2.2.1;have HG6:=hid (HS.out.grew.trans hg6);have HH5:=hid h5;have HH2:=hid h2;have HNM:=hid hNm;have HMM:=hid (HS.out.map.grew hg6);clear h7 hg6 h5 h2 hNm hb7 HS HMD c0 c1 c2 hb hb1 hb2 hb3 z51 z52 z53 z21 z22 z23;by_cases he:Ee=0
   case neg =>
    have e1:(Ee != 0)=true:=by simpa using he
    have hRR:=HVV.out;rw [show (if (Ml,Ee).2=0 then netM (L.take (i+1)) (Ms++[(Ml,Ee).1]) (L.drop (i+1)) else ([],(Ml,Ee).2))=([],Ee) from if_neg he] at hRR;have HRR:=hid (show X=((0:Int),([]:List Num),Ee) by rw [← HX.out,hRR];exact if_neg he);obtain ⟨N6,hN6⟩:∃ N6,rowsOf n Ee=N6:=⟨_,rfl⟩;rw [hN6];clear he hRR HVV hN6;go_wp2_with fail
    exact bodyPost_ret (v:=.tuple #[.agg #[.int .i64 0,.slice none 0 0],.int .i64 Ee]) (by simp [results,Tryz.results9,go_sem,x0,x1]) rfl ⟨⟨none,0,by rw [HRR.out];rfl,by rw [HRR.out];exact .inl rfl⟩,(((HG6.out.set HBB.out.2.1 _ _).set HBB.out.2.1 _ _).set HBB.out.1 _ _).set HBB.out.1 _ _⟩
   case pos =>
    subst he;have hR2:=HVV.out;rw [show (if (Ml,(0:Int)).2=0 then netM (L.take (i+1)) (Ms++[(Ml,(0:Int)).1]) (L.drop (i+1)) else ([],(Ml,(0:Int)).2))=netM (L.take (i+1)) (Ms++[Ml]) (L.drop (i+1)) from if_pos rfl] at hR2;have HR2:=hid hR2;rw [show rowsOf n 0=(n:Int) by rw [rowsOf,if_pos rfl]];have hts:Turned W6 ((W6.setCell ⟨b5,0,none⟩ (.int .i64 n)).setCell ⟨b5,1,none⟩ (.slice am Ml.length km)) b5:=((Turned.refl _ _).set _ _).set _ _;have hs5:=R4.set2 HH5.out (.int .i64 n) (.slice am Ml.length km);have hN8:=HNM.out.turned hts HH5.out;obtain ⟨f,hf1,hf2⟩:=HMM.out.turned hts HH5.out;have HTS:=hid hts;have HS5:=hid hs5;have HN8:=hid hN8;have HF1:=hid hf1;have HF2:=hid hf2;clear hR2 hts hs5 hN8 hf1 hf2 HVV HMM HNM;go_wp2_with (at_mapUpdate;go_loud (refine wpList_mapUpdate_v rfl _ _ _ 63 rfl Tryz.underlying63 bm i f rfl HF1.out ?hmx q k3 (.agg #[.int .i64 n,.slice am Ml.length km]) rfl rfl ?_))
    case hmx=>unfold maxLen;omega
    · intro wB hMB hgB hdB
      have htB:Turned ((W6.setCell ⟨b5,0,none⟩ (.int .i64 n)).setCell ⟨b5,1,none⟩ (.slice am Ml.length km)) wB bm:=⟨hgB,hdB⟩;have hgw:Grew w wB:=htB.toGrew (HTS.out.toGrew HG6.out HBB.out.2.1) HBB.out.2.2.1;obtain ⟨hc,hq,hn,v1,v2,v3⟩:=HC.out;have hlen:(L.take i).length=Ms.length:=HOK.out.1;have htk:L.take (i+1)=L.take i++[c]:=by rw [List.take_add_one,hc];rfl
      have hmap:MapM wB bm (i+1) (envF (L.take (i+1)) (Ms++[Ml])):=MapM.put HF1.out HF2.out hMB htB HN8.out (fun s=>by
       rw [htk,envF_snoc hlen v2 s,hq,hn,Int.toNat_natCast])
      have hz:=(Array.getElem?_eq_some_iff.1 HH2.out).1;have hz2:wB.heap[b2]? = some (.cells #[.int .i64 0,.slice none 0 0] 35):=by
       rw [htB.block (k:=b2) (Nat.lt_of_lt_of_le hz HTS.out.size) HBB.out.2.2.2.2.1,HTS.out.block hz hne25];exact HH2.out
      have h5B:wB.heap[b5]? = some (.cells #[.int .i64 n,.slice am Ml.length km] 35):=by
       rw [htB.block (k:=b5) (Array.getElem?_eq_some_iff.1 HS5.out.1).1 HBB.out.2.2.2.2.2];exact HS5.out.1
      have hst:MatSt w L b2 bm b5 (i+1) (Ms++[Ml]) wB:=⟨hgw,hz2,hmap,n,Ml,am,km,h5B,HN8.out.byMap htB HF1.out.isMap,.inr ⟨i,c,rfl,hc,by simp,hn.symm⟩⟩;have HST:=hid hst;have HOK2:=hid (show MsOk (L.take (i+1)) (Ms++[Ml]) by
       rw [htk];have h:=HSH.out trivial;exact HOK.out.snoc v3 h.1 (by rw [hn,Int.toNat_natCast];exact h.2) v1)
      clear hMB hgB hdB htB hgw hc hq hn v1 v2 v3 hlen htk hmap hz hz2 h5B hst;go_wp2_with fail
      go_roundw
      case rel=>exact ⟨i+1,Ms++[Ml],by omega,by go_num,HR2.out,HOK2.out,HST.out.grow gw0⟩
      case measure=>simp [intOf];omega
theorem matrixP_any (a0:Option Addr) (cap:Nat) (L:List Cl) (w:World) (hl:L.length≤9223372036854775807) (hN:Net w a0 L) (hk:CsOk L) :
  Calls Tryz.prog 9 #[.slice a0 L.length cap] w (MadeNet (matNet L) w):=by
 unfold matNet;by_cases hv:vnet L=true
 · rw [if_pos hv]
   exact matrix_main a0 cap L w hl hN hk hv
 · rw [if_neg hv]
   exact matrix_bad a0 cap L w hl hN hk (by simpa using hv)
end Go.Proofs.YtchdmecjhaanfaaGreatDoor
