import Derived.Test.YtchdmecjhaanfaaGreatDoorTidC
import Derived.Test.YtchdmecjhaanfaaGreatDoorTidH
import Derived.Test.YtchdmecjhaanfaaGreatDoorTidJ
import Derived.Test.YtchdmecjhaanfaaGreatDoorTidL
import Derived.Test.YtchdmecjhaanfaaGreatDoorTidN
namespace Go.Proofs.YtchdmecjhaanfaaGreatDoor
open Go Go.RowKit Amp Msh
theorem onB_dec {g:Int} {y:It} (h:okIt g y=true) {p:Nat} (hp:y.pos=p) (q:Nat):onB y q=if y.kind=1 then decide (q=p) else (decide (q=p)||decide (q=p+1)):=by
 have hi:=on_iff h q;rw [hp] at hi;cases hb:onB y q with
 | true =>
   have h1:=hi.1 hb;by_cases hk:y.kind=1
   · rw [if_pos hk]
     exact (decide_eq_true (by omega)).symm
   · rw [if_neg hk]
     by_cases hq:q=p
     · rw [decide_eq_true hq];rfl
     · rw [decide_eq_false hq,decide_eq_true (by omega)];rfl
 | false =>
   have h1:¬ ((q:Int)=p∨(y.kind≠1∧(q:Int)=p+1)):=fun h2=>by
    have:=hi.2 h2;rw [hb] at this;cases this
   by_cases hk:y.kind=1
   · rw [if_pos hk]
     exact (decide_eq_false fun e=>h1 (.inl (by omega))).symm
   · rw [if_neg hk,decide_eq_false fun e=>h1 (.inl (by omega)),decide_eq_false fun e=>h1 (.inr ⟨hk,by omega⟩)]
     rfl
theorem put_any (B bt:Nat) (g:Int) (S:List (It × Bool)) (w W:World) (hg6:g≤6) (hS:S.length≤4000) (hok:okIts g (alv S)=true) (kd nn:Int) (p:Nat) (nm:ByteArray) (hx:okIt g ⟨kd,p,nn,nm⟩=true) (h:TidB B bt S W) (hw:Grew w W) (hB:w.heap.size≤B) (hBW:B≤W.heap.size) (hbt:w.heap.size≤bt) :
  Calls Tryz.prog 70 #[.pointer (some ⟨bt,0,none⟩),.agg #[.int .i64 kd,.int .i64 p,.int .i64 nn,.string nm]] W fun e W'=>(∃ v,e=.returned v)∧TidB B bt (putS S ⟨kd,p,nn,nm⟩) W'∧Grew w W':=by
 obtain ⟨_,hkd,hp1,hpq,_,_⟩:=okIt_iff hx;dsimp only at hkd hp1 hpq;have hon:=fun q:Nat=>onB_dec hx (p:=p) rfl q
 dsimp only at hon;have hp7:p<7∧(¬ kd=1→p+1<7):=by
  unfold ownW at hpq;by_cases hk:kd=1
  · rw [if_pos hk] at hpq
    exact ⟨by omega,fun h=>absurd hk h⟩
  · rw [if_neg hk] at hpq
    exact ⟨by omega,fun _=>by omega⟩
 have on1:kd=1→∀ q:Nat,q<7→onB ⟨kd,p,nn,nm⟩ q=decide (q=p):=fun hk q _=>by rw [hon q,if_pos hk]
 have on2:¬ kd=1→∀ q:Nat,q<7→onB ⟨kd,p,nn,nm⟩ q=(decide (q=p)||decide (q=p+1)):=fun hk q _=>by rw [hon q,if_neg hk]
 rcases last_alv p S with ⟨h1,_⟩ | ⟨A,y,C,h1,h2,h3,h4,_⟩
 · have e:putS S ⟨kd,p,nn,nm⟩=S++[(⟨kd,p,nn,nm⟩,true)]:=by unfold putS;rw [h1]
   rw [e];by_cases hk:kd=1
   · subst hk
     exact put_first1 B bt p nn nm S w W hS (by omega) hp7.1 h h1 (on1 rfl) hw hB hBW hbt
   · exact put_first2 B bt p kd nn nm S w W hS (by omega) (hp7.2 hk) h hk h1 (on2 hk) hw hB hBW hbt
 · obtain ⟨q,hq⟩:∃ q,A.length=q:=⟨_,rfl⟩
   have hat:S[q]? = some (y,true):=by rw [h1,← hq];simp
   have hy:okIt g y=true:=by
    rw [h1,alv_app,alv_on,okIts_app,okIts_cons] at hok;exact hok.2.1
   rw [hq] at h4; have e : putS S ⟨kd, p, nn, nm⟩ = if y.kind = kd ∧ y.pos = p then
       (if kd=1 then S.set q (⟨y.kind,y.pos,(y.n+nn) % 8,y.name⟩,decide ((y.n+nn) % 8≠0))
       else if kd=3∧lastIx (onS ((p:Int)+1)) S=some q then S.set q (y,false)
       else S++[(⟨kd,p,nn,nm⟩,true)])
    else S++[(⟨kd,p,nn,nm⟩,true)]:=by
    unfold putS;dsimp only;rw [h4];dsimp only;rw [hat]
   rw [e];by_cases hkk:y.kind=kd
   · by_cases hpp:y.pos=p
     · rw [if_pos ⟨hkk,hpp⟩]
       have hoy:=fun z:Nat=>onB_dec hy hpp z
       by_cases k1:kd=1
       · subst k1
         rw [if_pos rfl];have hn1:=ok_phase hy hkk;have hn2:=ok_phase hx rfl;have hoth:∀ z:Nat,z<7→z≠p→onB y z=false:=fun z _ hz=>by rw [hoy z,if_pos hkk,decide_eq_false hz]
         by_cases h8:(y.n+nn) % 8=0
         · rw [decide_eq_false fun h=>h h8]
           exact put_phase0 B bt p q nn nm S y w W (by omega) (by omega) (by omega) h hat h4 hkk hpp hn1 hn2 (by simpa using h8) hoth hw hB hbt
         · rw [decide_eq_true h8]
           exact put_phase B bt p q nn nm S y w W (by omega) (by omega) (by omega) h hat h4 hkk hpp hn1 hn2 (by simpa using h8) hoth hw hB hbt
       · rw [if_neg k1]
         have hp8:=hp7.2 k1;by_cases k3:kd=3
         · subst k3
           by_cases hl:lastIx (onS ((p:Int)+1)) S=some q
           · rw [if_pos ⟨rfl,hl⟩]
             exact put_cross B bt p q nn nm S y w W (by omega) (by omega) (by omega) h hat h4 hl hkk hpp (fun z _ hz hz2=>by rw [hoy z,if_neg (by omega),decide_eq_false hz,decide_eq_false hz2];rfl) hw hB hbt
           · rw [if_neg fun h=>hl h.2]
             refine put_cross2 B bt p y q nn nm S w W hS (by omega) hp8 h hat h4 hkk hpp ?_ (on2 (by decide)) hw hB hBW hbt;unfold topI;rw [show (((p+1:Nat):Int))=(p:Int)+1 by omega];cases hc:lastIx (onS ((p:Int)+1)) S with
             | none=>simp
             | some z =>
               rw [hc] at hl;have hne:z≠q:=fun e=>hl (by rw [e])
               simp;omega
         · rw [if_neg fun h=>k3 h.1]
           have k2:kd=2:=by omega
           subst k2;exact put_couple B bt p y q nn nm S w W hS (by omega) hp8 h hat h4 hkk hpp (on2 (by decide)) hw hB hBW hbt
     · rw [if_neg fun h=>hpp h.2]
       have k1:¬ kd=1:=fun hk=>by
        rcases (on_iff hy _).1 h2 with e | e
        · exact hpp e.symm
        · exact e.1 (hkk.trans hk)
       exact put_place2 B bt p kd y q nn nm S w W hS (by omega) (hp7.2 k1) h k1 hat h4 hkk (by simpa using hpp) (on2 k1) hw hB hBW hbt
   · rw [if_neg fun h=>hkk h.1]
     by_cases k1:kd=1
     · subst k1
       exact put_kind1 B bt p y q nn nm S w W hS (by omega) hp7.1 h hat h4 (by simpa using hkk) (on1 rfl) hw hB hBW hbt
     · exact put_kind2 B bt p kd y q nn nm S w W hS (by omega) (hp7.2 k1) h k1 hat h4 (by simpa using hkk) (on2 k1) hw hB hBW hbt
open Go Go.RowKit Amp Msh
def tidE (g:Int) (l:List It):List It × Int:=if chkIts g l=0 then (tidR l,0) else ([],chkIts g l)
theorem tidS_length (l:List It):(tidS l).length≤l.length:=by
 induction l using snoc_ind with
 | h0=>exact Nat.le_refl _
 | h1 l x ih =>
   rw [tidS_snoc,List.length_append];exact Nat.le_trans (putS_length _ _) (Nat.succ_le_succ ih)
theorem okIts_take {g:Int} {l:List It} (h:okIts g l=true) (i:Nat):okIts g (l.take i)=true:=by
 rw [← List.take_append_drop i l,okIts_app] at h;exact h.1
theorem TidB.zero {w:World} {B bt:Nat} (h:w.heap[bt]? = some (.cells (tdC none 0 0 none 0 0 fun _=>.slice none 0 0).toArray 128)):TidB B bt [] w :=
 ⟨none,0,none,0,fun _=>none,fun _=>0,h,OwnI.nil _ _,OwnB.nil _ _,fun _ _=>OwnZ.nil _ _,fun _ _ _ _ _ _ h1 _=>by cases h1⟩
theorem alv_take {S:List (It × Bool)} {q:Nat} {y:It} {b:Bool} (h:S[q]? = some (y,b)):alv (S.take (q+1))=alv (S.take q)++if b=true then [y] else []:=by
 rw [List.take_add_one,h,alv_app];cases b
 · rfl
 · rfl
set_option maxHeartbeats 800000 in
theorem tidy_bad (g:Int) (a0:Option Addr) (cap:Nat) (its:List It) (w:World) (hl:its.length≤300) (hc:Its w a0 its) (hk:¬ chkIts g its=0) :
  Calls Tryz.prog 34 #[.int .i64 g,.slice a0 its.length cap] w (ListI (tidE g its) w):=by
 have HK:=hid fun w' (h:Grew w w')=>check_any g a0 cap its w' (by omega) (hc.grew h)
 have HR:Hid (tidE g its=([],chkIts g its)):=hid (by unfold tidE;rw [if_neg hk]);obtain ⟨E,hE⟩:∃ E,chkIts g its=E:=⟨_,rfl⟩;rw [hE] at HK HR hk;have e1:(E != 0)=true:=by simpa using hk
 clear hc hk hE;go_enter Tryz.func34,Tryz.ntmps34
 go_wp2_with fail
 refine (HK.out _ gw0).mono ?_;rintro e w' ⟨rfl,g1,m1,rfl⟩;go_wp2_with fail
 exact bodyPost_ret (v:=.tuple #[.slice none 0 0,.int .i64 E]) (by simp [results,Tryz.results34,go_sem]) rfl ⟨⟨none,0,by rw [HR.out];rfl,by rw [HR.out];exact OwnI.nil _ _⟩,gw0⟩
set_option maxRecDepth 100000 in
set_option maxHeartbeats 4000000 in
theorem tidy_main (g:Int) (a0:Option Addr) (cap:Nat) (its:List It) (w:World) (hl:its.length≤300) (hc:Its w a0 its) (hk:chkIts g its=0) :
  Calls Tryz.prog 34 #[.int .i64 g,.slice a0 its.length cap] w (ListI (tidE g its) w):=by
 have HK:=hid fun w' (h:Grew w w')=>check_any g a0 cap its w' (by omega) (hc.grew h)
 rw [hk] at HK;obtain ⟨q1,q2,q3,q4⟩:=chkIts_zero hk;have HR:Hid (tidE g its=(tidR its,0)):=hid (by unfold tidE;rw [if_pos hk]);have HOK:=hid q4;have HC:=hid hc;clear hc hk q3 q4;go_enter Tryz.func34,Tryz.ntmps34
 go_wp2_with fail
 refine (HK.out _ gw0).mono ?_;rintro e W1 ⟨rfl,hg1⟩;have HG:=hid (Grew.trans (a:=w) gw0 hg1);clear hg1 HK;go_wp2_with fail
 obtain ⟨W2,hW2⟩:∃ W2,W2=W1.alloc (.cells #[.slice none 0 0,.slice none 0 0,.slice none 0 0,.slice none 0 0,.slice none 0 0,.slice none 0 0,.slice none 0 0,.slice none 0 0,.slice none 0 0] 128):=⟨_,rfl⟩;obtain ⟨b7,hb7⟩:∃ b7,b7=W1.heap.size:=⟨_,rfl⟩;have hg2:Grew W1 W2:=by rw [hW2];exact gw0
 have hT0:TidB w.heap.size b7 [] W2:=TidB.zero (by rw [hW2,hb7];exact heap_new _ _);rw [← hW2,← hb7];have hbt:w.heap.size≤b7:=by rw [hb7];exact HG.out.size
 have HG:=hid (HG.out.trans hg2);have HT0:=hid hT0;clear hW2 hb7 hg2 hT0;go_loopw [23] (fun v wr=>∃ (i:Nat),i≤its.length∧v=.int .i64 i∧Hid (TidB w.heap.size b7 (tidS (its.take i)) wr)∧Hid (Grew w wr)) (fun v _=>its.length - (intOf v).toNat)
 case atStart=>exact ⟨0,Nat.zero_le _,rfl,HT0.out,HG.out⟩
 case round =>
  obtain ⟨i,hi,rfl,HT,HGR⟩:=hrel;by_cases hlt:i<its.length
  case pos =>
   obtain ⟨⟨kd,ps,nn,nm⟩,hx⟩:∃ x,its[i]? = some x:=⟨its[i],List.getElem?_eq_getElem hlt⟩;obtain ⟨b,off,rfl,hb,c0,c1,c2,c3⟩:=(HC.out.grew HGR.out).cells hx;have hxo:=okIts_at hx HOK.out;obtain ⟨hp1,_⟩:=ok_pos hxo q2;dsimp only at c0 c1 c2 c3 hp1;obtain ⟨p,rfl⟩:∃ p:Nat,ps=p:=⟨ps.toNat,by omega⟩;have hN:tidS (its.take (i+1))=putS (tidS (its.take i)) ⟨kd,p,nn,nm⟩:=by rw [take_snocI hx,tidS_snoc]
   have hSl:(tidS (its.take i)).length≤4000:=by
    have:=tidS_length (its.take i);rw [List.length_take] at this;omega
   have hal:okIts g (alv (tidS (its.take i)))=true:=by
    rw [tidS_alv q2 _ (okIts_take HOK.out i)];exact (tidR_ok q2 _ (okIts_take HOK.out i)).1
   have HN:=hid hN;have HP:=hid fun w' (hg2:Grew wr w')=>put_any w.heap.size b7 g (tidS (its.take i)) w w' q2 hSl hal kd nn p nm hxo (HT.out.grew hg2) (HGR.out.trans hg2) (Nat.le_refl _) (HGR.out.trans hg2).size hbt
   have hb1:=fun m0:Nat=>Nat.lt_add_right m0 (hb)
   have hb2:=fun m0 m1:Nat=>Nat.lt_add_right m1 (hb1 m0)
   have hb3:=fun m0 m1 m2:Nat=>Nat.lt_add_right m2 (hb2 m0 m1)
   clear hx hxo hp1 hN hSl hal HT;go_wp2_with fail
   refine (HP.out _ gw0).mono ?_;rintro e W3 ⟨⟨v,rfl⟩,hT3,hg3⟩;have HT3:=hid hT3;have HG3:=hid hg3;clear hT3 hg3 HP HGR hb hb1 hb2 hb3 c0 c1 c2 c3;go_wp2_with fail
   go_roundw
   case rel=>exact ⟨i+1,by omega,by go_num,by rw [HN.out];exact HT3.out.grew gw0,HG3.out.trans gw0⟩
   case measure=>simp [intOf];omega
  case neg =>
   obtain rfl:i=its.length:=by omega
   obtain ⟨wM,hwM⟩:∃ wM,wM=wr:=⟨_,rfl⟩;subst wr;have hT:=HT.out;rw [List.take_length] at hT;obtain ⟨S,hS⟩:∃ S,tidS its=S:=⟨_,rfl⟩;have hSl:S.length≤300:=by have:=tidS_length its;rw [hS] at this;omega
   have hal:alv S=tidR its:=by rw [← hS];exact tidS_alv q2 _ HOK.out
   rw [hS] at hT;obtain ⟨aI,kI,aG,kG,a,k,h1,h2,h3,_,_⟩:=hT.ex;have z7:=(Array.getElem?_eq_some_iff.1 h1).1;have t0:wM.cell? ⟨b7,0,none⟩=some (.slice aI S.length kI):=by simp [World.cell?,h1,tdC]
   have t1:wM.cell? ⟨b7,1,none⟩=some (.slice aG S.length kG):=by simp [World.cell?,h1,tdC]
   have HI:=hid (OwnI.its h2);have HF:=hid h3;have HAL:=hid hal;have hsz:=HGR.out.size;have z71:=fun m0:Nat=>Nat.lt_add_right m0 (z7)
   have z72:=fun m0 m1:Nat=>Nat.lt_add_right m1 (z71 m0)
   have z73:=fun m0 m1 m2:Nat=>Nat.lt_add_right m2 (z72 m0 m1)
   clear h1 h2 h3 hT hS hal HT HC HOK;go_wp2_with fail
   go_loopw [10,36] (fun c v w2=>∃ (q:Nat) (ac:Option Addr) (kc:Nat) (L:List It),q≤S.length∧v=.int .i64 q∧c=.slice ac L.length kc∧Hid (L=alv (S.take q))∧Hid (OwnI w2 wM.heap.size ac kc L)∧Grew wM w2) (fun _ v _=>S.length - (intOf v).toNat)
   case atStart=>exact ⟨0,none,0,[],Nat.zero_le _,rfl,rfl,rfl,OwnI.nil _ _,gw0⟩
   case round =>
    obtain ⟨q,ac,kc,L,hq,rfl,rfl,HL,HO,hg⟩:=hrel;by_cases hlt:q<S.length
    case pos =>
     obtain ⟨⟨z,fl⟩,hz⟩:∃ x,S[q]? = some x:=⟨S[q],List.getElem?_eq_getElem hlt⟩;obtain ⟨b,off,rfl,hb,c0,c1,c2,c3⟩:=(HI.out.grew hg).cells (i:=q) (z:=z) (by simp [hz]);obtain ⟨bG,rfl,_,_,hcell,_,_⟩:=HF.out.here (by simp;omega);have cf:=hcell q (!fl) (by simp [hz]);have zG:bG<wM.heap.size:=by
      have:=(own_at (show wM.ownsRow w.heap.size 4 1 (.slice (some ⟨bG,0,none⟩) _ kG) _ _ from HF.out) _ rfl).2.2.1;exact this
     have cf:=(hg.cell (i:=q) zG).trans cf;have t0:=(hg.cell (i:=0) z7).trans t0;have t1:=(hg.cell (i:=1) z7).trans t1;have z7:=Nat.lt_of_lt_of_le z7 hg.size;have zG:=Nat.lt_of_lt_of_le zG hg.size;have hN:=alv_take hz;have HLL:=hid (show L.length≤5000 by
      rw [HL.out];unfold alv;rw [List.length_map];exact Nat.le_trans (List.length_filter_le _ _) (by rw [List.length_take];omega))
     have HN:=hid hN;have HGR2:=hid hg;have hsz:=hg.size;clear z71 z72 z73;have hb1:=fun m0:Nat=>Nat.lt_add_right m0 (hb)
     have hb2:=fun m0 m1:Nat=>Nat.lt_add_right m1 (hb1 m0)
     have hb3:=fun m0 m1 m2:Nat=>Nat.lt_add_right m2 (hb2 m0 m1)
     have z71:=fun m0:Nat=>Nat.lt_add_right m0 (z7)
     have z72:=fun m0 m1:Nat=>Nat.lt_add_right m1 (z71 m0)
     have z73:=fun m0 m1 m2:Nat=>Nat.lt_add_right m2 (z72 m0 m1)
     have zG1:=fun m0:Nat=>Nat.lt_add_right m0 (zG)
     have zG2:=fun m0 m1:Nat=>Nat.lt_add_right m1 (zG1 m0)
     have zG3:=fun m0 m1 m2:Nat=>Nat.lt_add_right m2 (zG2 m0 m1)
     clear hz hg hcell hN;cases fl with
     | true =>
       have HN2:=hid (show L++[z]=alv (S.take (q+1)) by rw [HN.out,if_pos rfl,HL.out]);clear HN;simp only [Bool.not_true] at cf;go_wp2_with (at_builtin;go_loud (refine wpList_append_its rfl _ _ rfl wM.heap.size ac kc L rfl (HO.out.grew gw0) _ 1 [z] rfl (fun e=>by cases e) (cells_newI _ _ (by simp [go_sem]) #[.int .i64 z.kind,.int .i64 z.pos,.int .i64 z.n,.string z.name] _ [z] rfl) ?hmx ?hbs ?_))
       case hmx=>have:=HLL.out;simp;omega
       case hbs=>(try simp [go_sem]);omega
       · intro a4 k4 wB hownB hgrowB hdrB
         have HGB:=hid (show Grew wM wB from Grew.by (w':=_) (HGR2.out.trans gw0) hgrowB hdrB (fun jj hjj=>ownsRow_above HO.out jj hjj));have HOB:=hid hownB;clear hgrowB hdrB hownB;go_wp2_with fail
         go_roundw
         case rel=>exact ⟨q+1,a4,k4,L++[z],by omega,by go_num,by simp,HN2,HOB.out,HGB.out⟩
         case measure=>simp [intOf];omega
     | false =>
       have HN2:=hid (show L=alv (S.take (q+1)) by rw [HN.out,if_neg Bool.false_ne_true,List.append_nil];exact HL.out);clear HN;simp only [Bool.not_false] at cf;go_wp2_with fail
       go_roundw
       case rel=>exact ⟨q+1,ac,kc,L,by omega,by go_num,rfl,HN2,HO.out.grew gw0,HGR2.out.trans gw0⟩
       case measure=>simp [intOf];omega
    case neg =>
     obtain rfl:q=S.length:=by omega
     have hL:=HL.out;rw [List.take_length,HAL.out] at hL;have HL:=hid hL;have HGR2:=hid hg;clear hL hg;go_wp2_with fail
     exact bodyPost_ret (v:=.tuple #[.slice ac L.length kc,.int .i64 0]) (by simp [results,Tryz.results34,go_sem]) rfl ⟨⟨ac,kc,by rw [HR.out,HL.out],by rw [HR.out,← HL.out];exact World.ownsRow.mono (HO.out.grew gw0) hsz⟩,HGR.out.trans (HGR2.out.trans gw0)⟩
theorem tidy_any (g:Int) (a0:Option Addr) (cap:Nat) (its:List It) (w:World) (hl:its.length≤300) (hc:Its w a0 its) :
  Calls Tryz.prog 34 #[.int .i64 g,.slice a0 its.length cap] w (ListI (tidE g its) w):=by
 by_cases hk:chkIts g its=0
 · exact tidy_main g a0 cap its w hl hc hk
 · exact tidy_bad g a0 cap its w hl hc hk
end Go.Proofs.YtchdmecjhaanfaaGreatDoor
