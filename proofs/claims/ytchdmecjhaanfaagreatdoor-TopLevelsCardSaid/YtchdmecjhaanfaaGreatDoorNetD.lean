import Derived.Test.YtchdmecjhaanfaaGreatDoorMshA
import Derived.Test.YtchdmecjhaanfaaGreatDoorMshX
import Derived.Test.YtchdmecjhaanfaaGreatDoorMshPlain
namespace Go.Proofs.YtchdmecjhaanfaaGreatDoor
open Go Go.RowKit Amp Msh
theorem _root_.k67_ {p:Prop} (h:p:=by
 have e1:s.toList.isEmpty=false:=by simpa using hs
 clear hs;exact k26_):p:=h
theorem _root_.k45_ {p:Prop} (h:p:=by
 go_enter Tryz.func43,Tryz.ntmps43
 go_wp2_with fail
 refine (HNM.out _ gw0).mono ?_;rintro e w' ⟨rfl,g1,n1,rfl⟩;go_wp2_with fail
 go_ret;exact ⟨rfl,gw0⟩):p:=h
theorem _root_.k32_ {p:Prop} (h:p:=by
 clear hW hN;go_enter Tryz.func19,Tryz.ntmps19
 go_wp2_with fail
 refine (HV.out _ gw0).mono ?_;rintro e w' ⟨rfl,g',n,rfl⟩;go_wp2_with fail
 go_ret;exact ⟨rfl,gw0⟩):p:=h
theorem _root_.k26_ {p:Prop} (h:p:=by
 go_enter Tryz.func43,Tryz.ntmps43
 go_wp2_with fail
 go_ret;exact ⟨rfl,gw0⟩):p:=h
theorem _root_.k20_ {p:Prop} (h:p:=by
 go_wp2_with fail
 refine wp_region_gentle_lit (by kernel_rfl) (by kernel_rfl) ?_;repeat (first | go_big_quiet_skip | (go_big_quiet_want;go_big_quiet_op;first | go_big_quiet_on | (apply Exists.intro;refine ⟨fun qq=>?_, ?_⟩;(focus ((first | (go_at_call 17;refine Calls.gentle_of (HNM.out _) ?_) | (go_at_call 18;refine Calls.gentle_of (HNA.out _ gw0) ?_));rintro _ ⟨g',n',rfl⟩;exact ⟨⟨qq.g++g',qq.n+n'⟩,by rw [World.grow_drewN,World.grow_grow,World.drewN_drewN];repeat (first | rw [List.append_assoc] | rw [Nat.add_assoc])⟩));go_big_quiet_on)))
 refine wpQuiet_nil ?_;rintro _ ⟨gg,ng,rfl⟩;go_wp2_with fail
 go_ret;exact ⟨by rw [HF.out];rfl,HG.out.trans gw0⟩):p:=h
def nmO (q:ByteArray):Nat→List Cl→Int
 | _,[]=>-1
 | o,c::t=>if hasN q c=true then (o:Int) else nmO q (o+1) t
theorem nmO_step {q:ByteArray} {L:List Cl} {i:Nat} {c:Cl} (h:L[i]? = some c) (o:Nat):nmO q o (L.drop i)=if hasN q c=true then (o:Int) else nmO q (o+1) (L.drop (i+1)):=by
 obtain ⟨hlt,rfl⟩:=List.getElem?_eq_some_iff.1 h;rw [List.drop_eq_getElem_cons hlt];rfl
theorem nmO_find {q:ByteArray}:∀ (C:List Cl) (o:Nat),(C.find? (hasN q)=none∧nmO q o C=-1)∨∃ (c:Cl) (j:Nat),C.find? (hasN q)=some c∧nmO q o C=((o+j:Nat):Int)∧C[j]? = some c
 | [],o=>.inl ⟨rfl,rfl⟩
 | c :: t, o => by
   unfold nmO;rw [List.find?_cons];by_cases h:hasN q c=true
   · rw [h,if_pos rfl]
     exact .inr ⟨c,0,rfl,rfl,rfl⟩
   · rw [if_neg h,show hasN q c=false by simpa using h]
     rcases nmO_find t (o+1) with ⟨h1,h2⟩ | ⟨d,j,h1,h2,h3⟩
     · exact .inl ⟨h1,h2⟩
     · exact .inr ⟨d,j+1,h1,by rw [h2];congr 1;omega,by simpa using h3⟩
theorem hasN_toList (q:ByteArray) (c:Cl):(c.name.toList==q.toList)=hasN q c:=by
 unfold hasN;by_cases h:c.name=q
 · rw [h];simp
 · rw [decide_eq_false h]
   cases hb:c.name.toList==q.toList with
   | false=>rfl
   | true =>
     refine absurd ?_ h;have h1:=eq_of_beq hb;rw [ByteArray.toList_eq,ByteArray.toList_eq] at h1;have h2:=Array.toList_inj.1 h1;obtain ⟨x⟩:=q;obtain ⟨⟨y⟩,_,_⟩:=c;dsimp only at h2 ⊢;rw [h2]
set_option maxHeartbeats 800000 in
theorem named_any (a0:Option Addr) (cap:Nat) (C:List Cl) (q:ByteArray) (w:World) (hl:C.length≤9223372036854775807) (hN:Net w a0 C) :
  Calls Tryz.prog 18 #[.slice a0 C.length cap,.string q] w fun e w'=>e=.returned (.int .i64 (nmO q 0 C))∧Grew w w':=by
 have HN:=hid hN;obtain ⟨R,hR⟩:∃ R,nmO q 0 C=R:=⟨_,rfl⟩;rw [hR];have HR:=hid hR;clear hN hR;go_enter Tryz.func18,Tryz.ntmps18
 go_wp2_with fail
 go_loopw [9] (fun v wr=>∃ i:Nat,i≤C.length∧v=.int .i64 i∧Hid (R=nmO q i (C.drop i))∧Grew w wr) (fun v _=>C.length - (intOf v).toNat)
 case atStart=>exact ⟨0,Nat.zero_le _,rfl,HR.out.symm,gw0⟩
 case round =>
  obtain ⟨i,hi,rfl,HV,hg⟩:=hrel;by_cases hlt:i<C.length
  case neg =>
   obtain rfl:i=C.length:=by omega
   exact k49_
  case pos =>
   obtain ⟨c,hc⟩:∃ c,C[i]? = some c:=⟨C[i],List.getElem?_eq_getElem hlt⟩;obtain ⟨b,off,rfl,hb,c0,c1,a2,k2,c2,_⟩:=(HN.out.grew hg).cells hc;have hv:=HV.out;rw [nmO_step hc] at hv;have hb1':=hasN_toList q c;have HG:=hid hg;have hb1:=fun m0:Nat=>Nat.lt_add_right m0 (hb)
   have hb2:=fun m0 m1:Nat=>Nat.lt_add_right m1 (hb1 m0)
   have hb3:=fun m0 m1 m2:Nat=>Nat.lt_add_right m2 (hb2 m0 m1)
   clear hc hg HV;cases hh:hasN q c with
   | true =>
     rw [hh] at hb1' hv;have HF:=hid hv;clear hv hh;exact k25_
   | false =>
     rw [hh] at hb1' hv;have HF:=hid hv;clear hv hh;go_wp2_with fail
     go_roundw
     case rel=>exact ⟨i+1,by omega,by go_num,HF.out,HG.out.trans gw0⟩
     case measure=>simp [intOf];omega
set_option maxRecDepth 100000 in
set_option maxHeartbeats 800000 in
theorem rwideM_phase (p n:Int) (s:ByteArray) (a0:Option Addr) (len cap:Nat) (w:World) (hs:s.toList=[]) (h1:1≤n) (h2:n≤7) :
  Calls Tryz.prog 43 #[.slice a0 len cap,.agg #[.int .i64 1,.int .i64 p,.int .i64 n,.string s]] w fun e w'=>e=.returned (.int .i64 1)∧Grew w w':=by
 exact k26_
set_option maxRecDepth 100000 in
set_option maxHeartbeats 800000 in
theorem rwideM_phaseL (p n:Int) (s:ByteArray) (a0:Option Addr) (len cap:Nat) (w:World) (h1:n<1) :
  Calls Tryz.prog 43 #[.slice a0 len cap,.agg #[.int .i64 1,.int .i64 p,.int .i64 n,.string s]] w fun e w'=>e=.returned (.int .i64 0)∧Grew w w':=by
 exact k26_
set_option maxRecDepth 100000 in
set_option maxHeartbeats 800000 in
theorem rwideM_phaseH (p n:Int) (s:ByteArray) (a0:Option Addr) (len cap:Nat) (w:World) (h1:1≤n) (h2:7<n) :
  Calls Tryz.prog 43 #[.slice a0 len cap,.agg #[.int .i64 1,.int .i64 p,.int .i64 n,.string s]] w fun e w'=>e=.returned (.int .i64 0)∧Grew w w':=by
 exact k26_
set_option maxRecDepth 100000 in
set_option maxHeartbeats 800000 in
theorem rwideM_phaseN (p n:Int) (s:ByteArray) (a0:Option Addr) (len cap:Nat) (w:World) (hs:¬ s.toList=[]) (h1:1≤n) (h2:n≤7) :
  Calls Tryz.prog 43 #[.slice a0 len cap,.agg #[.int .i64 1,.int .i64 p,.int .i64 n,.string s]] w fun e w'=>e=.returned (.int .i64 0)∧Grew w w':=by
 exact k67_
set_option maxRecDepth 100000 in
set_option maxHeartbeats 800000 in
theorem rwideM_two2 (p:Int) (s:ByteArray) (a0:Option Addr) (len cap:Nat) (w:World) (hs:s.toList=[]) :
  Calls Tryz.prog 43 #[.slice a0 len cap,.agg #[.int .i64 2,.int .i64 p,.int .i64 0,.string s]] w fun e w'=>e=.returned (.int .i64 2)∧Grew w w':=by
 exact k26_
set_option maxRecDepth 100000 in
set_option maxHeartbeats 800000 in
theorem rwideM_twoS2 (p:Int) (s:ByteArray) (a0:Option Addr) (len cap:Nat) (w:World) (hs:¬ s.toList=[]) :
  Calls Tryz.prog 43 #[.slice a0 len cap,.agg #[.int .i64 2,.int .i64 p,.int .i64 0,.string s]] w fun e w'=>e=.returned (.int .i64 0)∧Grew w w':=by
 exact k67_
set_option maxRecDepth 100000 in
set_option maxHeartbeats 800000 in
theorem rwideM_twoN2 (p n:Int) (s:ByteArray) (a0:Option Addr) (len cap:Nat) (w:World) (hn:¬ n=0) :
  Calls Tryz.prog 43 #[.slice a0 len cap,.agg #[.int .i64 2,.int .i64 p,.int .i64 n,.string s]] w fun e w'=>e=.returned (.int .i64 0)∧Grew w w':=by
 have e1:(n==0)=false:=by simpa using hn
 clear hn;exact k26_
set_option maxRecDepth 100000 in
set_option maxHeartbeats 800000 in
theorem rwideM_two3 (p:Int) (s:ByteArray) (a0:Option Addr) (len cap:Nat) (w:World) (hs:s.toList=[]) :
  Calls Tryz.prog 43 #[.slice a0 len cap,.agg #[.int .i64 3,.int .i64 p,.int .i64 0,.string s]] w fun e w'=>e=.returned (.int .i64 2)∧Grew w w':=by
 exact k26_
set_option maxRecDepth 100000 in
set_option maxHeartbeats 800000 in
theorem rwideM_twoS3 (p:Int) (s:ByteArray) (a0:Option Addr) (len cap:Nat) (w:World) (hs:¬ s.toList=[]) :
  Calls Tryz.prog 43 #[.slice a0 len cap,.agg #[.int .i64 3,.int .i64 p,.int .i64 0,.string s]] w fun e w'=>e=.returned (.int .i64 0)∧Grew w w':=by
 exact k67_
set_option maxRecDepth 100000 in
set_option maxHeartbeats 800000 in
theorem rwideM_twoN3 (p n:Int) (s:ByteArray) (a0:Option Addr) (len cap:Nat) (w:World) (hn:¬ n=0) :
  Calls Tryz.prog 43 #[.slice a0 len cap,.agg #[.int .i64 3,.int .i64 p,.int .i64 n,.string s]] w fun e w'=>e=.returned (.int .i64 0)∧Grew w w':=by
 have e1:(n==0)=false:=by simpa using hn
 clear hn;exact k26_
set_option maxRecDepth 100000 in
set_option maxHeartbeats 800000 in
theorem rwideM_none (kind p n:Int) (s:ByteArray) (a0:Option Addr) (len cap:Nat) (w:World) (h1:¬ kind=1) (h2:¬ kind=2) (h3:¬ kind=3) (h4:¬ kind=4) :
  Calls Tryz.prog 43 #[.slice a0 len cap,.agg #[.int .i64 kind,.int .i64 p,.int .i64 n,.string s]] w fun e w'=>e=.returned (.int .i64 0)∧Grew w w':=by
 have k1:(kind==1)=false:=by simpa using h1
 have k2:(kind==2)=false:=by simpa using h2
 have k3:(kind==3)=false:=by simpa using h3
 have k4:(kind==4)=false:=by simpa using h4
 clear h1 h2 h3 h4;exact k26_
set_option maxRecDepth 100000 in
set_option maxHeartbeats 800000 in
theorem rwideM_none4 (a0:Option Addr) (cap:Nat) (C:List Cl) (w:World) (hl:C.length≤9223372036854775807) (hN:Net w a0 C) (p n:Int) (s:ByteArray) (hf:C.find? (hasN s)=none) :
  Calls Tryz.prog 43 #[.slice a0 C.length cap,.agg #[.int .i64 4,.int .i64 p,.int .i64 n,.string s]] w fun e w'=>e=.returned (.int .i64 0)∧Grew w w':=by
 have HNM:=hid fun w' (hg:Grew w w')=>named_any a0 cap C s w' hl (hN.grew hg)
 rw [show nmO s 0 C=-1 by rcases nmO_find (q:=s) C 0 with ⟨_,h⟩ | ⟨c,j,h,_⟩;exact h;rw [hf] at h;cases h] at HNM;clear hN hf;exact k45_
set_option maxRecDepth 100000 in
set_option maxHeartbeats 800000 in
theorem rwideM_n4 (a0:Option Addr) (cap:Nat) (C:List Cl) (w:World) (hl:C.length≤9223372036854775807) (hN:Net w a0 C) (p n:Int) (s:ByteArray) (c:Cl) (hf:C.find? (hasN s)=some c) (hn:¬ n=0) :
  Calls Tryz.prog 43 #[.slice a0 C.length cap,.agg #[.int .i64 4,.int .i64 p,.int .i64 n,.string s]] w fun e w'=>e=.returned (.int .i64 0)∧Grew w w':=by
 have HNM:=hid fun w' (hg:Grew w w')=>named_any a0 cap C s w' hl (hN.grew hg)
 obtain ⟨j,hj,hjc⟩:∃ j:Nat,nmO s 0 C=j∧C[j]? = some c:=by
  rcases nmO_find (q:=s) C 0 with ⟨h,_⟩ | ⟨d,j,h,h2,h3⟩
  · rw [hf] at h;cases h
  · rw [hf] at h
    obtain rfl:=Option.some.inj h;exact ⟨j,by rw [h2,Nat.zero_add],h3⟩
 rw [hj] at HNM;have e1:(n==0)=false:=by simpa using hn
 clear hN hf hj hjc hn;exact k45_
set_option maxRecDepth 100000 in
set_option maxHeartbeats 800000 in
theorem rwideM_cell (a0:Option Addr) (cap:Nat) (C:List Cl) (w:World) (hl:C.length≤9223372036854775807) (hN:Net w a0 C) (p:Int) (s:ByteArray) (c:Cl) (hf:C.find? (hasN s)=some c) :
  Calls Tryz.prog 43 #[.slice a0 C.length cap,.agg #[.int .i64 4,.int .i64 p,.int .i64 0,.string s]] w fun e w'=>e=.returned (.int .i64 c.gd)∧Grew w w':=by
 have HNM:=hid fun w' (hg:Grew w w')=>named_any a0 cap C s w' hl (hN.grew hg)
 obtain ⟨j,hj,hjc⟩:∃ j:Nat,nmO s 0 C=j∧C[j]? = some c:=by
  rcases nmO_find (q:=s) C 0 with ⟨h,_⟩ | ⟨d,j,h,h2,h3⟩
  · rw [hf] at h;cases h
  · rw [hf] at h
    obtain rfl:=Option.some.inj h;exact ⟨j,by rw [h2,Nat.zero_add],h3⟩
 rw [hj] at HNM;obtain ⟨b,off,rfl,hb,c0,c1,a2,k2,c2,_⟩:=hN.cells hjc;have hjl:=(List.getElem?_eq_some_iff.1 hjc).1;have hb1:=fun m0:Nat=>Nat.lt_add_right m0 (hb)
 have hb2:=fun m0 m1:Nat=>Nat.lt_add_right m1 (hb1 m0)
 have hb3:=fun m0 m1 m2:Nat=>Nat.lt_add_right m2 (hb2 m0 m1)
 clear hN hf hj hjc;exact k45_
theorem rwideM_any (a0:Option Addr) (cap:Nat) (C:List Cl) (w:World) (hl:C.length≤9223372036854775807) (hN:Net w a0 C) (x:It) :
  Calls Tryz.prog 43 #[.slice a0 C.length cap,.agg #[.int .i64 x.kind,.int .i64 x.pos,.int .i64 x.n,.string x.name]] w fun e w'=>e=.returned (.int .i64 (wdE (gdF C) x))∧Grew w w':=by
 obtain ⟨kind,p,n,s⟩:=x;unfold wdE;dsimp only;by_cases h4:kind=4
 · subst h4
   rw [if_pos rfl];cases hf:C.find? (hasN s) with
   | none =>
     rw [show (if n=0 then gdF C s else 0)=0 by unfold gdF;rw [hf];simp];exact rwideM_none4 a0 cap C w hl hN p n s hf
   | some c =>
     by_cases hn:n=0
     · subst hn
       rw [if_pos rfl,show gdF C s=c.gd by unfold gdF;rw [hf]];exact rwideM_cell a0 cap C w hl hN p s c hf
     · rw [if_neg hn]
       exact rwideM_n4 a0 cap C w hl hN p n s c hf hn
 rw [if_neg h4];by_cases h1:kind=1
 · subst h1
   by_cases hl:n<1
   · rw [show wid 1 n s=0 by unfold wid;split <;> first | rfl | rw [if_neg (by omega),if_neg (by omega)]];exact rwideM_phaseL p n s a0 C.length cap w hl
   by_cases hh:7<n
   · rw [show wid 1 n s=0 by unfold wid;split <;> first | rfl | rw [if_neg (by omega),if_neg (by omega)]];exact rwideM_phaseH p n s a0 C.length cap w (by omega) hh
   by_cases hs:s.toList=[]
   · rw [show wid 1 n s=1 by unfold wid;rw [if_pos hs,if_pos (by omega)]];exact rwideM_phase p n s a0 C.length cap w hs (by omega) (by omega)
   · rw [show wid 1 n s=0 by unfold wid;rw [if_neg hs]];exact rwideM_phaseN p n s a0 C.length cap w hs (by omega) (by omega)
 by_cases h2:kind=2
 · subst h2
   by_cases hn:n=0
   case neg=>rw [show wid 2 n s=0 by unfold wid;split <;> first | rfl | rw [if_neg (by omega),if_neg (by omega)]];exact rwideM_twoN2 p n s a0 C.length cap w hn
   subst hn;by_cases hs:s.toList=[]
   · rw [show wid 2 0 s=2 by unfold wid;rw [if_pos hs,if_neg (by omega),if_pos (by omega)]];exact rwideM_two2 p s a0 C.length cap w hs
   · rw [show wid 2 0 s=0 by unfold wid;rw [if_neg hs]];exact rwideM_twoS2 p s a0 C.length cap w hs
 by_cases h3:kind=3
 · subst h3
   by_cases hn:n=0
   case neg=>rw [show wid 3 n s=0 by unfold wid;split <;> first | rfl | rw [if_neg (by omega),if_neg (by omega)]];exact rwideM_twoN3 p n s a0 C.length cap w hn
   subst hn;by_cases hs:s.toList=[]
   · rw [show wid 3 0 s=2 by unfold wid;rw [if_pos hs,if_neg (by omega),if_pos (by omega)]];exact rwideM_two3 p s a0 C.length cap w hs
   · rw [show wid 3 0 s=0 by unfold wid;rw [if_neg hs]];exact rwideM_twoS3 p s a0 C.length cap w hs
 rw [show wid kind n s=0 by unfold wid;split <;> first | rfl | rw [if_neg (by omega),if_neg (by omega)]];exact rwideM_none kind p n s a0 C.length cap w h1 h2 h3 h4
set_option maxHeartbeats 800000 in
theorem placedM_zero (a0:Option Addr) (cap:Nat) (C:List Cl) (w:World) (hl:C.length≤9223372036854775807) (hN:Net w a0 C) (g:Int) (x:It) (W:Int) (_g1:1≤g) (_g2:g≤6) (hW:wdE (gdF C) x=W) (r1:0≤W) (r2:W≤6) (h0:W=0) :
  Calls Tryz.prog 19 #[.slice a0 C.length cap,.int .i64 g,.agg #[.int .i64 x.kind,.int .i64 x.pos,.int .i64 x.n,.string x.name]] w fun e w'=>e=.returned (.bool false)∧Grew w w':=by
 have HV:=hid fun w' (hg:Grew w w')=>rwideM_any a0 cap C w' hl (hN.grew hg) x
 rw [hW] at HV;subst h0;exact k32_
set_option maxHeartbeats 800000 in
theorem placedM_low (a0:Option Addr) (cap:Nat) (C:List Cl) (w:World) (hl:C.length≤9223372036854775807) (hN:Net w a0 C) (g:Int) (x:It) (W:Int) (_g1:1≤g) (_g2:g≤6) (hW:wdE (gdF C) x=W) (_r1:0≤W) (_r2:W≤6) (h0:0<W) (h1:x.pos<1) :
  Calls Tryz.prog 19 #[.slice a0 C.length cap,.int .i64 g,.agg #[.int .i64 x.kind,.int .i64 x.pos,.int .i64 x.n,.string x.name]] w fun e w'=>e=.returned (.bool false)∧Grew w w':=by
 have HV:=hid fun w' (hg:Grew w w')=>rwideM_any a0 cap C w' hl (hN.grew hg) x
 rw [hW] at HV;have f0:decide ((0:Int)<W)=true:=decide_eq_true (by omega);have f1:decide ((1:Int)≤x.pos)=false:=decide_eq_false (by omega);exact k32_
set_option maxHeartbeats 800000 in
theorem placedM_high (a0:Option Addr) (cap:Nat) (C:List Cl) (w:World) (hl:C.length≤9223372036854775807) (hN:Net w a0 C) (g:Int) (x:It) (W:Int) (_g1:1≤g) (_g2:g≤6) (hW:wdE (gdF C) x=W) (_r1:0≤W) (_r2:W≤6) (h0:0<W) (h1:1≤x.pos) (h2:g<x.pos) :
  Calls Tryz.prog 19 #[.slice a0 C.length cap,.int .i64 g,.agg #[.int .i64 x.kind,.int .i64 x.pos,.int .i64 x.n,.string x.name]] w fun e w'=>e=.returned (.bool false)∧Grew w w':=by
 have HV:=hid fun w' (hg:Grew w w')=>rwideM_any a0 cap C w' hl (hN.grew hg) x
 rw [hW] at HV;have f0:decide ((0:Int)<W)=true:=decide_eq_true (by omega);have f1:decide ((1:Int)≤x.pos)=true:=decide_eq_true (by omega);have f2:decide (x.pos≤g)=false:=decide_eq_false (by omega);exact k32_
set_option maxHeartbeats 800000 in
theorem placedM_in (a0:Option Addr) (cap:Nat) (C:List Cl) (w:World) (hl:C.length≤9223372036854775807) (hN:Net w a0 C) (g:Int) (x:It) (W:Int) (g1:1≤g) (g2:g≤6) (hW:wdE (gdF C) x=W) (r1:0≤W) (r2:W≤6) (h0:0<W) (h1:1≤x.pos) (h2:x.pos≤g) :
  Calls Tryz.prog 19 #[.slice a0 C.length cap,.int .i64 g,.agg #[.int .i64 x.kind,.int .i64 x.pos,.int .i64 x.n,.string x.name]] w fun e w'=>e=.returned (.bool (decide (x.pos≤g - W+1)))∧Grew w w':=by
 have HV:=hid fun w' (hg:Grew w w')=>rwideM_any a0 cap C w' hl (hN.grew hg) x
 rw [hW] at HV;have f0:decide ((0:Int)<W)=true:=decide_eq_true (by omega);have f1:decide ((1:Int)≤x.pos)=true:=decide_eq_true (by omega);have f2:decide (x.pos≤g)=true:=decide_eq_true (by omega);exact k32_
theorem placedM_any (a0:Option Addr) (cap:Nat) (C:List Cl) (w:World) (hl:C.length≤9223372036854775807) (hN:Net w a0 C) (hC:Gds C) (g:Int) (x:It) (g1:1≤g) (g2:g≤6) :
  Calls Tryz.prog 19 #[.slice a0 C.length cap,.int .i64 g,.agg #[.int .i64 x.kind,.int .i64 x.pos,.int .i64 x.n,.string x.name]] w fun e w'=>e=.returned (.bool (okE (gdF C) g x))∧Grew w w':=by
 obtain ⟨r1,r2⟩:=wdE_range (gdF_range hC) x;obtain ⟨W,hW⟩:∃ W,wdE (gdF C) x=W:=⟨_,rfl⟩;have hO:okE (gdF C) g x=(decide (W≠0)&&decide (1≤x.pos∧x.pos≤g - W+1)):=by unfold okE;rw [hW]
 rw [hO];rw [hW] at r1 r2;by_cases h0:W=0
 · rw [decide_eq_false (fun h=>h h0),Bool.false_and]
   exact placedM_zero a0 cap C w hl hN g x W g1 g2 hW r1 r2 h0
 rw [decide_eq_true h0,Bool.true_and];by_cases h1:x.pos<1
 · rw [decide_eq_false (by omega)]
   exact placedM_low a0 cap C w hl hN g x W g1 g2 hW r1 r2 (by omega) h1
 by_cases h2:g<x.pos
 · rw [decide_eq_false (by omega)]
   exact placedM_high a0 cap C w hl hN g x W g1 g2 hW r1 r2 (by omega) (by omega) h2
 rw [show decide (1≤x.pos∧x.pos≤g - W+1)=decide (x.pos≤g - W+1) by rw [Bool.decide_and,decide_eq_true (by omega),Bool.true_and]];exact placedM_in a0 cap C w hl hN g x W g1 g2 hW r1 r2 (by omega) (by omega) (by omega)
open Go Go.RowKit Amp Msh
theorem any_worldN {P:Program} {c:Code} {Q:Exit→Act→World→Prop} {a:Act} {W w:World} (g:Grew W w) (h:∀ wL,Grew W wL→c.wp P Q a wL):c.wp P Q a w:=h _ g
set_option maxRecDepth 100000 in
set_option maxHeartbeats 4000000 in
theorem rvnet_main (a0:Option Addr) (cap:Nat) (L:List Cl) (w:World) (hl:L.length≤9223372036854775807) (hN:Net w a0 L) (hk:CsOk L) (hcap:L.length≤cap) (hlen:1≤L.length∧L.length≤20) :
  Calls Tryz.prog 4 #[.slice a0 L.length cap] w fun e w'=>e=.returned (.bool (vfrom [] L))∧Grew w w':=by
 have HN:=hid hN;have HK:=hid hk;obtain ⟨R,hR⟩:∃ R,vfrom [] L=R:=⟨_,rfl⟩;have HR:=hid hR;rw [hR];have hl20:L.length≤20:=hlen.2;have d1:decide ((L.length:Int)<1)=false:=decide_eq_false (by omega);have d2:decide ((20:Int)<L.length)=false:=decide_eq_false (by omega);have hc0:cap≠0:=by omega
 clear hN hk hR hlen hl;go_enter Tryz.func4,Tryz.ntmps4
 go_wp2_with fail
 go_loopw [17] (fun v wr=>∃ i:Nat,i≤L.length∧v=.int .i64 i∧Hid (R=vfrom (L.take i) (L.drop i))∧Hid (Gds (L.take i))∧Grew w wr) (fun v _=>L.length - (intOf v).toNat)
 case atStart=>exact ⟨0,Nat.zero_le _,rfl,HR.out.symm,fun c hc=>absurd hc (by simp),gw0⟩
 case round =>
  obtain ⟨i,hi,rfl,HV,HGD,hg⟩:=hrel;by_cases hlt:i<L.length
  case neg =>
   obtain rfl:i=L.length:=by omega
   exact k49_
  case pos =>
   obtain ⟨c,hc⟩:∃ c,L[i]? = some c:=⟨L[i],List.getElem?_eq_getElem hlt⟩;obtain ⟨b,off,rfl,hb,c0,c1,a2,k2,c2,hits⟩:=(HN.out.grew hg).cells hc;obtain ⟨k3,k4,k5⟩:=HK.out.at hc;have hv:=HV.out;rw [vfrom_step hc] at hv;have hvc:vcell (L.take i) c=(nameB c.name&&(L.take i |>.find? (hasN c.name)).isNone&&decide (1≤c.gd∧c.gd≤6)&&decide (c.items.length≤200)&&okEs (gdF (L.take i)) c.gd c.items):=rfl;have hti:(L.take i).length=i:=by rw [List.length_take];omega
   have HNT:=hid ((HN.out.grew hg).take i);have HNM:=hid fun w'=>isName_any c.name w' k3
   have HNA:=hid fun w' (hg2:Grew wr w')=>named_any (some ⟨b,off,none⟩) cap (L.take i) c.name w' (by omega) (HNT.out.grew hg2)
   have HPL:=hid fun w' (x:It) (hg2:Grew wr w') (g1:1≤c.gd) (g2:c.gd≤6)=>placedM_any (some ⟨b,off,none⟩) cap (L.take i) w' (by omega) (HNT.out.grew hg2) HGD.out c.gd x g1 g2
   rw [hti] at HNA HPL;have hik:(i:Int)≤cap:=by omega
   have hnm2:=nmO_find (q:=c.name) (L.take i) 0;obtain ⟨n5,hn5⟩:∃ n,c.items.length=n:=⟨_,rfl⟩;obtain ⟨q,hq⟩:∃ q,c.name=q:=⟨_,rfl⟩;obtain ⟨gd,hgd⟩:∃ q,c.gd=q:=⟨_,rfl⟩;obtain ⟨NR,hNR⟩:∃ q,nmO c.name 0 (L.take i)=q:=⟨_,rfl⟩;obtain ⟨its,hits0⟩:∃ l,c.items=l:=⟨_,rfl⟩;have hC:=hid (And.intro hc (And.intro hq hgd));rw [hNR] at HNA hnm2;rw [hn5] at c2 hvc;rw [hq] at HNM HNA c0 hvc hnm2;rw [hgd] at HPL c1 hvc;rw [hits0] at hn5 hits hvc;have HIT:=hid hits;have HN5:=hid hn5;have HG:=hid hg;obtain ⟨vc,hvcq⟩:∃ v,vcell (L.take i) c=v:=⟨_,rfl⟩;rw [hvcq] at hv hvc;have hF:vc=false→R=false:=fun h=>by rw [hv,h,Bool.false_and]
   have HFF:=hid hF;have HVV:=hid hv;obtain ⟨Fn,hFn⟩:∃ F,gdF (L.take i)=F:=⟨_,rfl⟩;rw [hFn] at HPL hvc;have HVC:=hid hvc;have hn5b:n5≤9223372036854775807:=by rw [← hn5,← hits0];exact k4
   have HHI:=hid hi;have hb1:=fun m0:Nat=>Nat.lt_add_right m0 (hb)
   have hb2:=fun m0 m1:Nat=>Nat.lt_add_right m1 (hb1 m0)
   have hb3:=fun m0 m1 m2:Nat=>Nat.lt_add_right m2 (hb2 m0 m1)
   clear hc hits hv hF hq hgd hFn HV hvcq hg hvc hNR hits0 hn5 hti k3 k4 k5 HK HNT HR;cases hnm:nameB q with
   | false =>
     rw [hnm] at HNM;have HF:=hid (HFF.out (by rw [HVC.out,hnm];rfl));clear hnm hnm2 HNA HPL HVC;go_wp2_with fail
     refine wp_region_gentle_lit (by kernel_rfl) (by kernel_rfl) ?_;repeat (first | go_big_quiet_skip | (go_big_quiet_want;go_big_quiet_op;first | go_big_quiet_on | (apply Exists.intro;refine ⟨fun qq=>?_, ?_⟩;(focus ((first | (go_at_call 17;refine Calls.gentle_of (HNM.out _) ?_));rintro _ ⟨g',n',rfl⟩;exact ⟨⟨qq.g++g',qq.n+n'⟩,by rw [World.grow_drewN,World.grow_grow,World.drewN_drewN];repeat (first | rw [List.append_assoc] | rw [Nat.add_assoc])⟩));go_big_quiet_on)))
     refine wpQuiet_nil ?_;rintro _ ⟨gg,ng,rfl⟩;exact k25_
   | true =>
     have HNMB:=hid hnm;rw [hnm] at HNM;clear hnm;rcases hnm2 with ⟨hf1,rfl⟩ | ⟨d,j,hf1,rfl,_⟩
     case inr =>
      have HF:=hid (HFF.out (by rw [HVC.out,HNMB.out,hf1];rfl));clear hf1 HPL HVC;exact k20_
     case inl =>
      have HFD:=hid hf1;clear hf1;by_cases hg1:gd<1
      · have HF:=hid (HFF.out (by rw [HVC.out,decide_eq_false (show ¬ (1≤gd∧gd≤6) by omega)];simp))
        have f1:decide (gd<1)=true:=decide_eq_true hg1;clear hg1 HPL HVC;exact k20_
      by_cases hg2:6<gd
      · have HF:=hid (HFF.out (by rw [HVC.out,decide_eq_false (show ¬ (1≤gd∧gd≤6) by omega)];simp))
        have f1:decide (gd<1)=false:=decide_eq_false hg1;have f2:decide ((6:Int)<gd)=true:=decide_eq_true hg2;clear hg1 hg2 HPL HVC;exact k20_
      by_cases h200:200<n5
      · have HF:=hid (HFF.out (by rw [HVC.out,decide_eq_false (show ¬ (n5≤200) by omega)];simp))
        have f1:decide (gd<1)=false:=decide_eq_false hg1;have f2:decide ((6:Int)<gd)=false:=decide_eq_false hg2;have f3:decide ((200:Int)<n5)=true:=decide_eq_true (by omega);clear hg1 hg2 h200 HPL HVC;exact k20_
      have HGG:=hid (show 1≤gd∧gd≤6 by omega);have hn200:n5≤200:=by omega
      have HVC2:=hid (show vc=okEs Fn gd its by rw [HVC.out,HNMB.out,HFD.out,decide_eq_true HGG.out,decide_eq_true hn200];simp);have HPL:=hid fun w' (x:It) (hg2:Grew wr w')=>HPL.out w' x hg2 HGG.out.1 HGG.out.2
      have f1:decide (gd<1)=false:=decide_eq_false hg1;have f2:decide ((6:Int)<gd)=false:=decide_eq_false hg2;have f3:decide ((200:Int)<n5)=false:=decide_eq_false (by omega);obtain ⟨wM,hwM⟩:∃ wM,wM=wr:=⟨_,rfl⟩;subst wr;clear hg1 hg2 h200 HVC;go_wp2_with fail
      refine wp_region_gentle_lit (by kernel_rfl) (by kernel_rfl) ?_;repeat (first | go_big_quiet_skip | (go_big_quiet_want;go_big_quiet_op;first | go_big_quiet_on | (apply Exists.intro;refine ⟨fun qq=>?_, ?_⟩;(focus ((first | (go_at_call 17;refine Calls.gentle_of (HNM.out _) ?_) | (go_at_call 18;refine Calls.gentle_of (HNA.out _ gw0) ?_));rintro _ ⟨g',n',rfl⟩;exact ⟨⟨qq.g++g',qq.n+n'⟩,by rw [World.grow_drewN,World.grow_grow,World.drewN_drewN];repeat (first | rw [List.append_assoc] | rw [Nat.add_assoc])⟩));go_big_quiet_on)))
      refine wpQuiet_nil ?_;rintro _ ⟨gg,ng,rfl⟩;go_wp2_with fail
      refine any_worldN (W:=wM.alloc (.cells #[.string q,.int .i64 gd,.slice a2 n5 k2] 28)) gw0 ?_;intro wL hgL;obtain ⟨b4,hb4⟩:∃ b4,b4=wM.heap.size:=⟨_,rfl⟩;rw [← hb4];have h4:wL.heap[b4]? = some (.cells #[.string q,.int .i64 gd,.slice a2 n5 k2] 28):=by
       rw [hb4];refine (hgL.block _ (by simp)).trans ?_;show (wM.heap.push _)[wM.heap.size]? = _
       simp
      have z4:=(Array.getElem?_eq_some_iff.1 h4).1;have y1:wL.cell? ⟨b4,1,none⟩=some (.int .i64 gd):=by simp [World.cell?,h4]
      have hgM:Grew wM wL:=Grew.trans gw0 hgL;have HITL:=hid (HIT.out.grew hgM);have HGL:=hid (HG.out.trans hgM);have HGM:=hid hgM;have hln:=HN5.out;subst hln;clear hgL hb4 h4 hgM HIT HG HNM HNA c0 c1 c2 hb hb1 hb2 hb3 f1 f2 f3;go_loopw [54] (fun v wr=>∃ j:Nat,j≤its.length∧v=.int .i64 j∧Hid (okEs Fn gd (its.take j)=true)∧Grew wL wr) (fun v _=>its.length - (intOf v).toNat)
      case atStart=>exact ⟨0,Nat.zero_le _,rfl,rfl,gw0⟩
      case round =>
       obtain ⟨j,hj,rfl,HJ,hgj⟩:=hrel;by_cases hltj:j<its.length
       case neg =>
        obtain rfl:j=its.length:=by omega
        have hj2:=HJ.out;rw [List.take_length] at hj2;have HN2:=hid (show R=vfrom (L.take (i+1)) (L.drop (i+1)) by rw [HVV.out,HVC2.out,hj2];rfl);have HGN:=hid (gds_snoc hC.out.1 HGD.out (by rw [hC.out.2.2];exact HGG.out));have HGJ:=hid hgj;clear hj2 hgj HJ;go_wp2_with fail
        go_roundw
        case rel=>exact ⟨i+1,by omega,by go_num,HN2.out,HGN.out,HGL.out.trans (HGJ.out.trans gw0)⟩
        case measure=>simp [intOf];omega
       case pos =>
        obtain ⟨z,hz⟩:∃ z,its[j]? = some z:=⟨its[j],List.getElem?_eq_getElem hltj⟩;obtain ⟨bi,oi,rfl,hbi,e0,e1,e2,e3⟩:=(HITL.out.grew hgj).cells hz;have y1:=(hgj.cell (i:=1) z4).trans y1;have z4:=Nat.lt_of_lt_of_le z4 hgj.size;have HZ:=hid hz;have HGJ:=hid hgj;have hbi1:=fun m0:Nat=>Nat.lt_add_right m0 (hbi)
        have hbi2:=fun m0 m1:Nat=>Nat.lt_add_right m1 (hbi1 m0)
        have hbi3:=fun m0 m1 m2:Nat=>Nat.lt_add_right m2 (hbi2 m0 m1)
        have z41:=fun m0:Nat=>Nat.lt_add_right m0 (z4)
        have z42:=fun m0 m1:Nat=>Nat.lt_add_right m1 (z41 m0)
        have z43:=fun m0 m1 m2:Nat=>Nat.lt_add_right m2 (z42 m0 m1)
        clear hz hgj;have HPZ:=hid fun w' (hg2:Grew wr w')=>HPL.out w' z (HGM.out.trans (HGJ.out.trans hg2))
        cases hok:okE Fn gd z with
        | true =>
          rw [hok] at HPZ;have HOK:=hid (okEs_step HZ.out hok HJ.out);clear hok;go_wp2_with fail
          refine wp_region_gentle_lit (by kernel_rfl) (by kernel_rfl) ?_;repeat (first | go_big_quiet_skip | (go_big_quiet_want;go_big_quiet_op;first | go_big_quiet_on | (apply Exists.intro;refine ⟨fun qq=>?_, ?_⟩;(focus ((first | (go_at_call 19;refine Calls.gentle_of (HPZ.out _ gw0) ?_));rintro _ ⟨g',n',rfl⟩;exact ⟨⟨qq.g++g',qq.n+n'⟩,by rw [World.grow_drewN,World.grow_grow,World.drewN_drewN];repeat (first | rw [List.append_assoc] | rw [Nat.add_assoc])⟩));go_big_quiet_on)))
          refine wpQuiet_nil ?_;rintro _ ⟨gg,ng,rfl⟩;go_wp2_with fail
          go_roundw
          case rel=>exact ⟨j+1,by omega,by go_num,HOK.out,HGJ.out.trans gw0⟩
          case measure=>simp [intOf];omega
        | false =>
          rw [hok] at HPZ;have HF:=hid (HFF.out (by rw [HVC2.out];exact okEs_cut HZ.out hok));clear hok;go_wp2_with fail
          refine wp_region_gentle_lit (by kernel_rfl) (by kernel_rfl) ?_;repeat (first | go_big_quiet_skip | (go_big_quiet_want;go_big_quiet_op;first | go_big_quiet_on | (apply Exists.intro;refine ⟨fun qq=>?_, ?_⟩;(focus ((first | (go_at_call 19;refine Calls.gentle_of (HPZ.out _ gw0) ?_));rintro _ ⟨g',n',rfl⟩;exact ⟨⟨qq.g++g',qq.n+n'⟩,by rw [World.grow_drewN,World.grow_grow,World.drewN_drewN];repeat (first | rw [List.append_assoc] | rw [Nat.add_assoc])⟩));go_big_quiet_on)))
          refine wpQuiet_nil ?_;rintro _ ⟨gg,ng,rfl⟩;go_wp2_with fail
          go_ret;exact ⟨by rw [HF.out];rfl,HGL.out.trans (HGJ.out.trans gw0)⟩
theorem rvnet_any (a0:Option Addr) (cap:Nat) (L:List Cl) (w:World) (hl:L.length≤9223372036854775807) (hN:Net w a0 L) (hk:CsOk L) (hcap:L.length≤cap) :
  Calls Tryz.prog 4 #[.slice a0 L.length cap] w fun e w'=>e=.returned (.bool (vnet L))∧Grew w w':=by
 by_cases hlen:1≤L.length∧L.length≤20
 · rw [show vnet L=vfrom [] L by unfold vnet;rw [decide_eq_true hlen,Bool.true_and]]
   exact rvnet_main a0 cap L w hl hN hk hcap hlen
 · rw [show vnet L=false by unfold vnet;rw [decide_eq_false hlen,Bool.false_and]]
   by_cases h1:L.length<1
   · have d1:decide ((L.length:Int)<1)=true:=decide_eq_true (by omega)
     clear hN hk hlen h1;go_enter Tryz.func4,Tryz.ntmps4
     go_wp2_with fail
     go_ret;exact ⟨rfl,gw0⟩
   · have d1:decide ((L.length:Int)<1)=false:=decide_eq_false (by omega)
     have d2:decide ((20:Int)<L.length)=true:=decide_eq_true (by omega);clear hN hk hlen h1;go_enter Tryz.func4,Tryz.ntmps4
     go_wp2_with fail
     go_ret;exact ⟨rfl,gw0⟩
open Go Go.RowKit Msh
theorem nmO_snoc {s:ByteArray} {c:Cl}:∀ (C:List Cl) (o:Nat),C.find? (hasN c.name)=none→nmO s o (C++[c])=if s=c.name then ((o+C.length:Nat):Int) else nmO s o C
 | [], o, _ => by
   show (if hasN s c=true then (o:Int) else -1)=if s=c.name then ((o+0:Nat):Int) else -1
   unfold hasN;by_cases h:s=c.name
   · rw [if_pos h,decide_eq_true h.symm,if_pos rfl,Nat.add_zero]
   · rw [if_neg h,decide_eq_false (fun e=>h e.symm),if_neg Bool.false_ne_true]
 | d :: C, o, hf => by
   rw [List.find?_cons] at hf;have hdc:¬ d.name=c.name:=fun e=>by rw [show hasN c.name d=true by unfold hasN;exact decide_eq_true e] at hf;cases hf
   rw [show hasN c.name d=false by unfold hasN;exact decide_eq_false hdc] at hf;show (if hasN s d=true then (o:Int) else nmO s (o+1) (C++[c]))=if s=c.name then ((o+(C.length+1):Nat):Int) else (if hasN s d=true then (o:Int) else nmO s (o+1) C)
   rw [nmO_snoc C (o+1) hf];by_cases hs:s=c.name
   · rw [if_pos hs,if_pos hs,show hasN s d=false by unfold hasN;exact decide_eq_false (fun e=>hdc (e.trans hs)),if_neg Bool.false_ne_true]
     congr 1
     omega
   · rw [if_neg hs,if_neg hs]
def jx (L:List Cl) (x:It):Nat:=(nmO x.name 0 L).toNat
theorem nmO_find_app {q:ByteArray}:∀ (A B:List Cl) (o:Nat) (c:Cl),A.find? (hasN q)=some c→nmO q o (A++B)=nmO q o A
 | [],B,o,c,h=>by simp at h
 | d :: t, B, o, c, h => by
   rw [List.find?_cons] at h;show (if hasN q d=true then (o:Int) else nmO q (o+1) (t++B))=if hasN q d=true then (o:Int) else nmO q (o+1) t
   by_cases hd:hasN q d=true
   · rw [if_pos hd,if_pos hd]
   · rw [if_neg hd,if_neg hd]
     rw [show hasN q d=false by simpa using hd] at h;exact nmO_find_app t B (o+1) c h
theorem cell_ix {L:List Cl} (hv:vnet L=true) {i:Nat} {c:Cl} (hc:L[i]? = some c) {x:It} (hx:x∈c.items) (h4:x.kind=4):jx L x<i∧nmO x.name 0 L=jx L x∧jx L x<L.length:=by
 obtain ⟨_,_,_,_,h5⟩:=vcell_iff.1 ((vnet_all hv).2 i c hc);have hi:=(List.getElem?_eq_some_iff.1 hc).1;unfold okEs at h5;rw [List.all_eq_true] at h5;have h6:=h5 x hx;unfold okE wdE at h6;rw [if_pos h4] at h6;have hne:(L.take i).find? (hasN x.name)≠none:=fun hn=>by
  have hg:gdF (L.take i) x.name=0:=by unfold gdF;rw [hn]
  rw [hg] at h6;simp at h6
 cases hf:(L.take i).find? (hasN x.name) with
 | none=>exact absurd hf hne
 | some d =>
   have h7:=nmO_find_app (L.take i) (L.drop i) 0 d hf;rw [List.take_append_drop] at h7;rcases nmO_find (q:=x.name) (L.take i) 0 with ⟨h8,_⟩ | ⟨e,j,_,h9,h10⟩
   · exact absurd h8 hne
   · have hj:=(List.getElem?_eq_some_iff.1 h10).1
     rw [List.length_take] at hj;have hJ:jx L x=j:=by unfold jx;rw [h7,h9];omega
     refine ⟨by omega,by rw [hJ,h7,h9];omega,by omega⟩
def nOf (L:List Cl) (S:List Int) (x:It):Int:=if x.kind=4 then S.getD (jx L x) 0 else 1
def addP (L:List Cl) (S:List Int) (s:Int) (x:It):Int:=min (s+nOf L S x) 5001
def szP (L:List Cl) (S:List Int):List Cl→List Int
 | []=>S
 | c::t=>szP L (S++[c.items.foldl (addP L S) 0]) t
def addR (L:List Cl) (S:List Int) (s:Int) (x:It):Int:=s+nOf L S x
def szR (L:List Cl) (S:List Int):List Cl→List Int
 | []=>S
 | c::t=>szR L (S++[min (c.items.foldl (addR L S) 0) 1099511627776]) t
def cut (s:Int):Int:=min s 5001
theorem fold_cut {L:List Cl} {S T:List Int} (h:∀ x:It,0≤nOf L T x∧nOf L S x=cut (nOf L T x)):∀ (l:List It) (s t:Int),s=cut t→0≤t→l.foldl (addP L S) s=cut (l.foldl (addR L T) t)∧0≤l.foldl (addR L T) t
 | [],s,t,h1,h2=>⟨h1,h2⟩
 | x :: l, s, t, h1, h2 => by
   obtain ⟨h3,h4⟩:=h x;refine fold_cut h l _ _ ?_ ?_
   · show min (s+nOf L S x) 5001=cut (t+nOf L T x)
     rw [h1,h4];unfold cut;omega
   · show 0≤t+nOf L T x
     omega
theorem nOf_cut {L:List Cl} {S T:List Int} (h:S=T.map cut) (h0:∀ t∈T,0≤t) (x:It):0≤nOf L T x∧nOf L S x=cut (nOf L T x):=by
 unfold nOf;by_cases h4:x.kind=4
 · rw [if_pos h4,if_pos h4,h,List.getD_eq_getElem?_getD,List.getD_eq_getElem?_getD,List.getElem?_map]
   cases ht:T[jx L x]? with
   | none=>exact ⟨by simp,by show (0:Int)=min 0 5001;omega⟩
   | some t=>exact ⟨by simpa using h0 t (List.mem_of_getElem? ht),rfl⟩
 · rw [if_neg h4,if_neg h4]
   exact ⟨by omega,rfl⟩
theorem sz_cut {L:List Cl}:∀ (t:List Cl) (S T:List Int),S=T.map cut→(∀ s∈T,0≤s)→szP L S t=(szR L T t).map cut∧∀ s∈szR L T t,0≤s
 | [],S,T,h,h0=>⟨h,h0⟩
 | c :: t, S, T, h, h0 => by
   obtain ⟨h1,h2⟩:=fold_cut (L:=L) (nOf_cut h h0) c.items 0 0 rfl (Int.le_refl 0);refine sz_cut t _ _ ?_ ?_
   · rw [List.map_append,h1,h]
     congr 1
     show [cut _]=[cut (min _ 1099511627776)]
     congr 1
     unfold cut;omega
   · intro s hs
     rcases List.mem_append.1 hs with hs | hs
     · exact h0 s hs
     · rw [List.mem_singleton] at hs
       subst hs;omega
theorem szP_length (L:List Cl):∀ (t:List Cl) (S:List Int),(szP L S t).length=S.length+t.length
 | [],S=>rfl
 | c :: t, S => by
   show (szP L (S++[_]) t).length=_
   rw [szP_length L t,List.length_append,List.length_cons];simp;omega
theorem szP_step {L:List Cl} {i:Nat} {c:Cl} (h:L[i]? = some c) (S:List Int):szP L S (L.drop i)=szP L (S++[c.items.foldl (addP L S) 0]) (L.drop (i+1)):=by
 obtain ⟨hlt,rfl⟩:=List.getElem?_eq_some_iff.1 h;rw [List.drop_eq_getElem_cons hlt];rfl
def flI (p:Nat→Bool) (L:List Cl) (rec:Nat→Int→List It) (by_:Int) (x:It):List It :=
 if x.kind=4 then (if p (jx L x)=true then rec (jx L x) (wrap64 (wrap64 (x.pos+by_) - 1)) else []) else [⟨x.kind,wrap64 (x.pos+by_),x.n,x.name⟩]
def fl (p:Nat→Bool) (L:List Cl):Nat→Nat→Int→List It
 | 0,_,_=>[]
 | f+1,i,b=>match L[i]? with | none=>[] | some c=>c.items.flatMap (flI p L (fl p L f) b)
def flatN (L:List Cl):List It × Int:=if vnet L=true then (if (szP L [] L).getLast?.getD 0 > 5000 then ([],4) else (fl (fun j=>decide (0<(szP L [] L).getD j 0)) L L.length (L.length - 1) 0,0)) else ([],30)
open Go Go.RowKit Msh
theorem szP_pre (L:List Cl):∀ (t:List Cl) (S:List Int),(szP L S t).take S.length=S
 | [],S=>List.take_length
 | c :: t, S => by
   have h:=szP_pre L t (S++[c.items.foldl (addP L S) 0]);show (szP L (S++[c.items.foldl (addP L S) 0]) t).take S.length=S
   have h2:=congrArg (List.take S.length) h;rw [List.take_take,List.length_append,Nat.min_eq_left (by simp)] at h2;rw [h2];simp
theorem szP_at {L:List Cl}:∀ i,i≤L.length→szP L [] L=szP L ((szP L [] L).take i) (L.drop i)∧((szP L [] L).take i).length=i
 | 0,_=>by simp
 | i + 1, hi => by
   obtain ⟨h1,h2⟩:=szP_at (L:=L) i (by omega);obtain ⟨c,hc⟩:∃ c,L[i]? = some c:=⟨L[i],List.getElem?_eq_getElem hi⟩;rw [szP_step hc] at h1;have h3:=szP_pre L (L.drop (i+1)) ((szP L [] L).take i++[c.items.foldl (addP L ((szP L [] L).take i)) 0]);rw [← h1,List.length_append,h2] at h3;have h4:(szP L [] L).take (i+1)=(szP L [] L).take i++[c.items.foldl (addP L ((szP L [] L).take i)) 0]:=h3;refine ⟨by rw [h4];exact h1,by rw [h4,List.length_append,h2];rfl⟩
theorem szP_get {L:List Cl} {i:Nat} {c:Cl} (hc:L[i]? = some c):(szP L [] L)[i]? = some (c.items.foldl (addP L ((szP L [] L).take i)) 0):=by
 have hi:=(List.getElem?_eq_some_iff.1 hc).1;obtain ⟨h1,h2⟩:=szP_at (L:=L) i (by omega);rw [szP_step hc] at h1;have h3:=szP_pre L (L.drop (i+1)) ((szP L [] L).take i++[c.items.foldl (addP L ((szP L [] L).take i)) 0]);rw [← h1,List.length_append,h2] at h3;have h4:(szP L [] L).take (i+1)=(szP L [] L).take i++[c.items.foldl (addP L ((szP L [] L).take i)) 0]:=h3;have h5:((szP L [] L).take (i+1))[i]? = (szP L [] L)[i]? := by rw [List.getElem?_take,if_pos (by omega)]
 rw [← h5,h4,List.getElem?_append_right (by omega),h2,Nat.sub_self];rfl
theorem foldl_mem {α β:Type} {f g:α→β→α}:∀ (l:List β) (s:α),(∀ s,∀ x∈l,f s x=g s x)→l.foldl f s=l.foldl g s
 | [],_,_=>rfl
 | x :: l, s, h => by
   show l.foldl f (f s x)=l.foldl g (g s x)
   rw [h s x List.mem_cons_self];exact foldl_mem l _ fun s y hy=>h s y (List.mem_cons_of_mem _ hy)
theorem szP_val {L:List Cl} (hv:vnet L=true) {i:Nat} {c:Cl} (hc:L[i]? = some c):(szP L [] L)[i]? = some (c.items.foldl (addP L (szP L [] L)) 0):=by
 rw [szP_get hc]
 congr 1
 refine foldl_mem _ _ fun s x hx=>?_
 unfold addP nOf;by_cases h4:x.kind=4
 · rw [if_pos h4,if_pos h4]
   have hj:=(cell_ix hv hc hx h4).1;rw [List.getD_eq_getElem?_getD,List.getD_eq_getElem?_getD,List.getElem?_take,if_pos hj]
 · rw [if_neg h4,if_neg h4]
theorem addP_ge {L:List Cl} {S:List Int} (h0:∀ x:It,0≤nOf L S x):∀ (l:List It) (s:Int),s≤5001→s≤l.foldl (addP L S) s
 | [],s,_=>Int.le_refl s
 | x :: l, s, hs => by
   have h1:=h0 x;have h2:=addP_ge h0 l (addP L S s x) (by unfold addP;omega);show s≤l.foldl (addP L S) (addP L S s x)
   have h3:s≤addP L S s x:=by unfold addP;omega
   omega
theorem flat_len {L:List Cl} {S:List Int} {g:It→List It} (h0:∀ x:It,0≤nOf L S x):∀ (l:List It) (s:Int),(∀ x∈l,nOf L S x≤5000→((g x).length:Int)≤nOf L S x)→0≤s→l.foldl (addP L S) s≤5000→s+(l.flatMap g).length≤l.foldl (addP L S) s
 | [],s,_,_,_=>by simp
 | x :: l, s, hg, hs, h => by
   have h1:=h0 x;have h':l.foldl (addP L S) (addP L S s x)≤5000:=h;show s+((x::l).flatMap g).length≤l.foldl (addP L S) (addP L S s x)
   have h2:=addP_ge h0 l (addP L S s x) (by unfold addP;omega);have h3:addP L S s x=s+nOf L S x:=by
    have:addP L S s x≤5000:=by omega
    unfold addP at *
    omega
   have h4:=flat_len h0 l (addP L S s x) (fun y hy=>hg y (List.mem_cons_of_mem _ hy)) (by omega) h';have h5:=hg x List.mem_cons_self (by omega);rw [List.flatMap_cons,List.length_append];omega
theorem szP_pos {L:List Cl}:∀ t∈szP L [] L,0≤t:=by
 obtain ⟨h1,h2⟩:=sz_cut (L:=L) L [] [] rfl (fun s hs=>absurd hs List.not_mem_nil);intro t ht;rw [h1] at ht;obtain ⟨u,hu,rfl⟩:=List.mem_map.1 ht;have:=h2 u hu;unfold cut;omega
theorem nOf_pos {L:List Cl} (x:It):0≤nOf L (szP L [] L) x:=by
 unfold nOf;by_cases h4:x.kind=4
 · rw [if_pos h4,List.getD_eq_getElem?_getD]
   cases hj:(szP L [] L)[jx L x]? with
   | none=>simp
   | some t=>simpa using szP_pos t (List.mem_of_getElem? hj)
 · rw [if_neg h4];omega
theorem fl_len {L:List Cl} (hv:vnet L=true) (p:Nat→Bool):∀ (f i:Nat) (b v:Int),(szP L [] L)[i]? = some v→v≤5000→((fl p L f i b).length:Int)≤v
 | 0, i, b, v, h, hv5 => by
   show ((0:Nat):Int)≤v
   have:=szP_pos v (List.mem_of_getElem? h);omega
 | f + 1, i, b, v, h, hv5 => by
   have h0:=szP_pos v (List.mem_of_getElem? h);cases hc:L[i]? with
   | none =>
     have e:fl p L (f+1) i b=[]:=by show (match L[i]? with | none=>[] | some c=>c.items.flatMap (flI p L (fl p L f) b))=[];rw [hc]
     rw [e]
     simpa using h0
   | some c =>
     have e:fl p L (f+1) i b=c.items.flatMap (flI p L (fl p L f) b):=by show (match L[i]? with | none=>[] | some c=>c.items.flatMap (flI p L (fl p L f) b))=_;rw [hc]
     rw [e];rw [szP_val hv hc] at h;obtain rfl:=Option.some.inj h;have:=flat_len (L:=L) (S:=szP L [] L) (g:=flI p L (fl p L f) b) nOf_pos c.items 0 (fun x hx hn=>?_) (Int.le_refl 0) hv5
     · omega
     · unfold flI nOf at *
       by_cases h4:x.kind=4
       · rw [if_pos h4] at hn ⊢
         rw [if_pos h4];split
         · have hj:=(cell_ix hv hc hx h4).2.2
           obtain ⟨u,hu⟩:∃ u,(szP L [] L)[jx L x]? = some u:=by
            have hl:=szP_length L L [];exact ⟨(szP L [] L)[jx L x]'(by rw [hl];simpa using hj),List.getElem?_eq_getElem _⟩
           rw [List.getD_eq_getElem?_getD,hu] at hn ⊢;exact fl_len hv p f _ _ u hu hn
         · rw [List.getD_eq_getElem?_getD]
           cases hj:(szP L [] L)[jx L x]? with
           | none=>simp
           | some t=>simpa using szP_pos t (List.mem_of_getElem? hj)
       · rw [if_neg h4,if_neg h4]
         simp
open Go Go.RowKit Msh
def usrP (L:List Cl) (i:Nat) (S:List Int) (x:It):List Int:=if x.kind=4 then S.set (jx L x) (min (S.getD (jx L x) 0+S.getD i 0) 1000000000001) else S
def usrR (L:List Cl) (i:Nat) (S:List Int) (x:It):List Int:=if x.kind=4 then S.set (jx L x) (S.getD (jx L x) 0+S.getD i 0) else S
def itsAt (L:List Cl) (i:Nat):List It:=match L[i]? with | none=>[] | some c=>c.items
theorem itsAt_some {L:List Cl} {i:Nat} {c:Cl} (h:L[i]? = some c):itsAt L i=c.items:=by unfold itsAt;rw [h]
def usP (L:List Cl):Nat→List Int→List Int
 | 0,S=>S
 | i+1,S=>usP L i ((itsAt L i).foldl (usrP L i) S)
def usR (L:List Cl):Nat→List Int→Option (List Int)
 | 0,S=>some S
 | i+1,S=>if 1000000000000<S.getD i 0 then none else usR L i ((itsAt L i).foldl (usrR L i) S)
def us0 (n:Nat):List Int:=(List.replicate n 0).set (n - 1) 1
def mxL (S:List Int):Int:=S.foldl max (S.getD 0 0)
def usesN (L:List Cl):List Int × Int:=if vnet L=true then (if 1000000000000<mxL (usP L L.length (us0 L.length)) then ([],4) else (usP L L.length (us0 L.length),0)) else ([],30)
def cutU (s:Int):Int:=min s 1000000000001
theorem getD_set (S:List Int) (j:Nat) (v:Int) (k:Nat):(S.set j v).getD k 0=if j=k∧k<S.length then v else S.getD k 0:=by
 rw [List.getD_eq_getElem?_getD,List.getD_eq_getElem?_getD,List.getElem?_set];by_cases h:j=k
 · subst h
   rw [if_pos rfl];by_cases h2:j<S.length
   · rw [if_pos h2,if_pos ⟨rfl,h2⟩];rfl
   · rw [if_neg h2,if_neg (fun h=>h2 h.2),List.getElem?_eq_none (by omega)]
 · rw [if_neg h,if_neg (fun h2=>h h2.1)]
theorem usrP_length (L:List Cl) (i:Nat) (S:List Int) (x:It):(usrP L i S x).length=S.length:=by unfold usrP;split <;> simp
theorem usrR_length (L:List Cl) (i:Nat) (S:List Int) (x:It):(usrR L i S x).length=S.length:=by unfold usrR;split <;> simp
theorem foldP_length (L:List Cl) (i:Nat):∀ (l:List It) (S:List Int),(l.foldl (usrP L i) S).length=S.length
 | [],_=>rfl
 | x::l,S=>(foldP_length L i l _).trans (usrP_length L i S x)
theorem foldR_length (L:List Cl) (i:Nat):∀ (l:List It) (S:List Int),(l.foldl (usrR L i) S).length=S.length
 | [],_=>rfl
 | x::l,S=>(foldR_length L i l _).trans (usrR_length L i S x)
theorem foldP_kept {L:List Cl} {i:Nat}:∀ (l:List It) (S:List Int),(∀ x∈l,x.kind=4→jx L x<i)→∀ j,i≤j→(l.foldl (usrP L i) S).getD j 0=S.getD j 0
 | [],_,_,_,_=>rfl
 | x :: l, S, h, j, hj => by
   show (l.foldl (usrP L i) (usrP L i S x)).getD j 0=_
   rw [foldP_kept l _ (fun y hy=>h y (List.mem_cons_of_mem _ hy)) j hj];unfold usrP;by_cases h4:x.kind=4
   · have:=h x List.mem_cons_self h4
     rw [if_pos h4,getD_set,if_neg (by omega)]
   · rw [if_neg h4]
theorem foldR_kept {L:List Cl} {i:Nat}:∀ (l:List It) (S:List Int),(∀ x∈l,x.kind=4→jx L x<i)→∀ j,i≤j→(l.foldl (usrR L i) S).getD j 0=S.getD j 0
 | [],_,_,_,_=>rfl
 | x :: l, S, h, j, hj => by
   show (l.foldl (usrR L i) (usrR L i S x)).getD j 0=_
   rw [foldR_kept l _ (fun y hy=>h y (List.mem_cons_of_mem _ hy)) j hj];unfold usrR;by_cases h4:x.kind=4
   · have:=h x List.mem_cons_self h4
     rw [if_pos h4,getD_set,if_neg (by omega)]
   · rw [if_neg h4]
theorem itsAt_ix {L:List Cl} (hv:vnet L=true) {i:Nat}:∀ x∈itsAt L i,x.kind=4→jx L x<i:=by
 intro x hx h4;cases hc:L[i]? with
 | none=>unfold itsAt at hx;rw [hc] at hx;exact absurd hx List.not_mem_nil
 | some c=>rw [itsAt_some hc] at hx;exact (cell_ix hv hc hx h4).1
theorem usP_kept {L:List Cl} (hv:vnet L=true):∀ (k:Nat) (S:List Int) (j:Nat),k≤j+1→(usP L k S).getD j 0=S.getD j 0
 | 0,_,_,_=>rfl
 | k + 1, S, j, hj => by
   show (usP L k _).getD j 0=_
   rw [usP_kept hv k _ j (by omega),foldP_kept _ S (itsAt_ix hv) j (by omega)]
theorem map_cutU {S T:List Int} (h:S=T.map cutU) (j:Nat):S.getD j 0=cutU (T.getD j 0):=by
 rw [h,List.getD_eq_getElem?_getD,List.getD_eq_getElem?_getD,List.getElem?_map];cases T[j]? <;> rfl
theorem map_set_cutU (T:List Int) (j:Nat) (v:Int):(T.map cutU).set j (cutU v)=(T.set j v).map cutU:=(List.map_set).symm
theorem fold_cutU {L:List Cl} {i:Nat}:∀ (l:List It) (S T:List Int),(∀ x∈l,x.kind=4→jx L x<i)→S=T.map cutU→(∀ t∈T,0≤t)→T.getD i 0≤1000000000000 →
  l.foldl (usrP L i) S=(l.foldl (usrR L i) T).map cutU∧∀ t∈l.foldl (usrR L i) T,0≤t
 | [],S,T,_,h,h0,_=>⟨h,h0⟩
 | x :: l, S, T, hx, h, h0, hi => by
   have hp:∀ j,0≤T.getD j 0:=fun j=>by
    rw [List.getD_eq_getElem?_getD];cases hj:T[j]? with
    | none=>simp
    | some t=>simpa using h0 t (List.mem_of_getElem? hj)
   refine fold_cutU l _ _ (fun y hy=>hx y (List.mem_cons_of_mem _ hy)) ?_ ?_ ?_
   · unfold usrP usrR
     by_cases h4:x.kind=4
     · rw [if_pos h4,if_pos h4,map_cutU h,map_cutU h,← map_set_cutU,← h]
       congr 1
       have h1:=hp (jx L x);have h2:=hp i;generalize T.getD (jx L x) 0=a at *
       generalize T.getD i 0=b at *
       unfold cutU;omega
     · rw [if_neg h4,if_neg h4,h]
   · intro t ht
     unfold usrR at ht;split at ht
     · rcases List.mem_or_eq_of_mem_set ht with ht | rfl
       · exact h0 t ht
       · have h1:=hp (jx L x)
         have h2:=hp i;omega
     · exact h0 t ht
   · unfold usrR
     by_cases h4:x.kind=4
     · have:=hx x List.mem_cons_self h4
       rw [if_pos h4,getD_set,if_neg (by omega)];exact hi
     · rw [if_neg h4]
       exact hi
theorem us_same {L:List Cl} (hv:vnet L=true):∀ (k:Nat) (S T:List Int),S=T.map cutU→(∀ t∈T,0≤t)→(∀ j,k≤j→T.getD j 0≤1000000000000) →
  match usR L k T with
  | some U=>usP L k S=U∧∀ j,U.getD j 0≤1000000000000
  | none=>∃ j,1000000000000<(usP L k S).getD j 0
 | 0, S, T, h, h0, hk => by
   show S=T∧∀ j,T.getD j 0≤1000000000000
   refine ⟨?_,fun j=>hk j (Nat.zero_le _)⟩;rw [h];refine List.ext_getElem? fun j=>?_
   rw [List.getElem?_map];cases hj:T[j]? with
   | none=>rfl
   | some t =>
     have h1:=hk j (Nat.zero_le _);rw [List.getD_eq_getElem?_getD,hj] at h1;have h2:t≤1000000000000:=h1;show some (cutU t)=some t
     congr 1
     unfold cutU;omega
 | i + 1, S, T, h, h0, hk => by
   by_cases hb:1000000000000<T.getD i 0
   · have e:usR L (i+1) T=none:=by unfold usR;rw [if_pos hb]
     rw [e];refine ⟨i, ?_⟩;rw [usP_kept hv (i+1) S i (Nat.le_refl _),map_cutU h];unfold cutU;omega
   · have e:usR L (i+1) T=usR L i ((itsAt L i).foldl (usrR L i) T):=by conv=>lhs;unfold usR;rw [if_neg hb]
     rw [e];obtain ⟨h1,h2⟩:=fold_cutU (itsAt L i) S T (itsAt_ix hv) h h0 (by omega);refine us_same hv i _ _ h1 h2 fun j hj=>?_
     rw [foldR_kept _ T (itsAt_ix hv) j hj];by_cases hji:j=i
     · subst hji;omega
     · exact hk j (by omega)
theorem mx_ge:∀ (S:List Int) (m:Int),m≤S.foldl max m∧∀ s∈S,s≤S.foldl max m
 | [],m=>⟨Int.le_refl m,fun _ h=>absurd h List.not_mem_nil⟩
 | x :: S, m => by
   obtain ⟨h1,h2⟩:=mx_ge S (max m x);refine ⟨by show m≤S.foldl max (max m x);omega,fun s hs=>?_⟩;show s≤S.foldl max (max m x)
   rcases List.mem_cons.1 hs with rfl | hs
   · omega
   · exact h2 s hs
theorem mx_le:∀ (S:List Int) (m b:Int),m≤b→(∀ s∈S,s≤b)→S.foldl max m≤b
 | [],_,_,h,_=>h
 | x::S,m,b,h,hs=>mx_le S (max m x) b (by have:=hs x List.mem_cons_self;omega) fun s h=>hs s (List.mem_cons_of_mem _ h)
theorem getD_le {S:List Int} {b:Int} (h0:0≤b):(∀ j,S.getD j 0≤b)↔∀ s∈S,s≤b:=by
 refine ⟨fun h s hs=>?_,fun h j=>?_⟩
 · obtain ⟨j,hj⟩:=List.getElem?_of_mem hs
   have:=h j;rw [List.getD_eq_getElem?_getD,hj] at this;exact this
 · rw [List.getD_eq_getElem?_getD]
   cases hj:S[j]? with
   | none=>exact h0
   | some s=>exact h s (List.mem_of_getElem? hj)
theorem us0_map (n:Nat):us0 n=(us0 n).map cutU:=by
 unfold us0;have h:=map_set_cutU (List.replicate n 0) (n - 1) 1;rw [List.map_replicate] at h;exact h
theorem usesN_ref {L:List Cl} (hv:vnet L=true):usesN L=match usR L L.length (us0 L.length) with | some U=>(U,0) | none=>([],4):=by
 have h0:∀ t∈us0 L.length,(0:Int)≤t∧t≤1:=by
  intro t ht;unfold us0 at ht;rcases List.mem_or_eq_of_mem_set ht with ht | rfl
  · rw [(List.mem_replicate.1 ht).2];decide
  · decide
 have h:=us_same hv L.length (us0 L.length) (us0 L.length) (us0_map _) (fun t ht=>(h0 t ht).1) (fun j _=>(getD_le (by decide)).2 (fun s hs=>by have:=(h0 s hs).2;omega) j);unfold usesN;rw [if_pos hv];cases hu:usR L L.length (us0 L.length) with
 | some U =>
   rw [hu] at h;obtain ⟨h1,h2⟩:=h;rw [h1];have h3:mxL U≤1000000000000:=mx_le U _ _ (h2 0) ((getD_le (by decide)).1 h2);rw [if_neg (by omega)]
 | none =>
   rw [hu] at h;obtain ⟨j,hj⟩:=h;rw [if_pos];rw [List.getD_eq_getElem?_getD] at hj;cases hs:(usP L L.length (us0 L.length))[j]? with
   | none=>rw [hs] at hj;exact absurd hj (by decide)
   | some s =>
     rw [hs] at hj;have h4:1000000000000<s:=hj;have h5:=(mx_ge (usP L L.length (us0 L.length)) ((usP L L.length (us0 L.length)).getD 0 0)).2 s (List.mem_of_getElem? hs);unfold mxL;omega
end Go.Proofs.YtchdmecjhaanfaaGreatDoor
