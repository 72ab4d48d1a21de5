/- Layer 9, in main's ghost: States and Answer, of the program and of the reference. Condition: the bools lie in memory. -/
import Derived.Test.YtnceajabigdleaaDoorPtQ1
namespace Go.Proofs.Qm
open Go Go.Pt Go.RowKit
def stZ (n:Int):Int × Int:=if n=2 then (2,0) else if n=4 then (64,0) else (0,2)
theorem States_any (n:Int) (w:World):Calls prog 22 #[.int .i64 n] w fun e w'=>e=.returned (.tuple #[.int .i64 (stZ n).1,.int .i64 (stZ n).2])∧Grew w w':=by
 by_cases h2:n=2
 · subst h2
   go_enter func22,ntmps22
   go_wp2_with fail
   refine (pcount2 _).mono ?_;rintro e w' ⟨rfl,rfl⟩;go_wp2_with fail
   exact bodyPost_ret (v:=.tuple #[.int .i64 2,.int .i64 0]) (by simp [results,go_sem]) rfl ⟨rfl,Grew.refl _⟩
 by_cases h4:n=4
 · subst h4
   go_enter func22,ntmps22
   go_wp2_with fail
   refine (pcount4 _).mono ?_;rintro e w' ⟨rfl,rfl⟩;go_wp2_with fail
   exact bodyPost_ret (v:=.tuple #[.int .i64 64,.int .i64 0]) (by simp [results,go_sem]) rfl ⟨rfl,Grew.refl _⟩
 have HC:=pcount_any n w;rw [cntZ_no h2 h4] at HC;have e:stZ n=(0,2):=by simp [stZ,h2,h4]
 rw [e];clear e;go_enter func22,ntmps22
 go_wp2_with fail
 refine HC.mono ?_;rintro e w' ⟨rfl,rfl⟩;go_wp2_with fail
 exact bodyPost_ret (v:=.tuple #[.int .i64 0,.int .i64 2]) (by simp [results,go_sem]) rfl ⟨rfl,Grew.refl _⟩
theorem rStates_any (n:Int) (w:World):Calls prog 54 #[.int .i64 n] w fun e w'=>e=.returned (.tuple #[.int .i64 (stZ n).1,.int .i64 (stZ n).2])∧Grew w w':=by
 have HS:=fun w=>rsw_any n w
 by_cases h2:n=2
 · subst h2
   rw [show swZ 2=1 from rfl] at HS;have HK:=rknown_any 2 w;simp only [decide_true,Bool.true_or] at HK;go_enter func54,ntmps54
   go_wp2_with fail
   refine HK.mono ?_;rintro e w' ⟨rfl,rfl⟩;go_wp2_with fail
   refine (HS _).mono ?_;rintro e w' ⟨rfl,rfl⟩;go_wp2_with fail
   exact bodyPost_ret (v:=.tuple #[.int .i64 2,.int .i64 0]) (by simp [results,go_sem]) rfl ⟨rfl,Grew.refl _⟩
 by_cases h4:n=4
 · subst h4
   rw [show swZ 4=6 from rfl] at HS;have HK:=rknown_any 4 w;simp only [decide_true,Bool.or_true] at HK;go_enter func54,ntmps54
   go_wp2_with fail
   refine HK.mono ?_;rintro e w' ⟨rfl,rfl⟩;go_wp2_with fail
   refine (HS _).mono ?_;rintro e w' ⟨rfl,rfl⟩;go_wp2_with fail
   exact bodyPost_ret (v:=.tuple #[.int .i64 64,.int .i64 0]) (by simp [results,go_sem]) rfl ⟨rfl,Grew.refl _⟩
 have HK:=rknown_any n w;rw [show (decide (n=2)||decide (n=4))=false by simp [h2,h4]] at HK;have e:stZ n=(0,2):=by simp [stZ,h2,h4]
 rw [e];clear e HS;go_enter func54,ntmps54
 go_wp2_with fail
 refine HK.mono ?_;rintro e w' ⟨rfl,rfl⟩;go_wp2_with fail
 exact bodyPost_ret (v:=.tuple #[.int .i64 0,.int .i64 2]) (by simp [results,go_sem]) rfl ⟨rfl,Grew.refl _⟩
theorem Tab.grew {w w':World} {n N C:Nat} (h:Tab w n N C) (hg:Grew w w'):Tab w' n N C:=by
 refine ⟨Nat.lt_of_lt_of_le h.lt hg.size,fun k hk=>?_⟩;obtain ⟨g,cap,h1,h2,h3⟩:=h.row k hk;exact ⟨g,cap,Nat.lt_of_lt_of_le h1 hg.size,(hg.cell h.lt _).trans h2,fun j z hj hz=>(hg.cell h1 _).trans (h3 j z hj hz)⟩
theorem tables_any (n:Int) (N m:Nat) (hn:(n=2∧N=2∧m=2)∨(n=4∧N=64∧m=4)) (w:World) :
  Calls prog 34 #[.int .i64 n] w fun e w'=>∃ C:Nat,e=.returned (.slice (some ⟨C,0,none⟩) N N)∧Tab w' m N C∧Grew w w':=by
 rcases hn with ⟨rfl,rfl,rfl⟩ | ⟨rfl,rfl,rfl⟩
 · refine (tables2_calls _ undef undef undef undef undef undef undef (List.replicate 14 undef) rfl w).mono ?_
   rintro e w' ⟨v,rfl,rfl,hT⟩;exact ⟨_,rfl,Tab.of hT LT_len2,hT.grew⟩
 · refine (tables4_calls _ undef undef undef undef undef undef undef (List.replicate 14 undef) rfl w).mono ?_
   rintro e w' ⟨v,rfl,rfl,hT⟩;exact ⟨_,rfl,Tab.of hT LT_len4,hT.grew⟩
def ansB (n s:Int) (len:Nat) (i:Int):Bool:=stB n s&&fitB n len i
theorem ansB_iff {n s:Int} {len:Nat} {i:Int}:ansB n s len i=true↔(n=2∧0≤s∧s≤1∧len=1∧0≤i∧i≤1)∨(n=4∧0≤s∧s≤63∧len=6∧0≤i∧i≤3):=by
 simp only [ansB,stB,fitB,Bool.and_eq_true,Bool.or_eq_true,decide_eq_true_eq];constructor
 · rintro ⟨⟨rfl,h1,h2⟩ | ⟨rfl,h1,h2⟩,h3,h4,h5⟩
   · exact .inl ⟨rfl,h1,h2,h3,h4,by omega⟩
   · exact .inr ⟨rfl,h1,h2,h3,h4,by omega⟩
 · rintro (⟨rfl,h1,h2,h3,h4,h5⟩ | ⟨rfl,h1,h2,h3,h4,h5⟩)
   · exact ⟨.inl ⟨rfl,h1,h2⟩,h3,h4,by omega⟩
   · exact ⟨.inr ⟨rfl,h1,h2⟩,h3,h4,by omega⟩
set_option maxHeartbeats 1600000 in
theorem Answer_yes (n:Int) (N m s i b off cap:Nat) (l:List Bool) (w:World) (hn:(n=2∧N=2∧m=2∧l.length=1)∨(n=4∧N=64∧m=4∧l.length=6)) (hs:s<N) (hi:i<m) (hb:b<w.heap.size) (hc:BlsAt w b off l) :
  Calls prog 29 #[.int .i64 n,.int .i64 s,.slice (some ⟨b,off,none⟩) l.length cap,.int .i64 i] w fun e w'=>e=.returned (.tuple #[.int .i64 (refA n (thB s l) i:Nat),.int .i64 0])∧Grew w w':=by
 have HK:=hid fun w=>known_any n s w
 have HB:=hid fun w=>btw_any 0 i (n - 1) w
 have HC:=hid fun w=>pcount_any n w
 have HT:=hid fun w=>tables_any n N m (by rcases hn with ⟨a,b,c,_⟩ | ⟨a,b,c,_⟩;exact .inl ⟨a,b,c⟩;exact .inr ⟨a,b,c⟩) w
 have HA:=hid fun w' (hg:Grew w w') C (hT:Tab w' m N C)=>answer_any (n:=m) (N:=N) (C:=C) s i b off cap l (refA n (thB s l) i:Nat) w' (Nat.lt_of_lt_of_le hb hg.size) (by omega) (hc.grew hb hg) hT (by rcases hn with ⟨_,h2,_,h4⟩ | ⟨_,h2,_,h4⟩ <;> rw [h4,h2]) hs hi (by omega)
  (by rcases hn with ⟨h1,_,h3,_⟩ | ⟨h1,_,h3,_⟩ <;> (subst h1;subst h3;first | exact table2 s l i hi | exact table4 s l i hi))
 rw [show stB n s=true by rcases hn with ⟨rfl,rfl,_⟩ | ⟨rfl,rfl,_⟩ <;> simp [stB] <;> omega] at HK;rw [show (decide ((0:Int)≤(i:Int))&&decide ((i:Int)≤n - 1))=true by rcases hn with ⟨rfl,_,rfl,_⟩ | ⟨rfl,_,rfl,_⟩ <;> simp <;> omega] at HB;rw [show cntZ n=l.length by rcases hn with ⟨rfl,_,_,h⟩ | ⟨rfl,_,_,h⟩ <;> rw [h] <;> rfl] at HC;have hn2:n=2∨n=4:=hn.imp (fun h=>h.1) (fun h=>h.1);have hl6:l.length≤6:=by omega
 obtain ⟨r,hr⟩:∃ r,refA n (thB s l) i=r:=⟨_,rfl⟩;rw [hr] at HA ⊢;clear hr hc hn;obtain ⟨L,hL⟩:∃ L,l.length=L:=⟨_,rfl⟩;rw [hL] at HC HA hl6 ⊢;clear hL;have e1:IntKind.i64.wrap (n - 1)=n - 1:=by rcases hn2 with rfl | rfl <;> decide
 clear hn2;go_enter func29,ntmps29
 go_wp2_with fail
 refine (HK.out _).mono ?_;rintro e w' ⟨rfl,rfl⟩;go_wp2_with fail
 refine (HC.out _).mono ?_;rintro e w' ⟨rfl,rfl⟩;go_wp2_with fail
 refine (HB.out _).mono ?_;rintro e w' ⟨rfl,rfl⟩;go_wp2_with fail
 refine (HT.out _).mono ?_;rintro e W ⟨C,rfl,hT,hg⟩;have HA2:=hid (HA.out _ hg C hT);have HG:=hid hg;clear hT hg;go_wp2_with fail
 refine HA2.out.mono ?_;rintro e w' ⟨rfl,rfl⟩;go_wp2_with fail
 exact bodyPost_ret (v:=.tuple #[.int .i64 (r:Nat),.int .i64 0]) (by simp [results,go_sem]) rfl ⟨rfl,HG.out⟩
open Go Go.Pt Go.RowKit
theorem wrapN {n:Int} (h:n=2∨n=4):IntKind.i64.wrap (n - 1)=n - 1:=by rcases h with rfl | rfl <;> decide
set_option maxHeartbeats 1600000 in
theorem rAnswer_no (n s:Int) (a:Option Addr) (len cap:Nat) (i:Int) (w:World) (hl:len≤9223372036854775807) (h:ansB n s len i=false) :
  Calls prog 55 #[.int .i64 n,.int .i64 s,.slice a len cap,.int .i64 i] w fun e w'=>e=.returned (.tuple #[.int .i64 0,.int .i64 2])∧Grew w w':=by
 have HK:=hid fun w=>rknown_any n w
 by_cases hn:n=2∨n=4
 case neg =>
  rw [show (decide (n=2)||decide (n=4))=false by rw [not_or] at hn;simp [hn.1,hn.2]] at HK;clear h hn;go_enter func55,ntmps55
  go_wp2_with fail
  refine (HK.out _).mono ?_;rintro e w' ⟨rfl,rfl⟩;go_wp2_with fail
  exact bodyPost_ret (v:=.tuple #[.int .i64 0,.int .i64 2]) (by simp [results,go_sem]) rfl ⟨rfl,Grew.refl _⟩
 rw [show (decide (n=2)||decide (n=4))=true by rcases hn with rfl | rfl <;> simp] at HK;have HS:=hid fun w=>rstate_any n s w hn
 have HF:=hid fun w=>rfits_any n a len cap i w hn hl
 clear hn;by_cases h1:stB n s=true
 case neg =>
  rw [show stB n s=false by simpa using h1] at HS;clear h h1 HF;go_enter func55,ntmps55
  go_wp2_with fail
  refine (HK.out _).mono ?_;rintro e w' ⟨rfl,rfl⟩;go_wp2_with fail
  refine (HS.out _).mono ?_;rintro e w' ⟨rfl,rfl⟩;go_wp2_with fail
  exact bodyPost_ret (v:=.tuple #[.int .i64 0,.int .i64 2]) (by simp [results,go_sem]) rfl ⟨rfl,Grew.refl _⟩
 rw [h1] at HS;rw [show fitB n len i=false by simpa [ansB,h1] using h] at HF;clear h h1;go_enter func55,ntmps55
 go_wp2_with fail
 refine (HK.out _).mono ?_;rintro e w' ⟨rfl,rfl⟩;go_wp2_with fail
 refine (HS.out _).mono ?_;rintro e w' ⟨rfl,rfl⟩;go_wp2_with fail
 refine (HF.out _).mono ?_;rintro e w' ⟨rfl,rfl⟩;go_wp2_with fail
 exact bodyPost_ret (v:=.tuple #[.int .i64 0,.int .i64 2]) (by simp [results,go_sem]) rfl ⟨rfl,Grew.refl _⟩
set_option maxHeartbeats 1600000 in
theorem rAnswer_yes (n:Int) (N m s i b off cap:Nat) (l:List Bool) (w:World) (hn:(n=2∧N=2∧m=2∧l.length=1)∨(n=4∧N=64∧m=4∧l.length=6)) (hs:s<N) (hi:i<m) (hb:b<w.heap.size) (hc:BlsAt w b off l) :
  Calls prog 55 #[.int .i64 n,.int .i64 s,.slice (some ⟨b,off,none⟩) l.length cap,.int .i64 i] w fun e w'=>e=.returned (.tuple #[.int .i64 (refA n (thB s l) i:Nat),.int .i64 0])∧Grew w w':=by
 have hn2:n=2∨n=4:=hn.imp (fun h=>h.1) (fun h=>h.1);have HK:=hid fun w=>rknown_any n w
 have HS:=hid fun w=>rstate_any n s w hn2
 have HF:=hid fun w=>rfits_any n (some ⟨b,off,none⟩) l.length cap i w hn2 (by omega)
 have HA:=hid fun w' (hg:Grew w w')=>show Calls prog 60 #[.int .i64 n,.int .i64 s,.slice (some ⟨b,off,none⟩) l.length cap,.int .i64 i] w' fun e w''=>e=.returned (.int .i64 (refA n (thB s l) i:Nat))∧Grew w' w'' by
  rcases hn with ⟨rfl,rfl,rfl,h4⟩ | ⟨rfl,rfl,rfl,h4⟩
  · exact ranswer2_any s i b off cap l w' (by omega) h4 hi (Nat.lt_of_lt_of_le hb hg.size) (hc.grew hb hg)
  · exact ranswer4_any s i b off cap l w' (by omega) h4 hi (Nat.lt_of_lt_of_le hb hg.size) (hc.grew hb hg)
 rw [show (decide (n=2)||decide (n=4))=true by rcases hn2 with rfl | rfl <;> simp] at HK;rw [show stB n s=true by rcases hn with ⟨rfl,rfl,_⟩ | ⟨rfl,rfl,_⟩ <;> simp [stB] <;> omega] at HS;rw [show fitB n l.length i=true by rcases hn with ⟨rfl,_,rfl,h4⟩ | ⟨rfl,_,rfl,h4⟩ <;> simp [fitB,h4,cntZ] <;> omega] at HF;have hl6:l.length≤6:=by omega
 obtain ⟨r,hr⟩:∃ r,refA n (thB s l) i=r:=⟨_,rfl⟩;rw [hr] at HA ⊢;clear hr hc hn hn2;obtain ⟨L,hL⟩:∃ L,l.length=L:=⟨_,rfl⟩;rw [hL] at HF HA hl6 ⊢;clear hL;go_enter func55,ntmps55
 go_wp2_with fail
 refine (HK.out _).mono ?_;rintro e w' ⟨rfl,rfl⟩;go_wp2_with fail
 refine (HS.out _).mono ?_;rintro e w' ⟨rfl,rfl⟩;go_wp2_with fail
 refine (HF.out _).mono ?_;rintro e w' ⟨rfl,rfl⟩;go_wp2_with fail
 refine (HA.out _ gw0).mono ?_;rintro e w' ⟨rfl,g,k,rfl⟩;go_wp2_with fail
 exact bodyPost_ret (v:=.tuple #[.int .i64 (r:Nat),.int .i64 0]) (by simp [results,go_sem]) rfl ⟨rfl,gw0⟩
end Go.Proofs.Qm
