/- Layer 9, in main's ghost: States and Answer, of the program and of the reference. Condition: the bools lie in memory. -/
import Derived.Test.YtnceajabigdleaaDoorPtQ1
namespace Go.Proofs.Qm
open Go Go.Pt Go.RowKit
theorem Tab.grew {w w':World} {n N C:Nat} (h:Tab w n N C) (hg:Grew w w'):Tab w' n N C:=by
 refine ⟨Nat.lt_of_lt_of_le h.lt hg.size,fun k hk=>?_⟩;obtain ⟨g,cap,h1,h2,h3⟩:=h.row k hk;exact ⟨g,cap,Nat.lt_of_lt_of_le h1 hg.size,(hg.cell h.lt _).trans h2,fun j z hj hz=>(hg.cell h1 _).trans (h3 j z hj hz)⟩
theorem tables_any (n:Int) (N m:Nat) (hn:(n=2∧N=2∧m=2)∨(n=4∧N=64∧m=4)) (w:World) :
  Calls prog 34 #[.int .i64 n] w fun e w'=>∃ C:Nat,e=.returned (.slice (some ⟨C,0,none⟩) N N)∧Tab w' m N C∧Grew w w':=by
 rcases hn with ⟨rfl,rfl,rfl⟩ | ⟨rfl,rfl,rfl⟩
 · refine (tables2_calls _ undef undef undef undef undef undef undef (List.replicate 14 undef) rfl w).mono ?_
   rintro e w' ⟨v,rfl,rfl,hT⟩;exact ⟨_,rfl,Tab.of hT LT_len2,hT.grew⟩
 · refine (tables4_calls _ undef undef undef undef undef undef undef (List.replicate 14 undef) rfl w).mono ?_
   rintro e w' ⟨v,rfl,rfl,hT⟩;exact ⟨_,rfl,Tab.of hT LT_len4,hT.grew⟩
set_option maxHeartbeats 1600000 in
theorem Answer_yes (n:Int) (N m s i b off cap:Nat) (l:List Bool) (w:World) (hn:(n=2∧N=2∧m=2∧l.length=1)∨(n=4∧N=64∧m=4∧l.length=6)) (hs:s<N) (hi:i<m) (hb:b<w.heap.size) (hc:BlsAt w b off l) :
  Calls prog 29 #[.int .i64 n,.int .i64 s,.slice (some ⟨b,off,none⟩) l.length cap,.int .i64 i] w fun e w'=>e=.returned (.tuple #[.int .i64 (refA n (thB s l) i:Nat),.int .i64 0])∧Grew w w':=by
 have HK:=hid fun w=>known_any n s w
 have HB:=hid fun w=>btw_any 0 i (n - 1) w
 have HC:=hid fun w=>pcount_any n w
 have HT:=hid fun w=>tables_any n N m (by rcases hn with ⟨a,b,c,_⟩ | ⟨a,b,c,_⟩;exact .inl ⟨a,b,c⟩;exact .inr ⟨a,b,c⟩) w
 have HA:=hid fun w' (hg:Grew w w') C (hT:Tab w' m N C)=>answer_any (n:=m) (N:=N) (C:=C) s i b off cap l (refA n (thB s l) i:Nat) w' (Nat.lt_of_lt_of_le hb hg.size) (by omega) (hc.grew hb hg) hT (by rcases hn with ⟨_,h2,_,h4⟩ | ⟨_,h2,_,h4⟩ <;> rw [h4,h2]) hs hi (by omega)
  (by rcases hn with ⟨h1,_,h3,_⟩ | ⟨h1,_,h3,_⟩ <;> (subst h1;subst h3;first | exact table2 s l i hi | exact table4 s l i hi))
 rw [show stB n s=true by rcases hn with ⟨rfl,rfl,_⟩ | ⟨rfl,rfl,_⟩ <;> simp [stB] <;> omega] at HK;rw [show (decide ((0:Int)≤(i:Int))&&decide ((i:Int)≤n - 1))=true by rcases hn with ⟨rfl,_,rfl,_⟩ | ⟨rfl,_,rfl,_⟩ <;> simp <;> omega] at HB;rw [show cntZ n=l.length by rcases hn with ⟨rfl,_,_,h⟩ | ⟨rfl,_,_,h⟩ <;> rw [h] <;> rfl] at HC;have hn2:n=2∨n=4:=hn.imp (fun h=>h.1) (fun h=>h.1);have hl6:l.length≤6:=by omega
 obtain ⟨r,hr⟩:∃ r,refA n (thB s l) i=r:=⟨_,rfl⟩;rw [hr] at HA ⊢;clear hr hc hn;obtain ⟨L,hL⟩:∃ L,l.length=L:=⟨_,rfl⟩;rw [hL] at HC HA hl6 ⊢;clear hL;have e1:IntKind.i64.wrap (n - 1)=n - 1:=by rcases hn2 with rfl | rfl <;> decide
 clear hn2;go_enter func29,ntmps29
 go_wp2_with fail
 refine (HK.out _).mono ?_;rintro e w' ⟨rfl,rfl⟩;go_wp2_with fail
 refine (HC.out _).mono ?_;rintro e w' ⟨rfl,rfl⟩;go_wp2_with fail
 refine (HB.out _).mono ?_;rintro e w' ⟨rfl,rfl⟩;go_wp2_with fail
 refine (HT.out _).mono ?_;rintro e W ⟨C,rfl,hT,hg⟩;have HA2:=hid (HA.out _ hg C hT);have HG:=hid hg;clear hT hg;go_wp2_with fail
 refine HA2.out.mono ?_;rintro e w' ⟨rfl,rfl⟩;go_wp2_with fail
 exact bodyPost_ret (v:=.tuple #[.int .i64 (r:Nat),.int .i64 0]) (by simp [results,go_sem]) rfl ⟨rfl,HG.out⟩
open Go Go.Pt Go.RowKit
theorem wrapN {n:Int} (h:n=2∨n=4):IntKind.i64.wrap (n - 1)=n - 1:=by rcases h with rfl | rfl <;> decide
end Go.Proofs.Qm
