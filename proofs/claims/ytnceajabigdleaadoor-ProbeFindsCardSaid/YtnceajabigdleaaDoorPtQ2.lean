/- Layer 9, in main's ghost: States and Answer, of the program and of the reference. Condition: the bools lie in memory. -/
import Derived.Test.YtnceajabigdleaaDoorPtQ1
namespace Go.Proofs.Qm
open Go Go.Pt Go.RowKit
theorem Tab.grew {w w':World} {n N C:Nat} (h:Tab w n N C) (hg:Grew w w'):Tab w' n N C:=by
 refine ⟨Nat.lt_of_lt_of_le h.lt hg.size,fun k hk=>?_⟩;obtain ⟨g,cap,h1,h2,h3⟩:=h.row k hk;exact ⟨g,cap,Nat.lt_of_lt_of_le h1 hg.size,(hg.cell h.lt _).trans h2,fun j z hj hz=>(hg.cell h1 _).trans (h3 j z hj hz)⟩
theorem tables_any (n:Int) (N m:Nat) (hn:(n=2∧N=2∧m=2)∨(n=4∧N=64∧m=4)) (w:World) :
  Calls prog 34 #[.int .i64 n] w fun e w'=>∃ C:Nat,e=.returned (.slice (some ⟨C,0,none⟩) N N)∧Tab w' m N C∧Grew w w':=by
 rcases hn with ⟨rfl,rfl,rfl⟩ | ⟨rfl,rfl,rfl⟩
 · refine (tables2_calls _ undef undef undef undef undef undef undef (List.replicate 14 undef) rfl w).mono ?_
   rintro e w' ⟨v,rfl,rfl,hT⟩;exact ⟨_,rfl,Tab.of hT LT_len2,hT.grew⟩
 · refine (tables4_calls _ undef undef undef undef undef undef undef (List.replicate 14 undef) rfl w).mono ?_
   rintro e w' ⟨v,rfl,rfl,hT⟩;exact ⟨_,rfl,Tab.of hT LT_len4,hT.grew⟩
open Go Go.Pt Go.RowKit
theorem wrapN {n:Int} (h:n=2∨n=4):IntKind.i64.wrap (n - 1)=n - 1:=by rcases h with rfl | rfl <;> decide
end Go.Proofs.Qm
