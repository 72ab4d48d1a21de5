/- The law ProbeTries, in main's ghost. Condition: the states and the tests lie in memory. -/
import Derived.Test.YtnceajabigdleaaDoorPtQ983
import Derived.Test.YtnceajabigdleaaDoorPtQ5
namespace Go.Proofs.Qm
open Go Go.Pt Go.RowKit Prb
set_option maxRecDepth 100000 in
set_option maxHeartbeats 3200000 in
theorem probeTries_walk (n:Int) (sa:Option Addr) (scap:Nat) (sl:List Int) (a:Option Addr) (cap:Nat) (l:List Tq) (w:World) (hsc:sl.length≤scap) (hsl:sl.length≤9223372036854775807) (hl:l.length≤9223372036854775807) (hs:NsA w sa sl) (hc:TqAt w a l) (hD:DebAt w) :
  Calls prog 5 #[.int .i64 n,.slice sa sl.length scap,.slice a l.length cap] w fun e w'=>e=.returned (.bool true)∧Below w.heap.size w w':=by
 obtain ⟨bx,bi,br,hB1,hB2⟩:=Best_both n sa scap sl a cap l w hsl hl hs hc hD;obtain ⟨ps,r,hps,hT1,hT2⟩:=Twins_both n sa scap sl a cap l w hsc hsl hl hs hc hD;have HM:=hid fun w' (hg:Grew w w')=>many_any a cap l w' hl (hc.grew hg)
 have HW:=hid fun w=>awake_any w
 have HB1:=hid fun w' (hg:Grew w w')=>(hB1 w' hg.below).mono fun e w'' (h:BesP bx bi br w' e w'')=>(show e=.returned (.tuple #[.int .i64 bx,.int .i64 bi,.int .i64 br])∧Below w.heap.size w w'' from ⟨h.1,hg.below.trans (h.2.mono hg.size)⟩)
 have HB2:=hid fun w' (hg:Below w.heap.size w w')=>(hB2 w' hg).mono fun e w'' (h:BesP bx bi br w' e w'')=>(show e=.returned (.tuple #[.int .i64 bx,.int .i64 bi,.int .i64 br])∧Below w.heap.size w w'' from ⟨h.1,hg.trans (h.2.mono hg.size)⟩)
 have HT1:=hid fun w' (hg:Below w.heap.size w w')=>(hT1 w' hg).mono fun e w'' (h:TwnP ps r w' e w'')=>(show ∃ (a:Option Addr) (k:Nat),e=.returned (.tuple #[.slice a ps.length k,.int .i64 r])∧PsA w'' a ps∧Below w.heap.size w w'' from by obtain ⟨a,k,h1,h2,h3⟩:=h;exact ⟨a,k,h1,h2,hg.trans (h3.mono hg.size)⟩)
 have HT2:=hid fun w' (hg:Below w.heap.size w w')=>(hT2 w' hg).mono fun e w'' (h:TwnP ps r w' e w'')=>(show ∃ (a:Option Addr) (k:Nat),e=.returned (.tuple #[.slice a ps.length k,.int .i64 r])∧PsA w'' a ps∧Below w'.heap.size w' w''∧Below w.heap.size w w'' from by obtain ⟨a,k,h1,h2,h3⟩:=h;exact ⟨a,k,h1,h2,h3,hg.trans (h3.mono hg.size)⟩)
 have HSM:=hid fun a b ka kb w' (h1:PsA w' a ps) (h2:PsA w' b ps)=>smp_any a b ka kb ps w' (by omega) h1 h2
 clear hB1 hB2 hT1 hT2 hs hc hD;by_cases h100:100<sl.length
 · have h1:decide ((100:Int)<(sl.length:Int))=true:=decide_eq_true (by omega)
   go_enter func5,ntmps5
   go_wp2_with fail
   refine (HW.out _).mono ?_;rintro e w' ⟨rfl,g1,n1,rfl⟩;go_wp2_with fail
   exact bodyPost_ret (v:=.bool true) (by simp [results,go_sem]) rfl ⟨rfl,Grew.below gw0⟩
 have h1:decide ((100:Int)<(sl.length:Int))=false:=decide_eq_false (by omega);cases hm:manyB l with
 | true =>
   rw [hm] at HM;go_enter func5,ntmps5
   go_wp2_with fail
   refine (HM.out _ gw0).mono ?_;rintro e w' ⟨rfl,g1,n1,rfl⟩;go_wp2_with fail
   refine (HW.out _).mono ?_;rintro e w' ⟨rfl,g2,n2,rfl⟩;go_wp2_with fail
   exact bodyPost_ret (v:=.bool true) (by simp [results,go_sem]) rfl ⟨rfl,Grew.below gw0⟩
 | false =>
 rw [hm] at HM;clear hm;have e1:(bx != bx)=false:=by simp
 have e2:(bi != bi)=false:=by simp
 have e3:(br != br)=false:=by simp
 have e4:(r==r)=true:=by simp
 go_enter func5,ntmps5
 go_wp2_with fail
 refine (HM.out _ gw0).mono ?_;rintro e w' ⟨rfl,g1,n1,rfl⟩;go_wp2_with fail
 refine (HB1.out _ gw0).mono ?_;rintro e w1 ⟨rfl,hL1⟩;have HL1:=hid hL1;clear hL1;go_wp2_with fail
 refine (HB2.out _ HL1.out).mono ?_;rintro e w2 ⟨rfl,hL2⟩;have HL2:=hid hL2;clear hL2 HL1;go_wp2_with fail
 refine (HT1.out _ HL2.out).mono ?_;rintro e w3 ⟨a3,k3,rfl,hp3,hL3⟩;have HL3:=hid hL3;have HP3:=hid hp3;clear hL3 hp3 HL2;go_wp2_with fail
 refine (HT2.out _ HL3.out).mono ?_;rintro e w4 ⟨a4,k4,rfl,hp4,hB4,hL4⟩;have HL4:=hid hL4;have HP4:=hid hp4;have HP5:=hid (HP3.out.below hB4);clear hL4 hp4 hB4 HL3 HP3;go_wp2_with fail
 refine (HSM.out _ _ _ _ _ HP5.out HP4.out).mono ?_;rintro e w' ⟨rfl,g2,n2,rfl⟩;go_wp2_with fail
 refine (HW.out _).mono ?_;rintro e w' ⟨rfl,g3,n3,rfl⟩;go_wp2_with fail
 exact bodyPost_ret (v:=.bool true) (by simp [results,go_sem]) rfl ⟨rfl,below_grew HL4.out gw0 HL4.out.size⟩
end Go.Proofs.Qm
