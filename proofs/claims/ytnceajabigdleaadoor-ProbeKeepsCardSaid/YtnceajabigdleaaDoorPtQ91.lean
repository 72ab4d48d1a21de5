/- What the laid table gives; a start that fits; what lies in the ghost's start. No condition. -/
import Derived.Test.YtnceajabigdleaaDoorPtQ6
import Derived.Test.YtnceajabigdleaaDoorPtQ9
import Derived.Test.YtnceajabigdleaaDoorPtS4
import Derived.Test.YtnceajabigdleaaDoorPtS19
import Derived.Lib.LaidTab
import Derived.LaidMore
import Derived.LaidLaws
import Derived.ProofKit
namespace Go.Proofs.YtnceajabigdleaaDoor
open Go Go.RowKit Go.Pt Prb
theorem prOwn:ownKnob Tryd.prog.godebug=none:=by kernel_rfl
theorem prLaidOut:laidOutB Tryd.prog=true:=by kernel_rfl
theorem prGlobals:Qm.prog.globals.size=1:=by kernel_rfl
theorem deb_laid {W:World} (h:laidMet Tryd.prog [("math/bits.deBruijn64tab",Rows.laid_math_bits_deBruijn64tab)] W):Qm.DebAt W:=by
 rw [show (Rows.laid_math_bits_deBruijn64tab:DataW Unit)=Lib.tabData .u8 (debN.map Int.ofNat) by kernel_rfl] at h;have ht:=Lib.tabIs_of_head (k:=.u8) (zs:=debN.map Int.ofNat) (g:=0) (t:=138) (e:=5) (n:=64) (by kernel_rfl) (by kernel_rfl) Tryd.underlying138 Tryd.underlying5 (by kernel_rfl) (by kernel_rfl) h;have hc:∀ (i z:Nat),debN[i]? = some z→W.cell? ⟨0,i,none⟩=some (.int .u8 z):=fun i z hz=>by
  have hi:i<debN.length:=(List.getElem?_eq_some_iff.1 hz).1;have:=ht.cell (g:=0) (by kernel_rfl) i (by simpa using hi);rw [show (⟨0,i,none⟩:Addr)=_ from rfl];refine Eq.trans this ?_;simp [List.getElem?_map,hz]
 refine ⟨?_,hc⟩;have h0:=hc 0 0 rfl
 simpa using World.block_lt_of_cell? W _ h0
theorem deb_cells {W:World} (h:Qm.DebAt W):∀ g,g=0→∃ cs e fz,W.heap[g]? = some (.cells cs e fz):=by
 rintro g rfl;have h0:=h.2 0 0 rfl;simp only [World.cell?] at h0;split at h0
 · rename_i cs e fz hh
   exact ⟨cs,e,fz,hh⟩
 · cases h0
theorem deb_ghostW {G:Nat→Prop} {W:World} (h:Qm.DebAt W) (τ:Nat→Question→Nat):Qm.DebAt ((ghostW Qm.prog G W).retape τ):=by
 refine ⟨?_,fun i z hz=>?_⟩
 · show 0<(ghostW Qm.prog G W).heap.size
   rw [ghostW_size];exact Nat.succ_pos _
 · show (ghostW Qm.prog G W).cell? _=_
   exact ghostW_cell (h.2 i z hz) (.int .u8 z)
theorem turn_ghostW {G:Nat→Prop} {W:World} {a:Option Addr} {len:Nat} {l:List Bool} (h:Qm.TurnAt W a len l) (τ:Nat→Question→Nat):Qm.TurnAt ((ghostW Qm.prog G W).retape τ) a len l:=by
 refine ⟨h.1,h.2.imp id ?_⟩;rintro ⟨b,off,rfl,hb,hc⟩;refine ⟨b,off,rfl, ?_,fun i x hx=>?_⟩
 · show b<(ghostW Qm.prog G W).heap.size
   rw [ghostW_size];exact Nat.lt_succ_of_lt hb
 · show (ghostW Qm.prog G W).cell? _=_
   exact ghostW_cell (hc i x hx) (.bool x)
theorem slice_relW {G:Nat→Prop} {W:World} {a:Option Addr} (h:Qm.OnCells W a) (len cap:Nat):VRel (cellsInj Qm.prog G W) (.slice a len cap) (.slice a len cap):=by
 cases a with
 | none=>exact .slice0 len cap
 | some x =>
   obtain ⟨b,o,s⟩:=x;exact .slice o s len cap ⟨rfl,h _ rfl⟩
def TqCells (W:World) (l:List Qm.Tq):Prop:=∀ z∈l,Qm.OnCells W z.t.a∨((∃ x,z.t.a=some x)∧z.t.len=0∧z.t.cap=0)
theorem pr_met (os:Os) (args:Array Value):laidMet Tryd.prog [("math/bits.deBruijn64tab",Rows.laid_math_bits_deBruijn64tab)] ((World.doorLaid Tryd.prog 14 os).forCall (fun _ _=>0) ⟨#[],args,[]⟩).memory :=
 laidMet_of_run' 8 (by kernel_rfl) (by kernel_rfl)
open Go Go.RowKit Go.Pt Prb
theorem aq_ghost {G:Nat→Prop} {W:World} {a:Option Addr} {l:List Qm.Tq} (h:Qm.AqAt W a l) (hc:TqCells W l) (τ:Nat→Question→Nat):∃ l':List Qm.Tq,l'.length=l.length∧Qm.AqAt ((ghostW Qm.prog G W).retape τ) a l':=by
 have each:∀ i (z:Qm.Tq),l[i]? = some z→∃ z':Qm.Tq,∃ b off:Nat,a=some ⟨b,off,none⟩∧b<(ghostW Qm.prog G W).heap.size∧((ghostW Qm.prog G W).cell? ⟨b,off+i*2,none⟩=some (.slice z'.t.a z'.t.len z'.t.cap)∧(ghostW Qm.prog G W).cell? ⟨b,off+i*2+1,none⟩=some (.int .i64 z'.t.i))∧z'.t.len≤9223372036854775807∧Qm.TurnAt ((ghostW Qm.prog G W).retape τ) z'.t.a z'.t.len z'.b:=fun i z hz=>by
  obtain ⟨b,off,rfl,hb,⟨c0,c1⟩,hl,ht⟩:=h i z hz;have g1:=ghostW_cell (Q:=Qm.prog) (G:=G) c1 (.int .i64 z.t.i);have hb':b<(ghostW Qm.prog G W).heap.size:=by rw [ghostW_size];exact Nat.lt_succ_of_lt hb
  rcases hc z (List.mem_of_getElem? hz) with ho | ⟨⟨x,hx⟩,h1,h2⟩
  · exact ⟨z,b,off,rfl,hb',⟨ghostW_cell c0 (slice_relW ho _ _),g1⟩,hl,turn_ghostW ht τ⟩
  · rw [hx,h1,h2] at c0
    obtain ⟨y,hy⟩:=ghostW_bare (Q:=Qm.prog) (G:=G) c0;refine ⟨⟨⟨some y,0,0,z.t.i,z.t.o⟩,[]⟩,b,off,rfl,hb',⟨hy,g1⟩,Nat.zero_le _,rfl,.inl rfl⟩
 have build:∀ n,n≤l.length→∃ l':List Qm.Tq,l'.length=n∧Qm.AqAt ((ghostW Qm.prog G W).retape τ) a l':=by
  intro n
  induction n with
  | zero=>intro _;exact ⟨[],rfl,fun i z hz=>by cases hz⟩
  | succ n ih =>
    intro hn;obtain ⟨l',h1,h2⟩:=ih (by omega);obtain ⟨z',b,off,ha,hb,hcs,hl,ht⟩:=each n l[n] (List.getElem?_eq_getElem (by omega));refine ⟨l'++[z'],by simp [h1],fun i z hz=>?_⟩;by_cases hi:i<l'.length
    · rw [List.getElem?_append_left hi] at hz
      exact h2 i z hz
    · have hin:i=n:=by
       have:=(List.getElem?_eq_some_iff.1 hz).1;simp at this;omega
      subst hin;rw [List.getElem?_append_right (by omega),h1,Nat.sub_self] at hz;obtain rfl:=Option.some.inj hz;exact ⟨b,off,ha,hb,hcs,hl,ht⟩
 exact build l.length (Nat.le_refl _)
end Go.Proofs.YtnceajabigdleaaDoor
