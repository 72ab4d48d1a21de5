import Derived.Test.YtchdmecjhaanfaaGreatDoorRows
import Derived.Test.YtchdmecjhaanfaaGreatDoorHouse
import Derived.Test.YtchdmecjhaanfaaGreatDoorMshPlain
import Derived.MapKept
import Derived.StringKeys
import Derived.Maps.OwnSet
import Derived.OpenShut
import Derived.Deep.Slices
namespace Go.Proofs.YtchdmecjhaanfaaGreatDoor
open Go Go.RowKit Msh
theorem _root_.k61_ {p:Prop} (h:p:=by
 go_wp2_with fail
 refine (HM.out _).mono ?_;rintro e w' ⟨rfl,g',n,rfl⟩;exact k31_):p:=h
theorem _root_.k55_ {p:Prop} (h:p:=by
 clear hp;go_wp2_with fail
 go_ret;exact ⟨⟨-1,rfl,by rw [hp'.out];rfl⟩,gw0⟩):p:=h
theorem _root_.k52_ {p:Prop} (h:p:=by
 go_enter Tryz.func44,Tryz.ntmps44
 go_wp2_with fail
 go_ret;exact ⟨rfl,gw0⟩):p:=h
theorem _root_.k47_ {p:Prop} (h:p:=by
 clear hv;go_wp2_with fail
 go_ret;exact ⟨⟨i,rfl,by rw [Hv.out];simp⟩,gw0⟩):p:=h
theorem _root_.k41_ {p:Prop} (h:p:=by
 go_wp2_with fail
 refine (HM.out _).mono ?_;rintro e w' ⟨rfl,g',n,rfl⟩;go_wp2_with fail
 refine (HF.out _ gw0).mono ?_;rintro e w' ⟨rfl,g1,n1,rfl⟩;exact k31_):p:=h
theorem _root_.k31_ {p:Prop} (h:p:=by
 go_wp2_with fail
 go_ret;exact ⟨by rw [HO.out];rfl,gw0⟩):p:=h
theorem _root_.k30_ {p:Prop} (h:p:=by
 go_wp2_with fail
 refine (HI.out _ gw0).mono ?_;rintro e w' ⟨⟨r,rfl,hr⟩,g',n,rfl⟩;have HR:=hid hr;clear hr;go_wp2_with fail
 go_ret;exact ⟨by rw [← HR.out];rfl,gw0⟩):p:=h
theorem _root_.k29_ {p:Prop} (h:p:=by
 rintro e w' ⟨rfl,g,n',rfl⟩;go_wp2_with fail
 go_ret;exact ⟨rfl,gw0⟩):p:=h
theorem _root_.k21_ {p:Prop} (h:p:=by
 go_enter Tryz.func101,Tryz.ntmps101
 go_wp2_with fail
 go_ret;exact ⟨rfl,gw0⟩):p:=h
theorem run_lookup_nil (s:ByteArray) (w:World) :
  (Instr.lookup 53 (.map none) (.string s) false).run Tryz.prog w=.ok (.int .i64 0) w:=by
 have h1:Instr.findNow .string (.string s) ([]:List MapEntry) 0=some none:=rfl;simp [Instr.lookup,run_underlying Tryz.underlying53,MapKept.run_checkKey Tryz.underlying9 (show MapKept.IsKey .string (.string s) from trivial),MapKept.run_findKey Tryz.underlying9 h1,Result.andThen,go_sem]
attribute [go_sem high] run_lookup_nil
set_option maxHeartbeats 800000 in
theorem mbtw_yes (a n b:Int) (w:World) (h1:a≤n) (h2:n≤b) :
  Calls Tryz.prog 44 #[.int .i64 a,.int .i64 n,.int .i64 b] w fun e w'=>e=.returned (.bool true)∧Grew w w':=by
 exact k52_
set_option maxHeartbeats 800000 in
theorem mbtw_low (a n b:Int) (w:World) (h1:n<a) :
  Calls Tryz.prog 44 #[.int .i64 a,.int .i64 n,.int .i64 b] w fun e w'=>e=.returned (.bool false)∧Grew w w':=by
 exact k52_
set_option maxHeartbeats 800000 in
theorem mbtw_high (a n b:Int) (w:World) (h2:b<n) :
  Calls Tryz.prog 44 #[.int .i64 a,.int .i64 n,.int .i64 b] w fun e w'=>e=.returned (.bool false)∧Grew w w':=by
 by_cases h1:a≤n
 case neg =>
  have h3:n<a:=by omega
  clear h1 h2;exact k52_
 have e2:decide (n≤b)=false:=decide_eq_false (by omega);exact k52_
set_option maxRecDepth 100000 in
set_option maxHeartbeats 800000 in
theorem width_named (kind p n:Int) (s:ByteArray) (w:World) (hs:¬ s.toList=[]) (hk:¬ kind=4) :
  Calls Tryz.prog 101 #[.agg #[.int .i64 kind,.int .i64 p,.int .i64 n,.string s],.map none] w fun e w'=>e=.returned (.int .i64 0)∧Grew w w':=by
 have e1:(kind==4)=false:=by simpa using hk
 have e2:(kind != 4)=true:=by simpa using hk
 clear hk;exact k21_
set_option maxRecDepth 100000 in
set_option maxHeartbeats 800000 in
theorem width_cellN (p n:Int) (s:ByteArray) (w:World) (hn:¬ n=0) :
  Calls Tryz.prog 101 #[.agg #[.int .i64 4,.int .i64 p,.int .i64 n,.string s],.map none] w fun e w'=>e=.returned (.int .i64 0)∧Grew w w':=by
 have e1:(n==0)=false:=by simpa using hn
 have e2:(n != 0)=true:=by simpa using hn
 clear hn;exact k21_
set_option maxRecDepth 100000 in
set_option maxHeartbeats 800000 in
theorem width_cell0 (p:Int) (s:ByteArray) (w:World)  :
  Calls Tryz.prog 101 #[.agg #[.int .i64 4,.int .i64 p,.int .i64 0,.string s],.map none] w fun e w'=>e=.returned (.int .i64 0)∧Grew w w':=by
 exact k21_
set_option maxRecDepth 100000 in
set_option maxHeartbeats 800000 in
theorem width_phase (p n:Int) (s:ByteArray) (w:World) (hs:s.toList=[]) (h1:1≤n) (h2:n≤7) :
  Calls Tryz.prog 101 #[.agg #[.int .i64 1,.int .i64 p,.int .i64 n,.string s],.map none] w fun e w'=>e=.returned (.int .i64 1)∧Grew w w':=by
 go_enter Tryz.func101,Tryz.ntmps101
 go_wp2_with fail
 refine (mbtw_yes _ _ _ _ h1 h2).mono ?_;exact k29_
set_option maxRecDepth 100000 in
set_option maxHeartbeats 800000 in
theorem width_phaseL (p n:Int) (s:ByteArray) (w:World) (hs:s.toList=[]) (h1:n<1) :
  Calls Tryz.prog 101 #[.agg #[.int .i64 1,.int .i64 p,.int .i64 n,.string s],.map none] w fun e w'=>e=.returned (.int .i64 0)∧Grew w w':=by
 go_enter Tryz.func101,Tryz.ntmps101
 go_wp2_with fail
 refine (mbtw_low _ _ _ _ h1).mono ?_;exact k29_
set_option maxRecDepth 100000 in
set_option maxHeartbeats 800000 in
theorem width_phaseH (p n:Int) (s:ByteArray) (w:World) (hs:s.toList=[]) (h1:7<n) :
  Calls Tryz.prog 101 #[.agg #[.int .i64 1,.int .i64 p,.int .i64 n,.string s],.map none] w fun e w'=>e=.returned (.int .i64 0)∧Grew w w':=by
 go_enter Tryz.func101,Tryz.ntmps101
 go_wp2_with fail
 refine (mbtw_high _ _ _ _ h1).mono ?_;exact k29_
set_option maxRecDepth 100000 in
set_option maxHeartbeats 800000 in
theorem width_two2 (p:Int) (s:ByteArray) (w:World) (hs:s.toList=[]) :
  Calls Tryz.prog 101 #[.agg #[.int .i64 2,.int .i64 p,.int .i64 0,.string s],.map none] w fun e w'=>e=.returned (.int .i64 2)∧Grew w w':=by
 exact k21_
set_option maxRecDepth 100000 in
set_option maxHeartbeats 800000 in
theorem width_two3 (p:Int) (s:ByteArray) (w:World) (hs:s.toList=[]) :
  Calls Tryz.prog 101 #[.agg #[.int .i64 3,.int .i64 p,.int .i64 0,.string s],.map none] w fun e w'=>e=.returned (.int .i64 2)∧Grew w w':=by
 exact k21_
set_option maxRecDepth 100000 in
set_option maxHeartbeats 800000 in
theorem width_noneN (kind p n:Int) (s:ByteArray) (w:World) (hs:s.toList=[]) (hk:¬ kind=1) (h4:¬ kind=4) (hn:¬ n=0) :
  Calls Tryz.prog 101 #[.agg #[.int .i64 kind,.int .i64 p,.int .i64 n,.string s],.map none] w fun e w'=>e=.returned (.int .i64 0)∧Grew w w':=by
 have e1:(n==0)=false:=by simpa using hn
 have e2:(n != 0)=true:=by simpa using hn
 clear hn;have k1:(kind==1)=false:=by simpa using hk
 have m1:(kind != 1)=true:=by simpa using hk
 have k4:(kind==4)=false:=by simpa using h4
 have m4:(kind != 4)=true:=by simpa using h4
 clear hk h4;exact k21_
set_option maxRecDepth 100000 in
set_option maxHeartbeats 800000 in
theorem width_none0 (kind p:Int) (s:ByteArray) (w:World) (hs:s.toList=[]) (h1:¬ kind=1) (h2:¬ kind=2) (h3:¬ kind=3) (h4:¬ kind=4) :
  Calls Tryz.prog 101 #[.agg #[.int .i64 kind,.int .i64 p,.int .i64 0,.string s],.map none] w fun e w'=>e=.returned (.int .i64 0)∧Grew w w':=by
 have k1:(kind==1)=false:=by simpa using h1
 have m1:(kind != 1)=true:=by simpa using h1
 have k2:(kind==2)=false:=by simpa using h2
 have m2:(kind != 2)=true:=by simpa using h2
 have k3:(kind==3)=false:=by simpa using h3
 have m3:(kind != 3)=true:=by simpa using h3
 have k4:(kind==4)=false:=by simpa using h4
 have m4:(kind != 4)=true:=by simpa using h4
 clear h1 h2 h3 h4;exact k21_
theorem width_any (kind p n:Int) (s:ByteArray) (w:World) :
  Calls Tryz.prog 101 #[.agg #[.int .i64 kind,.int .i64 p,.int .i64 n,.string s],.map none] w fun e w'=>e=.returned (.int .i64 (wid kind n s))∧Grew w w':=by
 unfold wid;by_cases h4:kind=4
 · subst h4
   rw [show (if s.toList=[] then (if (4:Int)=1∧1≤n∧n≤7 then 1 else if ((4:Int)=2∨(4:Int)=3)∧n=0 then 2 else 0) else 0)=(0:Int) by split <;> simp];by_cases hn:n=0
   · subst hn;exact width_cell0 p s w
   · exact width_cellN p n s w hn
 by_cases hs:s.toList=[]
 case neg=>rw [if_neg hs];exact width_named kind p n s w hs h4
 rw [if_pos hs];by_cases h1:kind=1
 · subst h1
   by_cases hl:n<1
   · rw [if_neg (by omega),if_neg (by omega)];exact width_phaseL p n s w hs hl
   by_cases hh:7<n
   · rw [if_neg (by omega),if_neg (by omega)];exact width_phaseH p n s w hs hh
   rw [if_pos (by omega)];exact width_phase p n s w hs (by omega) (by omega)
 rw [if_neg (by omega)];by_cases hn:n=0
 · subst hn
   by_cases h2:kind=2
   · subst h2;rw [if_pos (by omega)];exact width_two2 p s w hs
   by_cases h3:kind=3
   · subst h3;rw [if_pos (by omega)];exact width_two3 p s w hs
   rw [if_neg (by omega)];exact width_none0 kind p s w hs h1 h2 h3 h4
 · rw [if_neg (by omega)];exact width_noneN kind p n s w hs h1 h4 hn
open Go Go.RowKit Msh
def ItsAt (w:World) (b off:Nat) (l:List It):Prop:=∀ i z,l[i]? = some z→(w.cell? ⟨b,off+i*4,none⟩=some (.int .i64 z.kind)∧w.cell? ⟨b,off+i*4+1,none⟩=some (.int .i64 z.pos)∧w.cell? ⟨b,off+i*4+2,none⟩=some (.int .i64 z.n)∧w.cell? ⟨b,off+i*4+3,none⟩=some (.string z.name))
theorem ItsAt.grew {w w':World} {b off:Nat} {l:List It} (h:ItsAt w b off l) (hb:b<w.heap.size) (hg:Grew w w'):ItsAt w' b off l:=fun i z hz=>by
 obtain ⟨c0,c1,c2,c3⟩:=h i z hz;exact ⟨(hg.cell hb _).trans c0,(hg.cell hb _).trans c1,(hg.cell hb _).trans c2,(hg.cell hb _).trans c3⟩
def Its (w:World) (a0:Option Addr) (l:List It):Prop:=l=[]∨∃ b off:Nat,a0=some ⟨b,off,none⟩∧b<w.heap.size∧ItsAt w b off l
theorem Its.grew {w w':World} {a0:Option Addr} {l:List It} (h:Its w a0 l) (hg:Grew w w'):Its w' a0 l:=by
 rcases h with h | ⟨b,off,h,hb,hc⟩
 · exact .inl h
 · exact .inr ⟨b,off,h,Nat.lt_of_lt_of_le hb hg.size,hc.grew hb hg⟩
theorem Its.cells {w:World} {a0:Option Addr} {l:List It} {i:Nat} {z:It} (h:Its w a0 l) (hz:l[i]? = some z) :
  ∃ b off:Nat,a0=some ⟨b,off,none⟩∧b<w.heap.size∧w.cell? ⟨b,off+i*4,none⟩=some (.int .i64 z.kind)∧w.cell? ⟨b,off+i*4+1,none⟩=some (.int .i64 z.pos)∧w.cell? ⟨b,off+i*4+2,none⟩=some (.int .i64 z.n)∧w.cell? ⟨b,off+i*4+3,none⟩=some (.string z.name):=by
 rcases h with rfl | ⟨b,off,h,hb,hc⟩
 · simp at hz
 · exact ⟨b,off,h,hb,hc i z hz⟩
def IdxI (v:Bool) (w:World) (e:Ending) (w':World):Prop:=(∃ r:Int,e=.returned (.int .i64 r)∧decide (0≤r)=!v)∧Grew w w'
theorem mbtw_any (a n b:Int) (w:World) :
  Calls Tryz.prog 44 #[.int .i64 a,.int .i64 n,.int .i64 b] w fun e w'=>e=.returned (.bool (decide (a≤n∧n≤b)))∧Grew w w':=by
 by_cases h:a≤n∧n≤b
 · rw [decide_eq_true h];exact mbtw_yes _ _ _ _ h.1 h.2
 · rw [decide_eq_false h]
   by_cases h1:n<a
   · exact mbtw_low _ _ _ _ h1
   · exact mbtw_high _ _ _ _ (by omega)
set_option maxHeartbeats 800000 in
theorem fitP_zero (g:Int) (x:It) (bc bn:Nat) (w:World) (hbc:bc<w.heap.size) (hbn:bn<w.heap.size) (hcc:w.cell? ⟨bc,0,none⟩=some (.map none)) (_:w.cell? ⟨bn,0,none⟩=some (.int .i64 g)) (_:1≤g) (_:g≤6) (hW:wid x.kind x.n x.name=0) :
  Calls Tryz.prog 100 #[.agg #[.int .i64 x.kind,.int .i64 x.pos,.int .i64 x.n,.string x.name],.pointer (some ⟨bc,0,none⟩),.pointer (some ⟨bn,0,none⟩)] w fun e w'=>e=.returned (.bool (!okIt g x))∧Grew w w':=by
 have HO:Hid (okIt g x=(decide ((0:Int)≠0)&&decide (1≤x.pos∧x.pos≤g - 0+1))):=by unfold okIt;rw [hW];exact rfl
 have HV:=hid fun w=>width_any x.kind x.pos x.n x.name w
 rw [hW] at HV;clear hW;have hbc1:=fun m0:Nat=>Nat.lt_add_right m0 (hbc)
 have hbc2:=fun m0 m1:Nat=>Nat.lt_add_right m1 (hbc1 m0)
 have hbc3:=fun m0 m1 m2:Nat=>Nat.lt_add_right m2 (hbc2 m0 m1)
 have hbn1:=fun m0:Nat=>Nat.lt_add_right m0 (hbn)
 have hbn2:=fun m0 m1:Nat=>Nat.lt_add_right m1 (hbn1 m0)
 have hbn3:=fun m0 m1 m2:Nat=>Nat.lt_add_right m2 (hbn2 m0 m1)
 go_enter Tryz.func100,Tryz.ntmps100
 go_wp2_with fail
 refine (HV.out _).mono ?_;rintro e w' ⟨rfl,g',n,rfl⟩;exact k31_
set_option maxHeartbeats 800000 in
theorem fitP_one (g:Int) (x:It) (bc bn:Nat) (w:World) (hbc:bc<w.heap.size) (hbn:bn<w.heap.size) (hcc:w.cell? ⟨bc,0,none⟩=some (.map none)) (hcn:w.cell? ⟨bn,0,none⟩=some (.int .i64 g)) (g1:1≤g) (g2:g≤6) (hW:wid x.kind x.n x.name=1) :
  Calls Tryz.prog 100 #[.agg #[.int .i64 x.kind,.int .i64 x.pos,.int .i64 x.n,.string x.name],.pointer (some ⟨bc,0,none⟩),.pointer (some ⟨bn,0,none⟩)] w fun e w'=>e=.returned (.bool (!okIt g x))∧Grew w w':=by
 have HO:Hid (okIt g x=(decide ((1:Int)≠0)&&decide (1≤x.pos∧x.pos≤g - 1+1))):=by unfold okIt;rw [hW];exact rfl
 have HV:=hid fun w=>width_any x.kind x.pos x.n x.name w
 rw [hW] at HV;clear hW;have hbc1:=fun m0:Nat=>Nat.lt_add_right m0 (hbc)
 have hbc2:=fun m0 m1:Nat=>Nat.lt_add_right m1 (hbc1 m0)
 have hbc3:=fun m0 m1 m2:Nat=>Nat.lt_add_right m2 (hbc2 m0 m1)
 have hbn1:=fun m0:Nat=>Nat.lt_add_right m0 (hbn)
 have hbn2:=fun m0 m1:Nat=>Nat.lt_add_right m1 (hbn1 m0)
 have hbn3:=fun m0 m1 m2:Nat=>Nat.lt_add_right m2 (hbn2 m0 m1)
 go_enter Tryz.func100,Tryz.ntmps100
 go_wp2_with fail
 refine (HV.out _).mono ?_;rintro e w' ⟨rfl,g',n,rfl⟩;go_wp2_with fail
 refine (mbtw_any _ _ _ _).mono ?_;rintro e w' ⟨rfl,g1,n1,rfl⟩;go_wp2_with fail
 go_ret;exact ⟨by rw [HO.out];simp,gw0⟩
set_option maxHeartbeats 800000 in
theorem fitP_two (g:Int) (x:It) (bc bn:Nat) (w:World) (hbc:bc<w.heap.size) (hbn:bn<w.heap.size) (hcc:w.cell? ⟨bc,0,none⟩=some (.map none)) (hcn:w.cell? ⟨bn,0,none⟩=some (.int .i64 g)) (g1:1≤g) (g2:g≤6) (hW:wid x.kind x.n x.name=2) :
  Calls Tryz.prog 100 #[.agg #[.int .i64 x.kind,.int .i64 x.pos,.int .i64 x.n,.string x.name],.pointer (some ⟨bc,0,none⟩),.pointer (some ⟨bn,0,none⟩)] w fun e w'=>e=.returned (.bool (!okIt g x))∧Grew w w':=by
 have HO:Hid (okIt g x=(decide ((2:Int)≠0)&&decide (1≤x.pos∧x.pos≤g - 2+1))):=by unfold okIt;rw [hW];exact rfl
 have HV:=hid fun w=>width_any x.kind x.pos x.n x.name w
 rw [hW] at HV;clear hW;have hbc1:=fun m0:Nat=>Nat.lt_add_right m0 (hbc)
 have hbc2:=fun m0 m1:Nat=>Nat.lt_add_right m1 (hbc1 m0)
 have hbc3:=fun m0 m1 m2:Nat=>Nat.lt_add_right m2 (hbc2 m0 m1)
 have hbn1:=fun m0:Nat=>Nat.lt_add_right m0 (hbn)
 have hbn2:=fun m0 m1:Nat=>Nat.lt_add_right m1 (hbn1 m0)
 have hbn3:=fun m0 m1 m2:Nat=>Nat.lt_add_right m2 (hbn2 m0 m1)
 go_enter Tryz.func100,Tryz.ntmps100
 go_wp2_with fail
 refine (HV.out _).mono ?_;rintro e w' ⟨rfl,g',n,rfl⟩;go_wp2_with fail
 refine (mbtw_any _ _ _ _).mono ?_;rintro e w' ⟨rfl,g1,n1,rfl⟩;go_wp2_with fail
 go_ret;exact ⟨by rw [HO.out];simp,gw0⟩
theorem fitP_any (g:Int) (x:It) (bc bn:Nat) (w:World) (hbc:bc<w.heap.size) (hbn:bn<w.heap.size) (hcc:w.cell? ⟨bc,0,none⟩=some (.map none)) (hcn:w.cell? ⟨bn,0,none⟩=some (.int .i64 g)) (g1:1≤g) (g2:g≤6) :
  Calls Tryz.prog 100 #[.agg #[.int .i64 x.kind,.int .i64 x.pos,.int .i64 x.n,.string x.name],.pointer (some ⟨bc,0,none⟩),.pointer (some ⟨bn,0,none⟩)] w fun e w'=>e=.returned (.bool (!okIt g x))∧Grew w w':=by
 rcases wid_cases x.kind x.n x.name with h | h | h
 · exact fitP_zero g x bc bn w hbc hbn hcc hcn g1 g2 h
 · exact fitP_one g x bc bn w hbc hbn hcc hcn g1 g2 h
 · exact fitP_two g x bc bn w hbc hbn hcc hcn g1 g2 h
set_option maxHeartbeats 800000 in
theorem idxI_any (g:Int) (a0:Option Addr) (cap:Nat) (l:List It) (bc bn:Nat) (w:World) (hl:l.length≤9223372036854775807) (hc:Its w a0 l) (hbc:bc<w.heap.size) (hbn:bn<w.heap.size) (hcc:w.cell? ⟨bc,0,none⟩=some (.map none)) (hcn:w.cell? ⟨bn,0,none⟩=some (.int .i64 g)) (g1:1≤g) (g2:g≤6) :
  Calls Tryz.prog 133 #[.slice a0 l.length cap,.func (.func 100) #[] #[.pointer (some ⟨bc,0,none⟩),.pointer (some ⟨bn,0,none⟩)]] w (IdxI (okIts g l) w):=by
 have HC:=hid hc;have HP:=hid fun (x:It) (w':World) (hg:Grew w w')=>fitP_any g x bc bn w' (Nat.lt_of_lt_of_le hbc hg.size) (Nat.lt_of_lt_of_le hbn hg.size) ((hg.cell hbc _).trans hcc) ((hg.cell hbn _).trans hcn) g1 g2
 clear hc hbc hbn hcc hcn g1 g2;go_enter Tryz.func133,Tryz.ntmps133
 go_wp2_with fail
 go_loopw [8] (fun n wr=>∃ i:Nat,i≤l.length∧n=.int .i64 i∧Hid (okIts g (l.take i)=true)∧Grew w wr) (fun n _=>l.length - (intOf n).toNat)
 case atStart=>exact ⟨0,Nat.zero_le _,rfl,rfl,Grew.refl _⟩
 case round =>
  obtain ⟨i,hi,rfl,hp,g',n,rfl⟩:=hrel;by_cases hlt:i<l.length
  · obtain ⟨z,hz⟩:∃ z,l[i]? = some z:=⟨l[i],List.getElem?_eq_getElem hlt⟩
    obtain ⟨b,off,rfl,hb,c0,c1,c2,c3⟩:=HC.out.cells hz;have hb1:=fun m0:Nat=>Nat.lt_add_right m0 (hb)
    have hb2:=fun m0 m1:Nat=>Nat.lt_add_right m1 (hb1 m0)
    have hb3:=fun m0 m1 m2:Nat=>Nat.lt_add_right m2 (hb2 m0 m1)
    have hb4:=fun m0 m1 m2 m3:Nat=>Nat.lt_add_right m3 (hb3 m0 m1 m2)
    have hb5:=fun m0 m1 m2 m3 m4:Nat=>Nat.lt_add_right m4 (hb4 m0 m1 m2 m3)
    have Hz:=hid hz;clear hz;go_wp2_with fail
    refine (HP.out z _ gw0).mono ?_;rintro e w' ⟨rfl,g1,n1,rfl⟩;by_cases hv:okIt g z=true
    · rw [hv]
      have Hv:=hid hv;clear hv;go_wp2_with fail
      go_roundw
      case rel=>exact ⟨i+1,by omega,by go_num,okIts_step Hz.out Hv.out hp.out,gw0⟩
      case measure=>simp [intOf];omega
    · have Hv:Hid (okIts g l=false):=okIts_cut Hz.out (by simpa using hv)
      rw [show okIt g z=false by simpa using hv];exact k47_
  · obtain rfl:i=l.length:=by omega
    have hp':Hid (okIts g l=true):=by have:=hp.out;rw [List.take_length] at this;exact this
    exact k55_
set_option maxHeartbeats 800000 in
theorem hasI_any (g:Int) (a0:Option Addr) (cap:Nat) (l:List It) (bc bn:Nat) (w:World) (hl:l.length≤9223372036854775807) (hc:Its w a0 l) (hbc:bc<w.heap.size) (hbn:bn<w.heap.size) (hcc:w.cell? ⟨bc,0,none⟩=some (.map none)) (hcn:w.cell? ⟨bn,0,none⟩=some (.int .i64 g)) (g1:1≤g) (g2:g≤6) :
  Calls Tryz.prog 99 #[.slice a0 l.length cap,.func (.func 100) #[] #[.pointer (some ⟨bc,0,none⟩),.pointer (some ⟨bn,0,none⟩)]] w fun e w'=>e=.returned (.bool (!okIts g l))∧Grew w w':=by
 have HI:=hid fun w' (hg:Grew w w')=>idxI_any g a0 cap l bc bn w' hl (hc.grew hg) (Nat.lt_of_lt_of_le hbc hg.size) (Nat.lt_of_lt_of_le hbn hg.size) ((hg.cell hbc _).trans hcc) ((hg.cell hbn _).trans hcn) g1 g2
 clear hc hbc hbn hcc hcn g1 g2;go_enter Tryz.func99,Tryz.ntmps99
 exact k30_
set_option maxHeartbeats 800000 in
theorem fits_any (g:Int) (a0:Option Addr) (cap:Nat) (l:List It) (w:World) (hl:l.length≤9223372036854775807) (hc:Its w a0 l) (g1:1≤g) (g2:g≤6) :
  Calls Tryz.prog 46 #[.int .i64 g,.slice a0 l.length cap,.map none] w fun e w'=>e=.returned (.bool (okIts g l))∧Grew w w':=by
 have HI:=hid fun (bc bn:Nat) w' (hg:Grew w w') h1 h2 h3 h4=>hasI_any g a0 cap l bc bn w' hl (hc.grew hg) h1 h2 h3 h4 g1 g2
 clear hc;go_enter Tryz.func46,Tryz.ntmps46
 go_wp2_with fail
 refine (HI.out _ _ _ gw0 (by simp <;> omega) (by simp <;> omega) (by simp [go_sem]) (by simp [go_sem])).mono ?_;rintro e w' ⟨rfl,g',n,rfl⟩;go_wp2_with fail
 go_ret;exact ⟨by simp,gw0⟩
set_option maxHeartbeats 800000 in
theorem vldI_any (g:Int) (a0:Option Addr) (cap:Nat) (l:List It) (w:World) (hl:l.length≤9223372036854775807) (hc:Its w a0 l) :
  Calls Tryz.prog 54 #[.int .i64 g,.slice a0 l.length cap] w fun e w'=>e=.returned (.bool (vldIts g l))∧Grew w w':=by
 by_cases hg:1≤g∧g≤6
 case neg =>
  have HO:Hid (vldIts g l=false):=by unfold vldIts;rw [decide_eq_false hg];rfl
  have HM:=hid fun w=>mbtw_any 1 g 6 w
  rw [decide_eq_false hg] at HM;clear hg hc;go_enter Tryz.func54,Tryz.ntmps54
  exact k61_
 have HM:=hid fun w=>mbtw_any 1 g 6 w
 rw [decide_eq_true hg] at HM;by_cases hn:l.length≤5000
 case neg =>
  have HO:Hid (vldIts g l=false):=by unfold vldIts;rw [decide_eq_true hg,decide_eq_false hn];rfl
  have hn':(5000:Int)<l.length:=by omega
  clear hg hc hn;go_enter Tryz.func54,Tryz.ntmps54
  exact k61_
 have HO:Hid (vldIts g l=okIts g l):=by unfold vldIts;rw [decide_eq_true hg,decide_eq_true hn];rfl
 have HF:=hid fun w' (h:Grew w w')=>fits_any g a0 cap l w' hl (hc.grew h) hg.1 hg.2
 have hn':(l.length:Int)≤5000:=by omega
 clear hg hc hn;go_enter Tryz.func54,Tryz.ntmps54
 exact k41_
set_option maxHeartbeats 800000 in
theorem check_any (g:Int) (a0:Option Addr) (cap:Nat) (l:List It) (w:World) (hl:l.length≤9223372036854775807) (hc:Its w a0 l) :
  Calls Tryz.prog 27 #[.int .i64 g,.slice a0 l.length cap] w fun e w'=>e=.returned (.int .i64 (chkIts g l))∧Grew w w':=by
 have HM:=hid fun w=>mbtw_any 1 g 6 w
 by_cases hg:1≤g∧g≤6
 case neg =>
  rw [decide_eq_false hg] at HM;have HO:Hid (chkIts g l=2):=by unfold chkIts;rw [if_neg hg];exact rfl
  clear hg hc;go_enter Tryz.func27,Tryz.ntmps27
  exact k61_
 rw [decide_eq_true hg] at HM;have HF:=hid fun w' (h:Grew w w')=>vldI_any g a0 cap l w' hl (hc.grew h)
 have HO:Hid (chkIts g l=if vldIts g l=true then 0 else 31):=by unfold chkIts;rw [if_pos hg];exact rfl
 clear hg hc;by_cases hv:vldIts g l=true
 · rw [hv] at HF HO
   clear hv;go_enter Tryz.func27,Tryz.ntmps27
   exact k41_
 · rw [show vldIts g l=false by simpa using hv] at HF HO
   clear hv;go_enter Tryz.func27,Tryz.ntmps27
   exact k41_
open Go Go.RowKit Msh
open Go Go.RowKit Msh
open Go Go.RowKit Go.Maps
def gR (v:Value):Option (DataW Value × List MemPlace):=some (.held v,[])
def MapV (w:World) (b n:Nat) (f:ByteArray→Option Value):Prop :=
 ∃ D:DataW Value,w.ownsMap Tryz.prog 9 gR b n D∧∀ s:ByteArray,s.size≤maxLen→∀ zd,D.atKey (.string s.data.toList) zd=match f s with | some v=>.held v | none=>zd
theorem MapV.lt {w:World} {b n:Nat} {f:ByteArray→Option Value} (h:MapV w b n f):b<w.heap.size:=by
 obtain ⟨D,h1,_⟩:=h;exact h1.lt
theorem MapV.kept {w w':World} {b n:Nat} {f:ByteArray→Option Value} {row:Option Nat} (h:MapV w b n f) (hg:w.grownBy w' row) (hne:some b≠row):MapV w' b n f:=by
 obtain ⟨D,h1,h2⟩:=h;exact ⟨D,h1.kept hg hne,h2⟩
theorem MapV.grew {w w':World} {b n:Nat} {f:ByteArray→Option Value} (h:MapV w b n f) (g:Grew w w'):MapV w' b n f:=h.kept (g.grownBy none) (by simp)
theorem MapV.setCell {w:World} {b n:Nat} {f:ByteArray→Option Value} (h:MapV w b n f) {a:Addr} (ha:b≠a.block) (u:Value):MapV (w.setCell a u) b n f:=by
 obtain ⟨D,h1,h2⟩:=h;exact ⟨D,h1.setCell ha u,h2⟩
theorem MapV.made {w:World} {b:Nat} (hb:b=w.heap.size):MapV (w.alloc (.map #[] 0)) b 0 fun _=>none:=by
 subst hb;exact ⟨_,World.ownsMap_made w _ _ _,fun s _ zd=>rfl⟩
theorem MapV.congr {w:World} {b n:Nat} {f g:ByteArray→Option Value} (h:MapV w b n f) (e:∀ s:ByteArray,s.size≤maxLen→f s=g s):MapV w b n g:=by
 obtain ⟨D,h1,h2⟩:=h;exact ⟨D,h1,fun s hs zd=>by rw [h2 s hs zd,e s hs]⟩
theorem MapV.look {w:World} {b n:Nat} {f:ByteArray→Option Value} (h:MapV w b n f) {t e:TypeId} (ht:Tryz.prog.underlying t=some (.map 9 e)) {z:Value} (hz:(zeroValue e).run Tryz.prog w=.ok z w) (s:ByteArray) (hs:s.size≤maxLen) (c:Bool) :
  (Instr.lookup t (.map (some b)) (.string s) c).run Tryz.prog w=.ok (match f s with | some v=>if c then .tuple #[v,.bool true] else v | none=>if c then .tuple #[z,.bool false] else z) w:=by
 obtain ⟨D,⟨es,clock,hb,F,_,rfl⟩,h2⟩:=h;have hkey:=WideMaps.keyOf_string_mk (P:=Tryz.prog) (k:=9) Tryz.underlying9 hs;rcases Maps.fit_look c (string_keyed Tryz.underlying9) ht hz hb F hkey with ⟨hrun,_,hat⟩ | ⟨e0,y,_,_,hrun,hR,hat,_⟩
 · rw [hrun]
   cases hf:f s with
   | none=>rfl
   | some v =>
     have e1:=h2 s hs .nil;rw [hat .nil,hf] at e1;cases e1
 · rw [hrun]
   have hR':(DataW.held e0.val,[])=y:=Option.some.inj hR;subst hR';cases hf:f s with
   | none =>
     have e1:=h2 s hs .nil;rw [hat .nil,hf] at e1;cases e1
   | some v =>
     have e1:=h2 s hs .nil;rw [hat .nil,hf] at e1;have e2:DataW.held e0.val=DataW.held v:=e1;rw [DataW.held.inj e2]
theorem isKeyLit_string (l:List UInt8):WideAt.IsKeyLit (.string l):=trivial
theorem MapV.store {w:World} {b n:Nat} {f:ByteArray→Option Value} (h:MapV w b n f) {t e:TypeId} (ht:Tryz.prog.underlying t=some (.map 9 e)) (hn:n<maxLen) (s:ByteArray) (hs:s.size≤maxLen) (val:Value) :
  ∃ w',(Instr.mapUpdate t (.map (some b)) (.string s) val).run Tryz.prog w=.ok () w'∧MapV w' b (n+1) (fun q=>if q=s then some val else f q)∧w.grownBy w' (some b)∧w.drawn≤w'.drawn:=by
 obtain ⟨D,h1,h2⟩:=h;have hkey:=WideMaps.keyOf_string_mk (P:=Tryz.prog) (k:=9) Tryz.underlying9 hs;obtain ⟨w',hrun,r1,r2⟩:=h1.store (string_keyed Tryz.underlying9) ht hn hkey (show gR val=some (.held val,[]) from rfl);refine ⟨w',hrun,⟨_,r1,fun q hq zd=>?_⟩,r2.grown, ?_⟩
 · by_cases he:q=s
   · subst he
     show _=(match (if q=q then some val else f q) with | some v=>DataW.held v | none=>zd)
     rw [if_pos rfl];exact atKey_put_same h1.isMap (isKeyLit_string _) _ _
   · show _=(match (if q=s then some val else f q) with | some v=>DataW.held v | none=>zd)
     rw [if_neg he,atKey_put_other (fun e=>he ?_) _ _]
     · exact h2 q hq zd
     · have e2:q.data=s.data:=Array.toList_inj.1 (Lit.string.inj e)
       obtain ⟨qd⟩:=q;obtain ⟨sd⟩:=s;dsimp only at e2;rw [e2]
 · obtain ⟨_,_,_,_,_,rfl⟩:=r2
   exact Nat.le_refl _
theorem wpList_mapUpdate_v {w:World} {ops:Array Oper} {rest:List Oper} {o:Oper} {a:Act} {Q:Exit→Act→World→Prop} (hg:o.guard=none) (m x v:Operand) (t:TypeId) (hop:o.op=Op.mapUpdate t m x v) {e:TypeId} (ht:Tryz.prog.underlying t=some (.map 9 e))
  (b n:Nat) (f:ByteArray→Option Value) (hm:a.eval m=.map (some b)) (h:MapV w b n f) (hn:n<maxLen) (s:ByteArray) (hs:s.size≤maxLen) (val:Value) (hx:a.eval x=.string s) (hv:a.eval v=val)
  (hK:∀ w',MapV w' b (n+1) (fun q=>if q=s then some val else f q)→w.grownBy w' (some b)→w.drawn≤w'.drawn→wpList Tryz.prog ops Q rest (a.put o.dst undef) w') :
  wpList Tryz.prog ops Q (o::rest) a w:=by
 refine wpList_plain hg fun K' hK'=>?_
 obtain ⟨w',hrun,r1,r2,r3⟩:=h.store ht hn s hs val;unfold Oper.wp;simp [execOp,hop,hm,hx,hv,hrun,Result.andThen];exact hK' _ _ (hK w' r1 r2 r3)
open Go Go.ChangeShapes Go.WideShapes Go.ChangeAt Go.RowKit Go.Deep Go.Joins Msh
section
variable {H:Type} {enc:TypeId × Value→H} {w:World} {base:Nat} {spare:Nat→Bool} {held:Bool}
theorem cellsIt:Tryz.prog.cellsOf 51=4:=by kernel_rfl
theorem cellsIntI:Tryz.prog.cellsOf 3=1:=by kernel_rfl
theorem cellsStrI:Tryz.prog.cellsOf 9=1:=by kernel_rfl
end
end Go.Proofs.YtchdmecjhaanfaaGreatDoor
