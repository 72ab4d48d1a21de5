import Derived.Test.YtchdmecjhaanfaaGreatDoorMshA
import Derived.Test.YtchdmecjhaanfaaGreatDoorAmpA
import Derived.Test.YtchdmecjhaanfaaGreatDoorAmpF
import Derived.Test.YtchdmecjhaanfaaGreatDoorHouse
import Derived.Test.YtchdmecjhaanfaaGreatDoorMshPlain
import Derived.Test.YtchdmecjhaanfaaGreatDoorAmpC
namespace Go.Proofs.YtchdmecjhaanfaaGreatDoor
open Go Go.RowKit Amp Msh
theorem _root_.k57_ {p:Prop} (h:p:=by
 rintro e w' ⟨rfl,g,n,rfl⟩;go_wp2_with fail
 go_ret;exact ⟨rfl,gw0⟩):p:=h
def Nms (w:World) (a0:Option Addr) (l:List Num):Prop:=l=[]∨∃ b off:Nat,a0=some ⟨b,off,none⟩∧b<w.heap.size∧NumsAt w b off l
theorem Nms.grew {w w':World} {a0:Option Addr} {l:List Num} (h:Nms w a0 l) (hg:Grew w w'):Nms w' a0 l:=by
 rcases h with h | ⟨b,off,h,hb,hc⟩
 · exact .inl h
 · refine .inr ⟨b,off,h,Nat.lt_of_lt_of_le hb hg.size,fun i z hz=>?_⟩
   obtain ⟨c0,c1,c2,c3,c4⟩:=hc i z hz;exact ⟨(hg.cell hb _).trans c0,(hg.cell hb _).trans c1,(hg.cell hb _).trans c2,(hg.cell hb _).trans c3,(hg.cell hb _).trans c4⟩
theorem Nms.cells {w:World} {a0:Option Addr} {l:List Num} {i:Nat} {z:Num} (h:Nms w a0 l) (hz:l[i]? = some z) :
  ∃ b off:Nat,a0=some ⟨b,off,none⟩∧b<w.heap.size∧w.cell? ⟨b,off+i*5,none⟩=some (.int .i64 z.x.a)∧w.cell? ⟨b,off+i*5+1,none⟩=some (.int .i64 z.x.b)∧w.cell? ⟨b,off+i*5+2,none⟩=some (.int .i64 z.x.c)∧w.cell? ⟨b,off+i*5+3,none⟩=some (.int .i64 z.x.d)∧w.cell? ⟨b,off+i*5+4,none⟩=some (.int .i64 z.k):=by
 rcases h with rfl | ⟨b,off,h,hb,hc⟩
 · simp at hz
 · exact ⟨b,off,h,hb,hc i z hz⟩
def Ins (w:World) (a0:Option Addr) (l:List Int):Prop:=l=[]∨∃ b off:Nat,a0=some ⟨b,off,none⟩∧b<w.heap.size∧∀ i z,l[i]? = some z→w.cell? ⟨b,off+i,none⟩=some (.int .i64 z)
theorem Ins.grew {w w':World} {a0:Option Addr} {l:List Int} (h:Ins w a0 l) (hg:Grew w w'):Ins w' a0 l:=by
 rcases h with h | ⟨b,off,h,hb,hc⟩
 · exact .inl h
 · exact .inr ⟨b,off,h,Nat.lt_of_lt_of_le hb hg.size,fun i z hz=>(hg.cell hb _).trans (hc i z hz)⟩
theorem Ins.cells {w:World} {a0:Option Addr} {l:List Int} {i:Nat} {z:Int} (h:Ins w a0 l) (hz:l[i]? = some z) :
  ∃ b off:Nat,a0=some ⟨b,off,none⟩∧b<w.heap.size∧w.cell? ⟨b,off+i,none⟩=some (.int .i64 z):=by
 rcases h with rfl | ⟨b,off,h,hb,hc⟩
 · simp at hz
 · exact ⟨b,off,h,hb,hc i z hz⟩
@[go_sem high] theorem run_neq_item (a b c : Int) (s : ByteArray) (w : World) : (binOp .neq 51 (.agg #[.int .i64 a, .int .i64 b, .int .i64 c, .string s]) (.agg #[.int .i64 a, .int .i64 b, .int .i64 c, .string s])).run Tryz.prog w = .ok (.bool false) w := by
  rw [run_neq_struct];simp [go_sem]
@[go_sem 100000] theorem run_neq_num_same (a0 a1 a2 a3 k : Int) (w : World) : (binOp .neq 67 (.agg #[.int .i64 a0, .int .i64 a1, .int .i64 a2, .int .i64 a3, .int .i64 k]) (.agg #[.int .i64 a0, .int .i64 a1, .int .i64 a2, .int .i64 a3, .int .i64 k])).run Tryz.prog w = .ok (.bool false) w := by
  rw [run_neq_num];simp [eq5,eq4]
set_option maxHeartbeats 800000 in
theorem sameNums_same (a0 a1:Option Addr) (k0 k1:Nat) (l:List Num) (w:World) (hl:l.length≤9223372036854775807) (h0:Nms w a0 l) (h1:Nms w a1 l) :
  Calls Tryz.prog 29 #[.slice a0 l.length k0,.slice a1 l.length k1] w fun e w'=>e=.returned (.bool true)∧Grew w w':=by
 have H0:=hid h0;have H1:=hid h1;clear h0 h1;go_enter Tryz.func29,Tryz.ntmps29
 go_wp2_with fail
 go_loopw [13] (fun n wr=>∃ i:Nat,i≤l.length∧n=.int .i64 i∧Grew w wr) (fun n _=>l.length - (intOf n).toNat)
 case atStart=>exact ⟨0,Nat.zero_le _,rfl,gw0⟩
 case round =>
  obtain ⟨i,hi,rfl,g,n,rfl⟩:=hrel;by_cases hlt:i<l.length
  · obtain ⟨z,hz⟩:∃ z,l[i]? = some z:=⟨l[i],List.getElem?_eq_getElem hlt⟩
    obtain ⟨b,off,rfl,hb,c0,c1,c2,c3,c4⟩:=H0.out.cells hz;obtain ⟨b',off',rfl,hq,d0,d1,d2,d3,d4⟩:=H1.out.cells hz;have hb1:=fun m0:Nat=>Nat.lt_add_right m0 (hb)
    have hb2:=fun m0 m1:Nat=>Nat.lt_add_right m1 (hb1 m0)
    have hb3:=fun m0 m1 m2:Nat=>Nat.lt_add_right m2 (hb2 m0 m1)
    have hq1:=fun m0:Nat=>Nat.lt_add_right m0 (hq)
    have hq2:=fun m0 m1:Nat=>Nat.lt_add_right m1 (hq1 m0)
    have hq3:=fun m0 m1 m2:Nat=>Nat.lt_add_right m2 (hq2 m0 m1)
    clear hz;go_wp2_with fail
    refine wp_region_gentle_lit (by kernel_rfl) (by kernel_rfl) ?_;repeat (first | go_big_quiet_skip | (go_big_quiet_want;go_big_quiet_op;first | go_big_quiet_on | fail))
    refine wpQuiet_nil ?_;rintro _ ⟨gg,ng,rfl⟩;go_wp2_with fail
    go_roundw
    case rel=>exact ⟨i+1,by omega,by go_num,gw0⟩
    case measure=>simp [intOf];omega
  · obtain rfl:i=l.length:=by omega
    go_wp2_with fail
    go_ret;exact ⟨rfl,gw0⟩
open Go Go.RowKit Amp Msh
set_option maxHeartbeats 800000 in
theorem sameMatrix_same (n:Int) (a0 a1:Option Addr) (k0 k1:Nat) (l:List Num) (w:World) (hl:l.length≤9223372036854775807) (h0:Nms w a0 l) (h1:Nms w a1 l) :
  Calls Tryz.prog 12 #[.agg #[.int .i64 n,.slice a0 l.length k0],.agg #[.int .i64 n,.slice a1 l.length k1]] w fun e w'=>e=.returned (.bool true)∧Grew w w':=by
 have H:=hid fun w' (hg:Grew w w')=>sameNums_same a0 a1 k0 k1 l w' hl (h0.grew hg) (h1.grew hg)
 clear h0 h1;go_enter Tryz.func12,Tryz.ntmps12
 go_wp2_with fail
 refine (H.out _ gw0).mono ?_;exact k29_
set_option maxHeartbeats 800000 in
theorem at_any (n i k:Int) (j:Nat) (z:Num) (a0:Option Addr) (k0:Nat) (l:List Num) (w:World) (hl:l.length≤36) (h0:Nms w a0 l) (i1:0≤i*n) (i2:i*n≤36) (hj:i*n+k=(j:Int)) (hz:l[j]? = some z) :
  Calls Tryz.prog 76 #[.agg #[.int .i64 n,.slice a0 l.length k0],.int .i64 i,.int .i64 k] w fun e w'=>e=.returned (.agg #[.int .i64 z.x.a,.int .i64 z.x.b,.int .i64 z.x.c,.int .i64 z.x.d,.int .i64 z.k])∧Grew w w':=by
 obtain ⟨b,off,rfl,hb,c0,c1,c2,c3,c4⟩:=h0.cells hz;have hb1:=fun m0:Nat=>Nat.lt_add_right m0 (hb)
 have hb2:=fun m0 m1:Nat=>Nat.lt_add_right m1 (hb1 m0)
 have hb3:=fun m0 m1 m2:Nat=>Nat.lt_add_right m2 (hb2 m0 m1)
 have hjl:j<l.length:=(List.getElem?_eq_some_iff.1 hz).1;clear hz h0;go_enter Tryz.func76,Tryz.ntmps76
 go_wp2_with fail
 exact bodyPost_ret (v:=.agg #[.int .i64 z.x.a,.int .i64 z.x.b,.int .i64 z.x.c,.int .i64 z.x.d,.int .i64 z.k]) (by simp [results,Tryz.results76,go_sem]) rfl ⟨rfl,gw0⟩
set_option maxHeartbeats 800000 in
theorem numP_any (z:Num) (w:World) (hv:validB z.x z.k=true) :
  Calls Tryz.prog 147 #[.agg #[.int .i64 z.x.a,.int .i64 z.x.b,.int .i64 z.x.c,.int .i64 z.x.d,.int .i64 z.k]] w fun e w'=>e=.returned (.bool false)∧Grew w w':=by
 have HV:=hid fun w=>aValid_any z.x z.k w
 rw [hv] at HV;clear hv;go_enter Tryz.func147,Tryz.ntmps147
 go_wp2_with fail
 refine (HV.out _).mono ?_;exact k57_
set_option maxHeartbeats 800000 in
theorem idxN_ok (a0:Option Addr) (k0:Nat) (l:List Num) (w:World) (hl:l.length≤9223372036854775807) (h0:Nms w a0 l) (hv:∀ (i:Nat) (z:Num),l[i]? = some z→validB z.x z.k=true) :
  Calls Tryz.prog 124 #[.slice a0 l.length k0,.func (.func 147) #[] #[]] w fun e w'=>e=.returned (.int .i64 (-1))∧Grew w w':=by
 have H0:=hid h0;have HV:=hid hv;clear h0 hv;go_enter Tryz.func124,Tryz.ntmps124
 go_wp2_with fail
 go_loopw [8] (fun n wr=>∃ i:Nat,i≤l.length∧n=.int .i64 i∧Grew w wr) (fun n _=>l.length - (intOf n).toNat)
 case atStart=>exact ⟨0,Nat.zero_le _,rfl,Grew.refl _⟩
 case round =>
  obtain ⟨i,hi,rfl,g,n,rfl⟩:=hrel;by_cases hlt:i<l.length
  · obtain ⟨z,hz⟩:∃ z,l[i]? = some z:=⟨l[i],List.getElem?_eq_getElem hlt⟩
    obtain ⟨b,off,rfl,hb,c0,c1,c2,c3,c4⟩:=H0.out.cells hz;have hb1:=fun m0:Nat=>Nat.lt_add_right m0 (hb)
    have hb2:=fun m0 m1:Nat=>Nat.lt_add_right m1 (hb1 m0)
    have hb3:=fun m0 m1 m2:Nat=>Nat.lt_add_right m2 (hb2 m0 m1)
    have Hz:=hid (HV.out i z hz);clear hz;go_wp2_with fail
    refine (numP_any z _ Hz.out).mono ?_;rintro e w' ⟨rfl,g1,n1,rfl⟩;go_wp2_with fail
    go_roundw
    case rel=>exact ⟨i+1,by omega,by go_num,gw0⟩
    case measure=>simp [intOf];omega
  · obtain rfl:i=l.length:=by omega
    go_wp2_with fail
    go_ret;exact ⟨rfl,gw0⟩
set_option maxHeartbeats 800000 in
theorem hasN_ok (a0:Option Addr) (k0:Nat) (l:List Num) (w:World) (hl:l.length≤9223372036854775807) (h0:Nms w a0 l) (hv:∀ (i:Nat) (z:Num),l[i]? = some z→validB z.x z.k=true) :
  Calls Tryz.prog 83 #[.slice a0 l.length k0,.func (.func 147) #[] #[]] w fun e w'=>e=.returned (.bool false)∧Grew w w':=by
 have H:=hid fun w' (hg:Grew w w')=>idxN_ok a0 k0 l w' hl (h0.grew hg) hv
 clear h0 hv;go_enter Tryz.func83,Tryz.ntmps83
 go_wp2_with fail
 refine (H.out _ gw0).mono ?_;exact k57_
set_option maxHeartbeats 800000 in
theorem numbers_ok (a0:Option Addr) (k0:Nat) (l:List Num) (w:World) (hl:l.length≤9223372036854775807) (h0:Nms w a0 l) (hv:∀ (i:Nat) (z:Num),l[i]? = some z→validB z.x z.k=true) :
  Calls Tryz.prog 120 #[.slice a0 l.length k0] w fun e w'=>e=.returned (.bool true)∧Grew w w':=by
 have H:=hid fun w' (hg:Grew w w')=>hasN_ok a0 k0 l w' hl (h0.grew hg) hv
 clear h0 hv;go_enter Tryz.func120,Tryz.ntmps120
 go_wp2_with fail
 refine (H.out _ gw0).mono ?_;exact k57_
set_option maxHeartbeats 800000 in
theorem mvalid_ok (n:Int) (n1:1≤n) (n2:n≤6) (a0:Option Addr) (k0:Nat) (l:List Num) (w:World) (hl:l.length≤9223372036854775807) (h0:Nms w a0 l) (hv:∀ (i:Nat) (z:Num),l[i]? = some z→validB z.x z.k=true) (hn:(l.length:Int)=n*n) :
  Calls Tryz.prog 72 #[.agg #[.int .i64 n,.slice a0 l.length k0]] w fun e w'=>e=.returned (.bool true)∧Grew w w':=by
 have H:=hid fun w' (hg:Grew w w')=>numbers_ok a0 k0 l w' hl (h0.grew hg) hv
 have p1:0≤n*n:=by omega
 have p2:n*n≤36:=by have:=Int.mul_le_mul n2 n2 (by omega) (by decide:(0:Int)≤6);omega
 have e1:((l.length:Int)==n*n)=true:=by simpa using hn
 clear h0 hv hn;go_enter Tryz.func72,Tryz.ntmps72
 go_wp2_with fail
 refine (H.out _ gw0).mono ?_;exact k29_
end Go.Proofs.YtchdmecjhaanfaaGreatDoor
