/- Layer: where light comes out, of the program. No condition. -/
import Derived.Test.YtnceajabigdleaaDoorPtS11
import Derived.Test.YtnceajabigdleaaDoorPtS12
import Derived.Test.YtnceajabigdleaaDoorPtH3
import Derived.OwnWalk
namespace Go.Proofs.Ghw
open Go Go.Pt Go.RowKit
theorem zok:ZOk prog:=⟨by rw [p_info];kernel_rfl,(p_underlying 22).trans Tryd.underlying22⟩
theorem xor1 (i:Nat) (hi:i<2):bits .xor .i64 (i:Int) 1=1 - i:=by
 obtain rfl | rfl:i=0∨i=1:=by omega
 all_goals decide
theorem xor0 (i:Nat) (hi:i<2):bits .xor .i64 (i:Int) 0=i:=by
 obtain rfl | rfl:i=0∨i=1:=by omega
 all_goals decide
set_option maxHeartbeats 1000000 in
theorem trace2 (b o l c:Nat) (x:Bool) (i:Nat) (hi:i<2) (base:Int) (w:World) (hb:b<w.heap.size) (h0:w.cell? ⟨b,o,none⟩=some (.bool x)) (hl:1≤l) :
  Calls prog 106 #[.int .i64 2,.slice (some ⟨b,o,none⟩) l c,.int .i64 i,.int .i64 base] w fun e w'=>e=.returned (.tuple #[.int .i64 (if x then 1 - i else i),.slice (some ⟨w.heap.size,0,none⟩) 1 1])∧w'=w.alloc (.cells #[.int .i64 base] 3):=by
 have e1:(0:Nat)<l:=hl;have e2:((0:Int)<(l:Int)):=by omega
 go_enter func106,ntmps106
 go_wp2_with fail
 refine (bit_any x _).mono ?_;rintro e w' ⟨rfl,rfl⟩;go_wp2_with fail
 · exact bodyPost_ret (v:=.tuple #[.int .i64 (1 - i),.slice (some ⟨w'.heap.size,0,none⟩) 1 1]) (by simp [results,go_sem,xor1 i hi]) rfl ⟨rfl,rfl⟩
 · exact bodyPost_ret (v:=.tuple #[.int .i64 i,.slice (some ⟨w'.heap.size,0,none⟩) 1 1]) (by simp [results,go_sem,xor0 i hi]) rfl ⟨rfl,rfl⟩
set_option maxHeartbeats 4000000 in
theorem split4 (b:Nat) (w:World) :
  Calls prog 109 #[.int .i64 4,.slice (some ⟨b,0,none⟩) 6 6] w fun e w'=>(e=.returned (.agg #[.slice (some ⟨b,0,none⟩) 2 6,.slice (some ⟨b,2,none⟩) 2 4,.slice (some ⟨b,4,none⟩) 1 2,.slice (some ⟨b,5,none⟩) 1 1]))∧Grew w w':=by
 go_enter func109,ntmps109
 go_wp2_with fail
 refine (count2 _).mono ?_;rintro e w' ⟨rfl,rfl⟩;go_wp2_with fail
 refine wp_region_gentle_tail 21 (by kernel_rfl) (by kernel_rfl) (by kernel_rfl) ?_;simp only [List.take_succ_cons,List.take_zero,List.drop_succ_cons,List.drop_zero];repeat (first | go_big_quiet_skip | (go_big_quiet_want;go_big_quiet_op;first | go_big_quiet_on | fail))
 refine wpQuiet_nil ?_;rintro _ ⟨gg,ng,rfl⟩;go_wp2_with fail
 exact bodyPost_ret (v:=.agg #[.slice (some ⟨b,0,none⟩) 2 6,.slice (some ⟨b,2,none⟩) 2 4,.slice (some ⟨b,4,none⟩) 1 2,.slice (some ⟨b,5,none⟩) 1 1]) (by simp [results,go_sem]) rfl ⟨rfl,gw0⟩
theorem ownL_lit {w:World} {base:Nat} (hb:base≤w.heap.size) (z:Int):OwnL (w.alloc (.cells #[.int .i64 z] 3)) base (.slice (some ⟨w.heap.size,0,none⟩) 1 1) [z] :=
 .inr ⟨w.heap.size,1,rfl,hb,(heap_alloc_new w _).trans (by simp [zFull,zCells]),Nat.le_refl _,by unfold maxLen;omega⟩
theorem ownL_lit' {w:World} {base n:Nat} (hb:base≤w.heap.size) (hn:n=w.heap.size) (z:Int):OwnL (w.alloc (.cells #[.int .i64 z] 3)) base (.slice (some ⟨n,0,none⟩) 1 1) [z]:=by
 subst hn;exact ownL_lit hb z
open Go Go.Pt Go.RowKit
def tr4 (s:Nat→Bool) (i:Nat):Nat :=
 2*(xor (i / 2==1) (if xor (i % 2==1) (s (i / 2)) then s 5 else s 4)).toNat+(xor (xor (i % 2==1) (s (i / 2))) (s (2+(xor (i / 2==1) (if xor (i % 2==1) (s (i / 2)) then s 5 else s 4)).toNat))).toNat
def thr (n:Nat) (s:Nat→Bool):List Int:=if n=2 then [(s 0).toNat,(!s 0).toNat] else [tr4 s 0,tr4 s 1,tr4 s 2,tr4 s 3]
theorem trace2_0 (b o l c:Nat) (x:Bool) (base:Int) (w:World) (hb:b<w.heap.size) (h0:w.cell? ⟨b,o,none⟩=some (.bool x)) (hl:1≤l) :
  Calls prog 106 #[.int .i64 2,.slice (some ⟨b,o,none⟩) l c,.int .i64 0,.int .i64 base] w fun e w'=>e=.returned (.tuple #[.int .i64 (if x then 1 else 0),.slice (some ⟨w.heap.size,0,none⟩) 1 1])∧w'=w.alloc (.cells #[.int .i64 base] 3) :=
 trace2 b o l c x 0 (by omega) base w hb h0 hl
theorem trace2_1 (b o l c:Nat) (x:Bool) (base:Int) (w:World) (hb:b<w.heap.size) (h0:w.cell? ⟨b,o,none⟩=some (.bool x)) (hl:1≤l) :
  Calls prog 106 #[.int .i64 2,.slice (some ⟨b,o,none⟩) l c,.int .i64 1,.int .i64 base] w fun e w'=>e=.returned (.tuple #[.int .i64 (if x then 0 else 1),.slice (some ⟨w.heap.size,0,none⟩) 1 1])∧w'=w.alloc (.cells #[.int .i64 base] 3) :=
 trace2 b o l c x 1 (by omega) base w hb h0 hl
set_option maxHeartbeats 8000000 in
theorem trace4_0 (b:Nat) (s:Nat→Bool) (w:World) (hb:b<w.heap.size) (H:∀ j,j<6→w.cell? ⟨b,j,none⟩=some (.bool (s j))) :
  Calls prog 106 #[.int .i64 4,.slice (some ⟨b,0,none⟩) 6 6,.int .i64 0,.int .i64 0] w fun e w'=>(∃ m,e=.returned (.tuple #[.int .i64 (tr4 s 0:Nat),m]))∧Grew w w':=by
 have q0:∀ a,b<w.heap.size+a:=fun _=>by omega
 have q1:∀ a c,b<w.heap.size+a+c:=fun _ _=>by omega
 have q2:∀ a c d,b<w.heap.size+a+c+d:=fun _ _ _=>by omega
 have q3:∀ a c d e,b<w.heap.size+a+c+d+e:=fun _ _ _ _=>by omega
 have h0:=H 0 (by omega);have h1:=H 1 (by omega);have h2:=H 2 (by omega);have h3:=H 3 (by omega);have h4:=H 4 (by omega);have h5:=H 5 (by omega);obtain ⟨x0,e0⟩:∃ x,s 0=x:=⟨_,rfl⟩;rw [e0] at h0;obtain ⟨x1,e1⟩:∃ x,s 1=x:=⟨_,rfl⟩;rw [e1] at h1;obtain ⟨x2,e2⟩:∃ x,s 2=x:=⟨_,rfl⟩;rw [e2] at h2;obtain ⟨x3,e3⟩:∃ x,s 3=x:=⟨_,rfl⟩;rw [e3] at h3;obtain ⟨x4,e4⟩:∃ x,s 4=x:=⟨_,rfl⟩;rw [e4] at h4;obtain ⟨x5,e5⟩:∃ x,s 5=x:=⟨_,rfl⟩;rw [e5] at h5;have HE:=hid (show s 0=x0∧s 1=x1∧s 2=x2∧s 3=x3∧s 4=x4∧s 5=x5 from ⟨e0,e1,e2,e3,e4,e5⟩);clear H e0 e1 e2 e3 e4 e5;have d00:bits .xor .i64 0 0=0:=by decide
 have d01:bits .xor .i64 0 1=1:=by decide
 have d10:bits .xor .i64 1 0=1:=by decide
 have d11:bits .xor .i64 1 1=0:=by decide
 have d20:bits .xor .i64 2 0=2:=by decide
 have d21:bits .xor .i64 2 1=3:=by decide
 have d30:bits .xor .i64 3 0=3:=by decide
 have d31:bits .xor .i64 3 1=2:=by decide
 have m0:bits .and .i64 0 1=0:=by decide
 have m1:bits .and .i64 1 1=1:=by decide
 have m2:bits .and .i64 2 1=0:=by decide
 have m3:bits .and .i64 3 1=1:=by decide
 generalize hR:tr4 s 0=R;have HR:=hid hR;clear hR;cases x0
 · cases x4
   · go_enter func106,ntmps106
     go_wp2_with fail
     refine (split4 b _).mono ?_;rintro e w' ⟨rfl,g1,n1,rfl⟩;go_wp2_with fail
     refine (count2 _).mono ?_;rintro e w' ⟨rfl,rfl⟩;go_wp2_with fail
     refine (bit_any _ _).mono ?_;rintro e w' ⟨rfl,rfl⟩;go_wp2_with fail
     refine (trace2_0 b 4 _ _ false _ _ (by simp [go_sem];omega) (by simp only [go_sem,q0,hb,h4]) (by omega)).mono ?_;rintro e w' ⟨rfl,rfl⟩;go_wp2_with (at_builtin;go_loud (refine wpList_append_f zok rfl _ _ rfl (w.heap.size+g1.length+1) _ [0] rfl ?ho _ 1 4 rfl ?cz ?mx ?bs ?_))
     case ho =>
      refine OwnL.grew (w:=?W200) ?_ ?g00
      case g00=>repeat (first | exact Grew.refl _ | refine Grew.drewN ?_ _)
      exact ownL_lit' (by first | (simp [go_sem];done) | (simp [go_sem];omega)) (by simp [go_sem]) _
     case cz=>simp [go_sem]
     case mx=>simp
     case bs=>first | (simp [go_sem];done) | (simp [go_sem];omega)
     intro v1 wA ho1 hg1 hd1;have k1:wA.cell? ⟨w.heap.size+g1.length,1,none⟩=some (.slice (some ⟨b,2,none⟩) 2 4):=hg1.cell (by simp [go_sem]) (by simp [Value.ownBlock];omega);have hG1:Grew w wA:=Grew.by (w':=_) gw0 hg1 hd1 (by simp [Value.ownBlock];omega)
     have k2:wA.cell? ⟨b,2,none⟩=some (.bool x2):=(World.cell?_of_block (a:=⟨b,2,none⟩) (hG1.block b hb)).trans h2;have k3:=hg1.size;simp [go_sem] at k3;obtain ⟨a1,c1,rfl⟩:=ho1.slice;have HO1:=hid (show OwnL wA (w.heap.size+g1.length+1) (.slice a1 2 c1) [0,4] from ho1);have HG1:=hid hG1;clear ho1 hg1 hd1 hG1;go_wp2_with (at_builtin;go_loud (refine wpList_append_f zok rfl _ _ rfl (w.heap.size+g1.length+1) _ [0,4] rfl (HO1.out.grew gw0) _ 1 2 rfl ?cz ?mx ?bs ?_))
     case cz=>simp [go_sem]
     case mx=>simp
     case bs=>first | (simp [go_sem];done) | (simp [go_sem];omega)
     intro v2 wB ho2 hg2 hd2;have j1:wB.cell? ⟨w.heap.size+g1.length,1,none⟩=some (.slice (some ⟨b,2,none⟩) 2 4):=hg2.cell (by simp [go_sem,k1,show w.heap.size+g1.length<wA.heap.size by omega]) (fun e=>by have:w.heap.size+g1.length+1≤w.heap.size+g1.length:=HO1.out.above _ e.symm;omega);have hG2:Grew w wB:=Grew.by (w':=_) (HG1.out.trans gw0) hg2 hd2 (fun j hj=>by have:=HO1.out.above j hj;omega)
     have j2:wB.cell? ⟨b,2,none⟩=some (.bool x2):=(World.cell?_of_block (a:=⟨b,2,none⟩) (hG2.block b hb)).trans h2;have j3:b<wB.heap.size:=Nat.lt_of_lt_of_le hb hG2.size;obtain ⟨a2,c2,rfl⟩:=ho2.slice;have HG2:=hid hG2;clear ho2 hg2 hd2 hG2 HG1 HO1 k1 k2 k3;go_wp2_with fail
     refine (bit_any _ _).mono ?_;rintro e w' ⟨rfl,rfl⟩;cases x2;all_goals
      have HV:=HR.out;obtain ⟨e0,e1,e2,e3,e4,e5⟩:=HE.out;simp only [tr4,e0,e2,e4,Nat.reduceDiv,Nat.reduceMod,Nat.reduceBEq,Nat.reduceAdd,Bool.xor_false,Bool.xor_true,Bool.not_false,Bool.toNat_true,Bool.toNat_false,Nat.reduceMul,Bool.false_eq_true, ↓reduceIte] at HV;subst HV;clear e0 e1 e2 e3 e4 e5 HE HR;go_wp2_with fail
      exact bodyPost_ret (v:=.tuple #[.int .i64 _,.slice a2 3 c2]) (by simp [results,go_sem]) rfl ⟨⟨_,rfl⟩,HG2.out⟩
   · go_enter func106,ntmps106
     go_wp2_with fail
     refine (split4 b _).mono ?_;rintro e w' ⟨rfl,g1,n1,rfl⟩;go_wp2_with fail
     refine (count2 _).mono ?_;rintro e w' ⟨rfl,rfl⟩;go_wp2_with fail
     refine (bit_any _ _).mono ?_;rintro e w' ⟨rfl,rfl⟩;go_wp2_with fail
     refine (trace2_0 b 4 _ _ true _ _ (by simp [go_sem];omega) (by simp only [go_sem,q0,hb,h4]) (by omega)).mono ?_;rintro e w' ⟨rfl,rfl⟩;go_wp2_with (at_builtin;go_loud (refine wpList_append_f zok rfl _ _ rfl (w.heap.size+g1.length+1) _ [0] rfl ?ho _ 1 4 rfl ?cz ?mx ?bs ?_))
     case ho =>
      refine OwnL.grew (w:=?W201) ?_ ?g01
      case g01=>repeat (first | exact Grew.refl _ | refine Grew.drewN ?_ _)
      exact ownL_lit' (by first | (simp [go_sem];done) | (simp [go_sem];omega)) (by simp [go_sem]) _
     case cz=>simp [go_sem]
     case mx=>simp
     case bs=>first | (simp [go_sem];done) | (simp [go_sem];omega)
     intro v1 wA ho1 hg1 hd1;have k1:wA.cell? ⟨w.heap.size+g1.length,1,none⟩=some (.slice (some ⟨b,2,none⟩) 2 4):=hg1.cell (by simp [go_sem]) (by simp [Value.ownBlock];omega);have hG1:Grew w wA:=Grew.by (w':=_) gw0 hg1 hd1 (by simp [Value.ownBlock];omega)
     have k2:wA.cell? ⟨b,3,none⟩=some (.bool x3):=(World.cell?_of_block (a:=⟨b,3,none⟩) (hG1.block b hb)).trans h3;have k3:=hg1.size;simp [go_sem] at k3;obtain ⟨a1,c1,rfl⟩:=ho1.slice;have HO1:=hid (show OwnL wA (w.heap.size+g1.length+1) (.slice a1 2 c1) [0,4] from ho1);have HG1:=hid hG1;clear ho1 hg1 hd1 hG1;go_wp2_with (at_builtin;go_loud (refine wpList_append_f zok rfl _ _ rfl (w.heap.size+g1.length+1) _ [0,4] rfl (HO1.out.grew gw0) _ 1 3 rfl ?cz ?mx ?bs ?_))
     case cz=>simp [go_sem]
     case mx=>simp
     case bs=>first | (simp [go_sem];done) | (simp [go_sem];omega)
     intro v2 wB ho2 hg2 hd2;have j1:wB.cell? ⟨w.heap.size+g1.length,1,none⟩=some (.slice (some ⟨b,2,none⟩) 2 4):=hg2.cell (by simp [go_sem,k1,show w.heap.size+g1.length<wA.heap.size by omega]) (fun e=>by have:w.heap.size+g1.length+1≤w.heap.size+g1.length:=HO1.out.above _ e.symm;omega);have hG2:Grew w wB:=Grew.by (w':=_) (HG1.out.trans gw0) hg2 hd2 (fun j hj=>by have:=HO1.out.above j hj;omega)
     have j2:wB.cell? ⟨b,3,none⟩=some (.bool x3):=(World.cell?_of_block (a:=⟨b,3,none⟩) (hG2.block b hb)).trans h3;have j3:b<wB.heap.size:=Nat.lt_of_lt_of_le hb hG2.size;obtain ⟨a2,c2,rfl⟩:=ho2.slice;have HG2:=hid hG2;clear ho2 hg2 hd2 hG2 HG1 HO1 k1 k2 k3;go_wp2_with fail
     refine (bit_any _ _).mono ?_;rintro e w' ⟨rfl,rfl⟩;cases x3;all_goals
      have HV:=HR.out;obtain ⟨e0,e1,e2,e3,e4,e5⟩:=HE.out;simp only [tr4,e0,e3,e4,Nat.reduceDiv,Nat.reduceMod,Nat.reduceBEq,Nat.reduceAdd,Bool.xor_false,Bool.xor_true,Bool.not_false,Bool.toNat_true,Bool.toNat_false,Nat.reduceMul,Bool.false_eq_true, ↓reduceIte] at HV;subst HV;clear e0 e1 e2 e3 e4 e5 HE HR;go_wp2_with fail
      exact bodyPost_ret (v:=.tuple #[.int .i64 _,.slice a2 3 c2]) (by simp [results,go_sem]) rfl ⟨⟨_,rfl⟩,HG2.out⟩
 · cases x5
   · go_enter func106,ntmps106
     go_wp2_with fail
     refine (split4 b _).mono ?_;rintro e w' ⟨rfl,g1,n1,rfl⟩;go_wp2_with fail
     refine (count2 _).mono ?_;rintro e w' ⟨rfl,rfl⟩;go_wp2_with fail
     refine (bit_any _ _).mono ?_;rintro e w' ⟨rfl,rfl⟩;go_wp2_with fail
     refine (trace2_0 b 5 _ _ false _ _ (by simp [go_sem];omega) (by simp only [go_sem,q0,hb,h5]) (by omega)).mono ?_;rintro e w' ⟨rfl,rfl⟩;go_wp2_with (at_builtin;go_loud (refine wpList_append_f zok rfl _ _ rfl (w.heap.size+g1.length+1) _ [0] rfl ?ho _ 1 5 rfl ?cz ?mx ?bs ?_))
     case ho =>
      refine OwnL.grew (w:=?W210) ?_ ?g10
      case g10=>repeat (first | exact Grew.refl _ | refine Grew.drewN ?_ _)
      exact ownL_lit' (by first | (simp [go_sem];done) | (simp [go_sem];omega)) (by simp [go_sem]) _
     case cz=>simp [go_sem]
     case mx=>simp
     case bs=>first | (simp [go_sem];done) | (simp [go_sem];omega)
     intro v1 wA ho1 hg1 hd1;have k1:wA.cell? ⟨w.heap.size+g1.length,1,none⟩=some (.slice (some ⟨b,2,none⟩) 2 4):=hg1.cell (by simp [go_sem]) (by simp [Value.ownBlock];omega);have hG1:Grew w wA:=Grew.by (w':=_) gw0 hg1 hd1 (by simp [Value.ownBlock];omega)
     have k2:wA.cell? ⟨b,2,none⟩=some (.bool x2):=(World.cell?_of_block (a:=⟨b,2,none⟩) (hG1.block b hb)).trans h2;have k3:=hg1.size;simp [go_sem] at k3;obtain ⟨a1,c1,rfl⟩:=ho1.slice;have HO1:=hid (show OwnL wA (w.heap.size+g1.length+1) (.slice a1 2 c1) [0,5] from ho1);have HG1:=hid hG1;clear ho1 hg1 hd1 hG1;go_wp2_with (at_builtin;go_loud (refine wpList_append_f zok rfl _ _ rfl (w.heap.size+g1.length+1) _ [0,5] rfl (HO1.out.grew gw0) _ 1 2 rfl ?cz ?mx ?bs ?_))
     case cz=>simp [go_sem]
     case mx=>simp
     case bs=>first | (simp [go_sem];done) | (simp [go_sem];omega)
     intro v2 wB ho2 hg2 hd2;have j1:wB.cell? ⟨w.heap.size+g1.length,1,none⟩=some (.slice (some ⟨b,2,none⟩) 2 4):=hg2.cell (by simp [go_sem,k1,show w.heap.size+g1.length<wA.heap.size by omega]) (fun e=>by have:w.heap.size+g1.length+1≤w.heap.size+g1.length:=HO1.out.above _ e.symm;omega);have hG2:Grew w wB:=Grew.by (w':=_) (HG1.out.trans gw0) hg2 hd2 (fun j hj=>by have:=HO1.out.above j hj;omega)
     have j2:wB.cell? ⟨b,2,none⟩=some (.bool x2):=(World.cell?_of_block (a:=⟨b,2,none⟩) (hG2.block b hb)).trans h2;have j3:b<wB.heap.size:=Nat.lt_of_lt_of_le hb hG2.size;obtain ⟨a2,c2,rfl⟩:=ho2.slice;have HG2:=hid hG2;clear ho2 hg2 hd2 hG2 HG1 HO1 k1 k2 k3;go_wp2_with fail
     refine (bit_any _ _).mono ?_;rintro e w' ⟨rfl,rfl⟩;cases x2;all_goals
      have HV:=HR.out;obtain ⟨e0,e1,e2,e3,e4,e5⟩:=HE.out;simp only [tr4,e0,e2,e5,Nat.reduceDiv,Nat.reduceMod,Nat.reduceBEq,Nat.reduceAdd,Bool.xor_false,Bool.xor_true,Bool.not_true,Bool.not_false,Bool.toNat_true,Bool.toNat_false,Nat.reduceMul, ↓reduceIte] at HV;subst HV;clear e0 e1 e2 e3 e4 e5 HE HR;go_wp2_with fail
      exact bodyPost_ret (v:=.tuple #[.int .i64 _,.slice a2 3 c2]) (by simp [results,go_sem]) rfl ⟨⟨_,rfl⟩,HG2.out⟩
   · go_enter func106,ntmps106
     go_wp2_with fail
     refine (split4 b _).mono ?_;rintro e w' ⟨rfl,g1,n1,rfl⟩;go_wp2_with fail
     refine (count2 _).mono ?_;rintro e w' ⟨rfl,rfl⟩;go_wp2_with fail
     refine (bit_any _ _).mono ?_;rintro e w' ⟨rfl,rfl⟩;go_wp2_with fail
     refine (trace2_0 b 5 _ _ true _ _ (by simp [go_sem];omega) (by simp only [go_sem,q0,hb,h5]) (by omega)).mono ?_;rintro e w' ⟨rfl,rfl⟩;go_wp2_with (at_builtin;go_loud (refine wpList_append_f zok rfl _ _ rfl (w.heap.size+g1.length+1) _ [0] rfl ?ho _ 1 5 rfl ?cz ?mx ?bs ?_))
     case ho =>
      refine OwnL.grew (w:=?W211) ?_ ?g11
      case g11=>repeat (first | exact Grew.refl _ | refine Grew.drewN ?_ _)
      exact ownL_lit' (by first | (simp [go_sem];done) | (simp [go_sem];omega)) (by simp [go_sem]) _
     case cz=>simp [go_sem]
     case mx=>simp
     case bs=>first | (simp [go_sem];done) | (simp [go_sem];omega)
     intro v1 wA ho1 hg1 hd1;have k1:wA.cell? ⟨w.heap.size+g1.length,1,none⟩=some (.slice (some ⟨b,2,none⟩) 2 4):=hg1.cell (by simp [go_sem]) (by simp [Value.ownBlock];omega);have hG1:Grew w wA:=Grew.by (w':=_) gw0 hg1 hd1 (by simp [Value.ownBlock];omega)
     have k2:wA.cell? ⟨b,3,none⟩=some (.bool x3):=(World.cell?_of_block (a:=⟨b,3,none⟩) (hG1.block b hb)).trans h3;have k3:=hg1.size;simp [go_sem] at k3;obtain ⟨a1,c1,rfl⟩:=ho1.slice;have HO1:=hid (show OwnL wA (w.heap.size+g1.length+1) (.slice a1 2 c1) [0,5] from ho1);have HG1:=hid hG1;clear ho1 hg1 hd1 hG1;go_wp2_with (at_builtin;go_loud (refine wpList_append_f zok rfl _ _ rfl (w.heap.size+g1.length+1) _ [0,5] rfl (HO1.out.grew gw0) _ 1 3 rfl ?cz ?mx ?bs ?_))
     case cz=>simp [go_sem]
     case mx=>simp
     case bs=>first | (simp [go_sem];done) | (simp [go_sem];omega)
     intro v2 wB ho2 hg2 hd2;have j1:wB.cell? ⟨w.heap.size+g1.length,1,none⟩=some (.slice (some ⟨b,2,none⟩) 2 4):=hg2.cell (by simp [go_sem,k1,show w.heap.size+g1.length<wA.heap.size by omega]) (fun e=>by have:w.heap.size+g1.length+1≤w.heap.size+g1.length:=HO1.out.above _ e.symm;omega);have hG2:Grew w wB:=Grew.by (w':=_) (HG1.out.trans gw0) hg2 hd2 (fun j hj=>by have:=HO1.out.above j hj;omega)
     have j2:wB.cell? ⟨b,3,none⟩=some (.bool x3):=(World.cell?_of_block (a:=⟨b,3,none⟩) (hG2.block b hb)).trans h3;have j3:b<wB.heap.size:=Nat.lt_of_lt_of_le hb hG2.size;obtain ⟨a2,c2,rfl⟩:=ho2.slice;have HG2:=hid hG2;clear ho2 hg2 hd2 hG2 HG1 HO1 k1 k2 k3;go_wp2_with fail
     refine (bit_any _ _).mono ?_;rintro e w' ⟨rfl,rfl⟩;cases x3;all_goals
      have HV:=HR.out;obtain ⟨e0,e1,e2,e3,e4,e5⟩:=HE.out;simp only [tr4,e0,e3,e5,Nat.reduceDiv,Nat.reduceMod,Nat.reduceBEq,Nat.reduceAdd,Bool.xor_false,Bool.xor_true,Bool.not_true,Bool.not_false,Bool.toNat_true,Bool.toNat_false,Nat.reduceMul, ↓reduceIte] at HV;subst HV;clear e0 e1 e2 e3 e4 e5 HE HR;go_wp2_with fail
      exact bodyPost_ret (v:=.tuple #[.int .i64 _,.slice a2 3 c2]) (by simp [results,go_sem]) rfl ⟨⟨_,rfl⟩,HG2.out⟩
set_option maxHeartbeats 8000000 in
theorem trace4_1 (b:Nat) (s:Nat→Bool) (w:World) (hb:b<w.heap.size) (H:∀ j,j<6→w.cell? ⟨b,j,none⟩=some (.bool (s j))) :
  Calls prog 106 #[.int .i64 4,.slice (some ⟨b,0,none⟩) 6 6,.int .i64 1,.int .i64 0] w fun e w'=>(∃ m,e=.returned (.tuple #[.int .i64 (tr4 s 1:Nat),m]))∧Grew w w':=by
 have q0:∀ a,b<w.heap.size+a:=fun _=>by omega
 have q1:∀ a c,b<w.heap.size+a+c:=fun _ _=>by omega
 have q2:∀ a c d,b<w.heap.size+a+c+d:=fun _ _ _=>by omega
 have q3:∀ a c d e,b<w.heap.size+a+c+d+e:=fun _ _ _ _=>by omega
 have h0:=H 0 (by omega);have h1:=H 1 (by omega);have h2:=H 2 (by omega);have h3:=H 3 (by omega);have h4:=H 4 (by omega);have h5:=H 5 (by omega);obtain ⟨x0,e0⟩:∃ x,s 0=x:=⟨_,rfl⟩;rw [e0] at h0;obtain ⟨x1,e1⟩:∃ x,s 1=x:=⟨_,rfl⟩;rw [e1] at h1;obtain ⟨x2,e2⟩:∃ x,s 2=x:=⟨_,rfl⟩;rw [e2] at h2;obtain ⟨x3,e3⟩:∃ x,s 3=x:=⟨_,rfl⟩;rw [e3] at h3;obtain ⟨x4,e4⟩:∃ x,s 4=x:=⟨_,rfl⟩;rw [e4] at h4;obtain ⟨x5,e5⟩:∃ x,s 5=x:=⟨_,rfl⟩;rw [e5] at h5;have HE:=hid (show s 0=x0∧s 1=x1∧s 2=x2∧s 3=x3∧s 4=x4∧s 5=x5 from ⟨e0,e1,e2,e3,e4,e5⟩);clear H e0 e1 e2 e3 e4 e5;have d00:bits .xor .i64 0 0=0:=by decide
 have d01:bits .xor .i64 0 1=1:=by decide
 have d10:bits .xor .i64 1 0=1:=by decide
 have d11:bits .xor .i64 1 1=0:=by decide
 have d20:bits .xor .i64 2 0=2:=by decide
 have d21:bits .xor .i64 2 1=3:=by decide
 have d30:bits .xor .i64 3 0=3:=by decide
 have d31:bits .xor .i64 3 1=2:=by decide
 have m0:bits .and .i64 0 1=0:=by decide
 have m1:bits .and .i64 1 1=1:=by decide
 have m2:bits .and .i64 2 1=0:=by decide
 have m3:bits .and .i64 3 1=1:=by decide
 generalize hR:tr4 s 1=R;have HR:=hid hR;clear hR;cases x0
 · cases x5
   · go_enter func106,ntmps106
     go_wp2_with fail
     refine (split4 b _).mono ?_;rintro e w' ⟨rfl,g1,n1,rfl⟩;go_wp2_with fail
     refine (count2 _).mono ?_;rintro e w' ⟨rfl,rfl⟩;go_wp2_with fail
     refine (bit_any _ _).mono ?_;rintro e w' ⟨rfl,rfl⟩;go_wp2_with fail
     refine (trace2_0 b 5 _ _ false _ _ (by simp [go_sem];omega) (by simp only [go_sem,q0,hb,h5]) (by omega)).mono ?_;rintro e w' ⟨rfl,rfl⟩;go_wp2_with (at_builtin;go_loud (refine wpList_append_f zok rfl _ _ rfl (w.heap.size+g1.length+1) _ [0] rfl ?ho _ 1 5 rfl ?cz ?mx ?bs ?_))
     case ho =>
      refine OwnL.grew (w:=?W200) ?_ ?g00
      case g00=>repeat (first | exact Grew.refl _ | refine Grew.drewN ?_ _)
      exact ownL_lit' (by first | (simp [go_sem];done) | (simp [go_sem];omega)) (by simp [go_sem]) _
     case cz=>simp [go_sem]
     case mx=>simp
     case bs=>first | (simp [go_sem];done) | (simp [go_sem];omega)
     intro v1 wA ho1 hg1 hd1;have k1:wA.cell? ⟨w.heap.size+g1.length,1,none⟩=some (.slice (some ⟨b,2,none⟩) 2 4):=hg1.cell (by simp [go_sem]) (by simp [Value.ownBlock];omega);have hG1:Grew w wA:=Grew.by (w':=_) gw0 hg1 hd1 (by simp [Value.ownBlock];omega)
     have k2:wA.cell? ⟨b,2,none⟩=some (.bool x2):=(World.cell?_of_block (a:=⟨b,2,none⟩) (hG1.block b hb)).trans h2;have k3:=hg1.size;simp [go_sem] at k3;obtain ⟨a1,c1,rfl⟩:=ho1.slice;have HO1:=hid (show OwnL wA (w.heap.size+g1.length+1) (.slice a1 2 c1) [0,5] from ho1);have HG1:=hid hG1;clear ho1 hg1 hd1 hG1;go_wp2_with (at_builtin;go_loud (refine wpList_append_f zok rfl _ _ rfl (w.heap.size+g1.length+1) _ [0,5] rfl (HO1.out.grew gw0) _ 1 2 rfl ?cz ?mx ?bs ?_))
     case cz=>simp [go_sem]
     case mx=>simp
     case bs=>first | (simp [go_sem];done) | (simp [go_sem];omega)
     intro v2 wB ho2 hg2 hd2;have j1:wB.cell? ⟨w.heap.size+g1.length,1,none⟩=some (.slice (some ⟨b,2,none⟩) 2 4):=hg2.cell (by simp [go_sem,k1,show w.heap.size+g1.length<wA.heap.size by omega]) (fun e=>by have:w.heap.size+g1.length+1≤w.heap.size+g1.length:=HO1.out.above _ e.symm;omega);have hG2:Grew w wB:=Grew.by (w':=_) (HG1.out.trans gw0) hg2 hd2 (fun j hj=>by have:=HO1.out.above j hj;omega)
     have j2:wB.cell? ⟨b,2,none⟩=some (.bool x2):=(World.cell?_of_block (a:=⟨b,2,none⟩) (hG2.block b hb)).trans h2;have j3:b<wB.heap.size:=Nat.lt_of_lt_of_le hb hG2.size;obtain ⟨a2,c2,rfl⟩:=ho2.slice;have HG2:=hid hG2;clear ho2 hg2 hd2 hG2 HG1 HO1 k1 k2 k3;go_wp2_with fail
     refine (bit_any _ _).mono ?_;rintro e w' ⟨rfl,rfl⟩;cases x2;all_goals
      have HV:=HR.out;obtain ⟨e0,e1,e2,e3,e4,e5⟩:=HE.out;simp only [tr4,e0,e2,e5,Nat.reduceDiv,Nat.reduceMod,Nat.reduceBEq,Nat.reduceAdd,Bool.xor_false,Bool.xor_true,Bool.not_true,Bool.toNat_true,Bool.toNat_false,Nat.reduceMul, ↓reduceIte] at HV;subst HV;clear e0 e1 e2 e3 e4 e5 HE HR;go_wp2_with fail
      exact bodyPost_ret (v:=.tuple #[.int .i64 _,.slice a2 3 c2]) (by simp [results,go_sem]) rfl ⟨⟨_,rfl⟩,HG2.out⟩
   · go_enter func106,ntmps106
     go_wp2_with fail
     refine (split4 b _).mono ?_;rintro e w' ⟨rfl,g1,n1,rfl⟩;go_wp2_with fail
     refine (count2 _).mono ?_;rintro e w' ⟨rfl,rfl⟩;go_wp2_with fail
     refine (bit_any _ _).mono ?_;rintro e w' ⟨rfl,rfl⟩;go_wp2_with fail
     refine (trace2_0 b 5 _ _ true _ _ (by simp [go_sem];omega) (by simp only [go_sem,q0,hb,h5]) (by omega)).mono ?_;rintro e w' ⟨rfl,rfl⟩;go_wp2_with (at_builtin;go_loud (refine wpList_append_f zok rfl _ _ rfl (w.heap.size+g1.length+1) _ [0] rfl ?ho _ 1 5 rfl ?cz ?mx ?bs ?_))
     case ho =>
      refine OwnL.grew (w:=?W201) ?_ ?g01
      case g01=>repeat (first | exact Grew.refl _ | refine Grew.drewN ?_ _)
      exact ownL_lit' (by first | (simp [go_sem];done) | (simp [go_sem];omega)) (by simp [go_sem]) _
     case cz=>simp [go_sem]
     case mx=>simp
     case bs=>first | (simp [go_sem];done) | (simp [go_sem];omega)
     intro v1 wA ho1 hg1 hd1;have k1:wA.cell? ⟨w.heap.size+g1.length,1,none⟩=some (.slice (some ⟨b,2,none⟩) 2 4):=hg1.cell (by simp [go_sem]) (by simp [Value.ownBlock];omega);have hG1:Grew w wA:=Grew.by (w':=_) gw0 hg1 hd1 (by simp [Value.ownBlock];omega)
     have k2:wA.cell? ⟨b,3,none⟩=some (.bool x3):=(World.cell?_of_block (a:=⟨b,3,none⟩) (hG1.block b hb)).trans h3;have k3:=hg1.size;simp [go_sem] at k3;obtain ⟨a1,c1,rfl⟩:=ho1.slice;have HO1:=hid (show OwnL wA (w.heap.size+g1.length+1) (.slice a1 2 c1) [0,5] from ho1);have HG1:=hid hG1;clear ho1 hg1 hd1 hG1;go_wp2_with (at_builtin;go_loud (refine wpList_append_f zok rfl _ _ rfl (w.heap.size+g1.length+1) _ [0,5] rfl (HO1.out.grew gw0) _ 1 3 rfl ?cz ?mx ?bs ?_))
     case cz=>simp [go_sem]
     case mx=>simp
     case bs=>first | (simp [go_sem];done) | (simp [go_sem];omega)
     intro v2 wB ho2 hg2 hd2;have j1:wB.cell? ⟨w.heap.size+g1.length,1,none⟩=some (.slice (some ⟨b,2,none⟩) 2 4):=hg2.cell (by simp [go_sem,k1,show w.heap.size+g1.length<wA.heap.size by omega]) (fun e=>by have:w.heap.size+g1.length+1≤w.heap.size+g1.length:=HO1.out.above _ e.symm;omega);have hG2:Grew w wB:=Grew.by (w':=_) (HG1.out.trans gw0) hg2 hd2 (fun j hj=>by have:=HO1.out.above j hj;omega)
     have j2:wB.cell? ⟨b,3,none⟩=some (.bool x3):=(World.cell?_of_block (a:=⟨b,3,none⟩) (hG2.block b hb)).trans h3;have j3:b<wB.heap.size:=Nat.lt_of_lt_of_le hb hG2.size;obtain ⟨a2,c2,rfl⟩:=ho2.slice;have HG2:=hid hG2;clear ho2 hg2 hd2 hG2 HG1 HO1 k1 k2 k3;go_wp2_with fail
     refine (bit_any _ _).mono ?_;rintro e w' ⟨rfl,rfl⟩;cases x3;all_goals
      have HV:=HR.out;obtain ⟨e0,e1,e2,e3,e4,e5⟩:=HE.out;simp only [tr4,e0,e3,e5,Nat.reduceDiv,Nat.reduceMod,Nat.reduceBEq,Nat.reduceAdd,Bool.xor_false,Bool.xor_true,Bool.not_true,Bool.not_false,Bool.toNat_true,Bool.toNat_false,Nat.reduceMul, ↓reduceIte] at HV;subst HV;clear e0 e1 e2 e3 e4 e5 HE HR;go_wp2_with fail
      exact bodyPost_ret (v:=.tuple #[.int .i64 _,.slice a2 3 c2]) (by simp [results,go_sem]) rfl ⟨⟨_,rfl⟩,HG2.out⟩
 · cases x4
   · go_enter func106,ntmps106
     go_wp2_with fail
     refine (split4 b _).mono ?_;rintro e w' ⟨rfl,g1,n1,rfl⟩;go_wp2_with fail
     refine (count2 _).mono ?_;rintro e w' ⟨rfl,rfl⟩;go_wp2_with fail
     refine (bit_any _ _).mono ?_;rintro e w' ⟨rfl,rfl⟩;go_wp2_with fail
     refine (trace2_0 b 4 _ _ false _ _ (by simp [go_sem];omega) (by simp only [go_sem,q0,hb,h4]) (by omega)).mono ?_;rintro e w' ⟨rfl,rfl⟩;go_wp2_with (at_builtin;go_loud (refine wpList_append_f zok rfl _ _ rfl (w.heap.size+g1.length+1) _ [0] rfl ?ho _ 1 4 rfl ?cz ?mx ?bs ?_))
     case ho =>
      refine OwnL.grew (w:=?W210) ?_ ?g10
      case g10=>repeat (first | exact Grew.refl _ | refine Grew.drewN ?_ _)
      exact ownL_lit' (by first | (simp [go_sem];done) | (simp [go_sem];omega)) (by simp [go_sem]) _
     case cz=>simp [go_sem]
     case mx=>simp
     case bs=>first | (simp [go_sem];done) | (simp [go_sem];omega)
     intro v1 wA ho1 hg1 hd1;have k1:wA.cell? ⟨w.heap.size+g1.length,1,none⟩=some (.slice (some ⟨b,2,none⟩) 2 4):=hg1.cell (by simp [go_sem]) (by simp [Value.ownBlock];omega);have hG1:Grew w wA:=Grew.by (w':=_) gw0 hg1 hd1 (by simp [Value.ownBlock];omega)
     have k2:wA.cell? ⟨b,2,none⟩=some (.bool x2):=(World.cell?_of_block (a:=⟨b,2,none⟩) (hG1.block b hb)).trans h2;have k3:=hg1.size;simp [go_sem] at k3;obtain ⟨a1,c1,rfl⟩:=ho1.slice;have HO1:=hid (show OwnL wA (w.heap.size+g1.length+1) (.slice a1 2 c1) [0,4] from ho1);have HG1:=hid hG1;clear ho1 hg1 hd1 hG1;go_wp2_with (at_builtin;go_loud (refine wpList_append_f zok rfl _ _ rfl (w.heap.size+g1.length+1) _ [0,4] rfl (HO1.out.grew gw0) _ 1 2 rfl ?cz ?mx ?bs ?_))
     case cz=>simp [go_sem]
     case mx=>simp
     case bs=>first | (simp [go_sem];done) | (simp [go_sem];omega)
     intro v2 wB ho2 hg2 hd2;have j1:wB.cell? ⟨w.heap.size+g1.length,1,none⟩=some (.slice (some ⟨b,2,none⟩) 2 4):=hg2.cell (by simp [go_sem,k1,show w.heap.size+g1.length<wA.heap.size by omega]) (fun e=>by have:w.heap.size+g1.length+1≤w.heap.size+g1.length:=HO1.out.above _ e.symm;omega);have hG2:Grew w wB:=Grew.by (w':=_) (HG1.out.trans gw0) hg2 hd2 (fun j hj=>by have:=HO1.out.above j hj;omega)
     have j2:wB.cell? ⟨b,2,none⟩=some (.bool x2):=(World.cell?_of_block (a:=⟨b,2,none⟩) (hG2.block b hb)).trans h2;have j3:b<wB.heap.size:=Nat.lt_of_lt_of_le hb hG2.size;obtain ⟨a2,c2,rfl⟩:=ho2.slice;have HG2:=hid hG2;clear ho2 hg2 hd2 hG2 HG1 HO1 k1 k2 k3;go_wp2_with fail
     refine (bit_any _ _).mono ?_;rintro e w' ⟨rfl,rfl⟩;cases x2;all_goals
      have HV:=HR.out;obtain ⟨e0,e1,e2,e3,e4,e5⟩:=HE.out;simp only [tr4,e0,e2,e4,Nat.reduceDiv,Nat.reduceMod,Nat.reduceBEq,Nat.reduceAdd,Bool.xor_false,Bool.xor_true,Bool.not_true,Bool.not_false,Bool.toNat_true,Bool.toNat_false,Nat.reduceMul,Bool.false_eq_true, ↓reduceIte] at HV;subst HV;clear e0 e1 e2 e3 e4 e5 HE HR;go_wp2_with fail
      exact bodyPost_ret (v:=.tuple #[.int .i64 _,.slice a2 3 c2]) (by simp [results,go_sem]) rfl ⟨⟨_,rfl⟩,HG2.out⟩
   · go_enter func106,ntmps106
     go_wp2_with fail
     refine (split4 b _).mono ?_;rintro e w' ⟨rfl,g1,n1,rfl⟩;go_wp2_with fail
     refine (count2 _).mono ?_;rintro e w' ⟨rfl,rfl⟩;go_wp2_with fail
     refine (bit_any _ _).mono ?_;rintro e w' ⟨rfl,rfl⟩;go_wp2_with fail
     refine (trace2_0 b 4 _ _ true _ _ (by simp [go_sem];omega) (by simp only [go_sem,q0,hb,h4]) (by omega)).mono ?_;rintro e w' ⟨rfl,rfl⟩;go_wp2_with (at_builtin;go_loud (refine wpList_append_f zok rfl _ _ rfl (w.heap.size+g1.length+1) _ [0] rfl ?ho _ 1 4 rfl ?cz ?mx ?bs ?_))
     case ho =>
      refine OwnL.grew (w:=?W211) ?_ ?g11
      case g11=>repeat (first | exact Grew.refl _ | refine Grew.drewN ?_ _)
      exact ownL_lit' (by first | (simp [go_sem];done) | (simp [go_sem];omega)) (by simp [go_sem]) _
     case cz=>simp [go_sem]
     case mx=>simp
     case bs=>first | (simp [go_sem];done) | (simp [go_sem];omega)
     intro v1 wA ho1 hg1 hd1;have k1:wA.cell? ⟨w.heap.size+g1.length,1,none⟩=some (.slice (some ⟨b,2,none⟩) 2 4):=hg1.cell (by simp [go_sem]) (by simp [Value.ownBlock];omega);have hG1:Grew w wA:=Grew.by (w':=_) gw0 hg1 hd1 (by simp [Value.ownBlock];omega)
     have k2:wA.cell? ⟨b,3,none⟩=some (.bool x3):=(World.cell?_of_block (a:=⟨b,3,none⟩) (hG1.block b hb)).trans h3;have k3:=hg1.size;simp [go_sem] at k3;obtain ⟨a1,c1,rfl⟩:=ho1.slice;have HO1:=hid (show OwnL wA (w.heap.size+g1.length+1) (.slice a1 2 c1) [0,4] from ho1);have HG1:=hid hG1;clear ho1 hg1 hd1 hG1;go_wp2_with (at_builtin;go_loud (refine wpList_append_f zok rfl _ _ rfl (w.heap.size+g1.length+1) _ [0,4] rfl (HO1.out.grew gw0) _ 1 3 rfl ?cz ?mx ?bs ?_))
     case cz=>simp [go_sem]
     case mx=>simp
     case bs=>first | (simp [go_sem];done) | (simp [go_sem];omega)
     intro v2 wB ho2 hg2 hd2;have j1:wB.cell? ⟨w.heap.size+g1.length,1,none⟩=some (.slice (some ⟨b,2,none⟩) 2 4):=hg2.cell (by simp [go_sem,k1,show w.heap.size+g1.length<wA.heap.size by omega]) (fun e=>by have:w.heap.size+g1.length+1≤w.heap.size+g1.length:=HO1.out.above _ e.symm;omega);have hG2:Grew w wB:=Grew.by (w':=_) (HG1.out.trans gw0) hg2 hd2 (fun j hj=>by have:=HO1.out.above j hj;omega)
     have j2:wB.cell? ⟨b,3,none⟩=some (.bool x3):=(World.cell?_of_block (a:=⟨b,3,none⟩) (hG2.block b hb)).trans h3;have j3:b<wB.heap.size:=Nat.lt_of_lt_of_le hb hG2.size;obtain ⟨a2,c2,rfl⟩:=ho2.slice;have HG2:=hid hG2;clear ho2 hg2 hd2 hG2 HG1 HO1 k1 k2 k3;go_wp2_with fail
     refine (bit_any _ _).mono ?_;rintro e w' ⟨rfl,rfl⟩;cases x3;all_goals
      have HV:=HR.out;obtain ⟨e0,e1,e2,e3,e4,e5⟩:=HE.out;simp only [tr4,e0,e3,e4,Nat.reduceDiv,Nat.reduceMod,Nat.reduceBEq,Nat.reduceAdd,Bool.xor_false,Bool.xor_true,Bool.not_true,Bool.not_false,Bool.toNat_true,Bool.toNat_false,Nat.reduceMul,Bool.false_eq_true, ↓reduceIte] at HV;subst HV;clear e0 e1 e2 e3 e4 e5 HE HR;go_wp2_with fail
      exact bodyPost_ret (v:=.tuple #[.int .i64 _,.slice a2 3 c2]) (by simp [results,go_sem]) rfl ⟨⟨_,rfl⟩,HG2.out⟩
end Go.Proofs.Ghw
