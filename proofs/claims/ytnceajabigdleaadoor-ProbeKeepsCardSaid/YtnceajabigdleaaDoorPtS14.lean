/- Layer: where light comes out, of the program. No condition. -/
import Derived.Test.YtnceajabigdleaaDoorPtS13
namespace Go.Proofs.Ghw
open Go Go.Pt Go.RowKit
set_option maxHeartbeats 8000000 in
theorem trace4_2 (b:Nat) (s:Nat→Bool) (w:World) (hb:b<w.heap.size) (H:∀ j,j<6→w.cell? ⟨b,j,none⟩=some (.bool (s j))) :
  Calls prog 106 #[.int .i64 4,.slice (some ⟨b,0,none⟩) 6 6,.int .i64 2,.int .i64 0] w fun e w'=>(∃ m,e=.returned (.tuple #[.int .i64 (tr4 s 2:Nat),m]))∧Grew w w':=by
 have q0:∀ a,b<w.heap.size+a:=fun _=>by omega
 have q1:∀ a c,b<w.heap.size+a+c:=fun _ _=>by omega
 have q2:∀ a c d,b<w.heap.size+a+c+d:=fun _ _ _=>by omega
 have q3:∀ a c d e,b<w.heap.size+a+c+d+e:=fun _ _ _ _=>by omega
 have h0:=H 0 (by omega);have h1:=H 1 (by omega);have h2:=H 2 (by omega);have h3:=H 3 (by omega);have h4:=H 4 (by omega);have h5:=H 5 (by omega);obtain ⟨x0,e0⟩:∃ x,s 0=x:=⟨_,rfl⟩;rw [e0] at h0;obtain ⟨x1,e1⟩:∃ x,s 1=x:=⟨_,rfl⟩;rw [e1] at h1;obtain ⟨x2,e2⟩:∃ x,s 2=x:=⟨_,rfl⟩;rw [e2] at h2;obtain ⟨x3,e3⟩:∃ x,s 3=x:=⟨_,rfl⟩;rw [e3] at h3;obtain ⟨x4,e4⟩:∃ x,s 4=x:=⟨_,rfl⟩;rw [e4] at h4;obtain ⟨x5,e5⟩:∃ x,s 5=x:=⟨_,rfl⟩;rw [e5] at h5;have HE:=hid (show s 0=x0∧s 1=x1∧s 2=x2∧s 3=x3∧s 4=x4∧s 5=x5 from ⟨e0,e1,e2,e3,e4,e5⟩);clear H e0 e1 e2 e3 e4 e5;have d00:bits .xor .i64 0 0=0:=by decide
 have d01:bits .xor .i64 0 1=1:=by decide
 have d10:bits .xor .i64 1 0=1:=by decide
 have d11:bits .xor .i64 1 1=0:=by decide
 have d20:bits .xor .i64 2 0=2:=by decide
 have d21:bits .xor .i64 2 1=3:=by decide
 have d30:bits .xor .i64 3 0=3:=by decide
 have d31:bits .xor .i64 3 1=2:=by decide
 have m0:bits .and .i64 0 1=0:=by decide
 have m1:bits .and .i64 1 1=1:=by decide
 have m2:bits .and .i64 2 1=0:=by decide
 have m3:bits .and .i64 3 1=1:=by decide
 generalize hR:tr4 s 2=R;have HR:=hid hR;clear hR;cases x1
 · cases x4
   · go_enter func106,ntmps106
     go_wp2_with fail
     refine (split4 b _).mono ?_;rintro e w' ⟨rfl,g1,n1,rfl⟩;go_wp2_with fail
     refine (count2 _).mono ?_;rintro e w' ⟨rfl,rfl⟩;go_wp2_with fail
     refine (bit_any _ _).mono ?_;rintro e w' ⟨rfl,rfl⟩;go_wp2_with fail
     refine (trace2_1 b 4 _ _ false _ _ (by simp [go_sem];omega) (by simp only [go_sem,q0,hb,h4]) (by omega)).mono ?_;rintro e w' ⟨rfl,rfl⟩;go_wp2_with (at_builtin;go_loud (refine wpList_append_f zok rfl _ _ rfl (w.heap.size+g1.length+1) _ [1] rfl ?ho _ 1 4 rfl ?cz ?mx ?bs ?_))
     case ho =>
      refine OwnL.grew (w:=?W200) ?_ ?g00
      case g00=>repeat (first | exact Grew.refl _ | refine Grew.drewN ?_ _)
      exact ownL_lit' (by first | (simp [go_sem];done) | (simp [go_sem];omega)) (by simp [go_sem]) _
     case cz=>simp [go_sem]
     case mx=>simp
     case bs=>first | (simp [go_sem];done) | (simp [go_sem];omega)
     intro v1 wA ho1 hg1 hd1;have k1:wA.cell? ⟨w.heap.size+g1.length,1,none⟩=some (.slice (some ⟨b,2,none⟩) 2 4):=hg1.cell (by simp [go_sem]) (by simp [Value.ownBlock];omega);have hG1:Grew w wA:=Grew.by (w':=_) gw0 hg1 hd1 (by simp [Value.ownBlock];omega)
     have k2:wA.cell? ⟨b,3,none⟩=some (.bool x3):=(World.cell?_of_block (a:=⟨b,3,none⟩) (hG1.block b hb)).trans h3;have k3:=hg1.size;simp [go_sem] at k3;obtain ⟨a1,c1,rfl⟩:=ho1.slice;have HO1:=hid (show OwnL wA (w.heap.size+g1.length+1) (.slice a1 2 c1) [1,4] from ho1);have HG1:=hid hG1;clear ho1 hg1 hd1 hG1;go_wp2_with (at_builtin;go_loud (refine wpList_append_f zok rfl _ _ rfl (w.heap.size+g1.length+1) _ [1,4] rfl (HO1.out.grew gw0) _ 1 3 rfl ?cz ?mx ?bs ?_))
     case cz=>simp [go_sem]
     case mx=>simp
     case bs=>first | (simp [go_sem];done) | (simp [go_sem];omega)
     intro v2 wB ho2 hg2 hd2;have j1:wB.cell? ⟨w.heap.size+g1.length,1,none⟩=some (.slice (some ⟨b,2,none⟩) 2 4):=hg2.cell (by simp [go_sem,k1,show w.heap.size+g1.length<wA.heap.size by omega]) (fun e=>by have:w.heap.size+g1.length+1≤w.heap.size+g1.length:=HO1.out.above _ e.symm;omega);have hG2:Grew w wB:=Grew.by (w':=_) (HG1.out.trans gw0) hg2 hd2 (fun j hj=>by have:=HO1.out.above j hj;omega)
     have j2:wB.cell? ⟨b,3,none⟩=some (.bool x3):=(World.cell?_of_block (a:=⟨b,3,none⟩) (hG2.block b hb)).trans h3;have j3:b<wB.heap.size:=Nat.lt_of_lt_of_le hb hG2.size;obtain ⟨a2,c2,rfl⟩:=ho2.slice;have HG2:=hid hG2;clear ho2 hg2 hd2 hG2 HG1 HO1 k1 k2 k3;go_wp2_with fail
     refine (bit_any _ _).mono ?_;rintro e w' ⟨rfl,rfl⟩;cases x3;all_goals
      have HV:=HR.out;obtain ⟨e0,e1,e2,e3,e4,e5⟩:=HE.out;simp only [tr4,e1,e3,e4,Nat.reduceDiv,Nat.reduceMod,Nat.reduceBEq,Nat.reduceAdd,Bool.xor_false,Bool.xor_true,Bool.not_false,Bool.toNat_true,Bool.toNat_false,Nat.reduceMul,Bool.false_eq_true, ↓reduceIte] at HV;subst HV;clear e0 e1 e2 e3 e4 e5 HE HR;go_wp2_with fail
      exact bodyPost_ret (v:=.tuple #[.int .i64 _,.slice a2 3 c2]) (by simp [results,go_sem]) rfl ⟨⟨_,rfl⟩,HG2.out⟩
   · go_enter func106,ntmps106
     go_wp2_with fail
     refine (split4 b _).mono ?_;rintro e w' ⟨rfl,g1,n1,rfl⟩;go_wp2_with fail
     refine (count2 _).mono ?_;rintro e w' ⟨rfl,rfl⟩;go_wp2_with fail
     refine (bit_any _ _).mono ?_;rintro e w' ⟨rfl,rfl⟩;go_wp2_with fail
     refine (trace2_1 b 4 _ _ true _ _ (by simp [go_sem];omega) (by simp only [go_sem,q0,hb,h4]) (by omega)).mono ?_;rintro e w' ⟨rfl,rfl⟩;go_wp2_with (at_builtin;go_loud (refine wpList_append_f zok rfl _ _ rfl (w.heap.size+g1.length+1) _ [1] rfl ?ho _ 1 4 rfl ?cz ?mx ?bs ?_))
     case ho =>
      refine OwnL.grew (w:=?W201) ?_ ?g01
      case g01=>repeat (first | exact Grew.refl _ | refine Grew.drewN ?_ _)
      exact ownL_lit' (by first | (simp [go_sem];done) | (simp [go_sem];omega)) (by simp [go_sem]) _
     case cz=>simp [go_sem]
     case mx=>simp
     case bs=>first | (simp [go_sem];done) | (simp [go_sem];omega)
     intro v1 wA ho1 hg1 hd1;have k1:wA.cell? ⟨w.heap.size+g1.length,1,none⟩=some (.slice (some ⟨b,2,none⟩) 2 4):=hg1.cell (by simp [go_sem]) (by simp [Value.ownBlock];omega);have hG1:Grew w wA:=Grew.by (w':=_) gw0 hg1 hd1 (by simp [Value.ownBlock];omega)
     have k2:wA.cell? ⟨b,2,none⟩=some (.bool x2):=(World.cell?_of_block (a:=⟨b,2,none⟩) (hG1.block b hb)).trans h2;have k3:=hg1.size;simp [go_sem] at k3;obtain ⟨a1,c1,rfl⟩:=ho1.slice;have HO1:=hid (show OwnL wA (w.heap.size+g1.length+1) (.slice a1 2 c1) [1,4] from ho1);have HG1:=hid hG1;clear ho1 hg1 hd1 hG1;go_wp2_with (at_builtin;go_loud (refine wpList_append_f zok rfl _ _ rfl (w.heap.size+g1.length+1) _ [1,4] rfl (HO1.out.grew gw0) _ 1 2 rfl ?cz ?mx ?bs ?_))
     case cz=>simp [go_sem]
     case mx=>simp
     case bs=>first | (simp [go_sem];done) | (simp [go_sem];omega)
     intro v2 wB ho2 hg2 hd2;have j1:wB.cell? ⟨w.heap.size+g1.length,1,none⟩=some (.slice (some ⟨b,2,none⟩) 2 4):=hg2.cell (by simp [go_sem,k1,show w.heap.size+g1.length<wA.heap.size by omega]) (fun e=>by have:w.heap.size+g1.length+1≤w.heap.size+g1.length:=HO1.out.above _ e.symm;omega);have hG2:Grew w wB:=Grew.by (w':=_) (HG1.out.trans gw0) hg2 hd2 (fun j hj=>by have:=HO1.out.above j hj;omega)
     have j2:wB.cell? ⟨b,2,none⟩=some (.bool x2):=(World.cell?_of_block (a:=⟨b,2,none⟩) (hG2.block b hb)).trans h2;have j3:b<wB.heap.size:=Nat.lt_of_lt_of_le hb hG2.size;obtain ⟨a2,c2,rfl⟩:=ho2.slice;have HG2:=hid hG2;clear ho2 hg2 hd2 hG2 HG1 HO1 k1 k2 k3;go_wp2_with fail
     refine (bit_any _ _).mono ?_;rintro e w' ⟨rfl,rfl⟩;cases x2;all_goals
      have HV:=HR.out;obtain ⟨e0,e1,e2,e3,e4,e5⟩:=HE.out;simp only [tr4,e1,e2,e4,Nat.reduceDiv,Nat.reduceMod,Nat.reduceBEq,Nat.reduceAdd,Bool.xor_false,Bool.xor_true,Bool.not_true,Bool.not_false,Bool.toNat_true,Bool.toNat_false,Nat.reduceMul,Bool.false_eq_true, ↓reduceIte] at HV;subst HV;clear e0 e1 e2 e3 e4 e5 HE HR;go_wp2_with fail
      exact bodyPost_ret (v:=.tuple #[.int .i64 _,.slice a2 3 c2]) (by simp [results,go_sem]) rfl ⟨⟨_,rfl⟩,HG2.out⟩
 · cases x5
   · go_enter func106,ntmps106
     go_wp2_with fail
     refine (split4 b _).mono ?_;rintro e w' ⟨rfl,g1,n1,rfl⟩;go_wp2_with fail
     refine (count2 _).mono ?_;rintro e w' ⟨rfl,rfl⟩;go_wp2_with fail
     refine (bit_any _ _).mono ?_;rintro e w' ⟨rfl,rfl⟩;go_wp2_with fail
     refine (trace2_1 b 5 _ _ false _ _ (by simp [go_sem];omega) (by simp only [go_sem,q0,hb,h5]) (by omega)).mono ?_;rintro e w' ⟨rfl,rfl⟩;go_wp2_with (at_builtin;go_loud (refine wpList_append_f zok rfl _ _ rfl (w.heap.size+g1.length+1) _ [1] rfl ?ho _ 1 5 rfl ?cz ?mx ?bs ?_))
     case ho =>
      refine OwnL.grew (w:=?W210) ?_ ?g10
      case g10=>repeat (first | exact Grew.refl _ | refine Grew.drewN ?_ _)
      exact ownL_lit' (by first | (simp [go_sem];done) | (simp [go_sem];omega)) (by simp [go_sem]) _
     case cz=>simp [go_sem]
     case mx=>simp
     case bs=>first | (simp [go_sem];done) | (simp [go_sem];omega)
     intro v1 wA ho1 hg1 hd1;have k1:wA.cell? ⟨w.heap.size+g1.length,1,none⟩=some (.slice (some ⟨b,2,none⟩) 2 4):=hg1.cell (by simp [go_sem]) (by simp [Value.ownBlock];omega);have hG1:Grew w wA:=Grew.by (w':=_) gw0 hg1 hd1 (by simp [Value.ownBlock];omega)
     have k2:wA.cell? ⟨b,3,none⟩=some (.bool x3):=(World.cell?_of_block (a:=⟨b,3,none⟩) (hG1.block b hb)).trans h3;have k3:=hg1.size;simp [go_sem] at k3;obtain ⟨a1,c1,rfl⟩:=ho1.slice;have HO1:=hid (show OwnL wA (w.heap.size+g1.length+1) (.slice a1 2 c1) [1,5] from ho1);have HG1:=hid hG1;clear ho1 hg1 hd1 hG1;go_wp2_with (at_builtin;go_loud (refine wpList_append_f zok rfl _ _ rfl (w.heap.size+g1.length+1) _ [1,5] rfl (HO1.out.grew gw0) _ 1 3 rfl ?cz ?mx ?bs ?_))
     case cz=>simp [go_sem]
     case mx=>simp
     case bs=>first | (simp [go_sem];done) | (simp [go_sem];omega)
     intro v2 wB ho2 hg2 hd2;have j1:wB.cell? ⟨w.heap.size+g1.length,1,none⟩=some (.slice (some ⟨b,2,none⟩) 2 4):=hg2.cell (by simp [go_sem,k1,show w.heap.size+g1.length<wA.heap.size by omega]) (fun e=>by have:w.heap.size+g1.length+1≤w.heap.size+g1.length:=HO1.out.above _ e.symm;omega);have hG2:Grew w wB:=Grew.by (w':=_) (HG1.out.trans gw0) hg2 hd2 (fun j hj=>by have:=HO1.out.above j hj;omega)
     have j2:wB.cell? ⟨b,3,none⟩=some (.bool x3):=(World.cell?_of_block (a:=⟨b,3,none⟩) (hG2.block b hb)).trans h3;have j3:b<wB.heap.size:=Nat.lt_of_lt_of_le hb hG2.size;obtain ⟨a2,c2,rfl⟩:=ho2.slice;have HG2:=hid hG2;clear ho2 hg2 hd2 hG2 HG1 HO1 k1 k2 k3;go_wp2_with fail
     refine (bit_any _ _).mono ?_;rintro e w' ⟨rfl,rfl⟩;cases x3;all_goals
      have HV:=HR.out;obtain ⟨e0,e1,e2,e3,e4,e5⟩:=HE.out;simp only [tr4,e1,e3,e5,Nat.reduceDiv,Nat.reduceMod,Nat.reduceBEq,Nat.reduceAdd,Bool.xor_false,Bool.xor_true,Bool.not_true,Bool.not_false,Bool.toNat_true,Bool.toNat_false,Nat.reduceMul, ↓reduceIte] at HV;subst HV;clear e0 e1 e2 e3 e4 e5 HE HR;go_wp2_with fail
      exact bodyPost_ret (v:=.tuple #[.int .i64 _,.slice a2 3 c2]) (by simp [results,go_sem]) rfl ⟨⟨_,rfl⟩,HG2.out⟩
   · go_enter func106,ntmps106
     go_wp2_with fail
     refine (split4 b _).mono ?_;rintro e w' ⟨rfl,g1,n1,rfl⟩;go_wp2_with fail
     refine (count2 _).mono ?_;rintro e w' ⟨rfl,rfl⟩;go_wp2_with fail
     refine (bit_any _ _).mono ?_;rintro e w' ⟨rfl,rfl⟩;go_wp2_with fail
     refine (trace2_1 b 5 _ _ true _ _ (by simp [go_sem];omega) (by simp only [go_sem,q0,hb,h5]) (by omega)).mono ?_;rintro e w' ⟨rfl,rfl⟩;go_wp2_with (at_builtin;go_loud (refine wpList_append_f zok rfl _ _ rfl (w.heap.size+g1.length+1) _ [1] rfl ?ho _ 1 5 rfl ?cz ?mx ?bs ?_))
     case ho =>
      refine OwnL.grew (w:=?W211) ?_ ?g11
      case g11=>repeat (first | exact Grew.refl _ | refine Grew.drewN ?_ _)
      exact ownL_lit' (by first | (simp [go_sem];done) | (simp [go_sem];omega)) (by simp [go_sem]) _
     case cz=>simp [go_sem]
     case mx=>simp
     case bs=>first | (simp [go_sem];done) | (simp [go_sem];omega)
     intro v1 wA ho1 hg1 hd1;have k1:wA.cell? ⟨w.heap.size+g1.length,1,none⟩=some (.slice (some ⟨b,2,none⟩) 2 4):=hg1.cell (by simp [go_sem]) (by simp [Value.ownBlock];omega);have hG1:Grew w wA:=Grew.by (w':=_) gw0 hg1 hd1 (by simp [Value.ownBlock];omega)
     have k2:wA.cell? ⟨b,2,none⟩=some (.bool x2):=(World.cell?_of_block (a:=⟨b,2,none⟩) (hG1.block b hb)).trans h2;have k3:=hg1.size;simp [go_sem] at k3;obtain ⟨a1,c1,rfl⟩:=ho1.slice;have HO1:=hid (show OwnL wA (w.heap.size+g1.length+1) (.slice a1 2 c1) [1,5] from ho1);have HG1:=hid hG1;clear ho1 hg1 hd1 hG1;go_wp2_with (at_builtin;go_loud (refine wpList_append_f zok rfl _ _ rfl (w.heap.size+g1.length+1) _ [1,5] rfl (HO1.out.grew gw0) _ 1 2 rfl ?cz ?mx ?bs ?_))
     case cz=>simp [go_sem]
     case mx=>simp
     case bs=>first | (simp [go_sem];done) | (simp [go_sem];omega)
     intro v2 wB ho2 hg2 hd2;have j1:wB.cell? ⟨w.heap.size+g1.length,1,none⟩=some (.slice (some ⟨b,2,none⟩) 2 4):=hg2.cell (by simp [go_sem,k1,show w.heap.size+g1.length<wA.heap.size by omega]) (fun e=>by have:w.heap.size+g1.length+1≤w.heap.size+g1.length:=HO1.out.above _ e.symm;omega);have hG2:Grew w wB:=Grew.by (w':=_) (HG1.out.trans gw0) hg2 hd2 (fun j hj=>by have:=HO1.out.above j hj;omega)
     have j2:wB.cell? ⟨b,2,none⟩=some (.bool x2):=(World.cell?_of_block (a:=⟨b,2,none⟩) (hG2.block b hb)).trans h2;have j3:b<wB.heap.size:=Nat.lt_of_lt_of_le hb hG2.size;obtain ⟨a2,c2,rfl⟩:=ho2.slice;have HG2:=hid hG2;clear ho2 hg2 hd2 hG2 HG1 HO1 k1 k2 k3;go_wp2_with fail
     refine (bit_any _ _).mono ?_;rintro e w' ⟨rfl,rfl⟩;cases x2;all_goals
      have HV:=HR.out;obtain ⟨e0,e1,e2,e3,e4,e5⟩:=HE.out;simp only [tr4,e1,e2,e5,Nat.reduceDiv,Nat.reduceMod,Nat.reduceBEq,Nat.reduceAdd,Bool.xor_false,Bool.xor_true,Bool.not_true,Bool.not_false,Bool.toNat_true,Bool.toNat_false,Nat.reduceMul, ↓reduceIte] at HV;subst HV;clear e0 e1 e2 e3 e4 e5 HE HR;go_wp2_with fail
      exact bodyPost_ret (v:=.tuple #[.int .i64 _,.slice a2 3 c2]) (by simp [results,go_sem]) rfl ⟨⟨_,rfl⟩,HG2.out⟩
set_option maxHeartbeats 8000000 in
theorem trace4_3 (b:Nat) (s:Nat→Bool) (w:World) (hb:b<w.heap.size) (H:∀ j,j<6→w.cell? ⟨b,j,none⟩=some (.bool (s j))) :
  Calls prog 106 #[.int .i64 4,.slice (some ⟨b,0,none⟩) 6 6,.int .i64 3,.int .i64 0] w fun e w'=>(∃ m,e=.returned (.tuple #[.int .i64 (tr4 s 3:Nat),m]))∧Grew w w':=by
 have q0:∀ a,b<w.heap.size+a:=fun _=>by omega
 have q1:∀ a c,b<w.heap.size+a+c:=fun _ _=>by omega
 have q2:∀ a c d,b<w.heap.size+a+c+d:=fun _ _ _=>by omega
 have q3:∀ a c d e,b<w.heap.size+a+c+d+e:=fun _ _ _ _=>by omega
 have h0:=H 0 (by omega);have h1:=H 1 (by omega);have h2:=H 2 (by omega);have h3:=H 3 (by omega);have h4:=H 4 (by omega);have h5:=H 5 (by omega);obtain ⟨x0,e0⟩:∃ x,s 0=x:=⟨_,rfl⟩;rw [e0] at h0;obtain ⟨x1,e1⟩:∃ x,s 1=x:=⟨_,rfl⟩;rw [e1] at h1;obtain ⟨x2,e2⟩:∃ x,s 2=x:=⟨_,rfl⟩;rw [e2] at h2;obtain ⟨x3,e3⟩:∃ x,s 3=x:=⟨_,rfl⟩;rw [e3] at h3;obtain ⟨x4,e4⟩:∃ x,s 4=x:=⟨_,rfl⟩;rw [e4] at h4;obtain ⟨x5,e5⟩:∃ x,s 5=x:=⟨_,rfl⟩;rw [e5] at h5;have HE:=hid (show s 0=x0∧s 1=x1∧s 2=x2∧s 3=x3∧s 4=x4∧s 5=x5 from ⟨e0,e1,e2,e3,e4,e5⟩);clear H e0 e1 e2 e3 e4 e5;have d00:bits .xor .i64 0 0=0:=by decide
 have d01:bits .xor .i64 0 1=1:=by decide
 have d10:bits .xor .i64 1 0=1:=by decide
 have d11:bits .xor .i64 1 1=0:=by decide
 have d20:bits .xor .i64 2 0=2:=by decide
 have d21:bits .xor .i64 2 1=3:=by decide
 have d30:bits .xor .i64 3 0=3:=by decide
 have d31:bits .xor .i64 3 1=2:=by decide
 have m0:bits .and .i64 0 1=0:=by decide
 have m1:bits .and .i64 1 1=1:=by decide
 have m2:bits .and .i64 2 1=0:=by decide
 have m3:bits .and .i64 3 1=1:=by decide
 generalize hR:tr4 s 3=R;have HR:=hid hR;clear hR;cases x1
 · cases x5
   · go_enter func106,ntmps106
     go_wp2_with fail
     refine (split4 b _).mono ?_;rintro e w' ⟨rfl,g1,n1,rfl⟩;go_wp2_with fail
     refine (count2 _).mono ?_;rintro e w' ⟨rfl,rfl⟩;go_wp2_with fail
     refine (bit_any _ _).mono ?_;rintro e w' ⟨rfl,rfl⟩;go_wp2_with fail
     refine (trace2_1 b 5 _ _ false _ _ (by simp [go_sem];omega) (by simp only [go_sem,q0,hb,h5]) (by omega)).mono ?_;rintro e w' ⟨rfl,rfl⟩;go_wp2_with (at_builtin;go_loud (refine wpList_append_f zok rfl _ _ rfl (w.heap.size+g1.length+1) _ [1] rfl ?ho _ 1 5 rfl ?cz ?mx ?bs ?_))
     case ho =>
      refine OwnL.grew (w:=?W200) ?_ ?g00
      case g00=>repeat (first | exact Grew.refl _ | refine Grew.drewN ?_ _)
      exact ownL_lit' (by first | (simp [go_sem];done) | (simp [go_sem];omega)) (by simp [go_sem]) _
     case cz=>simp [go_sem]
     case mx=>simp
     case bs=>first | (simp [go_sem];done) | (simp [go_sem];omega)
     intro v1 wA ho1 hg1 hd1;have k1:wA.cell? ⟨w.heap.size+g1.length,1,none⟩=some (.slice (some ⟨b,2,none⟩) 2 4):=hg1.cell (by simp [go_sem]) (by simp [Value.ownBlock];omega);have hG1:Grew w wA:=Grew.by (w':=_) gw0 hg1 hd1 (by simp [Value.ownBlock];omega)
     have k2:wA.cell? ⟨b,3,none⟩=some (.bool x3):=(World.cell?_of_block (a:=⟨b,3,none⟩) (hG1.block b hb)).trans h3;have k3:=hg1.size;simp [go_sem] at k3;obtain ⟨a1,c1,rfl⟩:=ho1.slice;have HO1:=hid (show OwnL wA (w.heap.size+g1.length+1) (.slice a1 2 c1) [1,5] from ho1);have HG1:=hid hG1;clear ho1 hg1 hd1 hG1;go_wp2_with (at_builtin;go_loud (refine wpList_append_f zok rfl _ _ rfl (w.heap.size+g1.length+1) _ [1,5] rfl (HO1.out.grew gw0) _ 1 3 rfl ?cz ?mx ?bs ?_))
     case cz=>simp [go_sem]
     case mx=>simp
     case bs=>first | (simp [go_sem];done) | (simp [go_sem];omega)
     intro v2 wB ho2 hg2 hd2;have j1:wB.cell? ⟨w.heap.size+g1.length,1,none⟩=some (.slice (some ⟨b,2,none⟩) 2 4):=hg2.cell (by simp [go_sem,k1,show w.heap.size+g1.length<wA.heap.size by omega]) (fun e=>by have:w.heap.size+g1.length+1≤w.heap.size+g1.length:=HO1.out.above _ e.symm;omega);have hG2:Grew w wB:=Grew.by (w':=_) (HG1.out.trans gw0) hg2 hd2 (fun j hj=>by have:=HO1.out.above j hj;omega)
     have j2:wB.cell? ⟨b,3,none⟩=some (.bool x3):=(World.cell?_of_block (a:=⟨b,3,none⟩) (hG2.block b hb)).trans h3;have j3:b<wB.heap.size:=Nat.lt_of_lt_of_le hb hG2.size;obtain ⟨a2,c2,rfl⟩:=ho2.slice;have HG2:=hid hG2;clear ho2 hg2 hd2 hG2 HG1 HO1 k1 k2 k3;go_wp2_with fail
     refine (bit_any _ _).mono ?_;rintro e w' ⟨rfl,rfl⟩;cases x3;all_goals
      have HV:=HR.out;obtain ⟨e0,e1,e2,e3,e4,e5⟩:=HE.out;simp only [tr4,e1,e3,e5,Nat.reduceDiv,Nat.reduceMod,Nat.reduceBEq,Nat.reduceAdd,Bool.xor_false,Bool.xor_true,Bool.not_true,Bool.toNat_true,Bool.toNat_false,Nat.reduceMul, ↓reduceIte] at HV;subst HV;clear e0 e1 e2 e3 e4 e5 HE HR;go_wp2_with fail
      exact bodyPost_ret (v:=.tuple #[.int .i64 _,.slice a2 3 c2]) (by simp [results,go_sem]) rfl ⟨⟨_,rfl⟩,HG2.out⟩
   · go_enter func106,ntmps106
     go_wp2_with fail
     refine (split4 b _).mono ?_;rintro e w' ⟨rfl,g1,n1,rfl⟩;go_wp2_with fail
     refine (count2 _).mono ?_;rintro e w' ⟨rfl,rfl⟩;go_wp2_with fail
     refine (bit_any _ _).mono ?_;rintro e w' ⟨rfl,rfl⟩;go_wp2_with fail
     refine (trace2_1 b 5 _ _ true _ _ (by simp [go_sem];omega) (by simp only [go_sem,q0,hb,h5]) (by omega)).mono ?_;rintro e w' ⟨rfl,rfl⟩;go_wp2_with (at_builtin;go_loud (refine wpList_append_f zok rfl _ _ rfl (w.heap.size+g1.length+1) _ [1] rfl ?ho _ 1 5 rfl ?cz ?mx ?bs ?_))
     case ho =>
      refine OwnL.grew (w:=?W201) ?_ ?g01
      case g01=>repeat (first | exact Grew.refl _ | refine Grew.drewN ?_ _)
      exact ownL_lit' (by first | (simp [go_sem];done) | (simp [go_sem];omega)) (by simp [go_sem]) _
     case cz=>simp [go_sem]
     case mx=>simp
     case bs=>first | (simp [go_sem];done) | (simp [go_sem];omega)
     intro v1 wA ho1 hg1 hd1;have k1:wA.cell? ⟨w.heap.size+g1.length,1,none⟩=some (.slice (some ⟨b,2,none⟩) 2 4):=hg1.cell (by simp [go_sem]) (by simp [Value.ownBlock];omega);have hG1:Grew w wA:=Grew.by (w':=_) gw0 hg1 hd1 (by simp [Value.ownBlock];omega)
     have k2:wA.cell? ⟨b,2,none⟩=some (.bool x2):=(World.cell?_of_block (a:=⟨b,2,none⟩) (hG1.block b hb)).trans h2;have k3:=hg1.size;simp [go_sem] at k3;obtain ⟨a1,c1,rfl⟩:=ho1.slice;have HO1:=hid (show OwnL wA (w.heap.size+g1.length+1) (.slice a1 2 c1) [1,5] from ho1);have HG1:=hid hG1;clear ho1 hg1 hd1 hG1;go_wp2_with (at_builtin;go_loud (refine wpList_append_f zok rfl _ _ rfl (w.heap.size+g1.length+1) _ [1,5] rfl (HO1.out.grew gw0) _ 1 2 rfl ?cz ?mx ?bs ?_))
     case cz=>simp [go_sem]
     case mx=>simp
     case bs=>first | (simp [go_sem];done) | (simp [go_sem];omega)
     intro v2 wB ho2 hg2 hd2;have j1:wB.cell? ⟨w.heap.size+g1.length,1,none⟩=some (.slice (some ⟨b,2,none⟩) 2 4):=hg2.cell (by simp [go_sem,k1,show w.heap.size+g1.length<wA.heap.size by omega]) (fun e=>by have:w.heap.size+g1.length+1≤w.heap.size+g1.length:=HO1.out.above _ e.symm;omega);have hG2:Grew w wB:=Grew.by (w':=_) (HG1.out.trans gw0) hg2 hd2 (fun j hj=>by have:=HO1.out.above j hj;omega)
     have j2:wB.cell? ⟨b,2,none⟩=some (.bool x2):=(World.cell?_of_block (a:=⟨b,2,none⟩) (hG2.block b hb)).trans h2;have j3:b<wB.heap.size:=Nat.lt_of_lt_of_le hb hG2.size;obtain ⟨a2,c2,rfl⟩:=ho2.slice;have HG2:=hid hG2;clear ho2 hg2 hd2 hG2 HG1 HO1 k1 k2 k3;go_wp2_with fail
     refine (bit_any _ _).mono ?_;rintro e w' ⟨rfl,rfl⟩;cases x2;all_goals
      have HV:=HR.out;obtain ⟨e0,e1,e2,e3,e4,e5⟩:=HE.out;simp only [tr4,e1,e2,e5,Nat.reduceDiv,Nat.reduceMod,Nat.reduceBEq,Nat.reduceAdd,Bool.xor_false,Bool.xor_true,Bool.not_true,Bool.toNat_true,Bool.toNat_false,Nat.reduceMul, ↓reduceIte] at HV;subst HV;clear e0 e1 e2 e3 e4 e5 HE HR;go_wp2_with fail
      exact bodyPost_ret (v:=.tuple #[.int .i64 _,.slice a2 3 c2]) (by simp [results,go_sem]) rfl ⟨⟨_,rfl⟩,HG2.out⟩
 · cases x4
   · go_enter func106,ntmps106
     go_wp2_with fail
     refine (split4 b _).mono ?_;rintro e w' ⟨rfl,g1,n1,rfl⟩;go_wp2_with fail
     refine (count2 _).mono ?_;rintro e w' ⟨rfl,rfl⟩;go_wp2_with fail
     refine (bit_any _ _).mono ?_;rintro e w' ⟨rfl,rfl⟩;go_wp2_with fail
     refine (trace2_1 b 4 _ _ false _ _ (by simp [go_sem];omega) (by simp only [go_sem,q0,hb,h4]) (by omega)).mono ?_;rintro e w' ⟨rfl,rfl⟩;go_wp2_with (at_builtin;go_loud (refine wpList_append_f zok rfl _ _ rfl (w.heap.size+g1.length+1) _ [1] rfl ?ho _ 1 4 rfl ?cz ?mx ?bs ?_))
     case ho =>
      refine OwnL.grew (w:=?W210) ?_ ?g10
      case g10=>repeat (first | exact Grew.refl _ | refine Grew.drewN ?_ _)
      exact ownL_lit' (by first | (simp [go_sem];done) | (simp [go_sem];omega)) (by simp [go_sem]) _
     case cz=>simp [go_sem]
     case mx=>simp
     case bs=>first | (simp [go_sem];done) | (simp [go_sem];omega)
     intro v1 wA ho1 hg1 hd1;have k1:wA.cell? ⟨w.heap.size+g1.length,1,none⟩=some (.slice (some ⟨b,2,none⟩) 2 4):=hg1.cell (by simp [go_sem]) (by simp [Value.ownBlock];omega);have hG1:Grew w wA:=Grew.by (w':=_) gw0 hg1 hd1 (by simp [Value.ownBlock];omega)
     have k2:wA.cell? ⟨b,3,none⟩=some (.bool x3):=(World.cell?_of_block (a:=⟨b,3,none⟩) (hG1.block b hb)).trans h3;have k3:=hg1.size;simp [go_sem] at k3;obtain ⟨a1,c1,rfl⟩:=ho1.slice;have HO1:=hid (show OwnL wA (w.heap.size+g1.length+1) (.slice a1 2 c1) [1,4] from ho1);have HG1:=hid hG1;clear ho1 hg1 hd1 hG1;go_wp2_with (at_builtin;go_loud (refine wpList_append_f zok rfl _ _ rfl (w.heap.size+g1.length+1) _ [1,4] rfl (HO1.out.grew gw0) _ 1 3 rfl ?cz ?mx ?bs ?_))
     case cz=>simp [go_sem]
     case mx=>simp
     case bs=>first | (simp [go_sem];done) | (simp [go_sem];omega)
     intro v2 wB ho2 hg2 hd2;have j1:wB.cell? ⟨w.heap.size+g1.length,1,none⟩=some (.slice (some ⟨b,2,none⟩) 2 4):=hg2.cell (by simp [go_sem,k1,show w.heap.size+g1.length<wA.heap.size by omega]) (fun e=>by have:w.heap.size+g1.length+1≤w.heap.size+g1.length:=HO1.out.above _ e.symm;omega);have hG2:Grew w wB:=Grew.by (w':=_) (HG1.out.trans gw0) hg2 hd2 (fun j hj=>by have:=HO1.out.above j hj;omega)
     have j2:wB.cell? ⟨b,3,none⟩=some (.bool x3):=(World.cell?_of_block (a:=⟨b,3,none⟩) (hG2.block b hb)).trans h3;have j3:b<wB.heap.size:=Nat.lt_of_lt_of_le hb hG2.size;obtain ⟨a2,c2,rfl⟩:=ho2.slice;have HG2:=hid hG2;clear ho2 hg2 hd2 hG2 HG1 HO1 k1 k2 k3;go_wp2_with fail
     refine (bit_any _ _).mono ?_;rintro e w' ⟨rfl,rfl⟩;cases x3;all_goals
      have HV:=HR.out;obtain ⟨e0,e1,e2,e3,e4,e5⟩:=HE.out;simp only [tr4,e1,e3,e4,Nat.reduceDiv,Nat.reduceMod,Nat.reduceBEq,Nat.reduceAdd,Bool.xor_false,Bool.xor_true,Bool.not_true,Bool.not_false,Bool.toNat_true,Bool.toNat_false,Nat.reduceMul,Bool.false_eq_true, ↓reduceIte] at HV;subst HV;clear e0 e1 e2 e3 e4 e5 HE HR;go_wp2_with fail
      exact bodyPost_ret (v:=.tuple #[.int .i64 _,.slice a2 3 c2]) (by simp [results,go_sem]) rfl ⟨⟨_,rfl⟩,HG2.out⟩
   · go_enter func106,ntmps106
     go_wp2_with fail
     refine (split4 b _).mono ?_;rintro e w' ⟨rfl,g1,n1,rfl⟩;go_wp2_with fail
     refine (count2 _).mono ?_;rintro e w' ⟨rfl,rfl⟩;go_wp2_with fail
     refine (bit_any _ _).mono ?_;rintro e w' ⟨rfl,rfl⟩;go_wp2_with fail
     refine (trace2_1 b 4 _ _ true _ _ (by simp [go_sem];omega) (by simp only [go_sem,q0,hb,h4]) (by omega)).mono ?_;rintro e w' ⟨rfl,rfl⟩;go_wp2_with (at_builtin;go_loud (refine wpList_append_f zok rfl _ _ rfl (w.heap.size+g1.length+1) _ [1] rfl ?ho _ 1 4 rfl ?cz ?mx ?bs ?_))
     case ho =>
      refine OwnL.grew (w:=?W211) ?_ ?g11
      case g11=>repeat (first | exact Grew.refl _ | refine Grew.drewN ?_ _)
      exact ownL_lit' (by first | (simp [go_sem];done) | (simp [go_sem];omega)) (by simp [go_sem]) _
     case cz=>simp [go_sem]
     case mx=>simp
     case bs=>first | (simp [go_sem];done) | (simp [go_sem];omega)
     intro v1 wA ho1 hg1 hd1;have k1:wA.cell? ⟨w.heap.size+g1.length,1,none⟩=some (.slice (some ⟨b,2,none⟩) 2 4):=hg1.cell (by simp [go_sem]) (by simp [Value.ownBlock];omega);have hG1:Grew w wA:=Grew.by (w':=_) gw0 hg1 hd1 (by simp [Value.ownBlock];omega)
     have k2:wA.cell? ⟨b,2,none⟩=some (.bool x2):=(World.cell?_of_block (a:=⟨b,2,none⟩) (hG1.block b hb)).trans h2;have k3:=hg1.size;simp [go_sem] at k3;obtain ⟨a1,c1,rfl⟩:=ho1.slice;have HO1:=hid (show OwnL wA (w.heap.size+g1.length+1) (.slice a1 2 c1) [1,4] from ho1);have HG1:=hid hG1;clear ho1 hg1 hd1 hG1;go_wp2_with (at_builtin;go_loud (refine wpList_append_f zok rfl _ _ rfl (w.heap.size+g1.length+1) _ [1,4] rfl (HO1.out.grew gw0) _ 1 2 rfl ?cz ?mx ?bs ?_))
     case cz=>simp [go_sem]
     case mx=>simp
     case bs=>first | (simp [go_sem];done) | (simp [go_sem];omega)
     intro v2 wB ho2 hg2 hd2;have j1:wB.cell? ⟨w.heap.size+g1.length,1,none⟩=some (.slice (some ⟨b,2,none⟩) 2 4):=hg2.cell (by simp [go_sem,k1,show w.heap.size+g1.length<wA.heap.size by omega]) (fun e=>by have:w.heap.size+g1.length+1≤w.heap.size+g1.length:=HO1.out.above _ e.symm;omega);have hG2:Grew w wB:=Grew.by (w':=_) (HG1.out.trans gw0) hg2 hd2 (fun j hj=>by have:=HO1.out.above j hj;omega)
     have j2:wB.cell? ⟨b,2,none⟩=some (.bool x2):=(World.cell?_of_block (a:=⟨b,2,none⟩) (hG2.block b hb)).trans h2;have j3:b<wB.heap.size:=Nat.lt_of_lt_of_le hb hG2.size;obtain ⟨a2,c2,rfl⟩:=ho2.slice;have HG2:=hid hG2;clear ho2 hg2 hd2 hG2 HG1 HO1 k1 k2 k3;go_wp2_with fail
     refine (bit_any _ _).mono ?_;rintro e w' ⟨rfl,rfl⟩;cases x2;all_goals
      have HV:=HR.out;obtain ⟨e0,e1,e2,e3,e4,e5⟩:=HE.out;simp only [tr4,e1,e2,e4,Nat.reduceDiv,Nat.reduceMod,Nat.reduceBEq,Nat.reduceAdd,Bool.xor_false,Bool.xor_true,Bool.not_true,Bool.not_false,Bool.toNat_true,Bool.toNat_false,Nat.reduceMul,Bool.false_eq_true, ↓reduceIte] at HV;subst HV;clear e0 e1 e2 e3 e4 e5 HE HR;go_wp2_with fail
      exact bodyPost_ret (v:=.tuple #[.int .i64 _,.slice a2 3 c2]) (by simp [results,go_sem]) rfl ⟨⟨_,rfl⟩,HG2.out⟩
open Go Go.Pt Go.RowKit
theorem cell_grew {w w':World} {b n:Nat} {s:Nat→Bool} (H:∀ j,j<n→w.cell? ⟨b,j,none⟩=some (.bool (s j))) (hb:b<w.heap.size) (g:Grew w w'):∀ j,j<n→w'.cell? ⟨b,j,none⟩=some (.bool (s j)) :=
 fun j hj=>(World.cell?_of_block (a:=⟨b,j,none⟩) (g.block b hb)).trans (H j hj)
theorem thr2 (s:Nat→Bool):thr 2 s=[if s 0 then 1 else 0,if s 0 then 0 else 1]:=by
 unfold thr;cases s 0 <;> rfl
theorem thr4 (s:Nat→Bool):thr 4 s=[(tr4 s 0:Int),(tr4 s 1:Int),(tr4 s 2:Int),(tr4 s 3:Int)]:=rfl
set_option maxHeartbeats 4000000 in
theorem through2 (b:Nat) (s:Nat→Bool) (w:World) (hb:b<w.heap.size) (H:∀ j,j<1→w.cell? ⟨b,j,none⟩=some (.bool (s j))) :
  Calls prog 95 #[.int .i64 2,.slice (some ⟨b,0,none⟩) 1 1] w fun e w'=>(∃ v,e=.returned v∧OwnL w' w.heap.size v (thr 2 s))∧Grew w w':=by
 have HC:=hid (fun w' (g:Grew w w')=>cell_grew H hb g);have HT0:=hid (fun w' (g:Grew w w')=>trace2_0 b 0 1 1 (s 0) 0 w' (Nat.lt_of_lt_of_le hb g.size) (cell_grew H hb g 0 (by omega)) (by omega) |>.mono (fun e w'' h=>(show (∃ m,e=.returned (.tuple #[.int .i64 (if s 0 then (1:Int) else 0),m]))∧Grew w' w'' from ⟨⟨_,h.1⟩,h.2 ▸ (Grew.refl _).alloc _⟩)));have HT1:=hid (fun w' (g:Grew w w')=>trace2_1 b 0 1 1 (s 0) 0 w' (Nat.lt_of_lt_of_le hb g.size) (cell_grew H hb g 0 (by omega)) (by omega) |>.mono (fun e w'' h=>(show (∃ m,e=.returned (.tuple #[.int .i64 (if s 0 then (0:Int) else 1),m]))∧Grew w' w'' from ⟨⟨_,h.1⟩,h.2 ▸ (Grew.refl _).alloc _⟩)));rw [thr2];obtain ⟨R0,hR0⟩:∃ R,(if s 0 then (1:Int) else 0)=R:=⟨_,rfl⟩;rw [hR0] at HT0 ⊢;clear hR0;obtain ⟨R1,hR1⟩:∃ R,(if s 0 then (0:Int) else 1)=R:=⟨_,rfl⟩;rw [hR1] at HT1 ⊢;clear hR1;clear H HC;go_enter func95,ntmps95
 go_wp2_with fail
 refine wp_loop_rounds 3 ?_;simp only [rounds_succ];go_wp2_with fail
 refine (HT0.out _ gw0).mono ?_;rintro e wT ⟨⟨m,rfl⟩,gT⟩;have HX0:=hid (show Grew w wT from by
  refine Grew.trans ?_ gT;exact gw0)
 have hs0:=HX0.out.size;clear gT;go_wp2_with (at_builtin;go_loud (refine wpList_append_f zok rfl _ _ rfl w.heap.size _ [] rfl (.inl ⟨rfl,rfl⟩) _ 1 R0 rfl ?cz ?mx ?bs ?_))
 case cz=>simp [go_sem]
 case mx=>simp
 case bs=>first | (simp [go_sem];done) | (simp [go_sem];omega)
 intro v1 W1 ho hgb hd;have HG1:=hid (show Grew w W1 from Grew.by (w':=_) (HX0.out.alloc _) hgb hd (fun j hj=>by simp [Value.ownBlock] at hj));obtain ⟨a1,c1,rfl⟩:=ho.slice;have HO1:=hid (show OwnL W1 w.heap.size (.slice a1 1 c1) [R0] from ho);clear ho hgb hd;go_wp2_with fail
 simp only [rounds_succ];go_wp2_with fail
 refine (HT1.out _ (HG1.out.trans gw0)).mono ?_;rintro e wT ⟨⟨m,rfl⟩,gT⟩;have HX1:=hid (show Grew w wT from by
  refine Grew.trans ?_ gT;exact (HG1.out.trans gw0))
 have HX:=hid (show Grew W1 wT from by
  refine Grew.trans ?_ gT;exact gw0)
 have hs1:=HX1.out.size;clear gT;go_wp2_with (at_builtin;go_loud (refine wpList_append_f zok rfl _ _ rfl w.heap.size _ [R0] rfl (HO1.out.grew (HX.out.alloc _)) _ 1 R1 rfl ?cz ?mx ?bs ?_))
 case cz=>simp [go_sem]
 case mx=>simp
 case bs=>first | (simp [go_sem];done) | (simp [go_sem];omega)
 intro v2 W2 ho hgb hd;have HG2:=hid (show Grew w W2 from Grew.by (w':=_) (HX1.out.alloc _) hgb hd (fun j hj=>HO1.out.above j hj));obtain ⟨a2,c2,rfl⟩:=ho.slice;have HO2:=hid (show OwnL W2 w.heap.size (.slice a2 2 c2) [R0,R1] from ho);clear ho hgb hd;go_wp2_with fail
 simp only [rounds_succ];go_wp2_with fail
 exact bodyPost_ret (v:=.slice a2 2 c2) (by simp [results,go_sem]) rfl ⟨⟨_,rfl,HO2.out⟩,HG2.out⟩
set_option maxHeartbeats 4000000 in
theorem through4 (b:Nat) (s:Nat→Bool) (w:World) (hb:b<w.heap.size) (H:∀ j,j<6→w.cell? ⟨b,j,none⟩=some (.bool (s j))) :
  Calls prog 95 #[.int .i64 4,.slice (some ⟨b,0,none⟩) 6 6] w fun e w'=>(∃ v,e=.returned v∧OwnL w' w.heap.size v (thr 4 s))∧Grew w w':=by
 have HC:=hid (fun w' (g:Grew w w')=>cell_grew H hb g);have HT0:=hid (fun w' (g:Grew w w')=>trace4_0 b s w' (Nat.lt_of_lt_of_le hb g.size) (cell_grew H hb g));have HT1:=hid (fun w' (g:Grew w w')=>trace4_1 b s w' (Nat.lt_of_lt_of_le hb g.size) (cell_grew H hb g));have HT2:=hid (fun w' (g:Grew w w')=>trace4_2 b s w' (Nat.lt_of_lt_of_le hb g.size) (cell_grew H hb g));have HT3:=hid (fun w' (g:Grew w w')=>trace4_3 b s w' (Nat.lt_of_lt_of_le hb g.size) (cell_grew H hb g));rw [thr4];obtain ⟨R0,hR0⟩:∃ R,(tr4 s 0:Int)=R:=⟨_,rfl⟩;rw [hR0] at HT0 ⊢;clear hR0;obtain ⟨R1,hR1⟩:∃ R,(tr4 s 1:Int)=R:=⟨_,rfl⟩;rw [hR1] at HT1 ⊢;clear hR1;obtain ⟨R2,hR2⟩:∃ R,(tr4 s 2:Int)=R:=⟨_,rfl⟩;rw [hR2] at HT2 ⊢;clear hR2;obtain ⟨R3,hR3⟩:∃ R,(tr4 s 3:Int)=R:=⟨_,rfl⟩;rw [hR3] at HT3 ⊢;clear hR3;clear H HC;go_enter func95,ntmps95
 go_wp2_with fail
 refine wp_loop_rounds 5 ?_;simp only [rounds_succ];go_wp2_with fail
 refine (HT0.out _ gw0).mono ?_;rintro e wT ⟨⟨m,rfl⟩,gT⟩;have HX0:=hid (show Grew w wT from by
  refine Grew.trans ?_ gT;exact gw0)
 have hs0:=HX0.out.size;clear gT;go_wp2_with (at_builtin;go_loud (refine wpList_append_f zok rfl _ _ rfl w.heap.size _ [] rfl (.inl ⟨rfl,rfl⟩) _ 1 R0 rfl ?cz ?mx ?bs ?_))
 case cz=>simp [go_sem]
 case mx=>simp
 case bs=>first | (simp [go_sem];done) | (simp [go_sem];omega)
 intro v1 W1 ho hgb hd;have HG1:=hid (show Grew w W1 from Grew.by (w':=_) (HX0.out.alloc _) hgb hd (fun j hj=>by simp [Value.ownBlock] at hj));obtain ⟨a1,c1,rfl⟩:=ho.slice;have HO1:=hid (show OwnL W1 w.heap.size (.slice a1 1 c1) [R0] from ho);clear ho hgb hd;go_wp2_with fail
 simp only [rounds_succ];go_wp2_with fail
 refine (HT1.out _ (HG1.out.trans gw0)).mono ?_;rintro e wT ⟨⟨m,rfl⟩,gT⟩;have HX1:=hid (show Grew w wT from by
  refine Grew.trans ?_ gT;exact (HG1.out.trans gw0))
 have HX:=hid (show Grew W1 wT from by
  refine Grew.trans ?_ gT;exact gw0)
 have hs1:=HX1.out.size;clear gT;go_wp2_with (at_builtin;go_loud (refine wpList_append_f zok rfl _ _ rfl w.heap.size _ [R0] rfl (HO1.out.grew (HX.out.alloc _)) _ 1 R1 rfl ?cz ?mx ?bs ?_))
 case cz=>simp [go_sem]
 case mx=>simp
 case bs=>first | (simp [go_sem];done) | (simp [go_sem];omega)
 intro v2 W2 ho hgb hd;have HG2:=hid (show Grew w W2 from Grew.by (w':=_) (HX1.out.alloc _) hgb hd (fun j hj=>HO1.out.above j hj));obtain ⟨a2,c2,rfl⟩:=ho.slice;have HO2:=hid (show OwnL W2 w.heap.size (.slice a2 2 c2) [R0,R1] from ho);clear ho hgb hd;go_wp2_with fail
 simp only [rounds_succ];go_wp2_with fail
 refine (HT2.out _ (HG2.out.trans gw0)).mono ?_;rintro e wT ⟨⟨m,rfl⟩,gT⟩;have HX2:=hid (show Grew w wT from by
  refine Grew.trans ?_ gT;exact (HG2.out.trans gw0))
 have HX:=hid (show Grew W2 wT from by
  refine Grew.trans ?_ gT;exact gw0)
 have hs2:=HX2.out.size;clear gT;go_wp2_with (at_builtin;go_loud (refine wpList_append_f zok rfl _ _ rfl w.heap.size _ [R0,R1] rfl (HO2.out.grew (HX.out.alloc _)) _ 1 R2 rfl ?cz ?mx ?bs ?_))
 case cz=>simp [go_sem]
 case mx=>simp
 case bs=>first | (simp [go_sem];done) | (simp [go_sem];omega)
 intro v3 W3 ho hgb hd;have HG3:=hid (show Grew w W3 from Grew.by (w':=_) (HX2.out.alloc _) hgb hd (fun j hj=>HO2.out.above j hj));obtain ⟨a3,c3,rfl⟩:=ho.slice;have HO3:=hid (show OwnL W3 w.heap.size (.slice a3 3 c3) [R0,R1,R2] from ho);clear ho hgb hd;go_wp2_with fail
 simp only [rounds_succ];go_wp2_with fail
 refine (HT3.out _ (HG3.out.trans gw0)).mono ?_;rintro e wT ⟨⟨m,rfl⟩,gT⟩;have HX3:=hid (show Grew w wT from by
  refine Grew.trans ?_ gT;exact (HG3.out.trans gw0))
 have HX:=hid (show Grew W3 wT from by
  refine Grew.trans ?_ gT;exact gw0)
 have hs3:=HX3.out.size;clear gT;go_wp2_with (at_builtin;go_loud (refine wpList_append_f zok rfl _ _ rfl w.heap.size _ [R0,R1,R2] rfl (HO3.out.grew (HX.out.alloc _)) _ 1 R3 rfl ?cz ?mx ?bs ?_))
 case cz=>simp [go_sem]
 case mx=>simp
 case bs=>first | (simp [go_sem];done) | (simp [go_sem];omega)
 intro v4 W4 ho hgb hd;have HG4:=hid (show Grew w W4 from Grew.by (w':=_) (HX3.out.alloc _) hgb hd (fun j hj=>HO3.out.above j hj));obtain ⟨a4,c4,rfl⟩:=ho.slice;have HO4:=hid (show OwnL W4 w.heap.size (.slice a4 4 c4) [R0,R1,R2,R3] from ho);clear ho hgb hd;go_wp2_with fail
 simp only [rounds_succ];go_wp2_with fail
 exact bodyPost_ret (v:=.slice a4 4 c4) (by simp [results,go_sem]) rfl ⟨⟨_,rfl,HO4.out⟩,HG4.out⟩
theorem Through2 (b:Nat) (s:Nat→Bool) (w:World) (hb:b<w.heap.size) (H:∀ j,j<1→w.cell? ⟨b,j,none⟩=some (.bool (s j))) :
  Calls prog 66 #[.int .i64 2,.slice (some ⟨b,0,none⟩) 1 1] w fun e w'=>(∃ v,e=.returned (.tuple #[v,.int .i64 0])∧OwnL w' w.heap.size v (thr 2 s))∧Grew w w':=by
 have HT:=hid (through2 b s w hb H);clear H;go_enter func66,ntmps66
 go_wp2_with fail
 refine (fits2 _ _ _).mono ?_;rintro e w' ⟨rfl,rfl⟩;go_wp2_with fail
 refine HT.out.mono ?_;rintro e w2 ⟨⟨v,rfl,ho⟩,hg⟩;have HO:=hid ho;have HG:=hid hg;clear ho hg;go_wp2_with fail
 exact bodyPost_ret (v:=.tuple #[v,.int .i64 0]) (by simp [results,go_sem]) rfl ⟨⟨v,rfl,HO.out⟩,HG.out⟩
theorem Through4 (b:Nat) (s:Nat→Bool) (w:World) (hb:b<w.heap.size) (H:∀ j,j<6→w.cell? ⟨b,j,none⟩=some (.bool (s j))) :
  Calls prog 66 #[.int .i64 4,.slice (some ⟨b,0,none⟩) 6 6] w fun e w'=>(∃ v,e=.returned (.tuple #[v,.int .i64 0])∧OwnL w' w.heap.size v (thr 4 s))∧Grew w w':=by
 have HT:=hid (through4 b s w hb H);clear H;go_enter func66,ntmps66
 go_wp2_with fail
 refine (fits4 _ _ _).mono ?_;rintro e w' ⟨rfl,rfl⟩;go_wp2_with fail
 refine HT.out.mono ?_;rintro e w2 ⟨⟨v,rfl,ho⟩,hg⟩;have HO:=hid ho;have HG:=hid hg;clear ho hg;go_wp2_with fail
 exact bodyPost_ret (v:=.tuple #[v,.int .i64 0]) (by simp [results,go_sem]) rfl ⟨⟨v,rfl,HO.out⟩,HG.out⟩
end Go.Proofs.Ghw
