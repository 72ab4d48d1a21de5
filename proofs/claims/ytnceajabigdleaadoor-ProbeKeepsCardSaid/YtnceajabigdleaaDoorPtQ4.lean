/- Layer 9, in main's ghost: Agrees of both. Condition: the test's settings lie in memory. -/
import Derived.Test.YtnceajabigdleaaDoorPtQ3
import Derived.Test.YtnceajabigdleaaDoorPtH3
namespace Go.Proofs.Qm
open Go Go.Pt Go.RowKit
theorem fit_one (n:Int) (t:Tst) (b:Nat) (w:World) (hn:n=2∨n=4) (hl:t.len≤9223372036854775807) (hb:b<w.heap.size) (h0:w.cell? ⟨b,0,none⟩=some (.slice t.a t.len t.cap)) (h1:w.cell? ⟨b,1,none⟩=some (.int .i64 t.i)) (h2:w.cell? ⟨b,2,none⟩=some (.int .i64 t.o)) :
  Calls prog 40 #[.int .i64 n,.slice (some ⟨b,0,none⟩) 1 1] w fun e w'=>e=.returned (.bool (tstB n t))∧Grew w w':=by
 have h:=fit_some n b 0 1 [t] w hn hb (by simp) (fun i z hz=>by
  match i,hz with
  | 0, hz =>
    obtain rfl:t=z:=by simpa using hz
    exact ⟨⟨by simpa using h0,by simpa using h1,by simpa using h2⟩,hl⟩)
 have e:(decide ([t].length≤40)&&tstsB n [t])=tstB n t:=by simp [tstsB]
 rw [e] at h;exact h
set_option maxRecDepth 100000 in
set_option maxHeartbeats 8000000 in
theorem Agrees_yes (n o:Int) (N m s i b off cap:Nat) (l:List Bool) (w:World) (hn:(n=2∧N=2∧m=2∧l.length=1)∨(n=4∧N=64∧m=4∧l.length=6)) (hs:s<N) (hi:i<m) (ho:0≤o∧o≤n - 1) (hb:b<w.heap.size) (hc:BlsAt w b off l) :
  Calls prog 24 #[.int .i64 n,.int .i64 s,.agg #[.slice (some ⟨b,off,none⟩) l.length cap,.int .i64 i,.int .i64 o]] w fun e w'=>e=.returned (.tuple #[.bool (((refA n (thB s l) i:Nat):Int)==o),.int .i64 0])∧Grew w w':=by
 have hn2:n=2∨n=4:=hn.imp (fun h=>h.1) (fun h=>h.1);have HK:=hid fun w=>known_any n s w
 have HF:=hid fun w' B=>fit_one n ⟨some ⟨b,off,none⟩,l.length,cap,i,o⟩ B w' hn2 (show l.length≤9223372036854775807 by omega)
 have HT:=hid fun w=>tables_any n N m (by rcases hn with ⟨a,b,c,_⟩ | ⟨a,b,c,_⟩;exact .inl ⟨a,b,c⟩;exact .inr ⟨a,b,c⟩) w
 have HA:=hid fun w' (hg:Grew w w') C (hT:Tab w' m N C)=>answer_any (n:=m) (N:=N) (C:=C) s i b off cap l (refA n (thB s l) i:Nat) w' (Nat.lt_of_lt_of_le hb hg.size) (by omega) (hc.grew hb hg) hT (by rcases hn with ⟨_,h2,_,h4⟩ | ⟨_,h2,_,h4⟩ <;> rw [h4,h2]) hs hi (by omega)
  (by rcases hn with ⟨h1,_,h3,_⟩ | ⟨h1,_,h3,_⟩ <;> (subst h1;subst h3;first | exact table2 s l i hi | exact table4 s l i hi))
 rw [show stB n s=true by rcases hn with ⟨rfl,rfl,_⟩ | ⟨rfl,rfl,_⟩ <;> simp [stB] <;> omega] at HK;rw [show tstB n ⟨some ⟨b,off,none⟩,l.length,cap,i,o⟩=true by rcases hn with ⟨rfl,_,rfl,h4⟩ | ⟨rfl,_,rfl,h4⟩ <;> simp [tstB,fitB,h4,cntZ] <;> omega] at HF;dsimp only at HF;have hl6:l.length≤6:=by omega
 obtain ⟨r,hr⟩:∃ r,refA n (thB s l) i=r:=⟨_,rfl⟩;rw [hr] at HA ⊢;clear hr hc hn ho;obtain ⟨L,hL⟩:∃ L,l.length=L:=⟨_,rfl⟩;rw [hL] at HF HA hl6 ⊢;clear hL hn2;go_enter func24,ntmps24
 go_wp2_with fail
 refine (HK.out _).mono ?_;rintro e w' ⟨rfl,rfl⟩;go_wp2_with fail
 refine (HF.out _ _ (by simp [go_sem]) (by simp [go_sem]) (by simp [go_sem]) (by simp [go_sem])).mono ?_;rintro e w' ⟨rfl,g,k,rfl⟩;go_wp2_with fail
 refine R4.wp_region_slots 11 (fun ix vs W=>match ix with | 0=>vs 0=.int .i64 n | 1=>∃ C,vs 1=.slice (some ⟨C,0,none⟩) N N∧Tab W m N C | 2=>vs 2=.int .i64 s | 3=>vs 3=.pointer (some ⟨w.heap.size,0,none⟩) | 4=>vs 4=.slice (some ⟨b,off,none⟩) L cap | 5=>vs 5=.pointer (some ⟨w.heap.size,1,none⟩) | 6=>vs 6=.int .i64 i | 7=>vs 7=.int .i64 r | 8=>vs 8=.pointer (some ⟨w.heap.size,2,none⟩) | 9=>vs 9=.int .i64 o | 10=>vs 10=.bool ((r:Int)==o) | _=>True) (by kernel_rfl) (by kernel_rfl) ?slst ?sldep ?slop ?slq
 case slst =>
  intro ix vs W W' h hg;match ix,h with
  | 0,h=>exact h
  | 1,h=>obtain ⟨C,h1,h2⟩:=h;exact ⟨C,h1,h2.grew hg⟩
  | 2,h=>exact h
  | 3,h=>exact h
  | 4,h=>exact h
  | 5,h=>exact h
  | 6,h=>exact h
  | 7,h=>exact h
  | 8,h=>exact h
  | 9,h=>exact h
  | 10,h=>exact h
  | _+11,_=>trivial
 case sldep =>
  intro ix o vs vs' W hix ho h hv hn;match ix,hix,ho,h,hv with
  | 0,_,_,h,hv=>exact Eq.trans hv h
  | 1,_,_,h,hv=>show ∃ C,vs' 1=.slice (some ⟨C,0,none⟩) N N∧Tab W m N C;rw [hv];exact h
  | 2,_,_,h,hv=>exact Eq.trans hv h
  | 3,_,_,h,hv=>exact Eq.trans hv h
  | 4,_,_,h,hv=>exact Eq.trans hv h
  | 5,_,_,h,hv=>exact Eq.trans hv h
  | 6,_,_,h,hv=>exact Eq.trans hv h
  | 7,_,_,h,hv=>exact Eq.trans hv h
  | 8,_,_,h,hv=>exact Eq.trans hv h
  | 9,_,_,h,hv=>exact Eq.trans hv h
  | 10,_,_,h,hv=>exact Eq.trans hv h
  | kx+11,hix,_,_,_=>exact absurd hix (by omega)
 case slop =>
  intro ix o hix ho vs W L hg hL hn hall;match ix,hix,ho,hL with
  | 0, _, ho, _ =>
    obtain rfl:=Option.some.inj ho;change R4.Oper.slotAt _ _ { tmps:=_,defers:=_ } _ _;obtain ⟨gq,nq,rfl⟩:=hg;go_simp;exact ⟨R4.upd_same _ _ _,.inl gw0⟩
  | 1, _, ho, _ =>
    obtain rfl:=Option.some.inj ho;have hn0:=(hn 0 (by decide)).2;try dsimp only at hn0
    change R4.Oper.slotAt _ _ (Act.put _ (some 19) (vs 0)) _ _;conv=>arg 3;rw [hn0]
    clear hn0;obtain ⟨gq,nq,rfl⟩:=hg;go_simp;refine (HT.out _).mono ?_;rintro e w' ⟨C,rfl,hT,gr⟩;exact ⟨_,rfl,by rw [R4.upd_same];exact ⟨C,rfl,hT⟩,.inl gr⟩
  | 2, _, ho, _ =>
    obtain rfl:=Option.some.inj ho;change R4.Oper.slotAt _ _ { tmps:=_,defers:=_ } _ _;obtain ⟨gq,nq,rfl⟩:=hg;go_simp;exact ⟨R4.upd_same _ _ _,.inl gw0⟩
  | 3, _, ho, _ =>
    obtain rfl:=Option.some.inj ho;change R4.Oper.slotAt _ _ { tmps:=_,defers:=_ } _ _;obtain ⟨gq,nq,rfl⟩:=hg;go_simp;exact ⟨R4.upd_same _ _ _,.inl gw0⟩
  | 4, _, ho, _ =>
    obtain rfl:=Option.some.inj ho;have hn3:=(hn 3 (by decide)).2;try dsimp only at hn3
    change R4.Oper.slotAt _ _ (Act.put _ (some 22) (vs 3)) _ _;conv=>arg 3;rw [hn3]
    clear hn3;obtain ⟨gq,nq,rfl⟩:=hg;go_simp;exact ⟨R4.upd_same _ _ _,.inl gw0⟩
  | 5, _, ho, _ =>
    obtain rfl:=Option.some.inj ho;change R4.Oper.slotAt _ _ { tmps:=_,defers:=_ } _ _;obtain ⟨gq,nq,rfl⟩:=hg;go_simp;exact ⟨R4.upd_same _ _ _,.inl gw0⟩
  | 6, _, ho, _ =>
    obtain rfl:=Option.some.inj ho;have hn5:=(hn 5 (by decide)).2;try dsimp only at hn5
    change R4.Oper.slotAt _ _ (Act.put _ (some 24) (vs 5)) _ _;conv=>arg 3;rw [hn5]
    clear hn5;obtain ⟨gq,nq,rfl⟩:=hg;go_simp;exact ⟨R4.upd_same _ _ _,.inl gw0⟩
  | 7, _, ho, _ =>
    obtain rfl:=Option.some.inj ho;have hn1:=(hn 1 (by decide)).2;have hn2:=(hn 2 (by decide)).2;have hn4:=(hn 4 (by decide)).2;have hn6:=(hn 6 (by decide)).2;try dsimp only at hn1 hn2 hn4 hn6
    change R4.Oper.slotAt _ _ (Act.put (Act.put (Act.put (Act.put _ (some 20) (vs 1)) (some 21) (vs 2)) (some 23) (vs 4)) (some 25) (vs 6)) _ _;conv=>arg 3;rw [hn2,hn4,hn6]
    clear hn2 hn4 hn6;obtain ⟨C,hC,hT⟩:=hn1;conv=>arg 3;rw [hC]
    clear hC;have HA2:=hid (HA.out _ (Grew.trans gw0 hg) C hT);clear hT;go_simp;refine HA2.out.mono ?_;rintro e w' ⟨rfl,rfl⟩;exact ⟨_,rfl,R4.upd_same _ _ _,.inl (Grew.refl _)⟩
  | 8, _, ho, _ =>
    obtain rfl:=Option.some.inj ho;change R4.Oper.slotAt _ _ { tmps:=_,defers:=_ } _ _;obtain ⟨gq,nq,rfl⟩:=hg;go_simp;exact ⟨R4.upd_same _ _ _,.inl gw0⟩
  | 9, _, ho, _ =>
    obtain rfl:=Option.some.inj ho;have hn8:=(hn 8 (by decide)).2;try dsimp only at hn8
    change R4.Oper.slotAt _ _ (Act.put _ (some 27) (vs 8)) _ _;conv=>arg 3;rw [hn8]
    clear hn8;obtain ⟨gq,nq,rfl⟩:=hg;go_simp;exact ⟨R4.upd_same _ _ _,.inl gw0⟩
  | 10, _, ho, _ =>
    obtain rfl:=Option.some.inj ho;have hn7:=(hn 7 (by decide)).2;have hn9:=(hn 9 (by decide)).2;try dsimp only at hn7 hn9
    change R4.Oper.slotAt _ _ (Act.put (Act.put _ (some 26) (vs 7)) (some 28) (vs 9)) _ _;conv=>arg 3;rw [hn7,hn9]
    clear hn7 hn9;obtain ⟨gq,nq,rfl⟩:=hg;go_simp;exact ⟨R4.upd_same _ _ _,.inl gw0⟩
  | kx+11,hix,_,_=>exact absurd hix (by omega)
 case slq =>
  intro vs W hg hn;have hn0:=hn 0 (by decide) (by decide);have hn1:=hn 1 (by decide) (by decide);have hn2:=hn 2 (by decide) (by decide);have hn3:=hn 3 (by decide) (by decide);have hn4:=hn 4 (by decide) (by decide);have hn5:=hn 5 (by decide) (by decide);have hn6:=hn 6 (by decide) (by decide);have hn7:=hn 7 (by decide) (by decide);have hn8:=hn 8 (by decide) (by decide);have hn9:=hn 9 (by decide) (by decide);have hn10:=hn 10 (by decide) (by decide);change wpList _ _ _ _ (Act.put (Act.put (Act.put (Act.put (Act.put (Act.put (Act.put (Act.put (Act.put (Act.put (Act.put _ (some 19) (vs 0)) (some 20) (vs 1)) (some 21) (vs 2)) (some 22) (vs 3)) (some 23) (vs 4)) (some 24) (vs 5)) (some 25) (vs 6)) (some 26) (vs 7)) (some 27) (vs 8)) (some 28) (vs 9)) (some 29) (vs 10)) _;rw [hn0,hn2,hn3,hn4,hn5,hn6,hn7,hn8,hn9,hn10];clear hn hn0 hn2 hn3 hn4 hn5 hn6 hn7 hn8 hn9 hn10;simp only [Act.put,List.setIfInBounds_toArray,List.set_cons_zero,List.set_cons_succ,List.drop_succ_cons,List.drop_zero];have HG:=hid (Grew.trans (a:=w) gw0 hg);clear hg;go_wp2_with fail
  exact bodyPost_ret (v:=.tuple #[.bool ((r:Int)==o),.int .i64 0]) (by simp [results,go_sem]) rfl ⟨rfl,(by repeat (first | exact HG.out | refine Grew.drewN ?_ _ | refine Grew.grow ?_ _ | refine Grew.alloc ?_ _ | refine Grew.drew ?_))⟩
end Go.Proofs.Qm
