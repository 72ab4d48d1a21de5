/- House lemmas, continued. No condition; no program in sight. -/
import Derived.Test.YtnceajabigdleaaDoorPtH3
import Derived.Maps.AppendAt
import Derived.Maps.Range
namespace Go
open Go.RowKit
instance:Inhabited GN:=⟨⟨[],0⟩⟩
theorem Calls.gentle_of {P:Program} {f:FuncId} {args:Array Value} {W:World} {v:Value} {F:GN→World}
  (h:Calls P f args W fun e w'=>e=.returned v∧Grew W w') (hF:∀ w',Grew W w'→∃ p,w'=F p):Calls P f args W fun e w''=>e=.returned v∧∃ p,w''=F p :=
 h.mono fun _ _ ⟨he,h⟩=>⟨he,hF _ h⟩
section
variable (W:World) (q:GN) (g0 g':List Obj) (c n':Nat)
theorem gentle_fin:∃ p:GN,(((W.grow q.g).drewN q.n).grow g').drewN n'=(W.grow p.g).drewN p.n :=
 ⟨⟨q.g++g',q.n+n'⟩,by simp only [World.grow_drewN,World.grow_grow,World.drewN_drewN]⟩
theorem gentle_fin_c:∃ p:GN,(((W.grow q.g).drewN (c+q.n)).grow g').drewN n'=(W.grow p.g).drewN (c+p.n) :=
 ⟨⟨q.g++g',q.n+n'⟩,by simp only [World.grow_drewN,World.grow_grow,World.drewN_drewN,Nat.add_assoc]⟩
theorem gentle_fin_g:∃ p:GN,(((W.grow (g0++q.g)).drewN q.n).grow g').drewN n'=(W.grow (g0++p.g)).drewN p.n :=
 ⟨⟨q.g++g',q.n+n'⟩,by simp only [World.grow_drewN,World.grow_grow,World.drewN_drewN,List.append_assoc]⟩
theorem gentle_fin_gc:∃ p:GN,(((W.grow (g0++q.g)).drewN (c+q.n)).grow g').drewN n'=(W.grow (g0++p.g)).drewN (c+p.n) :=
 ⟨⟨q.g++g',q.n+n'⟩,by simp only [World.grow_drewN,World.grow_grow,World.drewN_drewN,Nat.add_assoc,List.append_assoc]⟩
end
open Go.RowKit
section
variable (W:World) (q:GN) (g0 g1 g2 g3 g4 g':List Obj) (c n':Nat)
end
open Go.RowKit
theorem Grew.cell {a w:World} (h:Grew a w) {b:Nat} (hb:b<a.heap.size) (i:Nat):w.cell? ⟨b,i,none⟩=a.cell? ⟨b,i,none⟩ :=
 World.cell?_of_block (w:=a) (h.block b hb)
@[go_sem] theorem lt_suf15 (k a0 a1 a2 a3 a4 a5 a6 a7 a8 a9 a10 a11 a12 a13 a14:Nat):(k<k+1+a0+a1+a2+a3+a4+a5+a6+a7+a8+a9+a10+a11+a12+a13+a14)=True:=by simp only [eq_iff_iff,iff_true];omega
@[go_sem] theorem lt_suf16 (k a0 a1 a2 a3 a4 a5 a6 a7 a8 a9 a10 a11 a12 a13 a14 a15:Nat):(k<k+1+a0+a1+a2+a3+a4+a5+a6+a7+a8+a9+a10+a11+a12+a13+a14+a15)=True:=by simp only [eq_iff_iff,iff_true];omega
@[go_sem] theorem lt_suf17 (k a0 a1 a2 a3 a4 a5 a6 a7 a8 a9 a10 a11 a12 a13 a14 a15 a16:Nat):(k<k+1+a0+a1+a2+a3+a4+a5+a6+a7+a8+a9+a10+a11+a12+a13+a14+a15+a16)=True:=by simp only [eq_iff_iff,iff_true];omega
@[go_sem] theorem lt_suf18 (k a0 a1 a2 a3 a4 a5 a6 a7 a8 a9 a10 a11 a12 a13 a14 a15 a16 a17:Nat):(k<k+1+a0+a1+a2+a3+a4+a5+a6+a7+a8+a9+a10+a11+a12+a13+a14+a15+a16+a17)=True:=by simp only [eq_iff_iff,iff_true];omega
@[go_sem] theorem lt_suf19 (k a0 a1 a2 a3 a4 a5 a6 a7 a8 a9 a10 a11 a12 a13 a14 a15 a16 a17 a18:Nat):(k<k+1+a0+a1+a2+a3+a4+a5+a6+a7+a8+a9+a10+a11+a12+a13+a14+a15+a16+a17+a18)=True:=by simp only [eq_iff_iff,iff_true];omega
@[go_sem] theorem lt_suf20 (k a0 a1 a2 a3 a4 a5 a6 a7 a8 a9 a10 a11 a12 a13 a14 a15 a16 a17 a18 a19:Nat):(k<k+1+a0+a1+a2+a3+a4+a5+a6+a7+a8+a9+a10+a11+a12+a13+a14+a15+a16+a17+a18+a19)=True:=by simp only [eq_iff_iff,iff_true];omega
@[go_sem] theorem lt_suf21 (k a0 a1 a2 a3 a4 a5 a6 a7 a8 a9 a10 a11 a12 a13 a14 a15 a16 a17 a18 a19 a20:Nat):(k<k+1+a0+a1+a2+a3+a4+a5+a6+a7+a8+a9+a10+a11+a12+a13+a14+a15+a16+a17+a18+a19+a20)=True:=by simp only [eq_iff_iff,iff_true];omega
@[go_sem] theorem lt_suf22 (k a0 a1 a2 a3 a4 a5 a6 a7 a8 a9 a10 a11 a12 a13 a14 a15 a16 a17 a18 a19 a20 a21:Nat):(k<k+1+a0+a1+a2+a3+a4+a5+a6+a7+a8+a9+a10+a11+a12+a13+a14+a15+a16+a17+a18+a19+a20+a21)=True:=by simp only [eq_iff_iff,iff_true];omega
@[go_sem] theorem lt_suf23 (k a0 a1 a2 a3 a4 a5 a6 a7 a8 a9 a10 a11 a12 a13 a14 a15 a16 a17 a18 a19 a20 a21 a22:Nat):(k<k+1+a0+a1+a2+a3+a4+a5+a6+a7+a8+a9+a10+a11+a12+a13+a14+a15+a16+a17+a18+a19+a20+a21+a22)=True:=by simp only [eq_iff_iff,iff_true];omega
@[go_sem] theorem lt_suf24 (k a0 a1 a2 a3 a4 a5 a6 a7 a8 a9 a10 a11 a12 a13 a14 a15 a16 a17 a18 a19 a20 a21 a22 a23:Nat):(k<k+1+a0+a1+a2+a3+a4+a5+a6+a7+a8+a9+a10+a11+a12+a13+a14+a15+a16+a17+a18+a19+a20+a21+a22+a23)=True:=by simp only [eq_iff_iff,iff_true];omega
@[go_sem] theorem lt_suf25 (k a0 a1 a2 a3 a4 a5 a6 a7 a8 a9 a10 a11 a12 a13 a14 a15 a16 a17 a18 a19 a20 a21 a22 a23 a24:Nat):(k<k+1+a0+a1+a2+a3+a4+a5+a6+a7+a8+a9+a10+a11+a12+a13+a14+a15+a16+a17+a18+a19+a20+a21+a22+a23+a24)=True:=by simp only [eq_iff_iff,iff_true];omega
@[go_sem] theorem lt_suf26 (k a0 a1 a2 a3 a4 a5 a6 a7 a8 a9 a10 a11 a12 a13 a14 a15 a16 a17 a18 a19 a20 a21 a22 a23 a24 a25:Nat):(k<k+1+a0+a1+a2+a3+a4+a5+a6+a7+a8+a9+a10+a11+a12+a13+a14+a15+a16+a17+a18+a19+a20+a21+a22+a23+a24+a25)=True:=by simp only [eq_iff_iff,iff_true];omega
@[go_sem] theorem lt_suf27 (k a0 a1 a2 a3 a4 a5 a6 a7 a8 a9 a10 a11 a12 a13 a14 a15 a16 a17 a18 a19 a20 a21 a22 a23 a24 a25 a26:Nat):(k<k+1+a0+a1+a2+a3+a4+a5+a6+a7+a8+a9+a10+a11+a12+a13+a14+a15+a16+a17+a18+a19+a20+a21+a22+a23+a24+a25+a26)=True:=by simp only [eq_iff_iff,iff_true];omega
@[go_sem] theorem lt_suf28 (k a0 a1 a2 a3 a4 a5 a6 a7 a8 a9 a10 a11 a12 a13 a14 a15 a16 a17 a18 a19 a20 a21 a22 a23 a24 a25 a26 a27:Nat):(k<k+1+a0+a1+a2+a3+a4+a5+a6+a7+a8+a9+a10+a11+a12+a13+a14+a15+a16+a17+a18+a19+a20+a21+a22+a23+a24+a25+a26+a27)=True:=by simp only [eq_iff_iff,iff_true];omega
@[go_sem] theorem lt_suf29 (k a0 a1 a2 a3 a4 a5 a6 a7 a8 a9 a10 a11 a12 a13 a14 a15 a16 a17 a18 a19 a20 a21 a22 a23 a24 a25 a26 a27 a28:Nat):(k<k+1+a0+a1+a2+a3+a4+a5+a6+a7+a8+a9+a10+a11+a12+a13+a14+a15+a16+a17+a18+a19+a20+a21+a22+a23+a24+a25+a26+a27+a28)=True:=by simp only [eq_iff_iff,iff_true];omega
@[go_sem] theorem lt_suf30 (k a0 a1 a2 a3 a4 a5 a6 a7 a8 a9 a10 a11 a12 a13 a14 a15 a16 a17 a18 a19 a20 a21 a22 a23 a24 a25 a26 a27 a28 a29:Nat):(k<k+1+a0+a1+a2+a3+a4+a5+a6+a7+a8+a9+a10+a11+a12+a13+a14+a15+a16+a17+a18+a19+a20+a21+a22+a23+a24+a25+a26+a27+a28+a29)=True:=by simp only [eq_iff_iff,iff_true];omega
@[go_sem] theorem lt_suf31 (k a0 a1 a2 a3 a4 a5 a6 a7 a8 a9 a10 a11 a12 a13 a14 a15 a16 a17 a18 a19 a20 a21 a22 a23 a24 a25 a26 a27 a28 a29 a30:Nat):(k<k+1+a0+a1+a2+a3+a4+a5+a6+a7+a8+a9+a10+a11+a12+a13+a14+a15+a16+a17+a18+a19+a20+a21+a22+a23+a24+a25+a26+a27+a28+a29+a30)=True:=by simp only [eq_iff_iff,iff_true];omega
@[go_sem] theorem lt_suf32 (k a0 a1 a2 a3 a4 a5 a6 a7 a8 a9 a10 a11 a12 a13 a14 a15 a16 a17 a18 a19 a20 a21 a22 a23 a24 a25 a26 a27 a28 a29 a30 a31:Nat):(k<k+1+a0+a1+a2+a3+a4+a5+a6+a7+a8+a9+a10+a11+a12+a13+a14+a15+a16+a17+a18+a19+a20+a21+a22+a23+a24+a25+a26+a27+a28+a29+a30+a31)=True:=by simp only [eq_iff_iff,iff_true];omega
@[go_sem] theorem lt_suf33 (k a0 a1 a2 a3 a4 a5 a6 a7 a8 a9 a10 a11 a12 a13 a14 a15 a16 a17 a18 a19 a20 a21 a22 a23 a24 a25 a26 a27 a28 a29 a30 a31 a32:Nat):(k<k+1+a0+a1+a2+a3+a4+a5+a6+a7+a8+a9+a10+a11+a12+a13+a14+a15+a16+a17+a18+a19+a20+a21+a22+a23+a24+a25+a26+a27+a28+a29+a30+a31+a32)=True:=by simp only [eq_iff_iff,iff_true];omega
@[go_sem] theorem lt_suf34 (k a0 a1 a2 a3 a4 a5 a6 a7 a8 a9 a10 a11 a12 a13 a14 a15 a16 a17 a18 a19 a20 a21 a22 a23 a24 a25 a26 a27 a28 a29 a30 a31 a32 a33:Nat):(k<k+1+a0+a1+a2+a3+a4+a5+a6+a7+a8+a9+a10+a11+a12+a13+a14+a15+a16+a17+a18+a19+a20+a21+a22+a23+a24+a25+a26+a27+a28+a29+a30+a31+a32+a33)=True:=by simp only [eq_iff_iff,iff_true];omega
@[go_sem] theorem lt_suf35 (k a0 a1 a2 a3 a4 a5 a6 a7 a8 a9 a10 a11 a12 a13 a14 a15 a16 a17 a18 a19 a20 a21 a22 a23 a24 a25 a26 a27 a28 a29 a30 a31 a32 a33 a34:Nat):(k<k+1+a0+a1+a2+a3+a4+a5+a6+a7+a8+a9+a10+a11+a12+a13+a14+a15+a16+a17+a18+a19+a20+a21+a22+a23+a24+a25+a26+a27+a28+a29+a30+a31+a32+a33+a34)=True:=by simp only [eq_iff_iff,iff_true];omega
@[go_sem] theorem lt_suf36 (k a0 a1 a2 a3 a4 a5 a6 a7 a8 a9 a10 a11 a12 a13 a14 a15 a16 a17 a18 a19 a20 a21 a22 a23 a24 a25 a26 a27 a28 a29 a30 a31 a32 a33 a34 a35:Nat):(k<k+1+a0+a1+a2+a3+a4+a5+a6+a7+a8+a9+a10+a11+a12+a13+a14+a15+a16+a17+a18+a19+a20+a21+a22+a23+a24+a25+a26+a27+a28+a29+a30+a31+a32+a33+a34+a35)=True:=by simp only [eq_iff_iff,iff_true];omega
@[go_sem] theorem lt_suf37 (k a0 a1 a2 a3 a4 a5 a6 a7 a8 a9 a10 a11 a12 a13 a14 a15 a16 a17 a18 a19 a20 a21 a22 a23 a24 a25 a26 a27 a28 a29 a30 a31 a32 a33 a34 a35 a36:Nat):(k<k+1+a0+a1+a2+a3+a4+a5+a6+a7+a8+a9+a10+a11+a12+a13+a14+a15+a16+a17+a18+a19+a20+a21+a22+a23+a24+a25+a26+a27+a28+a29+a30+a31+a32+a33+a34+a35+a36)=True:=by simp only [eq_iff_iff,iff_true];omega
@[go_sem] theorem lt_suf38 (k a0 a1 a2 a3 a4 a5 a6 a7 a8 a9 a10 a11 a12 a13 a14 a15 a16 a17 a18 a19 a20 a21 a22 a23 a24 a25 a26 a27 a28 a29 a30 a31 a32 a33 a34 a35 a36 a37:Nat):(k<k+1+a0+a1+a2+a3+a4+a5+a6+a7+a8+a9+a10+a11+a12+a13+a14+a15+a16+a17+a18+a19+a20+a21+a22+a23+a24+a25+a26+a27+a28+a29+a30+a31+a32+a33+a34+a35+a36+a37)=True:=by simp only [eq_iff_iff,iff_true];omega
@[go_sem] theorem lt_suf39 (k a0 a1 a2 a3 a4 a5 a6 a7 a8 a9 a10 a11 a12 a13 a14 a15 a16 a17 a18 a19 a20 a21 a22 a23 a24 a25 a26 a27 a28 a29 a30 a31 a32 a33 a34 a35 a36 a37 a38:Nat):(k<k+1+a0+a1+a2+a3+a4+a5+a6+a7+a8+a9+a10+a11+a12+a13+a14+a15+a16+a17+a18+a19+a20+a21+a22+a23+a24+a25+a26+a27+a28+a29+a30+a31+a32+a33+a34+a35+a36+a37+a38)=True:=by simp only [eq_iff_iff,iff_true];omega
@[go_sem] theorem lt_suf40 (k a0 a1 a2 a3 a4 a5 a6 a7 a8 a9 a10 a11 a12 a13 a14 a15 a16 a17 a18 a19 a20 a21 a22 a23 a24 a25 a26 a27 a28 a29 a30 a31 a32 a33 a34 a35 a36 a37 a38 a39:Nat):(k<k+1+a0+a1+a2+a3+a4+a5+a6+a7+a8+a9+a10+a11+a12+a13+a14+a15+a16+a17+a18+a19+a20+a21+a22+a23+a24+a25+a26+a27+a28+a29+a30+a31+a32+a33+a34+a35+a36+a37+a38+a39)=True:=by simp only [eq_iff_iff,iff_true];omega
@[go_sem] theorem lt_suf41 (k a0 a1 a2 a3 a4 a5 a6 a7 a8 a9 a10 a11 a12 a13 a14 a15 a16 a17 a18 a19 a20 a21 a22 a23 a24 a25 a26 a27 a28 a29 a30 a31 a32 a33 a34 a35 a36 a37 a38 a39 a40:Nat):(k<k+1+a0+a1+a2+a3+a4+a5+a6+a7+a8+a9+a10+a11+a12+a13+a14+a15+a16+a17+a18+a19+a20+a21+a22+a23+a24+a25+a26+a27+a28+a29+a30+a31+a32+a33+a34+a35+a36+a37+a38+a39+a40)=True:=by simp only [eq_iff_iff,iff_true];omega
@[go_sem] theorem lt_suf42 (k a0 a1 a2 a3 a4 a5 a6 a7 a8 a9 a10 a11 a12 a13 a14 a15 a16 a17 a18 a19 a20 a21 a22 a23 a24 a25 a26 a27 a28 a29 a30 a31 a32 a33 a34 a35 a36 a37 a38 a39 a40 a41:Nat):(k<k+1+a0+a1+a2+a3+a4+a5+a6+a7+a8+a9+a10+a11+a12+a13+a14+a15+a16+a17+a18+a19+a20+a21+a22+a23+a24+a25+a26+a27+a28+a29+a30+a31+a32+a33+a34+a35+a36+a37+a38+a39+a40+a41)=True:=by simp only [eq_iff_iff,iff_true];omega
@[go_sem] theorem lt_suf43 (k a0 a1 a2 a3 a4 a5 a6 a7 a8 a9 a10 a11 a12 a13 a14 a15 a16 a17 a18 a19 a20 a21 a22 a23 a24 a25 a26 a27 a28 a29 a30 a31 a32 a33 a34 a35 a36 a37 a38 a39 a40 a41 a42:Nat):(k<k+1+a0+a1+a2+a3+a4+a5+a6+a7+a8+a9+a10+a11+a12+a13+a14+a15+a16+a17+a18+a19+a20+a21+a22+a23+a24+a25+a26+a27+a28+a29+a30+a31+a32+a33+a34+a35+a36+a37+a38+a39+a40+a41+a42)=True:=by simp only [eq_iff_iff,iff_true];omega
@[go_sem] theorem lt_suf44 (k a0 a1 a2 a3 a4 a5 a6 a7 a8 a9 a10 a11 a12 a13 a14 a15 a16 a17 a18 a19 a20 a21 a22 a23 a24 a25 a26 a27 a28 a29 a30 a31 a32 a33 a34 a35 a36 a37 a38 a39 a40 a41 a42 a43:Nat):(k<k+1+a0+a1+a2+a3+a4+a5+a6+a7+a8+a9+a10+a11+a12+a13+a14+a15+a16+a17+a18+a19+a20+a21+a22+a23+a24+a25+a26+a27+a28+a29+a30+a31+a32+a33+a34+a35+a36+a37+a38+a39+a40+a41+a42+a43)=True:=by simp only [eq_iff_iff,iff_true];omega
@[go_sem] theorem lt_suf45 (k a0 a1 a2 a3 a4 a5 a6 a7 a8 a9 a10 a11 a12 a13 a14 a15 a16 a17 a18 a19 a20 a21 a22 a23 a24 a25 a26 a27 a28 a29 a30 a31 a32 a33 a34 a35 a36 a37 a38 a39 a40 a41 a42 a43 a44:Nat):(k<k+1+a0+a1+a2+a3+a4+a5+a6+a7+a8+a9+a10+a11+a12+a13+a14+a15+a16+a17+a18+a19+a20+a21+a22+a23+a24+a25+a26+a27+a28+a29+a30+a31+a32+a33+a34+a35+a36+a37+a38+a39+a40+a41+a42+a43+a44)=True:=by simp only [eq_iff_iff,iff_true];omega
@[go_sem] theorem lt_suf46 (k a0 a1 a2 a3 a4 a5 a6 a7 a8 a9 a10 a11 a12 a13 a14 a15 a16 a17 a18 a19 a20 a21 a22 a23 a24 a25 a26 a27 a28 a29 a30 a31 a32 a33 a34 a35 a36 a37 a38 a39 a40 a41 a42 a43 a44 a45:Nat):(k<k+1+a0+a1+a2+a3+a4+a5+a6+a7+a8+a9+a10+a11+a12+a13+a14+a15+a16+a17+a18+a19+a20+a21+a22+a23+a24+a25+a26+a27+a28+a29+a30+a31+a32+a33+a34+a35+a36+a37+a38+a39+a40+a41+a42+a43+a44+a45)=True:=by simp only [eq_iff_iff,iff_true];omega
@[go_sem] theorem lt_suf47 (k a0 a1 a2 a3 a4 a5 a6 a7 a8 a9 a10 a11 a12 a13 a14 a15 a16 a17 a18 a19 a20 a21 a22 a23 a24 a25 a26 a27 a28 a29 a30 a31 a32 a33 a34 a35 a36 a37 a38 a39 a40 a41 a42 a43 a44 a45 a46:Nat):(k<k+1+a0+a1+a2+a3+a4+a5+a6+a7+a8+a9+a10+a11+a12+a13+a14+a15+a16+a17+a18+a19+a20+a21+a22+a23+a24+a25+a26+a27+a28+a29+a30+a31+a32+a33+a34+a35+a36+a37+a38+a39+a40+a41+a42+a43+a44+a45+a46)=True:=by simp only [eq_iff_iff,iff_true];omega
@[go_sem] theorem lt_suf48 (k a0 a1 a2 a3 a4 a5 a6 a7 a8 a9 a10 a11 a12 a13 a14 a15 a16 a17 a18 a19 a20 a21 a22 a23 a24 a25 a26 a27 a28 a29 a30 a31 a32 a33 a34 a35 a36 a37 a38 a39 a40 a41 a42 a43 a44 a45 a46 a47:Nat):(k<k+1+a0+a1+a2+a3+a4+a5+a6+a7+a8+a9+a10+a11+a12+a13+a14+a15+a16+a17+a18+a19+a20+a21+a22+a23+a24+a25+a26+a27+a28+a29+a30+a31+a32+a33+a34+a35+a36+a37+a38+a39+a40+a41+a42+a43+a44+a45+a46+a47)=True:=by simp only [eq_iff_iff,iff_true];omega
@[go_sem] theorem lt_suf49 (k a0 a1 a2 a3 a4 a5 a6 a7 a8 a9 a10 a11 a12 a13 a14 a15 a16 a17 a18 a19 a20 a21 a22 a23 a24 a25 a26 a27 a28 a29 a30 a31 a32 a33 a34 a35 a36 a37 a38 a39 a40 a41 a42 a43 a44 a45 a46 a47 a48:Nat):(k<k+1+a0+a1+a2+a3+a4+a5+a6+a7+a8+a9+a10+a11+a12+a13+a14+a15+a16+a17+a18+a19+a20+a21+a22+a23+a24+a25+a26+a27+a28+a29+a30+a31+a32+a33+a34+a35+a36+a37+a38+a39+a40+a41+a42+a43+a44+a45+a46+a47+a48)=True:=by simp only [eq_iff_iff,iff_true];omega
@[go_sem] theorem lt_suf50 (k a0 a1 a2 a3 a4 a5 a6 a7 a8 a9 a10 a11 a12 a13 a14 a15 a16 a17 a18 a19 a20 a21 a22 a23 a24 a25 a26 a27 a28 a29 a30 a31 a32 a33 a34 a35 a36 a37 a38 a39 a40 a41 a42 a43 a44 a45 a46 a47 a48 a49:Nat):(k<k+1+a0+a1+a2+a3+a4+a5+a6+a7+a8+a9+a10+a11+a12+a13+a14+a15+a16+a17+a18+a19+a20+a21+a22+a23+a24+a25+a26+a27+a28+a29+a30+a31+a32+a33+a34+a35+a36+a37+a38+a39+a40+a41+a42+a43+a44+a45+a46+a47+a48+a49)=True:=by simp only [eq_iff_iff,iff_true];omega
@[go_sem] theorem lt_suf51 (k a0 a1 a2 a3 a4 a5 a6 a7 a8 a9 a10 a11 a12 a13 a14 a15 a16 a17 a18 a19 a20 a21 a22 a23 a24 a25 a26 a27 a28 a29 a30 a31 a32 a33 a34 a35 a36 a37 a38 a39 a40 a41 a42 a43 a44 a45 a46 a47 a48 a49 a50:Nat):(k<k+1+a0+a1+a2+a3+a4+a5+a6+a7+a8+a9+a10+a11+a12+a13+a14+a15+a16+a17+a18+a19+a20+a21+a22+a23+a24+a25+a26+a27+a28+a29+a30+a31+a32+a33+a34+a35+a36+a37+a38+a39+a40+a41+a42+a43+a44+a45+a46+a47+a48+a49+a50)=True:=by simp only [eq_iff_iff,iff_true];omega
@[go_sem] theorem lt_suf52 (k a0 a1 a2 a3 a4 a5 a6 a7 a8 a9 a10 a11 a12 a13 a14 a15 a16 a17 a18 a19 a20 a21 a22 a23 a24 a25 a26 a27 a28 a29 a30 a31 a32 a33 a34 a35 a36 a37 a38 a39 a40 a41 a42 a43 a44 a45 a46 a47 a48 a49 a50 a51:Nat):(k<k+1+a0+a1+a2+a3+a4+a5+a6+a7+a8+a9+a10+a11+a12+a13+a14+a15+a16+a17+a18+a19+a20+a21+a22+a23+a24+a25+a26+a27+a28+a29+a30+a31+a32+a33+a34+a35+a36+a37+a38+a39+a40+a41+a42+a43+a44+a45+a46+a47+a48+a49+a50+a51)=True:=by simp only [eq_iff_iff,iff_true];omega
@[go_sem] theorem lt_suf53 (k a0 a1 a2 a3 a4 a5 a6 a7 a8 a9 a10 a11 a12 a13 a14 a15 a16 a17 a18 a19 a20 a21 a22 a23 a24 a25 a26 a27 a28 a29 a30 a31 a32 a33 a34 a35 a36 a37 a38 a39 a40 a41 a42 a43 a44 a45 a46 a47 a48 a49 a50 a51 a52:Nat):(k<k+1+a0+a1+a2+a3+a4+a5+a6+a7+a8+a9+a10+a11+a12+a13+a14+a15+a16+a17+a18+a19+a20+a21+a22+a23+a24+a25+a26+a27+a28+a29+a30+a31+a32+a33+a34+a35+a36+a37+a38+a39+a40+a41+a42+a43+a44+a45+a46+a47+a48+a49+a50+a51+a52)=True:=by simp only [eq_iff_iff,iff_true];omega
@[go_sem] theorem lt_suf54 (k a0 a1 a2 a3 a4 a5 a6 a7 a8 a9 a10 a11 a12 a13 a14 a15 a16 a17 a18 a19 a20 a21 a22 a23 a24 a25 a26 a27 a28 a29 a30 a31 a32 a33 a34 a35 a36 a37 a38 a39 a40 a41 a42 a43 a44 a45 a46 a47 a48 a49 a50 a51 a52 a53:Nat):(k<k+1+a0+a1+a2+a3+a4+a5+a6+a7+a8+a9+a10+a11+a12+a13+a14+a15+a16+a17+a18+a19+a20+a21+a22+a23+a24+a25+a26+a27+a28+a29+a30+a31+a32+a33+a34+a35+a36+a37+a38+a39+a40+a41+a42+a43+a44+a45+a46+a47+a48+a49+a50+a51+a52+a53)=True:=by simp only [eq_iff_iff,iff_true];omega
@[go_sem] theorem lt_suf55 (k a0 a1 a2 a3 a4 a5 a6 a7 a8 a9 a10 a11 a12 a13 a14 a15 a16 a17 a18 a19 a20 a21 a22 a23 a24 a25 a26 a27 a28 a29 a30 a31 a32 a33 a34 a35 a36 a37 a38 a39 a40 a41 a42 a43 a44 a45 a46 a47 a48 a49 a50 a51 a52 a53 a54:Nat):(k<k+1+a0+a1+a2+a3+a4+a5+a6+a7+a8+a9+a10+a11+a12+a13+a14+a15+a16+a17+a18+a19+a20+a21+a22+a23+a24+a25+a26+a27+a28+a29+a30+a31+a32+a33+a34+a35+a36+a37+a38+a39+a40+a41+a42+a43+a44+a45+a46+a47+a48+a49+a50+a51+a52+a53+a54)=True:=by simp only [eq_iff_iff,iff_true];omega
@[go_sem] theorem lt_suf56 (k a0 a1 a2 a3 a4 a5 a6 a7 a8 a9 a10 a11 a12 a13 a14 a15 a16 a17 a18 a19 a20 a21 a22 a23 a24 a25 a26 a27 a28 a29 a30 a31 a32 a33 a34 a35 a36 a37 a38 a39 a40 a41 a42 a43 a44 a45 a46 a47 a48 a49 a50 a51 a52 a53 a54 a55:Nat):(k<k+1+a0+a1+a2+a3+a4+a5+a6+a7+a8+a9+a10+a11+a12+a13+a14+a15+a16+a17+a18+a19+a20+a21+a22+a23+a24+a25+a26+a27+a28+a29+a30+a31+a32+a33+a34+a35+a36+a37+a38+a39+a40+a41+a42+a43+a44+a45+a46+a47+a48+a49+a50+a51+a52+a53+a54+a55)=True:=by simp only [eq_iff_iff,iff_true];omega
@[go_sem] theorem lt_suf57 (k a0 a1 a2 a3 a4 a5 a6 a7 a8 a9 a10 a11 a12 a13 a14 a15 a16 a17 a18 a19 a20 a21 a22 a23 a24 a25 a26 a27 a28 a29 a30 a31 a32 a33 a34 a35 a36 a37 a38 a39 a40 a41 a42 a43 a44 a45 a46 a47 a48 a49 a50 a51 a52 a53 a54 a55 a56:Nat):(k<k+1+a0+a1+a2+a3+a4+a5+a6+a7+a8+a9+a10+a11+a12+a13+a14+a15+a16+a17+a18+a19+a20+a21+a22+a23+a24+a25+a26+a27+a28+a29+a30+a31+a32+a33+a34+a35+a36+a37+a38+a39+a40+a41+a42+a43+a44+a45+a46+a47+a48+a49+a50+a51+a52+a53+a54+a55+a56)=True:=by simp only [eq_iff_iff,iff_true];omega
@[go_sem] theorem lt_suf58 (k a0 a1 a2 a3 a4 a5 a6 a7 a8 a9 a10 a11 a12 a13 a14 a15 a16 a17 a18 a19 a20 a21 a22 a23 a24 a25 a26 a27 a28 a29 a30 a31 a32 a33 a34 a35 a36 a37 a38 a39 a40 a41 a42 a43 a44 a45 a46 a47 a48 a49 a50 a51 a52 a53 a54 a55 a56 a57:Nat):(k<k+1+a0+a1+a2+a3+a4+a5+a6+a7+a8+a9+a10+a11+a12+a13+a14+a15+a16+a17+a18+a19+a20+a21+a22+a23+a24+a25+a26+a27+a28+a29+a30+a31+a32+a33+a34+a35+a36+a37+a38+a39+a40+a41+a42+a43+a44+a45+a46+a47+a48+a49+a50+a51+a52+a53+a54+a55+a56+a57)=True:=by simp only [eq_iff_iff,iff_true];omega
@[go_sem] theorem lt_suf59 (k a0 a1 a2 a3 a4 a5 a6 a7 a8 a9 a10 a11 a12 a13 a14 a15 a16 a17 a18 a19 a20 a21 a22 a23 a24 a25 a26 a27 a28 a29 a30 a31 a32 a33 a34 a35 a36 a37 a38 a39 a40 a41 a42 a43 a44 a45 a46 a47 a48 a49 a50 a51 a52 a53 a54 a55 a56 a57 a58:Nat):(k<k+1+a0+a1+a2+a3+a4+a5+a6+a7+a8+a9+a10+a11+a12+a13+a14+a15+a16+a17+a18+a19+a20+a21+a22+a23+a24+a25+a26+a27+a28+a29+a30+a31+a32+a33+a34+a35+a36+a37+a38+a39+a40+a41+a42+a43+a44+a45+a46+a47+a48+a49+a50+a51+a52+a53+a54+a55+a56+a57+a58)=True:=by simp only [eq_iff_iff,iff_true];omega
@[go_sem] theorem lt_suf60 (k a0 a1 a2 a3 a4 a5 a6 a7 a8 a9 a10 a11 a12 a13 a14 a15 a16 a17 a18 a19 a20 a21 a22 a23 a24 a25 a26 a27 a28 a29 a30 a31 a32 a33 a34 a35 a36 a37 a38 a39 a40 a41 a42 a43 a44 a45 a46 a47 a48 a49 a50 a51 a52 a53 a54 a55 a56 a57 a58 a59:Nat):(k<k+1+a0+a1+a2+a3+a4+a5+a6+a7+a8+a9+a10+a11+a12+a13+a14+a15+a16+a17+a18+a19+a20+a21+a22+a23+a24+a25+a26+a27+a28+a29+a30+a31+a32+a33+a34+a35+a36+a37+a38+a39+a40+a41+a42+a43+a44+a45+a46+a47+a48+a49+a50+a51+a52+a53+a54+a55+a56+a57+a58+a59)=True:=by simp only [eq_iff_iff,iff_true];omega
theorem add_len_append (n:Nat) (g h:List Obj):n+(g++h).length=n+g.length+h.length:=by rw [List.length_append,Nat.add_assoc]
attribute [go_sem ↓] add_len_append
@[go_sem ↓] theorem add_add_len (n:Nat) (g h:List Obj):n+(g.length+h.length)=n+g.length+h.length:=(Nat.add_assoc _ _ _).symm
open Go.RowKit
structure Behind (B:Nat) (w w':World):Prop where
 below:Below B w w'
 drawn:w.drawn≤w'.drawn
theorem Behind.refl (B:Nat) (w:World):Behind B w w:=⟨Below.refl B w,Nat.le_refl _⟩
theorem Behind.trans {B:Nat} {a b c:World} (h:Behind B a b) (k:Behind B b c):Behind B a c:=⟨h.below.trans k.below,Nat.le_trans h.drawn k.drawn⟩
theorem Behind.mono {B B':Nat} {w w':World} (h:Behind B w w') (hB:B'≤B):Behind B' w w':=⟨h.below.mono hB,h.drawn⟩
theorem Behind.of_grew {B:Nat} {w w':World} (h:Grew w w') (hB:B≤w.heap.size):Behind B w w':=by
 refine ⟨h.below.mono hB, ?_⟩;obtain ⟨g,n,rfl⟩:=h;show w.drawn≤w.drawn+n
 omega
theorem Behind.then_grew {B:Nat} {a w w':World} (h:Behind B a w) (g:Grew w w') (hB:B≤w.heap.size):Behind B a w':=h.trans (Behind.of_grew g hB)
theorem Behind.size {B:Nat} {a w:World} (h:Behind B a w):a.heap.size≤w.heap.size:=h.below.size
theorem Behind.alloc {B:Nat} {a w:World} (h:Behind B a w) (hB:B≤w.heap.size) (o:Obj):Behind B a (w.alloc o):=⟨h.below.alloc hB o,h.drawn⟩
theorem Behind.drew {B:Nat} {a w:World} (h:Behind B a w):Behind B a w.drew:=⟨h.below.drew,Nat.le_succ_of_le h.drawn⟩
theorem Behind.setCell {B:Nat} {a w:World} (h:Behind B a w) {p:Addr} (hp:B≤p.block) (u:Value):Behind B a (w.setCell p u):=⟨h.below.setCell hp u,h.drawn⟩
theorem Behind.grow {B:Nat} {a w:World} (h:Behind B a w) (hB:B≤w.heap.size) (g:List Obj):Behind B a (w.grow g):=h.then_grew ((Grew.refl w).grow g) hB
theorem Behind.drewN {B:Nat} {a w:World} (h:Behind B a w) (n:Nat):Behind B a (w.drewN n) :=
 ⟨⟨h.below.os,h.below.tape,h.below.output,h.below.size,h.below.block⟩,by show a.drawn≤w.drawn+n;have:=h.drawn;omega⟩
theorem Behind.grown {B:Nat} {a w w':World} {row:Option Nat} (h:Behind B a w) (hg:w.grownBy w' row) (hd:w.drawn≤w'.drawn) (hB:B≤w.heap.size) (hr:∀ k,row=some k→B≤k):Behind B a w' :=
 ⟨h.below.grown hg hB hr,Nat.le_trans h.drawn hd⟩
theorem Behind.toGrew {w w':World} (h:Behind w.heap.size w w'):Grew w w':=by
 refine ⟨w'.heap.toList.drop w.heap.size,w'.drawn - w.drawn, ?_⟩;obtain ⟨⟨h1,h2,h3,h4,h5⟩,h6⟩:=h;obtain ⟨hp,tp,dn,os,out⟩:=w;obtain ⟨hp',tp',dn',os',out'⟩:=w';simp only at h1 h2 h3 h4 h5 h6;subst h1;subst h2;subst h3;have e1:dn+(dn' - dn)=dn':=by omega
 have e2:hp++(hp'.toList.drop hp.size).toArray=hp':=by
  apply Array.ext_getElem?;intro k;by_cases hk:k<hp.size
  · rw [Array.getElem?_append_left hk];exact (h5 k hk).symm
  · rw [Array.getElem?_append_right (by omega)]
    simp only [List.getElem?_toArray,List.getElem?_drop];rw [show hp.size+(k - hp.size)=k by omega];simp
 show World.mk hp' tp' dn' os' out'=World.mk _ _ _ _ _
 simp only [World.grow];rw [e1,e2]
section
variable {w:World} {base:Nat} {e:TypeId} {size:Nat} {v:Value} {n:Nat} {xs:List Value}
theorem World.ownsRow.grew {w':World} (h:w.ownsRow base e size v n xs) (hg:Grew w w'):w'.ownsRow base e size v n xs:=by
 refine ⟨h.1, ?_⟩;rcases h.2 with hn | ⟨g,cap,cur,rfl,hb,hgg,rest⟩
 · exact .inl hn
 · refine .inr ⟨g,cap,cur,rfl,hb, ?_,rest⟩
   rw [hg.block g (Array.getElem?_eq_some_iff.1 hgg).1];exact hgg
theorem World.ownsRow.mono {base':Nat} (h:w.ownsRow base e size v n xs) (hb:base'≤base):w.ownsRow base' e size v n xs:=by
 refine ⟨h.1, ?_⟩;rcases h.2 with hn | ⟨g,cap,cur,rfl,hb',rest⟩
 · exact .inl hn
 · exact .inr ⟨g,cap,cur,rfl,Nat.le_trans hb hb',rest⟩
end
section
variable {P:Program} (w:World)
theorem run_append_draws (base:Nat) (t ty e:TypeId) (i:TypeInfo) (z:Value) (size bytes:Nat) (ht:P.underlying t=some (.slice e)) (hi:P.info? e=some i) (hz:i.zero=some z)
  (hsize:i.size=size) (hby:i.bytes=bytes)
  (v:Value) (n:Nat) (xs:List Value) (hown:w.ownsRow base e size v n xs)
  (a:Addr) (m c:Nat) (news:List Value) (hl:news.length=m*size) (hnews:∀ j u,news[j]? = some u→w.cell? (a.add j)=some u) (h1:∀ u∈news,u.oneCell'=true)
  (h63:n+m≤maxLen) (hbytes:(n+m)*bytes≤140737488355328) :
  ∃ v' w',(Builtin.append_ #[t,t] ty #[v,.slice (some a) m c]).run P w=.ok v' w'∧w.drawn≤w'.drawn:=by
 subst hsize;subst hby;simp only [maxLen] at h63;rcases hown.2 with ⟨rfl,rfl⟩ | ⟨g,cap,cur,rfl,_,hg,_,_,hcs,_⟩
 · rcases Nat.eq_zero_or_pos m with rfl | hm
   · exact ⟨.slice none 0 0,w,by simp [Builtin.append_,run_underlying ht,sizeOf,typeInfo,hi,Builtin.lenOf,Builtin.firstCells,loadCells,loadCellsFrom],Nat.le_refl _⟩
   · exact ⟨_,_,run_append_nil w t ty e i z ht hi hz a m c news hl hnews hm (by omega) (by rw [Nat.zero_add] at hbytes;omega),Nat.le_succ _⟩
 · rcases Nat.lt_or_ge cap (n+m) with hc | hc
   · exact ⟨_,_,run_append_grow w t ty e i z ht hi hz ⟨g,0,none⟩ n cap xs hown.1 (hown.cells (g:=g) rfl) a m c news hl hnews hc (by omega) (growslice_fits hc hbytes),Nat.le_succ _⟩
   · exact ⟨_,_,run_append_room w t ty e i ht hi g n cap cur hg a m c news hl hnews h1 hc (by rw [hl,hcs,← Nat.add_mul];exact Nat.mul_le_mul_right _ hc),Nat.le_refl _⟩
theorem run_append_behind (base:Nat) (t ty e:TypeId) (i:TypeInfo) (z:Value) (size bytes:Nat) (ht:P.underlying t=some (.slice e)) (hi:P.info? e=some i) (hz:i.zero=some z)
  (hsize:i.size=size) (hby:i.bytes=bytes) (hzs:z.cells.size=size) (hsz:0<size)
  (v:Value) (n:Nat) (xs:List Value) (hown:w.ownsRow base e size v n xs)
  (a:Addr) (m c:Nat) (news:List Value) (hl:news.length=m*size) (hnews:∀ j u,news[j]? = some u→w.cell? (a.add j)=some u) (h1:∀ u∈news,u.oneCell'=true)
  (h63:n+m≤maxLen) (hbytes:(n+m)*bytes≤140737488355328) (hbase:base≤w.heap.size) :
  ∃ v' w',(Builtin.append_ #[t,t] ty #[v,.slice (some a) m c]).run P w=.ok v' w'∧w'.ownsRow base e size v' (n+m) (xs++news)∧w.grownBy w' v.ownBlock ∧
   (v'.ownBlock=v.ownBlock∨v'.ownBlock=some w.heap.size)∧w.drawn≤w'.drawn:=by
 obtain ⟨v',w',h,h2,h3,_,h5⟩:=run_append_own_at w base t ty e i z size bytes ht hi hz hsize hby hzs hsz v n xs hown a m c news hl hnews h1 h63 hbytes hbase;obtain ⟨v2,w2,k,k2⟩:=run_append_draws w base t ty e i z size bytes ht hi hz hsize hby v n xs hown a m c news hl hnews h1 h63 hbytes;rw [h] at k;injection k with k3 k4;subst k4;exact ⟨v',w',h,h2,h3,h5,k2⟩
end
open Go.RowKit
section
variable {P:Program} {w:World}
theorem wpList_append_behind {ops:Array Oper} {rest:List Oper} {o:Oper} {a:Act} {Q:Exit→Act→World→Prop} (hgd:o.guard=none) (s x:Operand) (t:TypeId)
  (ho:o.op=.call { callee:=.builtin .append,args:=#[s,x],argTypes:=#[t,t] })
  (base:Nat) (e:TypeId) (i:TypeInfo) (z:Value) (size bytes:Nat) (ht:P.underlying t=some (.slice e)) (hi:P.info? e=some i) (hz:i.zero=some z)
  (hsize:i.size=size) (hby:i.bytes=bytes) (hzs:z.cells.size=size) (hsz:0<size)
  (v:Value) (n:Nat) (xs:List Value) (hs:a.eval s=v) (hown:w.ownsRow base e size v n xs)
  (ad:Addr) (m c:Nat) (news:List Value) (hx:a.eval x=.slice (some ad) m c) (hl:news.length=m*size) (hnews:∀ j u,news[j]? = some u→w.cell? (ad.add j)=some u) (h1:∀ u∈news,u.oneCell'=true)
  (h63:n+m≤maxLen) (hbytes:(n+m)*bytes≤140737488355328) (hbase:base≤w.heap.size)
  (h:∀ v' w',w'.ownsRow base e size v' (n+m) (xs++news)→w.grownBy w' v.ownBlock→(v'.ownBlock=v.ownBlock∨v'.ownBlock=some w.heap.size)→w.drawn≤w'.drawn→wpList P ops Q rest (a.put o.dst v') w') :
  wpList P ops Q (o::rest) a w:=by
 refine wpList_plain hgd fun K hK=>?_
 obtain ⟨v',w',hr,h2,h3,h5,h6⟩:=run_append_behind (P:=P) w base t o.type e i z size bytes ht hi hz hsize hby hzs hsz v n xs hown ad m c news hl hnews h1 h63 hbytes hbase;unfold Oper.wp execOp;simp only [ho,resolve,invoke,builtin,Sem.run_bind,Sem.run_pure,Result.andThen_ok,List.map_toArray,List.map_cons,List.map_nil,hs,hx,hr];exact hK _ _ (h v' w' h2 h3 h5 h6)
end
open Go.RowKit
theorem Grew.grownBy {w w':World} (h:Grew w w') (row:Option Nat):w.grownBy w' row :=
 ⟨h.below.os,h.below.tape,h.below.output,h.size,fun k hk _=>h.block k hk⟩
theorem Grew.drawn_le {w w':World} (h:Grew w w'):w.drawn≤w'.drawn:=by
 obtain ⟨g,n,rfl⟩:=h;show w.drawn≤w.drawn+n
 omega
structure Turned (W w:World) (b:Nat):Prop where
 grown:W.grownBy w (some b)
 drawn:W.drawn≤w.drawn
theorem Turned.refl (W:World) (b:Nat):Turned W W b:=⟨⟨rfl,rfl,rfl,Nat.le_refl _,fun _ _ _=>rfl⟩,Nat.le_refl _⟩
theorem Turned.size {W w:World} {b:Nat} (h:Turned W w b):W.heap.size≤w.heap.size:=h.grown.size
theorem Turned.by {W w w':World} {b:Nat} {row:Option Nat} (h:Turned W w b) (g:w.grownBy w' row) (hd:w.drawn≤w'.drawn) (hr:∀ j,row=some j→W.heap.size≤j∨j=b):Turned W w' b :=
 ⟨h.grown.andThen g (fun j hj=>(hr j hj).imp id (fun e=>by rw [e])),Nat.le_trans h.drawn hd⟩
theorem Turned.grew {W w w':World} {b:Nat} (h:Turned W w b) (g:Grew w w'):Turned W w' b:=h.by (g.grownBy none) g.drawn_le (fun _ e=>by cases e)
theorem grownBy_set (w:World) (b i:Nat) (v:Value):w.grownBy (w.setCell ⟨b,i,none⟩ v) (some b) :=
 ⟨rfl,rfl,rfl,by simp,fun k _ hk=>heap_setCell_other _ _ _ _ (fun e=>hk (by rw [e]))⟩
theorem Turned.set {W w:World} {b:Nat} (h:Turned W w b) (i:Nat) (v:Value):Turned W (w.setCell ⟨b,i,none⟩ v) b:=h.by (grownBy_set w b i v) (Nat.le_refl _) (fun _ e=>by cases e;exact .inr rfl)
theorem Turned.block {W w:World} {b:Nat} (h:Turned W w b) {k:Nat} (hk:k<W.heap.size) (hb:k≠b):w.heap[k]? = W.heap[k]? := h.grown.block k hk (fun e=>hb (by injection e))
theorem Turned.toGrew {w W w':World} {b:Nat} (h:Turned W w' b) (g:Grew w W) (hb:w.heap.size≤b):Grew w w':=by
 refine Behind.toGrew ⟨⟨?_, ?_, ?_, ?_, ?_⟩,Nat.le_trans g.drawn_le h.drawn⟩
 · rw [h.grown.os];exact g.below.os
 · rw [h.grown.tape];exact g.below.tape
 · rw [h.grown.output];exact g.below.output
 · exact Nat.le_trans g.size h.size
 · intro k hk
   rw [h.block (Nat.lt_of_lt_of_le hk g.size) (by omega)];exact g.block k hk
theorem Turned.trans {A B C:World} {b:Nat} (h:Turned A B b) (k:Turned B C b):Turned A C b:=h.by k.grown k.drawn (fun j e=>by injection e with e;exact .inr e.symm)
theorem Turned.cell {W w:World} {b:Nat} (h:Turned W w b) {k i:Nat} (hk:k<W.heap.size) (hb:k≠b):w.cell? ⟨k,i,none⟩=W.cell? ⟨k,i,none⟩:=by
 simp [World.cell?,h.block hk hb]
theorem Grew.set {w w':World} (g:Grew w w') {b:Nat} (hb:w.heap.size≤b) (i:Nat) (v:Value):Grew w (w'.setCell ⟨b,i,none⟩ v) :=
 ((Turned.refl w' b).set i v).toGrew g hb
theorem Grew.by {w w' w2:World} {row:Option Nat} (g:Grew w w') (h:w'.grownBy w2 row) (hd:w'.drawn≤w2.drawn) (hr:∀ j,row=some j→w.heap.size≤j):Grew w w2:=by
 cases row with
 | none=>exact ((Turned.refl w' w.heap.size).by h hd (fun _ e=>by cases e)).toGrew g (Nat.le_refl _)
 | some b=>exact ((Turned.refl w' b).by h hd (fun _ e=>by cases e;exact .inr rfl)).toGrew g (hr b rfl)
theorem ownsRow_slice {w:World} {base:Nat} {e:TypeId} {size:Nat} {v:Value} {n:Nat} {xs:List Value} (h:w.ownsRow base e size v n xs):∃ (a0:Option Addr) (k0:Nat),v=.slice a0 n k0:=by
 rcases h.2 with ⟨rfl,rfl⟩ | ⟨g,cap,cur,rfl,_⟩
 · exact ⟨none,0,rfl⟩
 · exact ⟨_,_,rfl⟩
theorem ownsRow_above {w:World} {base:Nat} {e:TypeId} {size:Nat} {v:Value} {n:Nat} {xs:List Value} (h:w.ownsRow base e size v n xs):∀ k,v.ownBlock=some k→base≤k:=by
 rcases h.2 with ⟨rfl,rfl⟩ | ⟨g,cap,cur,rfl,hb,_⟩
 · intro k hk;simp [Value.ownBlock] at hk
 · intro k hk;simp [Value.ownBlock] at hk;subst hk;exact hb
theorem ownsRow_setCell_low {w:World} {base:Nat} {e:TypeId} {size:Nat} {v:Value} {n:Nat} {xs:List Value} (h:w.ownsRow base e size v n xs) {b:Nat} (hb:b<base) (i:Nat) (u:Value):(w.setCell ⟨b,i,none⟩ u).ownsRow base e size v n xs :=
 h.kept (grownBy_set w b i u) (by
  cases hv:v.ownBlock with
  | none=>exact .inl rfl
  | some k=>have:=ownsRow_above h k hv;exact .inr (fun e=>by injection e;omega))
open Go.RowKit
structure Al (B:Nat) (w w':World):Prop where
 size:w'.heap.size=w.heap.size
 same:∀ k,B≤k→w'.heap[k]? = w.heap[k]?
section
variable {B:Nat} {w w':World}
theorem Al.refl (B:Nat) (w:World):Al B w w:=⟨rfl,fun _ _=>rfl⟩
theorem Al.grow (h:Al B w w') (g:List Obj):Al B (w.grow g) (w'.grow g):=by
 refine ⟨by simp [World.grow,h.size],fun k hk=>?_⟩;simp only [World.grow,Array.getElem?_append,h.size];split
 · exact h.same k hk
 · rfl
theorem Al.drewN (h:Al B w w') (n:Nat):Al B (w.drewN n) (w'.drewN n):=⟨h.size,h.same⟩
theorem Al.alloc (h:Al B w w') (o:Obj):Al B (w.alloc o) (w'.alloc o):=by
 rw [World.grow_alloc,World.grow_alloc];exact h.grow [o]
theorem Al.other (h:Al B w w') (o o':Obj) (hb:w.heap.size<B):Al B (w.alloc o) (w'.alloc o'):=by
 refine ⟨by simp [h.size],fun k hk=>?_⟩;show (w'.heap.push o')[k]? = (w.heap.push o)[k]?
 rw [Array.getElem?_push,Array.getElem?_push,h.size,if_neg (by omega),if_neg (by omega)];exact h.same k hk
theorem Al.set (h:Al B w w') (b i:Nat) (v:Value) (hb:b<B):Al B w (w'.setCell ⟨b,i,none⟩ v):=by
 refine ⟨by simp [h.size],fun k hk=>?_⟩;rw [heap_setCell_other _ _ _ _ (by show k≠b;omega)];exact h.same k hk
theorem Al.symm (h:Al B w w'):Al B w' w:=⟨h.size.symm,fun k hk=>(h.same k hk).symm⟩
theorem World.ownsRow.al {base:Nat} {e:TypeId} {size:Nat} {v:Value} {n:Nat} {xs:List Value} (h:w.ownsRow base e size v n xs) (ha:Al base w w'):w'.ownsRow base e size v n xs:=by
 refine ⟨h.1, ?_⟩;rcases h.2 with hn | ⟨g,cap,cur,rfl,hb,hgg,rest⟩
 · exact .inl hn
 · refine .inr ⟨g,cap,cur,rfl,hb, ?_,rest⟩
   rw [ha.same g hb];exact hgg
end
end Go
