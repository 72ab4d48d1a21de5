import Derived.Laws.Strings
import Derived.Lib.ItoaNum
import Derived.Lib.AtoiAll
import Derived.RowKit
import Derived.Lib.Strings
import Derived.Lib.Bytealg
namespace Msh
theorem _root_.k71_ {p:Prop} (h:p:=by
 rw [List.all_eq_false];exact ⟨z,List.mem_of_getElem? h,by simp [hz]⟩):p:=h
theorem _root_.k66_ {p:Prop} (h:p:=by
 rw [List.take_add_one,h,List.all_append,hp];simp [hz]):p:=h
structure It where
 kind:Int
 pos:Int
 n:Int
 name:ByteArray
def wid (kind n:Int) (name:ByteArray):Int:=if name.toList=[] then (if kind=1∧1≤n∧n≤7 then 1 else if (kind=2∨kind=3)∧n=0 then 2 else 0) else 0
theorem wid_cases (kind n:Int) (name:ByteArray):wid kind n name=0∨wid kind n name=1∨wid kind n name=2:=by
 unfold wid;split
 · split
   · exact .inr (.inl rfl)
   · split
     · exact .inr (.inr rfl)
     · exact .inl rfl
 · exact .inl rfl
def okIt (g:Int) (x:It):Bool:=decide (wid x.kind x.n x.name≠0)&&decide (1≤x.pos∧x.pos≤g - wid x.kind x.n x.name+1)
def okIts (g:Int) (l:List It):Bool:=l.all (okIt g)
def vldIts (g:Int) (l:List It):Bool:=decide (1≤g∧g≤6)&&decide (l.length≤5000)&&okIts g l
theorem okIts_step {g:Int} {l:List It} {i:Nat} {z:It} (h:l[i]? = some z) (hz:okIt g z=true) (hp:okIts g (l.take i)=true):okIts g (l.take (i+1))=true:=by
 unfold okIts at *
 exact k66_
theorem okIts_at {g:Int} {l:List It} {i:Nat} {z:It} (h:l[i]? = some z) (hp:okIts g l=true):okIt g z=true:=by
 unfold okIts at hp;rw [List.all_eq_true] at hp;exact hp z (List.mem_of_getElem? h)
theorem okIts_cut {g:Int} {l:List It} {i:Nat} {z:It} (h:l[i]? = some z) (hz:okIt g z=false):okIts g l=false:=by
 unfold okIts;exact k71_
def chkIts (g:Int) (l:List It):Int:=if 1≤g∧g≤6 then (if vldIts g l=true then 0 else 31) else 2
end Msh
namespace Msh
structure Cl where
 name:ByteArray
 gd:Int
 items:List It
def letB (c:UInt8):Bool:=decide (97≤c.toNat)&&decide (c.toNat≤122)
def nameB (s:ByteArray):Bool:=decide (1≤s.size∧s.size≤8)&&s.data.toList.all letB
def hasN (s:ByteArray) (c:Cl):Bool:=decide (c.name=s)
def gdF (C:List Cl) (s:ByteArray):Int:=match C.find? (hasN s) with | some c=>c.gd | none=>0
def wdE (F:ByteArray→Int) (x:It):Int:=if x.kind=4 then (if x.n=0 then F x.name else 0) else wid x.kind x.n x.name
def okE (F:ByteArray→Int) (g:Int) (x:It):Bool:=decide (wdE F x≠0)&&decide (1≤x.pos∧x.pos≤g - wdE F x+1)
def okEs (F:ByteArray→Int) (g:Int) (l:List It):Bool:=l.all (okE F g)
def vcell (C:List Cl) (c:Cl):Bool:=nameB c.name&&(C.find? (hasN c.name)).isNone&&decide (1≤c.gd∧c.gd≤6)&&decide (c.items.length≤200)&&okEs (gdF C) c.gd c.items
def vfrom (C:List Cl):List Cl→Bool
 | []=>true
 | c::t=>vcell C c&&vfrom (C++[c]) t
def vnet (L:List Cl):Bool:=decide (1≤L.length∧L.length≤20)&&vfrom [] L
theorem vfrom_step {L:List Cl} {i:Nat} {c:Cl} (h:L[i]? = some c):vfrom (L.take i) (L.drop i)=(vcell (L.take i) c&&vfrom (L.take (i+1)) (L.drop (i+1))):=by
 obtain ⟨hlt,rfl⟩:=List.getElem?_eq_some_iff.1 h;rw [List.drop_eq_getElem_cons hlt,List.take_add_one,List.getElem?_eq_getElem hlt];rfl
theorem okEs_step {F:ByteArray→Int} {g:Int} {l:List It} {i:Nat} {z:It} (h:l[i]? = some z) (hz:okE F g z=true) (hp:okEs F g (l.take i)=true):okEs F g (l.take (i+1))=true:=by
 unfold okEs at *
 exact k66_
theorem okEs_cut {F:ByteArray→Int} {g:Int} {l:List It} {i:Nat} {z:It} (h:l[i]? = some z) (hz:okE F g z=false):okEs F g l=false:=by
 unfold okEs;rw [List.all_eq_false];exact ⟨z,List.mem_of_getElem? h,by rw [hz];exact Bool.false_ne_true⟩
def Gds (C:List Cl):Prop:=∀ c∈C,1≤c.gd∧c.gd≤6
theorem gdF_range {C:List Cl} (h:Gds C) (s:ByteArray):0≤gdF C s∧gdF C s≤6:=by
 unfold gdF;cases hc:C.find? (hasN s) with
 | none=>simp
 | some c =>
   have:=h c (List.mem_of_find?_eq_some hc);dsimp only;omega
theorem wdE_range {F:ByteArray→Int} (hF:∀ s,0≤F s∧F s≤6) (x:It):0≤wdE F x∧wdE F x≤6:=by
 unfold wdE;split
 · split
   · exact hF _
   · omega
 · rcases wid_cases x.kind x.n x.name with h | h | h <;> omega
theorem vcell_iff {C:List Cl} {c:Cl}:vcell C c=true↔nameB c.name=true∧C.find? (hasN c.name)=none∧(1≤c.gd∧c.gd≤6)∧c.items.length≤200∧okEs (gdF C) c.gd c.items=true:=by
 unfold vcell;simp only [Bool.and_eq_true,decide_eq_true_eq,Option.isNone_iff_eq_none];constructor
 · rintro ⟨⟨⟨⟨h1,h2⟩,h3⟩,h4⟩,h5⟩
   exact ⟨h1,h2,h3,h4,h5⟩
 · rintro ⟨h1,h2,h3,h4,h5⟩
   exact ⟨⟨⟨⟨h1,h2⟩,h3⟩,h4⟩,h5⟩
theorem find_snoc {C:List Cl} {c:Cl} (hn:C.find? (hasN c.name)=none) (s:ByteArray):(C++[c]).find? (hasN s)=if s=c.name then some c else C.find? (hasN s):=by
 rw [List.find?_append];by_cases h:s=c.name
 · subst h
   rw [if_pos rfl,hn];simp [hasN]
 · rw [if_neg h]
   have:[c].find? (hasN s)=none:=by
    simp [hasN];exact fun e=>h e.symm
   rw [this,Option.or_none]
theorem vfrom_all:∀ {T C:List Cl},vfrom C T=true→∀ (i:Nat) (c:Cl),T[i]? = some c→vcell (C++T.take i) c=true
 | [],_,_,i,c,h=>by simp at h
 | d :: t, C, hv, i, c, h => by
   unfold vfrom at hv;rw [Bool.and_eq_true] at hv;cases i with
   | zero =>
     simp at h;subst h;rw [List.take_zero,List.append_nil];exact hv.1
   | succ i =>
     have:=vfrom_all hv.2 i c (by simpa using h);rw [List.append_assoc] at this;exact this
theorem vnet_all {L:List Cl} (h:vnet L=true):(1≤L.length∧L.length≤20)∧∀ (i:Nat) (c:Cl),L[i]? = some c→vcell (L.take i) c=true:=by
 unfold vnet at h;rw [Bool.and_eq_true,decide_eq_true_eq] at h;exact ⟨h.1,fun i c hc=>by simpa using vfrom_all h.2 i c hc⟩
end Msh
namespace Amp
structure C4 where
 a:Int
 b:Int
 c:Int
 d:Int
 deriving DecidableEq
structure Num where
 x:C4
 k:Int
 deriving DecidableEq
def okC (x:Int):Bool:=decide (-1000000000≤x∧x≤1000000000)
def smallB (x:C4):Bool:=okC x.a&&okC x.b&&okC x.c&&okC x.d
def evenB (x:C4):Bool:=decide ((x.a+x.c) % 2=0∧(x.b+x.d) % 2=0)
def root (x:C4):C4:=⟨x.b - x.d,x.a+x.c,x.b+x.d,x.c - x.a⟩
def half (x:C4):C4:=⟨x.a.tdiv 2,x.b.tdiv 2,x.c.tdiv 2,x.d.tdiv 2⟩
def In4 (x:C4):Prop:=(-4611686018427387903≤x.a∧x.a≤4611686018427387903)∧(-4611686018427387903≤x.b∧x.b≤4611686018427387903)∧(-4611686018427387903≤x.c∧x.c≤4611686018427387903)∧(-4611686018427387903≤x.d∧x.d≤4611686018427387903)
def red:Nat→C4→C4 × Nat
 | 0,x=>(x,0)
 | k+1,x=>if evenB x=true then red k (half (root x)) else (x,k+1)
theorem tmod2 (x:Int):x.tmod 2=0↔x % 2=0:=by
 rw [← Int.dvd_iff_tmod_eq_zero,Int.dvd_iff_emod_eq_zero]
theorem tdiv2 (x:Int):x - 1≤2*x.tdiv 2∧2*x.tdiv 2≤x+1:=by
 have h:=Int.mul_tdiv_add_tmod x 2;have h1:=Int.tmod_lt_of_pos x (show (0:Int)<2 by decide);have h2:=Int.lt_tmod_of_pos x (show (0:Int)<2 by decide);omega
theorem tdiv2_even (x:Int) (h:x % 2=0):2*x.tdiv 2=x:=by
 have h':=Int.mul_tdiv_add_tmod x 2;rw [(tmod2 x).2 h] at h';omega
theorem in4_half_root {x:C4} (h:In4 x):In4 (half (root x)):=by
 obtain ⟨⟨_,_⟩,⟨_,_⟩,⟨_,_⟩,⟨_,_⟩⟩:=h;have h1:=tdiv2 (x.b - x.d);have h2:=tdiv2 (x.a+x.c);have h3:=tdiv2 (x.b+x.d);have h4:=tdiv2 (x.c - x.a);refine ⟨⟨?_, ?_⟩,⟨?_, ?_⟩,⟨?_, ?_⟩,⟨?_, ?_⟩⟩ <;> simp only [half,root] <;> omega
theorem red_le:∀ (k:Nat) (x:C4),(red k x).2≤k
 | 0,x=>Nat.le_refl _
 | k + 1, x => by
   unfold red;split
   · exact Nat.le_succ_of_le (red_le k _)
   · exact Nat.le_refl _
def validB (x:C4) (k:Int):Bool:=smallB x&&decide (0≤k∧k≤40)&&(decide (k=0)||!evenB x)
structure Res where
 x:C4
 k:Int
 e:Int
 deriving DecidableEq
def zero:C4:=⟨0,0,0,0⟩
def fail (e:Int):Res:=⟨zero,0,e⟩
def made (x:C4) (k:Int):Res:=if validB (red k.toNat x).1 (red k.toNat x).2=true then ⟨(red k.toNat x).1,(red k.toNat x).2,0⟩ else fail 4
theorem okC_iff {x:Int}:okC x=true↔-1000000000≤x∧x≤1000000000:=by simp [okC]
theorem smallB_iff {x:C4}:smallB x=true↔((-1000000000≤x.a∧x.a≤1000000000)∧(-1000000000≤x.b∧x.b≤1000000000)∧(-1000000000≤x.c∧x.c≤1000000000)∧(-1000000000≤x.d∧x.d≤1000000000)):=by
 simp only [smallB,Bool.and_eq_true,okC_iff];constructor
 · rintro ⟨⟨⟨h1,h2⟩,h3⟩,h4⟩;exact ⟨h1,h2,h3,h4⟩
 · rintro ⟨h1,h2,h3,h4⟩;exact ⟨⟨⟨h1,h2⟩,h3⟩,h4⟩
theorem in4_small {x:C4} (h:smallB x=true):In4 x:=by
 obtain ⟨⟨_,_⟩,⟨_,_⟩,⟨_,_⟩,⟨_,_⟩⟩:=smallB_iff.1 h;refine ⟨⟨?_, ?_⟩,⟨?_, ?_⟩,⟨?_, ?_⟩,⟨?_, ?_⟩⟩ <;> omega
theorem validB_small {x:C4} {k:Int} (h:validB x k=true):smallB x=true:=by
 simp only [validB,Bool.and_eq_true] at h;exact h.1.1
theorem validB_k {x:C4} {k:Int} (h:validB x k=true):0≤k∧k≤40:=by
 simp only [validB,Bool.and_eq_true,decide_eq_true_eq] at h;exact h.1.2
def okRes (x:C4) (k:Int):Bool:=decide (k≤40)&&smallB x
theorem red_odd:∀ (k:Nat) (x:C4),(red k x).2=0∨evenB (red k x).1=false
 | 0,x=>.inl rfl
 | k + 1, x => by
   unfold red;split
   · exact red_odd k _
   · rename_i h;exact .inr (by simpa using h)
theorem validB_red (k:Nat) (x:C4):validB (red k x).1 (red k x).2=okRes (red k x).1 (red k x).2:=by
 unfold validB okRes;rcases red_odd k x with h | h
 · simp [h]
 · rw [h];simp [Bool.and_comm]
theorem red_valid {k:Nat} {x:C4} (h:k=0∨evenB x=false):red k x=(x,k):=by
 cases k with
 | zero=>rfl
 | succ k =>
   rcases h with h | h
   · cases h
   · unfold red;rw [h];rfl
theorem red_same {k:Nat} {x:C4} (h:red k x=(x,k)):k=0∨evenB x=false:=by
 have:=red_odd k x;rw [h] at this;exact this
def in60 (x:C4):Prop:=(-1152921504606846976≤x.a∧x.a≤1152921504606846976)∧(-1152921504606846976≤x.b∧x.b≤1152921504606846976)∧(-1152921504606846976≤x.c∧x.c≤1152921504606846976)∧(-1152921504606846976≤x.d∧x.d≤1152921504606846976)
instance (x:C4):Decidable (in60 x):=by unfold in60;infer_instance
end Amp
namespace Amp
def mulC (x y:C4):C4:=⟨x.a*y.a - x.b*y.d - x.c*y.c - x.d*y.b,x.a*y.b+x.b*y.a - x.c*y.d - x.d*y.c,x.a*y.c+x.b*y.b+x.c*y.a - x.d*y.d,x.a*y.d+x.b*y.c+x.c*y.b+x.d*y.a⟩
def conjC (x:C4):C4:=⟨x.a, -x.d, -x.c, -x.b⟩
theorem prod_bd {x y:Int} (h1:-1000000000≤x∧x≤1000000000) (h2:-1000000000≤y∧y≤1000000000):-1000000000000000000≤x*y∧x*y≤1000000000000000000:=by
 have h3:(x*y).natAbs≤1000000000*1000000000:=by
  rw [Int.natAbs_mul];exact Nat.mul_le_mul (by omega) (by omega)
 omega
structure Prods (x y:C4):Prop where
 aa:-1000000000000000000≤x.a*y.a∧x.a*y.a≤1000000000000000000
 ab:-1000000000000000000≤x.a*y.b∧x.a*y.b≤1000000000000000000
 ac:-1000000000000000000≤x.a*y.c∧x.a*y.c≤1000000000000000000
 ad:-1000000000000000000≤x.a*y.d∧x.a*y.d≤1000000000000000000
 ba:-1000000000000000000≤x.b*y.a∧x.b*y.a≤1000000000000000000
 bb:-1000000000000000000≤x.b*y.b∧x.b*y.b≤1000000000000000000
 bc:-1000000000000000000≤x.b*y.c∧x.b*y.c≤1000000000000000000
 bd:-1000000000000000000≤x.b*y.d∧x.b*y.d≤1000000000000000000
 ca:-1000000000000000000≤x.c*y.a∧x.c*y.a≤1000000000000000000
 cb:-1000000000000000000≤x.c*y.b∧x.c*y.b≤1000000000000000000
 cc:-1000000000000000000≤x.c*y.c∧x.c*y.c≤1000000000000000000
 cd:-1000000000000000000≤x.c*y.d∧x.c*y.d≤1000000000000000000
 da:-1000000000000000000≤x.d*y.a∧x.d*y.a≤1000000000000000000
 db:-1000000000000000000≤x.d*y.b∧x.d*y.b≤1000000000000000000
 dc:-1000000000000000000≤x.d*y.c∧x.d*y.c≤1000000000000000000
 dd:-1000000000000000000≤x.d*y.d∧x.d*y.d≤1000000000000000000
theorem prods {x y:C4} (hx:smallB x=true) (hy:smallB y=true):Prods x y:=by
 obtain ⟨ha,hb,hc,hd⟩:=smallB_iff.1 hx;obtain ⟨ka,kb,kc,kd⟩:=smallB_iff.1 hy;exact ⟨prod_bd ha ka,prod_bd ha kb,prod_bd ha kc,prod_bd ha kd,prod_bd hb ka,prod_bd hb kb,prod_bd hb kc,prod_bd hb kd,prod_bd hc ka,prod_bd hc kb,prod_bd hc kc,prod_bd hc kd,prod_bd hd ka,prod_bd hd kb,prod_bd hd kc,prod_bd hd kd⟩
theorem in4_mul {x y:C4} (hx:smallB x=true) (hy:smallB y=true):In4 (mulC x y):=by
 obtain ⟨⟨_,_⟩,⟨_,_⟩,⟨_,_⟩,⟨_,_⟩,⟨_,_⟩,⟨_,_⟩,⟨_,_⟩,⟨_,_⟩,⟨_,_⟩,⟨_,_⟩,⟨_,_⟩,⟨_,_⟩,⟨_,_⟩,⟨_,_⟩,⟨_,_⟩,⟨_,_⟩⟩:=prods hx hy;refine ⟨⟨?_, ?_⟩,⟨?_, ?_⟩,⟨?_, ?_⟩,⟨?_, ?_⟩⟩ <;> simp only [mulC] <;> omega
theorem small_conj {x:C4} (hx:smallB x=true):smallB (conjC x)=true:=by
 obtain ⟨⟨_,_⟩,⟨_,_⟩,⟨_,_⟩,⟨_,_⟩⟩:=smallB_iff.1 hx;refine smallB_iff.2 ⟨⟨?_, ?_⟩,⟨?_, ?_⟩,⟨?_, ?_⟩,⟨?_, ?_⟩⟩ <;> simp only [conjC] <;> omega
end Amp
namespace Amp
def mulN (x:C4) (k:Int) (y:C4) (j:Int):Res:=if validB x k=true∧validB y j=true then made (mulC x y) (k+j) else fail 10
def powerN (x:C4) (k:Int):Res:=if validB x k=true then made (mulC x (conjC x)) (k+k) else fail 10
end Amp
namespace Amp
def negC (x:C4):C4:=⟨-x.a, -x.b, -x.c, -x.d⟩
def flipC (x:C4):C4:=⟨x.a, -x.b,x.c, -x.d⟩
def rotC (x:C4):C4:=⟨-x.d,x.a,x.b,x.c⟩
def turnC:Nat→C4→C4
 | 0,x=>x
 | n+1,x=>turnC n (rotC x)
def changeR (v:Bool) (y:C4) (k:Int):Res:=if v=true then ⟨y,k,0⟩ else fail 10
theorem small_of {x:C4} (h:(-1000000000≤x.a∧x.a≤1000000000)∧(-1000000000≤x.b∧x.b≤1000000000)∧(-1000000000≤x.c∧x.c≤1000000000)∧(-1000000000≤x.d∧x.d≤1000000000)):smallB x=true:=smallB_iff.2 h
theorem small_neg {x:C4} (h:smallB x=true):smallB (negC x)=true:=by
 obtain ⟨⟨_,_⟩,⟨_,_⟩,⟨_,_⟩,⟨_,_⟩⟩:=smallB_iff.1 h;refine small_of ⟨⟨?_, ?_⟩,⟨?_, ?_⟩,⟨?_, ?_⟩,⟨?_, ?_⟩⟩ <;> simp only [negC] <;> omega
theorem small_rot {x:C4} (h:smallB x=true):smallB (rotC x)=true:=by
 obtain ⟨⟨_,_⟩,⟨_,_⟩,⟨_,_⟩,⟨_,_⟩⟩:=smallB_iff.1 h;refine small_of ⟨⟨?_, ?_⟩,⟨?_, ?_⟩,⟨?_, ?_⟩,⟨?_, ?_⟩⟩ <;> simp only [rotC] <;> omega
theorem small_turn:∀ (n:Nat) {x:C4},smallB x=true→smallB (turnC n x)=true
 | 0,_,h=>h
 | n+1,_,h=>small_turn n (small_rot h)
theorem even_flip (x:C4):evenB (flipC x)=evenB x:=by
 simp only [evenB,flipC]
 congr 1
 simp only [eq_iff_iff];omega
theorem changeR_e {v:Bool} {y:C4} {k:Int} (h:v=true):changeR v y k=⟨y,k,0⟩:=if_pos h
theorem changeR_f {v:Bool} {y:C4} {k:Int} (h:v=false):changeR v y k=fail 10:=if_neg (by rw [h];exact Bool.false_ne_true)
end Amp
namespace Amp
def rpow:Nat→C4→C4
 | 0,x=>x
 | n+1,x=>rpow n (root x)
def dbl (x:C4):C4:=⟨x.a*2,x.b*2,x.c*2,x.d*2⟩
theorem C4.ext' {x y:C4} (ha:x.a=y.a) (hb:x.b=y.b) (hc:x.c=y.c) (hd:x.d=y.d):x=y:=by
 cases x;cases y;simp_all
theorem root_root (x:C4):root (root x)=dbl x:=by
 refine C4.ext' ?_ ?_ ?_ ?_ <;> simp only [root,dbl] <;> omega
theorem rpow_dbl (n:Nat) (x:C4):rpow n (dbl x)=rpow (n+2) x:=by rw [← root_root];rfl
theorem rpow_succ (n:Nat):∀ (x:C4),rpow (n+1) x=root (rpow n x):=by
 induction n with
 | zero=>intro x;rfl
 | succ n ih=>intro x;exact ih (root x)
def Bd (M:Int) (x:C4):Prop:=(-M≤x.a∧x.a≤M)∧(-M≤x.b∧x.b≤M)∧(-M≤x.c∧x.c≤M)∧(-M≤x.d∧x.d≤M)
theorem bd_small {x:C4} (h:smallB x=true):Bd 1000000000 x:=smallB_iff.1 h
theorem bd_dbl {M:Int} {x:C4} (h:Bd M x):Bd (2*M) (dbl x):=by
 obtain ⟨⟨_,_⟩,⟨_,_⟩,⟨_,_⟩,⟨_,_⟩⟩:=h;refine ⟨⟨?_, ?_⟩,⟨?_, ?_⟩,⟨?_, ?_⟩,⟨?_, ?_⟩⟩ <;> simp only [dbl] <;> omega
theorem bd_root {M:Int} {x:C4} (h:Bd M x):Bd (2*M) (root x):=by
 obtain ⟨⟨_,_⟩,⟨_,_⟩,⟨_,_⟩,⟨_,_⟩⟩:=h;refine ⟨⟨?_, ?_⟩,⟨?_, ?_⟩,⟨?_, ?_⟩,⟨?_, ?_⟩⟩ <;> simp only [root] <;> omega
theorem bd_mono {M N:Int} {x:C4} (h:Bd M x) (hn:M≤N):Bd N x:=by
 obtain ⟨⟨_,_⟩,⟨_,_⟩,⟨_,_⟩,⟨_,_⟩⟩:=h;refine ⟨⟨?_, ?_⟩,⟨?_, ?_⟩,⟨?_, ?_⟩,⟨?_, ?_⟩⟩ <;> omega
theorem bd_even:∀ (j:Nat) {M:Int} {x:C4},Bd M x→Bd (2 ^ j*M) (rpow (2*j) x)
 | 0,M,x,h=>by simpa [rpow] using h
 | j + 1, M, x, h => by
   have:=bd_even j (bd_dbl h);rw [rpow_dbl] at this;rw [show 2*(j+1)=2*j+2 by omega,show (2:Int) ^ (j+1)*M=2 ^ j*(2*M) by rw [Int.pow_succ];rw [Int.mul_assoc]];exact this
theorem pow_le20 {j:Nat} (h:j≤20):(2:Int) ^ j≤1048576:=by
 have h1:(2:Nat) ^ j≤2 ^ 20:=Nat.pow_le_pow_right (by decide) h;have h2:((2 ^ j:Nat):Int)≤((2 ^ 20:Nat):Int):=Int.ofNat_le.2 h1
 simpa using h2
theorem bd_rpow {n:Nat} (hn:n≤40) {x:C4} (h:smallB x=true):Bd 1048576000000000 (rpow n x):=by
 have hb:=bd_small h;rcases Nat.mod_two_eq_zero_or_one n with h0 | h1
 · obtain ⟨j,rfl⟩:∃ j,n=2*j:=⟨n / 2,by omega⟩
   have h2:=pow_le20 (j:=j) (by omega);exact bd_mono (bd_even j hb) (by omega)
 · obtain ⟨j,rfl⟩:∃ j,n=2*j+1:=⟨n / 2,by omega⟩
   have h2:=pow_le20 (j:=j+1) (by omega);rw [Int.pow_succ] at h2;exact bd_mono (bd_even j (bd_root hb)) (by omega)
def addK (x:C4) (k:Int) (y:C4) (j:Int):C4 :=
 ⟨(rpow (max k j - k).toNat x).a+(rpow (max k j - j).toNat y).a,(rpow (max k j - k).toNat x).b+(rpow (max k j - j).toNat y).b,(rpow (max k j - k).toNat x).c+(rpow (max k j - j).toNat y).c,(rpow (max k j - k).toNat x).d+(rpow (max k j - j).toNat y).d⟩
def addN (x:C4) (k:Int) (y:C4) (j:Int):Res:=if validB x k=true∧validB y j=true then made (addK x k y j) (max k j) else fail 10
theorem rpow_neg:∀ (n:Nat) (x:C4),rpow n (negC x)=negC (rpow n x)
 | 0,x=>rfl
 | n + 1, x => by
   show rpow n (root (negC x))=negC (rpow n (root x))
   rw [← rpow_neg n (root x)]
   congr 1
   refine C4.ext' ?_ ?_ ?_ ?_ <;> simp only [root,negC] <;> omega
theorem in4_addK {x y:C4} {k j:Int} (hx:smallB x=true) (hy:smallB y=true) (hk:0≤k∧k≤40) (hj:0≤j∧j≤40):In4 (addK x k y j):=by
 obtain ⟨⟨_,_⟩,⟨_,_⟩,⟨_,_⟩,⟨_,_⟩⟩:=bd_rpow (n:=(max k j - k).toNat) (by omega) hx;obtain ⟨⟨_,_⟩,⟨_,_⟩,⟨_,_⟩,⟨_,_⟩⟩:=bd_rpow (n:=(max k j - j).toNat) (by omega) hy;refine ⟨⟨?_, ?_⟩,⟨?_, ?_⟩,⟨?_, ?_⟩,⟨?_, ?_⟩⟩ <;> simp only [addK] <;> omega
theorem addK_lt {x y:C4} {k j:Int} (h:k<j):addK x k y j=⟨(rpow (j - k).toNat x).a+y.a,(rpow (j - k).toNat x).b+y.b,(rpow (j - k).toNat x).c+y.c,(rpow (j - k).toNat x).d+y.d⟩:=by
 have h1:max k j=j:=by omega
 unfold addK;rw [h1,show (j - j).toNat=0 by omega];rfl
theorem addK_ge {x y:C4} {k j:Int} (h:¬ k<j):addK x k y j=⟨x.a+(rpow (k - j).toNat y).a,x.b+(rpow (k - j).toNat y).b,x.c+(rpow (k - j).toNat y).c,x.d+(rpow (k - j).toNat y).d⟩:=by
 have h1:max k j=k:=by omega
 unfold addK;rw [h1,show (k - k).toNat=0 by omega];rfl
end Amp
namespace Amp
theorem made_cases (x:C4) (k:Int):(∃ y j,made x k=⟨y,j,0⟩∧validB y j=true)∨made x k=fail 4:=by
 unfold made;split
 · rename_i h;exact .inl ⟨_,_,rfl,h⟩
 · exact .inr rfl
end Amp
namespace Amp
def addC (x y:C4):C4:=⟨x.a+y.a,x.b+y.b,x.c+y.c,x.d+y.d⟩
theorem root_add (x y:C4):root (addC x y)=addC (root x) (root y):=by
 refine C4.ext' ?_ ?_ ?_ ?_ <;> simp only [root,addC] <;> omega
theorem rpow_add:∀ (n:Nat) (x y:C4),rpow n (addC x y)=addC (rpow n x) (rpow n y)
 | 0,_,_=>rfl
 | n+1,x,y=>by show rpow n (root (addC x y))=_;rw [root_add,rpow_add n];rfl
theorem dbl_inj {x y:C4} (h:dbl x=dbl y):x=y:=by
 simp only [dbl,C4.mk.injEq] at h;exact C4.ext' (by omega) (by omega) (by omega) (by omega)
theorem root_inj {x y:C4} (h:root x=root y):x=y:=by
 apply dbl_inj;rw [← root_root,← root_root,h]
theorem rpow_inj:∀ (n:Nat) {x y:C4},rpow n x=rpow n y→x=y
 | 0,_,_,h=>h
 | n+1,_,_,h=>root_inj (rpow_inj n h)
theorem rpow_rpow:∀ (m n:Nat) (x:C4),rpow m (rpow n x)=rpow (m+n) x
 | m,0,x=>rfl
 | m,n+1,x=>by show rpow m (rpow n (root x))=rpow (m+n) (root x);exact rpow_rpow m n (root x)
theorem half_dbl (x:C4):half (dbl x)=x:=by
 refine C4.ext' ?_ ?_ ?_ ?_ <;> simp only [half,dbl] <;> exact Int.mul_tdiv_cancel _ (by decide)
theorem even_root (x:C4):evenB (root x)=true:=by
 refine decide_eq_true ⟨?_, ?_⟩ <;> simp only [root] <;> omega
theorem red_root (k:Nat) (x:C4):red (k+1) (root x)=red k x:=by
 show (if evenB (root x)=true then red k (half (root (root x))) else (root x,k+1))=red k x
 rw [if_pos (even_root x),root_root,half_dbl]
theorem red_rpow (k:Nat):∀ (n:Nat) (x:C4),red (k+n) (rpow n x)=red k x
 | 0,_=>rfl
 | n + 1, x => by
   rw [rpow_succ,show k+(n+1)=(k+n)+1 by omega,red_root];exact red_rpow k n x
theorem root_half {x:C4} (h:evenB x=true):root (half (root x))=x:=by
 simp only [evenB,decide_eq_true_eq] at h;have h1:=tdiv2_even (x.b - x.d) (by omega);have h2:=tdiv2_even (x.a+x.c) (by omega);have h3:=tdiv2_even (x.b+x.d) (by omega);have h4:=tdiv2_even (x.c - x.a) (by omega);refine C4.ext' ?_ ?_ ?_ ?_ <;> simp only [root,half] <;> omega
theorem red_val:∀ (k:Nat) (x:C4),rpow (k - (red k x).2) (red k x).1=x
 | 0,x=>rfl
 | k + 1, x => by
   by_cases h:evenB x=true
   · have e:red (k+1) x=red k (half (root x)):=if_pos h
     rw [e,show k+1 - (red k (half (root x))).2=(k - (red k (half (root x))).2)+1 by have:=red_le k (half (root x));omega,rpow_succ,red_val k,root_half h]
   · have e:red (k+1) x=(x,k+1):=if_neg h
     rw [e,Nat.sub_self];rfl
def Same (x:C4) (k:Nat) (y:C4) (j:Nat):Prop:=∃ m n,k+m=j+n∧rpow m x=rpow n y
theorem Same.refl (x:C4) (k:Nat):Same x k x k:=⟨0,0,rfl,rfl⟩
theorem Same.symm {x y:C4} {k j:Nat} (h:Same x k y j):Same y j x k:=by
 obtain ⟨m,n,h1,h2⟩:=h;exact ⟨n,m,h1.symm,h2.symm⟩
theorem Same.trans {x y z:C4} {k j i:Nat} (h:Same x k y j) (h':Same y j z i):Same x k z i:=by
 obtain ⟨m,n,h1,h2⟩:=h;obtain ⟨m',n',h3,h4⟩:=h';refine ⟨m+m',n+n',by omega, ?_⟩;rw [Nat.add_comm m m',← rpow_rpow m' m,h2,rpow_rpow,Nat.add_comm m' n,← rpow_rpow n m',h4,rpow_rpow]
theorem Same.add {x y x' y':C4} {k j:Nat} (h:Same x k x' j) (h':Same y k y' j):Same (addC x y) k (addC x' y') j:=by
 obtain ⟨m,n,h1,h2⟩:=h;obtain ⟨m',n',h3,h4⟩:=h';refine ⟨m'+m,m'+n,by omega, ?_⟩;rw [rpow_add,rpow_add];have e1:rpow (m'+m) x=rpow (m'+n) x':=by rw [← rpow_rpow,h2,rpow_rpow]
 have e2:rpow (m'+m) y=rpow (m'+n) y':=by
  rw [Nat.add_comm m' m,← rpow_rpow,h4,rpow_rpow,show m+n'=m'+n by omega]
 rw [e1,e2]
theorem mul_root (x y:C4):mulC (root x) y=root (mulC x y):=by
 refine C4.ext' ?_ ?_ ?_ ?_ <;> simp only [mulC,root] <;> grind
theorem mul_comm' (x y:C4):mulC x y=mulC y x:=by
 refine C4.ext' ?_ ?_ ?_ ?_ <;> simp only [mulC] <;> grind
theorem mul_add' (x y z:C4):mulC (addC x y) z=addC (mulC x z) (mulC y z):=by
 refine C4.ext' ?_ ?_ ?_ ?_ <;> simp only [mulC,addC] <;> grind
theorem mul_rpow:∀ (n:Nat) (x y:C4),mulC (rpow n x) y=rpow n (mulC x y)
 | 0,_,_=>rfl
 | n + 1, x, y => by
   show mulC (rpow n (root x)) y=rpow n (root (mulC x y))
   rw [mul_rpow n,mul_root]
theorem mul_rpow' (n:Nat) (x y:C4):mulC x (rpow n y)=rpow n (mulC x y):=by
 rw [mul_comm',mul_rpow,mul_comm']
theorem Same.mul {x y x' y':C4} {k j k' j':Nat} (h:Same x k x' k') (h':Same y j y' j'):Same (mulC x y) (k+j) (mulC x' y') (k'+j'):=by
 obtain ⟨m,n,h1,h2⟩:=h;obtain ⟨m',n',h3,h4⟩:=h';refine ⟨m'+m,n'+n,by omega, ?_⟩;rw [← rpow_rpow m' m,← mul_rpow m,← mul_rpow',← rpow_rpow n' n,← mul_rpow n,← mul_rpow',h2,h4]
theorem conj_root (x:C4):conjC (root x)=root (conjC x):=by
 refine C4.ext' ?_ ?_ ?_ ?_ <;> simp only [conjC,root] <;> omega
theorem conj_rpow:∀ (n:Nat) (x:C4),conjC (rpow n x)=rpow n (conjC x)
 | 0,_=>rfl
 | n+1,x=>by show conjC (rpow n (root x))=rpow n (root (conjC x));rw [conj_rpow n,conj_root]
theorem conj_mul (x y:C4):conjC (mulC x y)=mulC (conjC x) (conjC y):=by
 refine C4.ext' ?_ ?_ ?_ ?_ <;> simp only [conjC,mulC] <;> grind
theorem Same.neg {x y:C4} {k j:Nat} (h:Same x k y j):Same (negC x) k (negC y) j:=by
 obtain ⟨m,n,h1,h2⟩:=h;exact ⟨m,n,h1,by rw [rpow_neg,rpow_neg,h2]⟩
theorem made_same {x y:C4} {k j:Nat} (h:Same x k y j):made x k=made y j:=by
 obtain ⟨m,n,h1,h2⟩:=h;have e:red k x=red j y:=by
  rw [← red_rpow k m,h1,h2,red_rpow]
 unfold made;simp only [Int.toNat_natCast,e]
theorem made_valid {x:C4} {k:Nat} (h:validB x k=true):made x k=⟨x,k,0⟩:=by
 have e:red k x=(x,k):=by
  apply red_valid;simp only [validB,Bool.and_eq_true,Bool.or_eq_true,decide_eq_true_eq,Bool.not_eq_true'] at h;exact h.2.imp (fun h=>by omega) id
 unfold made;simp only [Int.toNat_natCast,e,h,if_true]
theorem made_val {x:C4} {k:Nat} {r:Res} (h:made x k=r) (he:r.e=0):∃ m:Nat,r.k=m∧Same x k r.x m∧validB r.x m=true:=by
 unfold made at h;simp only [Int.toNat_natCast] at h;split at h
 · rename_i hv
   subst h;refine ⟨(red k x).2,rfl,⟨0,k - (red k x).2, ?_, ?_⟩,hv⟩
   · have:=red_le k x;omega
   · exact (red_val k x).symm
 · subst h
   simp [fail] at he
theorem valid_nat {x:C4} {k:Int} (h:validB x k=true):∃ n:Nat,k=n∧n≤40:=by
 obtain ⟨h1,h2⟩:=validB_k h;exact ⟨k.toNat,by omega,by omega⟩
theorem addK_nat (x y:C4) (k j:Nat):addK x k y j=addC (rpow (max k j - k) x) (rpow (max k j - j) y):=by
 have h:(max (k:Int) (j:Int))=((max k j:Nat):Int):=by omega
 unfold addK addC;rw [h,show ((max k j:Nat):Int) - k=((max k j - k:Nat):Int) by omega,show ((max k j:Nat):Int) - j=((max k j - j:Nat):Int) by omega,Int.toNat_natCast,Int.toNat_natCast]
theorem max_cast (k j:Nat):(max (k:Int) (j:Int))=((max k j:Nat):Int):=by omega
theorem addC_comm (x y:C4):addC x y=addC y x:=by
 refine C4.ext' ?_ ?_ ?_ ?_ <;> simp only [addC] <;> omega
theorem same_addK (x y:C4) (k j N:Nat) (hk:k≤N) (hj:j≤N):Same (addK x k y j) (max k j) (addC (rpow (N - k) x) (rpow (N - j) y)) N:=by
 refine ⟨N - max k j,0,by omega, ?_⟩;rw [addK_nat,rpow_add,rpow_rpow,rpow_rpow,show N - max k j+(max k j - k)=N - k by omega,show N - max k j+(max k j - j)=N - j by omega];rfl
theorem Same.lift (x:C4) {k N:Nat} (h:k≤N):Same x k (rpow (N - k) x) N:=⟨N - k,0,by omega,rfl⟩
theorem Same.addK {x y x' y':C4} {k j k' j':Nat} (h:Same x k x' k') (h':Same y j y' j'):Same (addK x k y j) (max k j) (addK x' k' y' j') (max k' j'):=by
 refine (same_addK x y k j (k+j) (by omega) (by omega)).trans (Same.trans ?_ (same_addK x' y' k' j' (k'+j') (by omega) (by omega)).symm);exact Same.add ((Same.lift x (by omega)).symm.trans (h.trans (Same.lift x' (by omega)))) ((Same.lift y (by omega)).symm.trans (h'.trans (Same.lift y' (by omega))))
end Amp
namespace Amp
theorem addN_cases (x y:C4) (k j:Int):(∃ e,e≠0∧addN x k y j=fail e)∨(∃ n m i:Nat,∃ s,k=n∧j=m∧validB x k=true∧validB y j=true∧addN x k y j=⟨s,i,0⟩∧validB s i=true∧Same (addK x n y m) (max n m) s i):=by
 unfold addN;by_cases h:validB x k=true∧validB y j=true
 · obtain ⟨n,rfl,_⟩:=valid_nat h.1
   obtain ⟨m,rfl,_⟩:=valid_nat h.2;rw [if_pos h,max_cast];rcases made_cases (addK x n y m) ((max n m:Nat):Int) with ⟨s,i,hm,hv⟩ | hm
   · right
     obtain ⟨i',h1,h2,h3⟩:=made_val hm rfl;simp only at h1 h2 h3;subst h1;exact ⟨n,m,i',s,rfl,rfl,h.1,h.2,hm,hv,h2⟩
   · exact .inl ⟨4,by decide,hm⟩
 · rw [if_neg h]
   exact .inl ⟨10,by decide,rfl⟩
theorem mulN_cases (x y:C4) (k j:Int):(∃ e,e≠0∧mulN x k y j=fail e)∨(∃ n m i:Nat,∃ s,k=n∧j=m∧validB x k=true∧validB y j=true∧mulN x k y j=⟨s,i,0⟩∧validB s i=true∧Same (mulC x y) (n+m) s i):=by
 unfold mulN;by_cases h:validB x k=true∧validB y j=true
 · obtain ⟨n,rfl,_⟩:=valid_nat h.1
   obtain ⟨m,rfl,_⟩:=valid_nat h.2;rw [if_pos h,show (n:Int)+m=((n+m:Nat):Int) by omega];rcases made_cases (mulC x y) ((n+m:Nat):Int) with ⟨s,i,hm,hv⟩ | hm
   · right
     obtain ⟨i',h1,h2,h3⟩:=made_val hm rfl;simp only at h1 h2 h3;subst h1;exact ⟨n,m,i',s,rfl,rfl,h.1,h.2,hm,hv,h2⟩
   · exact .inl ⟨4,by decide,hm⟩
 · rw [if_neg h]
   exact .inl ⟨10,by decide,rfl⟩
end Amp
namespace Amp
theorem neg_neg' (x:C4):negC (negC x)=x:=by
 refine C4.ext' ?_ ?_ ?_ ?_ <;> simp only [negC] <;> omega
theorem conj_conj (x:C4):conjC (conjC x)=x:=by
 refine C4.ext' ?_ ?_ ?_ ?_ <;> simp only [conjC] <;> omega
theorem valid_conj (x:C4) (k:Int):validB (conjC x) k=validB x k:=by
 have h1:smallB (conjC x)=smallB x:=by
  rw [Bool.eq_iff_iff];constructor
  · intro h
    have:=small_conj h
    simpa [conjC] using this
  · exact small_conj
 have h2:evenB (conjC x)=evenB x:=by
  simp only [evenB,conjC]
  congr 1
  simp only [eq_iff_iff];omega
 simp only [validB,h1,h2]
theorem mul_neg (x y:C4):mulC (negC x) y=negC (mulC x y):=by
 refine C4.ext' ?_ ?_ ?_ ?_ <;> simp only [negC,mulC] <;> grind
end Amp
namespace Msh
open Amp
def rowA (s:C4) (k:Int):List (Num × Num)→Res
 | []=>⟨s,k,0⟩
 | p :: t =>
   let m:=mulN p.1.x p.1.k p.2.x p.2.k
   if m.e=0 then
    let a:=addN s k m.x m.k
    if a.e=0 then rowA a.x a.k t else ⟨zero,0,a.e⟩
   else ⟨zero,0,m.e⟩
def rowN (l:List (Num × Num)):Res:=rowA zero 0 l
theorem rowA_mul {s:C4} {k:Int} {l:List (Num × Num)} {i:Nat} {p:Num × Num} (h:l[i]? = some p) {m:Res} (hm:mulN p.1.x p.1.k p.2.x p.2.k=m) (he:¬ m.e=0):rowA s k (l.drop i)=⟨zero,0,m.e⟩:=by
 obtain ⟨hi,rfl⟩:=List.getElem?_eq_some_iff.1 h;rw [List.drop_eq_getElem_cons hi];subst hm;simp only [rowA];rw [if_neg he]
theorem rowA_add {s:C4} {k:Int} {l:List (Num × Num)} {i:Nat} {p:Num × Num} (h:l[i]? = some p) {m a:Res} (hm:mulN p.1.x p.1.k p.2.x p.2.k=m) (he:m.e=0) (ha:addN s k m.x m.k=a) (hae:¬ a.e=0):rowA s k (l.drop i)=⟨zero,0,a.e⟩:=by
 obtain ⟨hi,rfl⟩:=List.getElem?_eq_some_iff.1 h;rw [List.drop_eq_getElem_cons hi];subst hm;subst ha;simp only [rowA];rw [if_pos he,if_neg hae]
theorem rowA_step {s:C4} {k:Int} {l:List (Num × Num)} {i:Nat} {p:Num × Num} (h:l[i]? = some p) {m a:Res} (hm:mulN p.1.x p.1.k p.2.x p.2.k=m) (he:m.e=0) (ha:addN s k m.x m.k=a) (hae:a.e=0):rowA s k (l.drop i)=rowA a.x a.k (l.drop (i+1)):=by
 obtain ⟨hi,rfl⟩:=List.getElem?_eq_some_iff.1 h;rw [List.drop_eq_getElem_cons hi];subst hm;subst ha;simp only [rowA];rw [if_pos he,if_pos hae]
theorem rowA_end (s:C4) (k:Int) (l:List (Num × Num)):rowA s k (l.drop l.length)=⟨s,k,0⟩:=by
 rw [List.drop_length];rfl
def prow (la lb:List Num) (n i k:Nat):List (Num × Num):=(List.range n).map fun j=>(la.getD (i*n+j) ⟨zero,0⟩,lb.getD (j*n+k) ⟨zero,0⟩)
theorem prow_length (la lb:List Num) (n i k:Nat):(prow la lb n i k).length=n:=by simp [prow]
theorem grid_lt {n i j:Nat} (hi:i<n) (hj:j<n):i*n+j<n*n:=by
 have h:(i+1)*n≤n*n:=Nat.mul_le_mul_right n hi;rw [Nat.add_mul,Nat.one_mul] at h;omega
theorem prow_at {la lb:List Num} {n i k j:Nat} {p:Num × Num} (hla:la.length=n*n) (hlb:lb.length=n*n) (hi:i<n) (hk:k<n) (h:(prow la lb n i k)[j]? = some p) :
  j<n∧la[i*n+j]? = some p.1∧lb[j*n+k]? = some p.2:=by
 obtain ⟨hj,rfl⟩:=List.getElem?_eq_some_iff.1 h;rw [prow_length] at hj;have h1:i*n+j<la.length:=by rw [hla];exact grid_lt hi hj
 have h2:j*n+k<lb.length:=by rw [hlb];exact grid_lt hj hk
 refine ⟨hj, ?_, ?_⟩
 · simp [prow,List.getD,List.getElem?_eq_getElem h1]
 · simp [prow,List.getD,List.getElem?_eq_getElem h2]
theorem sq_le {i n:Nat} (hi:i<n) (hn:n≤6):i*n≤36:=by
 have h:=Nat.mul_le_mul (show i≤6 by omega) hn;omega
end Msh
namespace Msh
open Amp
def seqR:List Res→List Num × Int
 | []=>([],0)
 | r::t=>if r.e=0 then (if (seqR t).2=0 then (⟨r.x,r.k⟩::(seqR t).1,0) else ([],(seqR t).2)) else ([],r.e)
theorem seqR_ok:∀ (L:List Res),(∀ r∈L,r.e=0)→seqR L=(L.map fun r=>⟨r.x,r.k⟩,0)
 | [],_=>rfl
 | r :: t, h => by
   have h1:=seqR_ok t fun r hr=>h r (List.mem_cons_of_mem _ hr)
   simp [seqR,h1,h r List.mem_cons_self]
theorem seqR_zero:∀ (L:List Res),(seqR L).2=0→∀ r∈L,r.e=0
 | [],_,r,hr=>by simp at hr
 | q :: t, h, r, hr => by
   simp only [seqR] at h;by_cases h1:q.e=0
   · rw [if_pos h1] at h
     by_cases h2:(seqR t).2=0
     · rcases List.mem_cons.1 hr with rfl | hr
       · exact h1
       · exact seqR_zero t h2 r hr
     · rw [if_neg h2] at h;exact absurd h h2
   · rw [if_neg h1] at h;exact absurd h h1
theorem seqR_bad:∀ (A:List Res) (r:Res) (B:List Res),(∀ q∈A,q.e=0)→r.e≠0→seqR (A++r::B)=([],r.e)
 | [],r,B,_,hr=>by simp [seqR,hr]
 | q :: A, r, B, hA, hr => by
   have h1:=seqR_bad A r B (fun q hq=>hA q (List.mem_cons_of_mem _ hq)) hr;simp [seqR,h1,hA q List.mem_cons_self,hr]
theorem seqR_err {L:List Res} (h:(seqR L).2≠0):(seqR L).1=[]:=by
 cases L with
 | nil=>rfl
 | cons r t =>
   simp only [seqR] at *
   by_cases h1:r.e=0
   · rw [if_pos h1] at *
     by_cases h2:(seqR t).2=0
     · rw [if_pos h2] at h;simp at h
     · rw [if_neg h2]
   · rw [if_neg h1]
theorem seqR_step {L:List Res} {q:Nat} {l:List Num} {r:Res} (h:seqR (L.take q)=(l,0)) (hr:L[q]? = some r) (he:r.e=0):seqR (L.take (q+1))=(l++[⟨r.x,r.k⟩],0):=by
 have h0:∀ r∈L.take q,r.e=0:=seqR_zero _ (by rw [h]);have h1:=seqR_ok _ h0;rw [h] at h1;rw [seqR_ok]
 · rw [List.take_add_one,hr]
   simp at h1;simp [h1]
 · intro r' hr'
   rw [List.take_add_one,hr] at hr';rcases List.mem_append.1 hr' with h2 | h2
   · exact h0 r' h2
   · simp at h2;rw [h2];exact he
theorem seqR_stop {L:List Res} {q:Nat} {l:List Num} {r:Res} (h:seqR (L.take q)=(l,0)) (hr:L[q]? = some r) (he:¬ r.e=0):seqR L=([],r.e):=by
 have h0:∀ r∈L.take q,r.e=0:=seqR_zero _ (by rw [h]);obtain ⟨hq,rfl⟩:=List.getElem?_eq_some_iff.1 hr;have:=seqR_bad (L.take q) L[q] (L.drop (q+1)) h0 he;rw [← List.drop_eq_getElem_cons hq,List.take_append_drop] at this;exact this
theorem seqR_len {L:List Res} {q:Nat} {l:List Num} (h:seqR (L.take q)=(l,0)) (hq:q≤L.length):l.length=q:=by
 have h0:∀ r∈L.take q,r.e=0:=seqR_zero _ (by rw [h]);have h1:=seqR_ok _ h0;rw [h] at h1;simp at h1;rw [h1];simp;omega
def gridR {α:Type} (n:Nat) (F:Nat→Nat→α):List α:=(List.range (n*n)).map fun q=>F (q / n) (q % n)
theorem gridR_length {α:Type} (n:Nat) (F:Nat→Nat→α):(gridR n F).length=n*n:=by simp [gridR]
theorem grid_div {n i k:Nat} (hk:k<n):(i*n+k) / n=i∧(i*n+k) % n=k:=by
 have hn:0<n:=by omega
 constructor
 · rw [Nat.add_comm,Nat.add_mul_div_right _ _ hn,Nat.div_eq_of_lt hk];omega
 · rw [Nat.add_comm,Nat.add_mul_mod_self_right,Nat.mod_eq_of_lt hk]
theorem gridR_at {α:Type} {n i k:Nat} (F:Nat→Nat→α) (hi:i<n) (hk:k<n):(gridR n F)[i*n+k]? = some (F i k):=by
 have h:=grid_lt hi hk;obtain ⟨h1,h2⟩:=grid_div (i:=i) hk;simp [gridR,List.getElem?_range h,h1,h2]
theorem grid_spread {n q:Nat} (h:q<n*n):q / n<n∧q % n<n∧q=q / n*n+q % n:=by
 have hn:0<n:=by
  rcases Nat.eq_zero_or_pos n with rfl | hn
  · simp at h
  · exact hn
 refine ⟨(Nat.div_lt_iff_lt_mul hn).2 h,Nat.mod_lt _ hn, ?_⟩;rw [Nat.mul_comm];exact (Nat.div_add_mod q n).symm
def matR (n:Nat) (F:Nat→Nat→Res):List Num × Int:=seqR (gridR n F)
def rowsOf (n:Nat) (e:Int):Int:=if e=0 then n else 0
def oneZ:Num:=⟨⟨1,0,0,0⟩,0⟩
def noneZ:Num:=⟨⟨0,0,0,0⟩,0⟩
def idN (n:Nat):List Num:=gridR n fun i k=>if i=k then oneZ else noneZ
def mulM (n:Nat) (la lb:List Num):List Num × Int:=matR n fun i k=>rowN (prow la lb n i k)
def ownW (kind:Int):Nat:=if kind=1 then 1 else 2
def ownM (kind n:Int):List Num :=
 if kind=1 then [⟨turnC (n % 8).toNat ⟨1,0,0,0⟩,0⟩]
 else if kind=3 then [noneZ,oneZ,oneZ,noneZ]
 else [⟨⟨1,0,0,0⟩,1⟩,⟨⟨0,0,1,0⟩,1⟩,⟨⟨0,0,1,0⟩,1⟩,⟨⟨1,0,0,0⟩,1⟩]
end Msh
namespace Msh
open Amp
def placeI (n p m q:Nat):Nat:=(p - 1+q / m)*n+(p - 1)+q % m
def placeL (n p m:Nat) (lm:List Num):Nat→List Num
 | 0=>idN n
 | q+1=>(placeL n p m lm q).set (placeI n p m q) (lm.getD q noneZ)
def placeN (n p m:Nat) (lm:List Num):List Num:=placeL n p m lm (m*m)
theorem idN_length (n:Nat):(idN n).length=n*n:=gridR_length n _
theorem placeL_length (n p m:Nat) (lm:List Num):∀ q,(placeL n p m lm q).length=n*n
 | 0=>idN_length n
 | q+1=>by rw [placeL,List.length_set,placeL_length n p m lm q]
theorem placeI_eq {n p m i k:Nat} (hk:k<m):placeI n p m (i*m+k)=(p - 1+i)*n+(p - 1)+k:=by
 obtain ⟨h1,h2⟩:=grid_div (i:=i) hk;rw [placeI,h1,h2]
theorem placeI_lt {n p m i k:Nat} (hp1:1≤p) (hp:p+m≤n+1) (hi:i<m) (hk:k<m):(p - 1+i)*n+(p - 1)+k<n*n:=by
 have:=grid_lt (n:=n) (i:=p - 1+i) (j:=p - 1+k) (by omega) (by omega);omega
end Msh
namespace Msh
open Amp
def VldL (l:List Num):Prop:=∀ (i:Nat) (z:Num),l[i]? = some z→validB z.x z.k=true
theorem VldL.mem {l:List Num} (h:VldL l) {z:Num} (hz:z∈l):validB z.x z.k=true:=by
 obtain ⟨i,hi⟩:=List.getElem?_of_mem hz;exact h i z hi
theorem VldL.of {l:List Num} (h:∀ z∈l,validB z.x z.k=true):VldL l:=fun _ z hz=>h z (List.mem_of_getElem? hz)
theorem idN_valid (n:Nat):VldL (idN n):=VldL.of fun z hz=>by
 unfold idN gridR at hz;obtain ⟨q,_,rfl⟩:=List.mem_map.1 hz;dsimp only;split <;> decide
theorem ownM_valid (kind n:Int):VldL (ownM kind n):=VldL.of fun z hz=>by
 unfold ownM at hz;split at hz
 · simp at hz
   subst hz;have:=small_turn (n % 8).toNat (x:=⟨1,0,0,0⟩) (by decide);simp [validB,this]
 · split at hz
   · simp at hz
     rcases hz with rfl | rfl | rfl <;> decide
   · simp at hz
     rcases hz with rfl | rfl | rfl <;> decide
theorem ownM_length (kind n:Int):(ownM kind n).length=ownW kind*ownW kind:=by
 unfold ownM ownW;split
 · rfl
 · split <;> rfl
theorem placeL_valid {n p m:Nat} {lm:List Num} (h:VldL lm):∀ q,VldL (placeL n p m lm q)
 | 0=>idN_valid n
 | q + 1 => VldL.of fun z hz => by
   unfold placeL at hz;rcases List.mem_or_eq_of_mem_set hz with h1 | rfl
   · exact (placeL_valid h q).mem h1
   · rw [List.getD_eq_getElem?_getD]
     cases hq:lm[q]? with
     | none=>decide
     | some y=>exact h q y hq
theorem rowA_valid:∀ (l:List (Num × Num)) (s:C4) (k:Int),validB s k=true→(rowA s k l).e=0→validB (rowA s k l).x (rowA s k l).k=true
 | [],s,k,h,_=>h
 | p :: t, s, k, h, he => by
   simp only [rowA] at *
   by_cases h1:(mulN p.1.x p.1.k p.2.x p.2.k).e=0
   · rw [if_pos h1] at *
     by_cases h2:(addN s k (mulN p.1.x p.1.k p.2.x p.2.k).x (mulN p.1.x p.1.k p.2.x p.2.k).k).e=0
     · rw [if_pos h2] at *
       refine rowA_valid t _ _ ?_ he;rcases addN_cases s (mulN p.1.x p.1.k p.2.x p.2.k).x k (mulN p.1.x p.1.k p.2.x p.2.k).k with ⟨e,h3,h4⟩ | ⟨_,_,i,s',_,_,_,_,h4,h5,_⟩
       · rw [h4] at h2;exact absurd h2 h3
       · rw [h4];exact h5
     · rw [if_neg h2] at he;exact absurd he h2
   · rw [if_neg h1] at he;exact absurd he h1
theorem matR_valid {n:Nat} {F:Nat→Nat→Res} (hF:∀ i k,(F i k).e=0→validB (F i k).x (F i k).k=true):VldL (matR n F).1:=VldL.of fun z hz=>by
 by_cases h:(matR n F).2=0
 · have h1:=seqR_ok _ (seqR_zero _ h)
   unfold matR at hz;rw [h1] at hz;obtain ⟨r,hr,rfl⟩:=List.mem_map.1 hz;have h2:=seqR_zero _ h r hr;unfold gridR at hr;obtain ⟨q,_,rfl⟩:=List.mem_map.1 hr;exact hF _ _ h2
 · rw [show (matR n F).1=[] from seqR_err h] at hz
   cases hz
theorem mulM_valid (n:Nat) (la lb:List Num):VldL (mulM n la lb).1:=matR_valid fun _ _ h=>rowA_valid _ _ _ (by decide) h
theorem matR_length {n:Nat} {F:Nat→Nat→Res} (h:(matR n F).2=0):(matR n F).1.length=n*n:=by
 have h1:=seqR_ok _ (seqR_zero _ h);unfold matR;rw [h1,List.length_map,gridR_length]
def stepM (n:Nat) (x:It) (l:List Num):List Num × Int:=mulM n (placeN n x.pos.toNat (ownW x.kind) (ownM x.kind x.n)) l
def itsM (n:Nat):List It→List Num→List Num × Int
 | [],l=>(l,0)
 | x::t,l=>if (stepM n x l).2=0 then itsM n t (stepM n x l).1 else ([],(stepM n x l).2)
def matOf (g:Int) (l:List It):List Num × Int:=if chkIts g l=0 then itsM g.toNat l (idN g.toNat) else ([],chkIts g l)
theorem itsM_step {n:Nat} {L:List It} {i:Nat} {x:It} {l:List Num} (h:L[i]? = some x) (he:(stepM n x l).2=0):itsM n (L.drop i) l=itsM n (L.drop (i+1)) (stepM n x l).1:=by
 obtain ⟨hi,rfl⟩:=List.getElem?_eq_some_iff.1 h;rw [List.drop_eq_getElem_cons hi];simp only [itsM];rw [if_pos he]
theorem itsM_stop {n:Nat} {L:List It} {i:Nat} {x:It} {l:List Num} (h:L[i]? = some x) (he:(stepM n x l).2≠0):itsM n (L.drop i) l=([],(stepM n x l).2):=by
 obtain ⟨hi,rfl⟩:=List.getElem?_eq_some_iff.1 h;rw [List.drop_eq_getElem_cons hi];simp only [itsM];rw [if_neg he]
theorem okIt_iff {g:Int} {x:It} (h:okIt g x=true):wid x.kind x.n x.name≠0∧(x.kind=1∨x.kind=2∨x.kind=3)∧1≤x.pos∧x.pos+(ownW x.kind:Int)≤g+1∧wid x.kind x.n x.name=ownW x.kind∧x.name.toList=[]:=by
 unfold okIt at h;simp only [Bool.and_eq_true,decide_eq_true_eq] at h;obtain ⟨h1,h2,h3⟩:=h;have h1':=h1;unfold wid at h1 h3;split at h1
 case isFalse=>exact absurd rfl h1
 rename_i hn
 rw [if_pos hn] at h3;split at h1
 · rename_i hk
   rw [if_pos hk] at h3;refine ⟨h1',.inl hk.1,h2, ?_, ?_,hn⟩
   · unfold ownW;rw [if_pos hk.1];omega
   · unfold wid ownW;rw [if_pos hn,if_pos hk,if_pos hk.1];rfl
 · split at h1
   · rename_i hk hk2
     rw [if_neg hk,if_pos hk2] at h3;have hk1:x.kind≠1:=by omega
     refine ⟨h1',.inr hk2.1,h2, ?_, ?_,hn⟩
     · unfold ownW;rw [if_neg hk1];omega
     · unfold wid ownW;rw [if_pos hn,if_neg hk,if_pos hk2,if_neg hk1];rfl
   · exact absurd rfl h1
theorem chkIts_zero {g:Int} {l:List It} (h:chkIts g l=0):1≤g∧g≤6∧l.length≤5000∧okIts g l=true:=by
 unfold chkIts at h;split at h
 · rename_i hg
   split at h
   · rename_i hv
     unfold vldIts at hv;simp only [Bool.and_eq_true,decide_eq_true_eq] at hv;exact ⟨hg.1,hg.2,hv.1.2,hv.2⟩
   · omega
 · omega
end Msh
namespace Msh
open Amp
abbrev Env:=ByteArray→Option (Nat × List Num)
def itemM (E:Env) (x:It):Nat × List Num:=if x.kind=4 then (E x.name).getD (0,[]) else (ownW x.kind,ownM x.kind x.n)
def stepE (E:Env) (n:Nat) (x:It) (l:List Num):List Num × Int:=mulM n (placeN n x.pos.toNat (itemM E x).1 (itemM E x).2) l
def itsE (E:Env) (n:Nat):List It→List Num→List Num × Int
 | [],l=>(l,0)
 | x::t,l=>if (stepE E n x l).2=0 then itsE E n t (stepE E n x l).1 else ([],(stepE E n x l).2)
theorem itsE_step {E:Env} {n:Nat} {L:List It} {i:Nat} {x:It} {l:List Num} (h:L[i]? = some x) (he:(stepE E n x l).2=0):itsE E n (L.drop i) l=itsE E n (L.drop (i+1)) (stepE E n x l).1:=by
 obtain ⟨hi,rfl⟩:=List.getElem?_eq_some_iff.1 h;rw [List.drop_eq_getElem_cons hi];simp only [itsE];rw [if_pos he]
theorem itsE_stop {E:Env} {n:Nat} {L:List It} {i:Nat} {x:It} {l:List Num} (h:L[i]? = some x) (he:(stepE E n x l).2≠0):itsE E n (L.drop i) l=([],(stepE E n x l).2):=by
 obtain ⟨hi,rfl⟩:=List.getElem?_eq_some_iff.1 h;rw [List.drop_eq_getElem_cons hi];simp only [itsE];rw [if_neg he]
def EnvOk (F:ByteArray→Int) (E:Env):Prop:=∀ s,match E s with
 | none=>F s=0
 | some p=>F s=p.1∧1≤p.1∧p.1≤6∧VldL p.2∧p.2.length=p.1*p.1∧s.toList≠[]
theorem okEs_at {F:ByteArray→Int} {g:Int} {l:List It} {i:Nat} {z:It} (h:l[i]? = some z) (hp:okEs F g l=true):okE F g z=true:=by
 unfold okEs at hp;rw [List.all_eq_true] at hp;exact hp z (List.mem_of_getElem? h)
theorem item_ok {F:ByteArray→Int} {E:Env} (hE:EnvOk F E) {n:Nat} {x:It} (h:okE F n x=true) {m:Nat} {lm:List Num} (hm:itemM E x=(m,lm)) :
  (1≤x.pos∧x.pos+(m:Int)≤n+1∧1≤m)∧(VldL lm∧lm.length=m*m)∧((x.kind=4∧E x.name=some (m,lm))∨(x.kind≠4∧E x.name=none∧wid x.kind x.n x.name≠0∧ownW x.kind=m∧ownM x.kind x.n=lm)):=by
 by_cases h4:x.kind=4
 · unfold okE wdE at h
   rw [if_pos h4] at h;unfold itemM at hm;rw [if_pos h4] at hm;have he:=hE x.name;cases hx:E x.name with
   | none =>
     rw [hx] at he;dsimp only at he;rw [he] at h;simp at h
   | some p =>
     rw [hx] at he hm;dsimp only at he;obtain rfl:p=(m,lm):=hm;obtain ⟨e1,e2,e3,e4,e5,_⟩:=he;dsimp only at e1 e2 e3 e4 e5;rw [e1] at h;by_cases hn:x.n=0
     · rw [if_pos hn] at h
       simp only [Bool.and_eq_true,decide_eq_true_eq] at h;exact ⟨⟨h.2.1,by omega,e2⟩,⟨e4,e5⟩,.inl ⟨h4,rfl⟩⟩
     · rw [if_neg hn] at h
       simp at h
 · unfold okE wdE at h
   rw [if_neg h4] at h;unfold itemM at hm;rw [if_neg h4] at hm;obtain ⟨rfl,rfl⟩:ownW x.kind=m∧ownM x.kind x.n=lm:=⟨congrArg Prod.fst hm,congrArg Prod.snd hm⟩;have hok:okIt n x=true:=h;obtain ⟨o1,o2,o3,o4,o5,o6⟩:=okIt_iff hok;refine ⟨⟨o3,o4,by unfold ownW;split <;> omega⟩,⟨ownM_valid _ _,ownM_length _ _⟩,.inr ⟨h4, ?_,o1,rfl,rfl⟩⟩;cases hx:E x.name with
   | none=>rfl
   | some p =>
     have he:=hE x.name;rw [hx] at he;exact absurd o6 he.2.2.2.2.2
def envF:List Cl→List (List Num)→Env
 | c::C,M::Ms=>fun s=>if c.name=s then some (c.gd.toNat,M) else envF C Ms s
 | _,_=>fun _=>none
def netM (C:List Cl) (Ms:List (List Num)):List Cl→List (List Num) × Int
 | []=>(Ms,0)
 | c::t=>if (itsE (envF C Ms) c.gd.toNat c.items (idN c.gd.toNat)).2=0 then netM (C++[c]) (Ms++[(itsE (envF C Ms) c.gd.toNat c.items (idN c.gd.toNat)).1]) t else ([],(itsE (envF C Ms) c.gd.toNat c.items (idN c.gd.toNat)).2)
theorem netM_step {L:List Cl} {i:Nat} {c:Cl} {Ms:List (List Num)} (h:L[i]? = some c):netM (L.take i) Ms (L.drop i)=if (itsE (envF (L.take i) Ms) c.gd.toNat c.items (idN c.gd.toNat)).2=0 then netM (L.take (i+1)) (Ms++[(itsE (envF (L.take i) Ms) c.gd.toNat c.items (idN c.gd.toNat)).1]) (L.drop (i+1)) else ([],(itsE (envF (L.take i) Ms) c.gd.toNat c.items (idN c.gd.toNat)).2):=by
 obtain ⟨hlt,rfl⟩:=List.getElem?_eq_some_iff.1 h;rw [List.drop_eq_getElem_cons hlt,List.take_add_one,List.getElem?_eq_getElem hlt];rfl
def matNet (L:List Cl):Int × List Num × Int:=if vnet L=true then (if (netM [] [] L).2=0 then ((L.getLast?.map Cl.gd).getD 0,(netM [] [] L).1.getLast?.getD [],0) else (0,[],(netM [] [] L).2)) else (0,[],30)
theorem envF_find:∀ {C:List Cl} {Ms:List (List Num)},C.length=Ms.length→∀ s,(C.find? (hasN s)=none∧envF C Ms s=none)∨∃ (j:Nat) (c:Cl) (M:List Num),C.find? (hasN s)=some c∧C[j]? = some c∧Ms[j]? = some M∧c.name=s∧envF C Ms s=some (c.gd.toNat,M)
 | [],[],_,s=>.inl ⟨rfl,rfl⟩
 | c :: C, M :: Ms, h, s => by
   rw [List.find?_cons];show (_∧(if c.name=s then some (c.gd.toNat,M) else envF C Ms s)=none)∨∃ (j:Nat) (d:Cl) (N:List Num),_∧_∧_∧_∧(if c.name=s then some (c.gd.toNat,M) else envF C Ms s)=some (d.gd.toNat,N)
   by_cases hc:c.name=s
   · rw [show hasN s c=true by unfold hasN;exact decide_eq_true hc,if_pos hc]
     exact .inr ⟨0,c,M,rfl,rfl,rfl,hc,rfl⟩
   · rw [show hasN s c=false by unfold hasN;exact decide_eq_false hc,if_neg hc]
     rcases envF_find (C:=C) (Ms:=Ms) (by simpa using h) s with h1 | ⟨j,d,N,h1,h2,h3,h4,h5⟩
     · exact .inl h1
     · exact .inr ⟨j+1,d,N,h1,by simpa using h2,by simpa using h3,h4,h5⟩
theorem envF_snoc:∀ {C:List Cl} {Ms:List (List Num)} {c:Cl} {M:List Num},C.length=Ms.length→C.find? (hasN c.name)=none→∀ s,envF (C++[c]) (Ms++[M]) s=if s=c.name then some (c.gd.toNat,M) else envF C Ms s
 | [], [], c, M, _, _, s => by
   show (if c.name=s then some (c.gd.toNat,M) else none)=if s=c.name then some (c.gd.toNat,M) else none
   by_cases h:c.name=s
   · rw [if_pos h,if_pos h.symm]
   · rw [if_neg h,if_neg fun e=>h e.symm]
 | d :: C, N :: Ms, c, M, hl, hf, s => by
   show (if d.name=s then some (d.gd.toNat,N) else envF (C++[c]) (Ms++[M]) s)=if s=c.name then some (c.gd.toNat,M) else (if d.name=s then some (d.gd.toNat,N) else envF C Ms s)
   rw [List.find?_cons] at hf;have hdc:¬ d.name=c.name:=fun e=>by rw [show hasN c.name d=true by unfold hasN;exact decide_eq_true e] at hf;cases hf
   rw [show hasN c.name d=false by unfold hasN;exact decide_eq_false hdc] at hf;rw [envF_snoc (by simpa using hl) hf s];by_cases hs:s=c.name
   · rw [if_pos hs,if_pos hs,if_neg fun e=>hdc (e.trans hs)]
   · rw [if_neg hs,if_neg hs]
def MsOk (C:List Cl) (Ms:List (List Num)):Prop:=C.length=Ms.length∧∀ (j:Nat) (c:Cl) (M:List Num),C[j]? = some c→Ms[j]? = some M→(1≤c.gd∧c.gd≤6)∧VldL M∧M.length=c.gd.toNat*c.gd.toNat∧nameB c.name=true
theorem nameB_ne {s:ByteArray} (h:nameB s=true):s.toList≠[]:=by
 intro e;unfold nameB at h;rw [Bool.and_eq_true,decide_eq_true_eq] at h;have h1:s.data.toList=[]:=by rwa [Go.ByteArray.toList_eq] at e
 have h2:s.size=0:=by
  show s.data.size=0
  rw [← Array.length_toList,h1];rfl
 omega
theorem envOk {C:List Cl} {Ms:List (List Num)} (h:MsOk C Ms):EnvOk (gdF C) (envF C Ms):=by
 intro s;rcases envF_find h.1 s with ⟨h1,h2⟩ | ⟨j,c,M,h1,h2,h3,h4,h5⟩
 · rw [h2]
   unfold gdF;rw [h1]
 · rw [h5]
   obtain ⟨g1,g2,g3,g4⟩:=h.2 j c M h2 h3;unfold gdF;rw [h1];refine ⟨?_, ?_, ?_,g2,g3,by rw [← h4];exact nameB_ne g4⟩
   · dsimp only;omega
   · dsimp only;omega
   · dsimp only;omega
theorem MsOk.snoc {C:List Cl} {Ms:List (List Num)} {c:Cl} {M:List Num} (h:MsOk C Ms) (hg:1≤c.gd∧c.gd≤6) (hv:VldL M) (hl:M.length=c.gd.toNat*c.gd.toNat) (hn:nameB c.name=true):MsOk (C++[c]) (Ms++[M]):=by
 refine ⟨by rw [List.length_append,List.length_append,h.1];rfl,fun j d N hd hN=>?_⟩;by_cases hj:j<C.length
 · rw [List.getElem?_append_left hj] at hd
   rw [List.getElem?_append_left (by rw [← h.1];exact hj)] at hN;exact h.2 j d N hd hN
 · rw [List.getElem?_append_right (by omega)] at hd
   rw [List.getElem?_append_right (by rw [← h.1];omega)] at hN;have hj0:j - C.length=0:=by
    have:=(List.getElem?_eq_some_iff.1 hd).1;simp at this;omega
   rw [hj0] at hd;rw [← h.1,hj0] at hN;simp at hd hN;subst hd;subst hN;exact ⟨hg,hv,hl,hn⟩
end Msh
namespace Go.Proofs.YtchdmecjhaanfaaGreatDoor
open Go Go.RowKit Amp
def dgB (c:UInt8):Bool:=decide (48≤c.toNat∧c.toNat≤57)
theorem dg_small {n:Nat} (h:n<10):dgB (UInt8.ofNat (48+n))=true∧(UInt8.ofNat (48+n)).toNat=48+n:=by
 have e:(UInt8.ofNat (48+n)).toNat=48+n:=by
  rw [UInt8.toNat_ofNat'];omega
 refine ⟨?_,e⟩;unfold dgB;rw [e];exact decide_eq_true ⟨by omega,by omega⟩
theorem dec_digits (u:Nat):∀ c∈Lib.decDigits u,dgB c=true:=by
 induction u using Nat.strongRecOn with
 | _ u ih =>
   intro c hc;rw [Lib.decDigits] at hc;split at hc
   · rename_i h
     rw [List.mem_singleton] at hc;subst hc;exact (dg_small h).1
   · rename_i h
     rcases List.mem_append.1 hc with hc | hc
     · exact ih (u / 10) (by omega) c hc
     · rw [List.mem_singleton] at hc
       subst hc;exact (dg_small (Nat.mod_lt _ (by decide))).1
theorem dec_ne (u:Nat):Lib.decDigits u≠[]:=by
 rw [Lib.decDigits];split
 · exact List.cons_ne_nil _ _
 · exact List.append_ne_nil_of_right_ne_nil _ (List.cons_ne_nil _ _)
theorem dec_len:∀ (m u:Nat),u<10 ^ (m+1)→(Lib.decDigits u).length≤m+1
 | 0, u, h => by
   rw [Lib.decDigits,dif_pos (by simpa using h)];exact Nat.le_refl _
 | m + 1, u, h => by
   rw [Lib.decDigits];split
   · simp
   · rw [List.length_append]
     have:=dec_len m (u / 10) (by rw [Nat.pow_succ] at h;omega);simp;omega
def valD (acc:Nat) (l:List UInt8):Nat:=l.foldl (fun n c=>10*n+(c.toNat - 48)) acc
theorem val_dec (u:Nat):∀ acc,valD acc (Lib.decDigits u)=acc*10 ^ (Lib.decDigits u).length+u:=by
 induction u using Nat.strongRecOn with
 | _ u ih =>
   intro acc;rw [Lib.decDigits];split
   · rename_i h
     show 10*acc+((UInt8.ofNat (48+u)).toNat - 48)=acc*10 ^ 1+u
     rw [(dg_small h).2];omega
   · rename_i h
     unfold valD at *
     rw [List.foldl_append,ih (u / 10) (by omega),List.length_append,List.length_singleton];show 10*(acc*10 ^ (Lib.decDigits (u / 10)).length+u / 10)+((UInt8.ofNat (48+u % 10)).toNat - 48)=_
     rw [(dg_small (Nat.mod_lt _ (by decide))).2,Nat.pow_succ];have e:acc*(10 ^ (Lib.decDigits (u / 10)).length*10)=10*(acc*10 ^ (Lib.decDigits (u / 10)).length):=by
      rw [← Nat.mul_assoc,Nat.mul_comm]
     rw [e];omega
theorem parse_digits:∀ (l:List UInt8) (acc:Nat),(∀ c∈l,dgB c=true)→l.length≤18→acc*10 ^ l.length+10 ^ l.length≤10 ^ 18+10 ^ 18*0→Lib.parseUint10 acc l=.ok (valD acc l)
 | [],acc,_,_,_=>rfl
 | c :: l, acc, hc, hl, hb => by
   have h1:=of_decide_eq_true (hc c List.mem_cons_self);have hp:1≤10 ^ l.length:=Nat.one_le_pow _ _ (by decide);rw [List.length_cons,Nat.pow_succ] at hb;have h2:acc*10*10 ^ l.length+10*10 ^ l.length≤10 ^ 18:=by
    have e:acc*(10 ^ l.length*10)=acc*10*10 ^ l.length:=by rw [Nat.mul_assoc,Nat.mul_comm 10]
    omega
   have h3:(acc*10+10)*10 ^ l.length≤10 ^ 18:=by rw [Nat.add_mul];exact h2
   have h4:acc*10+10≤10 ^ 18:=Nat.le_trans (Nat.le_mul_of_pos_right _ hp) h3;unfold Lib.parseUint10;rw [if_pos h1,if_neg (by omega),if_neg (by omega)];have h5:=parse_digits l (acc*10+(c.toNat - 48)) (fun d hd=>hc d (List.mem_cons_of_mem _ hd)) (by rw [List.length_cons] at hl;omega) (by
    have h6:(acc*10+(c.toNat - 48))*10 ^ l.length+10 ^ l.length=(acc*10+(c.toNat - 48)+1)*10 ^ l.length:=by rw [Nat.add_mul (acc*10+(c.toNat - 48)),Nat.one_mul]
    rw [h6];refine Nat.le_trans (Nat.mul_le_mul_right _ (show acc*10+(c.toNat - 48)+1≤acc*10+10 by omega)) ?_;omega)
   rw [h5];show _=Lib.NumEnd.ok (l.foldl _ (10*acc+(c.toNat - 48)))
   unfold valD;rw [Nat.mul_comm acc 10]
theorem parse_dec {u:Nat} (h:u<10 ^ 18):Lib.parseMag (Lib.decDigits u)=.ok u:=by
 unfold Lib.parseMag;rw [if_neg (dec_ne u)];have hl:=dec_len 17 u h;rw [parse_digits _ 0 (dec_digits u) hl (by rw [Nat.zero_mul,Nat.zero_add];exact Nat.le_trans (Nat.pow_le_pow_right (by decide) hl) (by decide)),val_dec,Nat.zero_mul,Nat.zero_add]
theorem atoi_cons (c:UInt8) (r:List UInt8):Lib.atoiAll (c::r)=match Lib.parseMag (if c.toNat=43∨c.toNat=45 then r else c::r) with
  | .syntax=>.syntax
  | .range=>.range
  | .ok u=>if ¬ c.toNat=45∧9223372036854775808≤u then .range else if c.toNat=45∧9223372036854775808<u then .range else .ok (if c.toNat=45 then -(u:Int) else u):=rfl
theorem dg_not_sign {c:UInt8} (h:dgB c=true):¬ (c.toNat=43∨c.toNat=45)∧¬ c.toNat=45:=by
 have:=of_decide_eq_true h;omega
theorem atoi_dec {u:Nat} (h:u<10 ^ 18):Lib.atoiAll (Lib.decDigits u)=.ok u:=by
 have hm:=parse_dec h;have hd:=dec_digits u;have hn:=dec_ne u;generalize Lib.decDigits u=l at *
 match l,hn with
 | c :: r, _ =>
   obtain ⟨h1,h2⟩:=dg_not_sign (hd c List.mem_cons_self);rw [atoi_cons,if_neg h1,hm];dsimp only;rw [if_neg (by omega),if_neg (fun h=>h2 h.1),if_neg h2]
theorem itoa_pos {x:Int} (h:0≤x):Lib.itoa x=Lib.decDigits x.toNat:=by unfold Lib.itoa;rw [if_neg (by omega)]
open Go Go.RowKit Msh
def itT (x:It):List UInt8 :=
 if x.kind=1 then 112::(Lib.itoa x.pos++32::Lib.itoa x.n)
 else if x.kind=2 then 99::Lib.itoa x.pos
 else if x.kind=3 then 120::Lib.itoa x.pos
 else x.name.data.toList++64::Lib.itoa x.pos
def itsT:List It→List UInt8
 | []=>[]
 | [x]=>32::itT x
 | x::y::t=>(32::itT x)++(59::itsT (y::t))
def hdT (c:Cl):List UInt8:=[99,101,108,108,32]++(c.name.data.toList++32::Lib.itoa c.gd)
def clT (c:Cl):List UInt8:=hdT c++58::itsT c.items
def netT:List Cl→List UInt8
 | []=>[]
 | c::t=>clT c++10::netT t
theorem netT_snoc (c:Cl):∀ L:List Cl,netT (L++[c])=netT L++(clT c++[10])
 | []=>rfl
 | d :: t => by
   show clT d++10::netT (t++[c])=(clT d++10::netT t)++(clT c++[10])
   rw [netT_snoc c t,List.append_assoc];rfl
theorem itsT_cons {x:It} {l:List It} (h:l≠[]):itsT (x::l)=(32::itT x)++(59::itsT l):=by
 cases l with
 | nil=>exact absurd rfl h
 | cons y t=>rfl
theorem itsT_snoc (x:It):∀ l:List It,itsT (l++[x])=itsT l++((if l=[] then [] else [59])++32::itT x)
 | []=>rfl
 | [y] => by
   show (32::itT y)++(59::32::itT x)=(32::itT y)++([59]++32::itT x)
   rfl
 | y :: z :: t => by
   rw [List.cons_append,itsT_cons (by simp),itsT_snoc x (z::t),if_neg (List.cons_ne_nil _ _),if_neg (List.cons_ne_nil _ _),itsT_cons (List.cons_ne_nil _ _)];simp only [List.cons_append,List.append_assoc]
def befB (c:UInt8) (l:List UInt8):List UInt8:=l.takeWhile fun x=>x != c
def aftB (c:UInt8) (l:List UInt8):List UInt8:=(l.dropWhile fun x=>x != c).tail
def hasB (c:UInt8) (l:List UInt8):Bool:=l.any fun x=>x==c
def hdC (x:UInt8):List (List UInt8)→List (List UInt8)
 | []=>[[x]]
 | p::ps=>(x::p)::ps
def spl (c:UInt8):List UInt8→List (List UInt8)
 | []=>[[]]
 | x::l=>if x=c then []::spl c l else hdC x (spl c l)
def spl2 (c d:UInt8):List UInt8→List (List UInt8)
 | []=>[[]]
 | [x]=>[[x]]
 | x::y::l=>if x=c∧y=d then []::spl2 c d l else hdC x (spl2 c d (y::l))
def lns:List UInt8→List (List UInt8)
 | []=>[]
 | x::l=>if x=10 then [10]::lns l else hdC x (lns l)
theorem hdC_ne (x:UInt8) (ps:List (List UInt8)):hdC x ps≠[]:=by cases ps <;> exact List.cons_ne_nil _ _
theorem spl_ne (c:UInt8):∀ l,spl c l≠[]
 | []=>List.cons_ne_nil _ _
 | x :: l => by
   rw [spl];split
   · exact List.cons_ne_nil _ _
   · exact hdC_ne _ _
theorem spl_none {c:UInt8}:∀ {l:List UInt8},c ∉ l→spl c l=[l]
 | [],_=>rfl
 | x :: l, h => by
   rw [List.mem_cons,not_or] at h;rw [spl,if_neg fun e=>h.1 e.symm,spl_none h.2];rfl
theorem spl_app {c:UInt8}:∀ {l m:List UInt8},c ∉ l→spl c (l++c::m)=l::spl c m
 | [],m,_=>by rw [List.nil_append,spl,if_pos rfl]
 | x :: l, m, h => by
   rw [List.mem_cons,not_or] at h;rw [List.cons_append,spl,if_neg fun e=>h.1 e.symm,spl_app h.2];rfl
theorem spl2_none {c d:UInt8}:∀ {l:List UInt8},c ∉ l→spl2 c d l=[l]
 | [],_=>rfl
 | [x],_=>rfl
 | x :: y :: l, h => by
   rw [List.mem_cons,not_or] at h;rw [spl2,if_neg fun e=>h.1 e.1.symm,spl2_none h.2];rfl
theorem spl2_app {c d:UInt8}:∀ {l m:List UInt8},c ∉ l→spl2 c d (l++c::d::m)=l::spl2 c d m
 | [],m,_=>by rw [List.nil_append,spl2,if_pos ⟨rfl,rfl⟩]
 | [x], m, h => by
   rw [List.mem_singleton] at h;rw [List.singleton_append,spl2,if_neg fun e=>h e.1.symm,spl2,if_pos ⟨rfl,rfl⟩];rfl
 | x :: y :: l, m, h => by
   rw [List.mem_cons,not_or] at h;have ih:=spl2_app (d:=d) (m:=m) h.2;rw [List.cons_append] at ih;rw [List.cons_append,List.cons_append,spl2,if_neg fun e=>h.1 e.1.symm,ih];rfl
theorem lns_app:∀ {l m:List UInt8},10 ∉ l→lns (l++10::m)=(l++[10])::lns m
 | [], m, _ => by
   rw [List.nil_append,lns,if_pos rfl];rfl
 | x :: l, m, h => by
   rw [List.mem_cons,not_or] at h;rw [List.cons_append,lns,if_neg fun e=>h.1 e.symm,lns_app h.2];rfl
theorem befB_app {c:UInt8}:∀ {l m:List UInt8},c ∉ l→befB c (l++c::m)=l∧aftB c (l++c::m)=m∧hasB c (l++c::m)=true
 | [], m, _ => by
   unfold befB aftB hasB;simp
 | x :: l, m, h => by
   rw [List.mem_cons,not_or] at h;obtain ⟨h1,h2,h3⟩:=befB_app (m:=m) h.2;have hx:(x != c)=true:=by
    rw [bne_iff_ne];exact fun e=>h.1 e.symm
   unfold befB aftB hasB at *
   rw [List.cons_append,List.takeWhile_cons,if_pos hx,List.dropWhile_cons,if_pos hx,h1,h2,List.any_cons,h3,Bool.or_true];exact ⟨rfl,rfl,rfl⟩
theorem befB_none {c:UInt8}:∀ {l:List UInt8},c ∉ l→befB c l=l∧aftB c l=[]∧hasB c l=false
 | [],_=>⟨rfl,rfl,rfl⟩
 | x :: l, h => by
   rw [List.mem_cons,not_or] at h;obtain ⟨h1,h2,h3⟩:=befB_none h.2;have hx:(x != c)=true:=by
    rw [bne_iff_ne];exact fun e=>h.1 e.symm
   have hx2:(x==c)=false:=by
    rw [beq_eq_false_iff_ne];exact fun e=>h.1 e.symm
   unfold befB aftB hasB at *
   rw [List.takeWhile_cons,if_pos hx,List.dropWhile_cons,if_pos hx,h1,h2,List.any_cons,h3,hx2];exact ⟨rfl,rfl,rfl⟩
theorem itoa_small {v:Int} (h0:0≤v) (h9:v≤9):Lib.itoa v=[UInt8.ofNat (48+v.toNat)]:=by
 rw [itoa_pos h0,Lib.decDigits,dif_pos (by omega)]
theorem small_in {v:Int} (h0:0≤v) (h9:v≤9) {c:UInt8} (hc:c.toNat<48∨57<c.toNat):c ∉ Lib.itoa v:=by
 rw [itoa_small h0 h9,List.mem_singleton];intro e;subst e;rw [(dg_small (by omega)).2] at hc;omega
def numP (l:List UInt8):Int:=match Lib.atoiAll l with | .ok v=>v | _=>-1
theorem numP_small {v:Int} (h0:0≤v) (h9:v≤9):numP (Lib.itoa v)=v:=by
 unfold numP;rw [itoa_pos h0,atoi_dec (by omega)];dsimp only;omega
def dgI (c:UInt8):Int:=(c.toNat:Int) - 48
def numR (l:List UInt8):Int:=match l with
 | [a]=>if dgB a=true then dgI a else -1
 | [a,b]=>if dgB a=true∧dgB b=true then 10*dgI a+dgI b else -1
 | _=>-1
def noIt:It:=⟨0,0,0,⟨#[]⟩⟩
def mkS (l:List UInt8):ByteArray:=⟨l.toArray⟩
theorem mkS_data (s:ByteArray):mkS s.data.toList=s:=by unfold mkS;simp
def itP (l:List UInt8):It :=
 if hasB 64 l=true then ⟨4,numP (aftB 64 l),0,mkS (befB 64 l)⟩
 else match l with
  | []=>noIt
  | h :: r =>
    if h=112 then ⟨1,numP (befB 32 r),numP (aftB 32 r),⟨#[]⟩⟩
    else if h=99 then ⟨2,numP r,0,⟨#[]⟩⟩
    else if h=120 then ⟨3,numP r,0,⟨#[]⟩⟩
    else noIt
def ItW (x:It):Prop:=(1≤x.pos∧x.pos≤6)∧((x.kind=1∧1≤x.n∧x.n≤7∧x.name=⟨#[]⟩)∨((x.kind=2∨x.kind=3)∧x.n=0∧x.name=⟨#[]⟩)∨(x.kind=4∧x.n=0∧nameB x.name=true))
theorem name_in {s:ByteArray} (h:nameB s=true) {c:UInt8} (hc:c.toNat<97∨122<c.toNat):c ∉ s.data.toList:=by
 unfold nameB at h;rw [Bool.and_eq_true,List.all_eq_true] at h;intro hm;have:=h.2 c hm;unfold letB at this;rw [Bool.and_eq_true,decide_eq_true_iff,decide_eq_true_iff] at this;omega
theorem itT_in {x:It} (h:ItW x) {c:UInt8} (h1:c.toNat<48∨57<c.toNat) (h2:c.toNat<97∨122<c.toNat) (h3:c≠32) (h4:c≠64):c ∉ itT x:=by
 obtain ⟨hp,h⟩:=h;have hpos:=small_in (v:=x.pos) (by omega) (by omega) h1;have k1:c≠112:=fun e=>by subst e;revert h2;decide
 have k2:c≠99:=fun e=>by subst e;revert h2;decide
 have k3:c≠120:=fun e=>by subst e;revert h2;decide
 unfold itT;rcases h with ⟨hk,hn1,hn2,_⟩ | ⟨hk | hk,hn,_⟩ | ⟨hk,hn,hnm⟩
 · have hn:=small_in (v:=x.n) (by omega) (by omega) h1
   rw [if_pos hk];simp [k1,h3,hpos,hn]
 · rw [if_neg (by omega),if_pos hk]
   simp [k2,hpos]
 · rw [if_neg (by omega),if_neg (by omega),if_pos hk]
   simp [k3,hpos]
 · have hn:=name_in hnm h2
   rw [if_neg (by omega),if_neg (by omega),if_neg (by omega)];simp only [List.mem_append,List.mem_cons,not_or];exact ⟨hn,h4,hpos⟩
theorem it_eta {x:It} {a b d:Int} {s:ByteArray} (h1:x.kind=a) (h2:x.pos=b) (h3:x.n=d) (h4:x.name=s):(⟨a,b,d,s⟩:It)=x:=by
 cases x;simp_all
theorem itP_text {x:It} (h:ItW x):itP (itT x)=x:=by
 obtain ⟨hp,h⟩:=h;have hpv:=numP_small (v:=x.pos) (by omega) (by omega);have hp64:=small_in (v:=x.pos) (c:=64) (by omega) (by omega) (by decide);have hp32:=small_in (v:=x.pos) (c:=32) (by omega) (by omega) (by decide);rcases h with ⟨hk,hn1,hn2,hnm⟩ | ⟨hk | hk,hn,hnm⟩ | ⟨hk,hn,hnm⟩
 · have hnv:=numP_small (v:=x.n) (by omega) (by omega)
   have hn64:=small_in (v:=x.n) (c:=64) (by omega) (by omega) (by decide);have e:itT x=112::(Lib.itoa x.pos++32::Lib.itoa x.n):=by unfold itT;rw [if_pos hk]
   have h64:(64:UInt8) ∉ itT x:=by rw [e];simp [hp64,hn64]
   unfold itP;rw [(befB_none h64).2.2,e];obtain ⟨e1,e2,_⟩:=befB_app (m:=Lib.itoa x.n) hp32;simp only [Bool.false_eq_true,if_false,if_true,e1,e2,hpv,hnv];exact it_eta hk rfl rfl hnm
 · have e:itT x=99::Lib.itoa x.pos:=by unfold itT;rw [if_neg (by omega),if_pos hk]
   have h64:(64:UInt8) ∉ itT x:=by rw [e];simp [hp64]
   unfold itP;rw [(befB_none h64).2.2,e];simp only [Bool.false_eq_true,if_false,hpv];rw [if_neg (by decide),if_pos trivial];exact it_eta hk rfl hn hnm
 · have e:itT x=120::Lib.itoa x.pos:=by unfold itT;rw [if_neg (by omega),if_neg (by omega),if_pos hk]
   have h64:(64:UInt8) ∉ itT x:=by rw [e];simp [hp64]
   unfold itP;rw [(befB_none h64).2.2,e];simp only [Bool.false_eq_true,if_false,hpv];rw [if_neg (by decide),if_neg (by decide),if_pos trivial];exact it_eta hk rfl hn hnm
 · have e:itT x=x.name.data.toList++64::Lib.itoa x.pos:=by unfold itT;rw [if_neg (by omega),if_neg (by omega),if_neg (by omega)]
   obtain ⟨e1,e2,e3⟩:=befB_app (m:=Lib.itoa x.pos) (name_in hnm (c:=64) (by decide));unfold itP;rw [e,e3,e1,e2,hpv,mkS_data,if_pos rfl];exact it_eta hk rfl hn rfl
def noCl:Cl:=⟨⟨#[]⟩,0,[]⟩
def cutHd (c:UInt8) (l:List UInt8):List UInt8:=match l with
 | []=>[]
 | x::r=>if x=c then r else x::r
def cutTl (c:UInt8) (l:List UInt8):List UInt8:=if l.getLast? = some c then l.dropLast else l
def clP (l:List UInt8):Cl :=
 if (spl 32 (befB 58 l)).length=3 then
  ⟨mkS ((spl 32 (befB 58 l)).getD 1 []),numP ((spl 32 (befB 58 l)).getD 2 []),if aftB 58 l=[] then [] else (spl2 59 32 (cutHd 32 (aftB 58 l))).map itP⟩
 else noCl
def ClW (c:Cl):Prop:=nameB c.name=true∧(1≤c.gd∧c.gd≤6)∧∀ x∈c.items,ItW x
theorem hdT_spl {c:Cl} (h:ClW c):spl 32 (hdT c)=[[99,101,108,108],c.name.data.toList,Lib.itoa c.gd]:=by
 obtain ⟨hn,hg,_⟩:=h;show spl 32 ([99,101,108,108]++32::(c.name.data.toList++32::Lib.itoa c.gd))=_
 rw [spl_app (by decide),spl_app (name_in hn (by decide)),spl_none (small_in (by omega) (by omega) (by decide))]
theorem hdT_in {c:Cl} (h:ClW c) {b:UInt8} (h1:b.toNat<48∨57<b.toNat) (h2:b.toNat<97∨122<b.toNat) (h3:b≠32):b ∉ hdT c:=by
 obtain ⟨hn,hg,_⟩:=h;have k1:b≠99:=fun e=>by subst e;revert h2;decide
 have k2:b≠101:=fun e=>by subst e;revert h2;decide
 have k3:b≠108:=fun e=>by subst e;revert h2;decide
 have k4:=name_in hn h2;have k5:=small_in (v:=c.gd) (by omega) (by omega) h1;unfold hdT;simp only [List.mem_append,List.mem_cons,List.not_mem_nil,or_false,not_or];exact ⟨⟨k1,k2,k3,k3,h3⟩,k4,h3,k5⟩
theorem itsT_in {b:UInt8} (h1:b.toNat<48∨57<b.toNat) (h2:b.toNat<97∨122<b.toNat) (h3:b≠32) (h4:b≠64) (h5:b≠59):∀ {l:List It},(∀ x∈l,ItW x)→b ∉ itsT l
 | [],_=>List.not_mem_nil
 | x :: l, h => by
   have hx:=itT_in (h x List.mem_cons_self) h1 h2 h3 h4;have hl:=itsT_in h1 h2 h3 h4 h5 fun y hy=>h y (List.mem_cons_of_mem _ hy)
   cases l with
   | nil =>
     show b ∉ 32::itT x
     simp [h3,hx]
   | cons y t =>
     rw [itsT_cons (List.cons_ne_nil _ _)];simp only [List.mem_append,List.mem_cons,not_or];exact ⟨⟨h3,hx⟩,h5,hl⟩
theorem itsT_spl2:∀ {l:List It},l≠[]→(∀ x∈l,ItW x)→∃ r,itsT l=32::r∧(spl2 59 32 r).map itP=l
 | [],h,_=>absurd rfl h
 | [x], _, h => ⟨itT x, rfl, by
   have hx:=h x List.mem_cons_self;rw [spl2_none (itT_in hx (by decide) (by decide) (by decide) (by decide)),List.map_singleton,itP_text hx]⟩
 | x :: y :: t, _, h => by
   have hx:=h x List.mem_cons_self;obtain ⟨r,h1,h2⟩:=itsT_spl2 (List.cons_ne_nil y t) fun z hz=>h z (List.mem_cons_of_mem _ hz)
   refine ⟨itT x++59::itsT (y::t),rfl, ?_⟩;rw [h1,spl2_app (itT_in hx (by decide) (by decide) (by decide) (by decide)),List.map_cons,h2,itP_text hx]
theorem clP_text {c:Cl} (h:ClW c):clP (clT c)=c:=by
 have h58:=hdT_in h (b:=58) (by decide) (by decide) (by decide);obtain ⟨e1,e2,_⟩:=befB_app (m:=itsT c.items) h58;unfold clP clT;rw [e1,e2,hdT_spl h];simp only [List.length_cons,List.length_nil,List.getD_cons_zero,List.getD_cons_succ,Nat.reduceAdd,if_true,mkS_data,numP_small (v:=c.gd) (by have:=h.2.1;omega) (by have:=h.2.1;omega)];by_cases hi:c.items=[]
 · rw [hi,if_pos (show itsT []=[] from rfl),← hi]
 · obtain ⟨r,h1,h2⟩:=itsT_spl2 hi h.2.2
   rw [h1,if_neg (List.cons_ne_nil _ _)];show (⟨c.name,c.gd,(spl2 59 32 (if (32:UInt8)=32 then r else 32::r)).map itP⟩:Cl)=c
   rw [if_pos rfl,h2]
theorem clT_in {c:Cl} (h:ClW c):(10:UInt8) ∉ clT c:=by
 have h1:=hdT_in h (b:=10) (by decide) (by decide) (by decide);have h2:=itsT_in (b:=10) (by decide) (by decide) (by decide) (by decide) (by decide) h.2.2;unfold clT;simp [h1,h2]
def netP (l:List UInt8):List Cl:=(lns l).map fun p=>clP (cutTl 10 p)
theorem netP_text:∀ {L:List Cl},(∀ c∈L,ClW c)→netP (netT L)=L
 | [],_=>rfl
 | c :: t, h => by
   have hc:=h c List.mem_cons_self;have ih:=netP_text fun d hd=>h d (List.mem_cons_of_mem _ hd)
   unfold netP at *
   show (lns (clT c++10::netT t)).map _=_
   rw [lns_app (clT_in hc),List.map_cons,ih]
   congr 1
   unfold cutTl;rw [if_pos (by simp),List.dropLast_concat,clP_text hc]
theorem okE_w {C:List Cl} {g:Int} (hC:∀ c∈C,nameB c.name=true∧1≤c.gd∧c.gd≤6) (hg:g≤6) {x:It} (h:okE (gdF C) g x=true):ItW x:=by
 unfold okE at h;rw [Bool.and_eq_true,decide_eq_true_iff,decide_eq_true_iff] at h;obtain ⟨h1,h2,h3⟩:=h;unfold wdE at h1 h3;by_cases hk:x.kind=4
 · rw [if_pos hk] at h1 h3
   by_cases hn:x.n=0
   · rw [if_pos hn] at h1 h3
     unfold gdF at h1 h3;cases hf:C.find? (hasN x.name) with
     | none=>rw [hf] at h1;exact absurd rfl h1
     | some c =>
       rw [hf] at h1 h3;dsimp only at h1 h3;obtain ⟨a1,a2,a3⟩:=hC c (List.mem_of_find?_eq_some hf);have:hasN x.name c=true:=List.find?_some hf;unfold hasN at this;rw [decide_eq_true_iff] at this;exact ⟨⟨h2,by omega⟩,.inr (.inr ⟨hk,hn,by rw [← this];exact a1⟩)⟩
   · rw [if_neg hn] at h1
     exact absurd rfl h1
 · rw [if_neg hk] at h1 h3
   unfold wid at h1 h3;by_cases hnm:x.name.toList=[]
   · have hnm':x.name=⟨#[]⟩:=by
      rw [ByteArray.toList_eq] at hnm;apply ByteArray.ext;apply Array.toList_inj.1;exact hnm
     rw [if_pos hnm] at h1 h3;by_cases k1:x.kind=1∧1≤x.n∧x.n≤7
     · rw [if_pos k1] at h3
       exact ⟨⟨h2,by omega⟩,.inl ⟨k1.1,k1.2.1,k1.2.2,hnm'⟩⟩
     · rw [if_neg k1] at h1 h3
       by_cases k2:(x.kind=2∨x.kind=3)∧x.n=0
       · rw [if_pos k2] at h3
         exact ⟨⟨h2,by omega⟩,.inr (.inl ⟨k2.1,k2.2,hnm'⟩)⟩
       · rw [if_neg k2] at h1
         exact absurd rfl h1
   · rw [if_neg hnm] at h1
     exact absurd rfl h1
theorem vnet_w {L:List Cl} (h:vnet L=true):∀ c∈L,ClW c:=by
 obtain ⟨_,h2⟩:=vnet_all h;have hN:∀ c∈L,nameB c.name=true∧1≤c.gd∧c.gd≤6:=fun c hc=>by
  obtain ⟨i,hi⟩:=List.mem_iff_getElem?.1 hc;obtain ⟨a1,_,a3,_,_⟩:=vcell_iff.1 (h2 i c hi);exact ⟨a1,a3.1,a3.2⟩
 intro c hc;obtain ⟨i,hi⟩:=List.mem_iff_getElem?.1 hc;obtain ⟨a1,_,a3,_,a5⟩:=vcell_iff.1 (h2 i c hi);refine ⟨a1,a3,fun x hx=>?_⟩;unfold okEs at a5;rw [List.all_eq_true] at a5;exact okE_w (fun d hd=>hN d (List.mem_of_mem_take hd)) a3.2 (a5 x hx)
def parP (l:List UInt8):List Cl × Int:=if 4000<l.length then ([],4) else if vnet (netP l)=true∧netT (netP l)=l then (netP l,0) else ([],3)
theorem parP_text {L:List Cl} (hv:vnet L=true) (hl:(netT L).length≤4000):parP (netT L)=(L,0):=by
 unfold parP;rw [if_neg (by omega),netP_text (vnet_w hv),if_pos ⟨hv,rfl⟩]
open Go Go.RowKit Amp
def Behind1 (r:List UInt8):Prop:=r=[]∨∃ c t,r=c::t∧(c=43∨c=45∨c=47)
theorem Behind1.head {r:List UInt8} (h:Behind1 r):∀ c t,r=c::t→c=43∨c=45∨c=47:=by
 intro c t e;rcases h with rfl | ⟨c',t',rfl,h⟩
 · cases e
 · injection e with e1 e2
   subst e1;exact h
open Go Go.RowKit Amp
theorem okC_iff {x:Int}:okC x=true↔-1000000000≤x∧x≤1000000000:=by unfold okC;exact decide_eq_true_iff
open Go Go.RowKit Amp
open Go Amp
def B64:Int:=18446744073709551616
def wd (v:Int) (i:Nat):Int:=v / B64 ^ i % B64
def lo (v:Int) (i:Nat):Int:=v % B64 ^ i
theorem B_pos (i:Nat):0<B64 ^ i:=Int.pow_pos (by decide)
theorem wd_range (v:Int) (i:Nat):0≤wd v i∧wd v i<B64:=⟨Int.emod_nonneg _ (by decide),Int.emod_lt_of_pos _ (by decide)⟩
theorem lo_range (v:Int) (i:Nat):0≤lo v i∧lo v i<B64 ^ i:=⟨Int.emod_nonneg _ (Int.ne_of_gt (B_pos i)),Int.emod_lt_of_pos _ (B_pos i)⟩
theorem lo_zero (v:Int):lo v 0=0:=Int.emod_one v
theorem next_rest {i:Nat} {l u q:Int} (hl:0≤l∧l<B64 ^ i) (hu:0≤u∧u<B64):(l+B64 ^ i*u+B64 ^ (i+1)*q) % B64 ^ (i+1)=l+B64 ^ i*u:=by
 have hp:=B_pos i;rw [Int.add_mul_emod_self_left];have h1:B64 ^ i*u≤B64 ^ i*(B64 - 1):=Int.mul_le_mul_of_nonneg_left (by omega) (Int.le_of_lt hp);have h0:0≤B64 ^ i*u:=Int.mul_nonneg (Int.le_of_lt hp) hu.1;have h2:B64 ^ i*(B64 - 1)=B64 ^ (i+1) - B64 ^ i:=by rw [Int.mul_sub,Int.mul_one,Int.pow_succ]
 exact Int.emod_eq_of_lt (by omega) (by omega)
theorem lo_succ (v:Int) (i:Nat):lo v (i+1)=lo v i+B64 ^ i*wd v i:=by
 have e1:v=lo v i+B64 ^ i*(v / B64 ^ i):=by
  have:=Int.emod_add_mul_ediv v (B64 ^ i);exact this.symm
 have e2:v / B64 ^ i=wd v i+B64*(v / B64 ^ i / B64):=by
  have:=Int.emod_add_mul_ediv (v / B64 ^ i) B64;exact this.symm
 have e3:v=lo v i+B64 ^ i*wd v i+B64 ^ (i+1)*(v / B64 ^ i / B64):=by
  conv=>lhs;rw [e1,e2]
  rw [Int.mul_add,Int.pow_succ,Int.mul_assoc];omega
 have e4:lo v (i+1)=(lo v i+B64 ^ i*wd v i+B64 ^ (i+1)*(v / B64 ^ i / B64)) % B64 ^ (i+1):=congrArg (· % B64 ^ (i+1)) e3;rw [e4,next_rest (lo_range v i) (wd_range v i)]
theorem mstep {z a a' u c m:Int} {i:Nat} (h:a=lo z i+B64 ^ i*c) (ha:a'=a+B64 ^ i*u) (hz:z=a'+B64 ^ (i+1)*m):wd z i=(u+c) % B64∧a'=lo z (i+1)+B64 ^ (i+1)*((u+c) / B64):=by
 have e1:a'=lo z i+B64 ^ i*((u+c) % B64)+B64 ^ (i+1)*((u+c) / B64):=by
  have e:=Int.emod_add_mul_ediv (u+c) B64;have e2:B64 ^ i*(u+c)=B64 ^ i*((u+c) % B64)+B64 ^ (i+1)*((u+c) / B64):=by
   conv=>lhs;rw [← e]
   rw [Int.mul_add,Int.pow_succ,Int.mul_assoc]
  rw [ha,h,Int.add_assoc,← Int.mul_add,Int.add_comm c u,e2,Int.add_assoc]
 have hr:0≤(u+c) % B64∧(u+c) % B64<B64:=⟨Int.emod_nonneg _ (by decide),Int.emod_lt_of_pos _ (by decide)⟩;have e3:lo z (i+1)=lo z i+B64 ^ i*((u+c) % B64):=by
  have e4:z=lo z i+B64 ^ i*((u+c) % B64)+B64 ^ (i+1)*((u+c) / B64+m):=by
   rw [Int.mul_add,← Int.add_assoc,← e1];exact hz
  have e5:lo z (i+1)=(lo z i+B64 ^ i*((u+c) % B64)+B64 ^ (i+1)*((u+c) / B64+m)) % B64 ^ (i+1):=congrArg (· % B64 ^ (i+1)) e4;rw [e5,next_rest (lo_range z i) hr]
 refine ⟨?_,by rw [e3];exact e1⟩;have e6:=lo_succ z i;rw [e3] at e6;have e7:B64 ^ i*((u+c) % B64)=B64 ^ i*wd z i:=by omega
 exact (Int.eq_of_mul_eq_mul_left (Int.ne_of_gt (B_pos i)) e7).symm
theorem lo_div (v:Int) (i:Nat):v=lo v i+B64 ^ i*(v / B64 ^ i):=(Int.emod_add_mul_ediv v (B64 ^ i)).symm
theorem add_word {x y c:Int} {i:Nat} (h:lo x i+lo y i=lo (x+y) i+B64 ^ i*c) :
  wd (x+y) i=(wd x i+wd y i+c) % B64∧lo x (i+1)+lo y (i+1)=lo (x+y) (i+1)+B64 ^ (i+1)*((wd x i+wd y i+c) / B64):=by
 refine mstep (m:=x / B64 ^ (i+1)+y / B64 ^ (i+1)) h ?_ ?_
 · rw [lo_succ x i,lo_succ y i,Int.mul_add]
   omega
 · have h1:=lo_div x (i+1)
   have h2:=lo_div y (i+1);rw [Int.mul_add];omega
theorem neg_word {x c:Int} {i:Nat} (h:-lo x i=lo (-x) i+B64 ^ i*c) :
  wd (-x) i=(-wd x i+c) % B64∧-lo x (i+1)=lo (-x) (i+1)+B64 ^ (i+1)*((-wd x i+c) / B64):=by
 refine mstep (m:=-(x / B64 ^ (i+1))) h ?_ ?_
 · rw [lo_succ x i,Int.mul_neg]
   omega
 · have h1:=lo_div x (i+1)
   rw [Int.mul_neg];omega
theorem mul_word {x n c:Int} {i:Nat} (h:lo x i*n=lo (x*n) i+B64 ^ i*c) :
  wd (x*n) i=(wd x i*n+c) % B64∧lo x (i+1)*n=lo (x*n) (i+1)+B64 ^ (i+1)*((wd x i*n+c) / B64):=by
 refine mstep (m:=x / B64 ^ (i+1)*n) h ?_ ?_
 · rw [lo_succ x i,Int.add_mul,Int.mul_assoc]
 · have h1:=lo_div x (i+1)
   rw [← Int.mul_assoc,← Int.add_mul,← h1]
theorem carry_mul {a n c:Int} (ha:0≤a∧a<B64) (hn:0≤n) (hc:0≤c∧c≤n):0≤(a*n+c) / B64∧(a*n+c) / B64≤n:=by
 have h0:0≤a*n:=Int.mul_nonneg ha.1 hn;have h1:a*n≤(B64 - 1)*n:=Int.mul_le_mul_of_nonneg_right (by omega) hn;have h2:(B64 - 1)*n=B64*n - n:=by rw [Int.sub_mul,Int.one_mul]
 refine ⟨Int.ediv_nonneg (by omega) (by decide), ?_⟩;have h3:(a*n+c) / B64≤(B64*n) / B64:=Int.ediv_le_ediv (by decide) (by omega);rw [Int.mul_ediv_cancel_left _ (by decide)] at h3;exact h3
end Go.Proofs.YtchdmecjhaanfaaGreatDoor
namespace Amp
def PosA (a b:Int):Prop:=0<a∧2*(b*b)<a*a
def PosB (a b:Int):Prop:=0<b∧a*a<2*(b*b)
def Pos (a b:Int):Prop:=PosA a b∨PosB a b
instance (a b:Int):Decidable (Pos a b):=by unfold Pos PosA PosB;infer_instance
def sgn (a b:Int):Int:=if a=0∧b=0 then 0 else if Pos a b then 1 else -1
theorem irr_nat:∀ (n a b:Nat),a≤n→a*a=2*(b*b)→a=0
 | 0,a,b,h,_=>by omega
 | n + 1, a, b, h, e => by
   rcases Nat.eq_zero_or_pos a with h0 | h0
   · exact h0
   exfalso;have h2:a % 2=0:=by
    rcases Nat.mod_two_eq_zero_or_one a with h | h
    · exact h
    · have:a*a % 2=1:=by rw [Nat.mul_mod,h]
      omega
   obtain ⟨c,rfl⟩:∃ c,a=2*c:=⟨a / 2,by omega⟩;have e2:b*b=2*(c*c):=by
    have:2*c*(2*c)=4*(c*c):=by rw [Nat.mul_mul_mul_comm]
    omega
   have hb:b<2*c:=by
    apply Nat.lt_of_not_le;intro hle;have h1:2*c*(2*c)≤b*b:=Nat.mul_le_mul hle hle;have h3:0<c*c:=Nat.mul_pos (by omega) (by omega);have:2*c*(2*c)=4*(c*c):=by rw [Nat.mul_mul_mul_comm]
    omega
   have hb0:=irr_nat n b c (by omega) e2;subst hb0;have h3:0<c*c:=Nat.mul_pos (by omega) (by omega);omega
theorem sq_nat (a:Int):a*a=((a.natAbs*a.natAbs:Nat):Int):=by
 rw [Int.natCast_mul];exact (Int.natAbs_mul_self' a).symm
theorem irr {a b:Int} (h:a*a=2*(b*b)):a=0∧b=0:=by
 rw [sq_nat a,sq_nat b] at h;have h1:a.natAbs*a.natAbs=2*(b.natAbs*b.natAbs):=by omega
 have h2:=irr_nat _ _ _ (Nat.le_refl _) h1;rw [h2] at h1;have h3:b.natAbs*b.natAbs=0:=by omega
 have h4:b.natAbs=0:=by
  rcases Nat.mul_eq_zero.1 h3 with h | h <;> exact h
 omega
theorem sq_nonneg (a:Int):0≤a*a:=by
 rw [sq_nat];omega
theorem lt_of_sq {x y:Int} (hy:0≤y) (h:x*x<y*y):x<y:=by
 apply Int.lt_of_not_ge;intro hle;have:y*y≤x*x:=Int.mul_le_mul hle hle hy (Int.le_trans hy hle);omega
theorem PosA.add {a b c d:Int} (h:PosA a b) (k:PosA c d):PosA (a+c) (b+d):=by
 obtain ⟨ha,h⟩:=h;obtain ⟨hc,k⟩:=k;refine ⟨by omega, ?_⟩;have hac:0<a*c:=Int.mul_pos ha hc;have hc2:0<c*c:=Int.mul_pos hc hc;have h1:2*(b*b)*(c*c)<a*a*(c*c):=Int.mul_lt_mul_of_pos_right h hc2;have h2:2*(b*b)*(2*(d*d))≤2*(b*b)*(c*c):=Int.mul_le_mul_of_nonneg_left (Int.le_of_lt k) (by have:=sq_nonneg b;omega);have h3:2*(b*d)<a*c:=by
  apply lt_of_sq (Int.le_of_lt hac);have e1:2*(b*d)*(2*(b*d))=2*(b*b)*(2*(d*d)):=by grind
  have e2:a*c*(a*c)=a*a*(c*c):=by grind
  rw [e1,e2];omega
 have e3:(b+d)*(b+d)=b*b+2*(b*d)+d*d:=by grind
 have e4:(a+c)*(a+c)=a*a+2*(a*c)+c*c:=by grind
 rw [e3,e4];omega
theorem PosB.add {a b c d:Int} (h:PosB a b) (k:PosB c d):PosB (a+c) (b+d):=by
 obtain ⟨hb,h⟩:=h;obtain ⟨hd,k⟩:=k;refine ⟨by omega, ?_⟩;have hbd:0<b*d:=Int.mul_pos hb hd;have hd2:0<d*d:=Int.mul_pos hd hd;have h1:a*a*(2*(d*d))<2*(b*b)*(2*(d*d)):=Int.mul_lt_mul_of_pos_right h (by omega);have h2:a*a*(c*c)≤a*a*(2*(d*d)):=Int.mul_le_mul_of_nonneg_left (Int.le_of_lt k) (sq_nonneg a);have h3:a*c<2*(b*d):=by
  apply lt_of_sq (by omega);have e1:2*(b*d)*(2*(b*d))=2*(b*b)*(2*(d*d)):=by grind
  have e2:a*c*(a*c)=a*a*(c*c):=by grind
  rw [e1,e2];omega
 have e3:(b+d)*(b+d)=b*b+2*(b*d)+d*d:=by grind
 have e4:(a+c)*(a+c)=a*a+2*(a*c)+c*c:=by grind
 rw [e3,e4];omega
theorem neg_sq (a:Int):-a*-a=a*a:=by grind
theorem pos_cases (a b:Int):(a=0∧b=0)∨Pos a b∨Pos (-a) (-b):=by
 unfold Pos PosA PosB;rw [neg_sq,neg_sq];rcases Int.lt_trichotomy (a*a) (2*(b*b)) with h | h | h
 · rcases Int.lt_trichotomy b 0 with hb | hb | hb
   · exact .inr (.inr (.inr ⟨by omega,h⟩))
   · subst hb;have:=sq_nonneg a;omega
   · exact .inr (.inl (.inr ⟨by omega,h⟩))
 · exact .inl (irr h)
 · rcases Int.lt_trichotomy a 0 with hb | hb | hb
   · exact .inr (.inr (.inl ⟨by omega,h⟩))
   · subst hb;have:=sq_nonneg b;omega
   · exact .inr (.inl (.inl ⟨by omega,h⟩))
theorem Pos.not_zero {a b:Int} (h:Pos a b):¬ (a=0∧b=0):=by
 rintro ⟨rfl,rfl⟩;rcases h with ⟨h,_⟩ | ⟨h,_⟩ <;> omega
theorem Pos.not_neg {a b:Int} (h:Pos a b):¬ Pos (-a) (-b):=by
 unfold Pos PosA PosB at *
 rw [neg_sq,neg_sq];omega
theorem Pos.add_ab {a b c d:Int} (h:PosA a b) (k:PosB c d):Pos (a+c) (b+d):=by
 rcases pos_cases (a+c) (b+d) with ⟨h1,h2⟩ | h1 | h1
 · obtain ⟨_,h⟩:=h
   obtain ⟨_,k⟩:=k;obtain rfl:c=-a:=by omega
   obtain rfl:d=-b:=by omega
   rw [neg_sq,neg_sq] at k;omega
 · exact h1
 · exfalso
   rcases h1 with h1 | h1
   · have h2:=h1.add h
     rw [show -(a+c)+a=-c by omega,show -(b+d)+b=-d by omega] at h2;obtain ⟨_,h2⟩:=h2;obtain ⟨_,k⟩:=k;rw [neg_sq,neg_sq] at h2;omega
   · have h2:=h1.add k
     rw [show -(a+c)+c=-a by omega,show -(b+d)+d=-b by omega] at h2;obtain ⟨_,h2⟩:=h2;obtain ⟨_,h⟩:=h;rw [neg_sq,neg_sq] at h2;omega
theorem Pos.add {a b c d:Int} (h:Pos a b) (k:Pos c d):Pos (a+c) (b+d):=by
 rcases h with h | h <;> rcases k with k | k
 · exact .inl (h.add k)
 · exact Pos.add_ab h k
 · rw [Int.add_comm a,Int.add_comm b];exact Pos.add_ab k h
 · exact .inr (h.add k)
theorem sgn_zero:sgn 0 0=0:=by decide
theorem sgn_pos {a b:Int} (h:Pos a b):sgn a b=1:=by
 unfold sgn;rw [if_neg h.not_zero,if_pos h]
theorem sgn_negp {a b:Int} (h:Pos (-a) (-b)):sgn a b=-1:=by
 unfold sgn;rw [if_neg (by have:=h.not_zero;omega),if_neg (by intro h';have:=h'.not_neg;exact this h)]
theorem sgn_cases (a b:Int):(a=0∧b=0∧sgn a b=0)∨(Pos a b∧sgn a b=1)∨(Pos (-a) (-b)∧sgn a b=-1):=by
 rcases pos_cases a b with ⟨rfl,rfl⟩ | h | h
 · exact .inl ⟨rfl,rfl,sgn_zero⟩
 · exact .inr (.inl ⟨h,sgn_pos h⟩)
 · exact .inr (.inr ⟨h,sgn_negp h⟩)
theorem sgn_opp (a b:Int):sgn (-a) (-b)=-sgn a b:=by
 rcases sgn_cases a b with ⟨rfl,rfl,h⟩ | ⟨h1,h⟩ | ⟨h1,h⟩
 · rfl
 · rw [h];exact sgn_negp (by rw [Int.neg_neg,Int.neg_neg];exact h1)
 · rw [h];exact sgn_pos h1
end Amp
namespace Amp
theorem sgn_nonneg {p q:Int} (hp:0≤p) (hq:0≤q):sgn p q=min (p+q) 1:=by
 by_cases h:p=0∧q=0
 · obtain ⟨rfl,rfl⟩:=h;decide
 · have hs:sgn p q=1:=by
    apply sgn_pos;unfold Pos PosA PosB;rcases Int.lt_trichotomy (p*p) (2*(q*q)) with h1 | h1 | h1
    · right;refine ⟨?_,h1⟩
      rcases Int.lt_or_le 0 q with h2 | h2
      · exact h2
      · obtain rfl:q=0:=by omega
        have:=sq_nonneg p;omega
    · exact absurd (irr h1) h
    · left;refine ⟨?_,h1⟩
      rcases Int.lt_or_le 0 p with h2 | h2
      · exact h2
      · obtain rfl:p=0:=by omega
        have:=sq_nonneg q;omega
   rw [hs];omega
theorem sgn_nonpos {p q:Int} (hp:p≤0) (hq:q≤0):sgn p q=max (p+q) (-1):=by
 have h:=sgn_opp (-p) (-q);rw [Int.neg_neg,Int.neg_neg,sgn_nonneg (p:=-p) (q:=-q) (by omega) (by omega)] at h;rw [h];omega
theorem sgn_mixed {a b:Int} (h:a<0∧0<b∨0<a∧b<0):sgn a b=if decide (2*(b*b)<a*a)=decide (0<a) then 1 else -1:=by
 have hne:a*a≠2*(b*b):=by
  intro he;have:=irr he;omega
 rcases h with ⟨h1,h2⟩ | ⟨h1,h2⟩
 · rw [decide_eq_false (show ¬ 0<a by omega)]
   by_cases h3:2*(b*b)<a*a
   · rw [if_neg (by simpa using h3)]
     apply sgn_negp;left;refine ⟨by omega, ?_⟩;rw [neg_sq,neg_sq];exact h3
   · rw [if_pos (by simpa using h3)]
     apply sgn_pos;right;exact ⟨h2,by omega⟩
 · rw [decide_eq_true h1]
   by_cases h3:2*(b*b)<a*a
   · rw [if_pos (by simpa using h3)]
     apply sgn_pos;left;exact ⟨h1,h3⟩
   · rw [if_neg (by simpa using h3)]
     apply sgn_negp;right;refine ⟨by omega, ?_⟩;rw [neg_sq,neg_sq];omega
end Amp
namespace Amp
def isq:Nat→Nat
 | 0=>0
 | n+1=>if (isq n+1)*(isq n+1)≤n+1 then isq n+1 else isq n
def FlAt (p q u n:Int):Prop:=0≤sgn (p - n*u) q∧sgn (p - (n+1)*u) q<0
theorem pos_one {c:Int} (h:0<c):Pos c 0:=.inl ⟨h,by have:=Int.mul_pos h h;omega⟩
theorem sgn_up {a b c:Int} (h:0≤sgn a b) (hc:0<c):sgn (a+c) b=1:=by
 rcases sgn_cases a b with ⟨rfl,rfl,_⟩ | ⟨h1,_⟩ | ⟨_,h1⟩
 · rw [Int.zero_add];exact sgn_pos (pos_one hc)
 · have:=h1.add (pos_one hc)
   rw [Int.add_zero] at this;exact sgn_pos this
 · omega
theorem sgn_up0 {a b c:Int} (h:0≤sgn a b) (hc:0≤c):0≤sgn (a+c) b:=by
 rcases Int.lt_or_eq_of_le hc with h1 | h1
 · rw [sgn_up h h1];decide
 · rw [← h1,Int.add_zero];exact h
theorem sgn_down {a b c:Int} (h:sgn a b<0) (hc:0≤c):sgn (a - c) b<0:=by
 apply Int.lt_of_not_ge;intro h1;have:=sgn_up0 h1 hc;rw [Int.sub_add_cancel] at this;omega
theorem FlAt.le {p q u n m:Int} (hu:0<u) (h:FlAt p q u n) (hm:0≤sgn (p - m*u) q):m≤n:=by
 apply Int.le_of_not_gt;intro hlt;have h1:(n+1)*u≤m*u:=Int.mul_le_mul_of_nonneg_right (by omega) (by omega);have h2:=sgn_down h.2 (c:=m*u - (n+1)*u) (by omega);rw [show p - (n+1)*u - (m*u - (n+1)*u)=p - m*u by omega] at h2;omega
theorem FlAt.uniq {p q u n m:Int} (hu:0<u) (h:FlAt p q u n) (k:FlAt p q u m):n=m:=by
 have h1:=h.le hu k.1;have h2:=k.le hu h.1;omega
theorem FlAt.lt {p q u n m:Int} (hu:0<u) (h:FlAt p q u n) (hm:sgn (p - m*u) q<0):n<m:=by
 apply Int.lt_of_not_ge;intro hle;have h1:m*u≤n*u:=Int.mul_le_mul_of_nonneg_right hle (by omega);have h2:=sgn_up0 h.1 (c:=n*u - m*u) (by omega);rw [show p - n*u+(n*u - m*u)=p - m*u by omega] at h2;omega
def floorN (p q:Int):Int:=if 0<q then p+isq (2*(q.natAbs*q.natAbs)) else if q<0 then p - isq (2*(q.natAbs*q.natAbs)) - 1 else p
theorem sgn_mul {a b c:Int} (hc:0<c):sgn (c*a) (c*b)=sgn a b:=by
 have key:∀ x y:Int,Pos x y→Pos (c*x) (c*y):=by
  intro x y h;have hcc:=Int.mul_pos hc hc;have e1:∀ z:Int,c*z*(c*z)=c*c*(z*z):=fun z=>by grind
  rcases h with ⟨h1,h2⟩ | ⟨h1,h2⟩
  · refine .inl ⟨Int.mul_pos hc h1, ?_⟩
    rw [e1,e1];have:=Int.mul_lt_mul_of_pos_left h2 hcc;have e2:c*c*(2*(y*y))=2*(c*c*(y*y)):=by grind
    omega
  · refine .inr ⟨Int.mul_pos hc h1, ?_⟩
    rw [e1,e1];have:=Int.mul_lt_mul_of_pos_left h2 hcc;have e2:c*c*(2*(y*y))=2*(c*c*(y*y)):=by grind
    omega
 rcases sgn_cases a b with ⟨rfl,rfl,h⟩ | ⟨h1,h⟩ | ⟨h1,h⟩
 · simp
 · rw [h,sgn_pos (key _ _ h1)]
 · rw [h]
   apply sgn_negp;have:=key _ _ h1
   rwa [Int.mul_neg,Int.mul_neg] at this
theorem FlAt.mul {p q u n c:Int} (hc:0<c):FlAt (c*p) (c*q) (c*u) n↔FlAt p q u n:=by
 unfold FlAt;rw [show c*p - n*(c*u)=c*(p - n*u) by grind,show c*p - (n+1)*(c*u)=c*(p - (n+1)*u) by grind,sgn_mul hc,sgn_mul hc]
def nP (p q e:Int):Int:=if e % 2=0 then p else 2*q
def nQ (p q e:Int):Int:=if e % 2=0 then q else p
def lowN (p q e:Int):Int:=if 0≤e / 2 then floorN (2 ^ (e / 2).toNat*nP p q e) (2 ^ (e / 2).toNat*nQ p q e) else floorN (nP p q e) (nQ p q e) / 2 ^ (-(e / 2)).toNat
def hiN (p q e:Int):Int:=-lowN (-p) (-q) e
end Amp
