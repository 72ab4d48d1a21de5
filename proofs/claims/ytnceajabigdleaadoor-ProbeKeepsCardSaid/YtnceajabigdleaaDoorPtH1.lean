/- House lemmas: a world that has grown by new blocks and draws ('World.grow', 'Grew'), how the walk reads through it, and regions that draw their order whose operations only read and whose callees only make new memory ('wp_region_gentle_lit'). No condition; no program in sight. -/
import Derived.WalkKit
import Derived.BigQuiet
import Derived.Deep.QuietTactic
import Derived.Deep.LoopGhost
import Derived.Laws.BitsLemmas
namespace Go
open Go.RowKit
theorem hid {p:Prop} (h:p):Hid p:=h
def World.grow (w:World) (g:List Obj):World:={ w with heap:=w.heap++g.toArray }
section
variable (w:World) (g h:List Obj) (n:Nat) (o:Obj) (a:Addr) (v:Value)
@[go_sem] theorem World.size_grow:(w.grow g).heap.size=w.heap.size+g.length:=by simp [World.grow]
@[go_sem] theorem World.size_drewN:(w.drewN n).heap.size=w.heap.size:=rfl
@[go_sem] theorem World.alloc_drewN:(w.drewN n).alloc o=(w.alloc o).drewN n:=rfl
@[go_sem] theorem World.setCell_drewN:(w.drewN n).setCell a v=(w.setCell a v).drewN n:=rfl
@[go_sem] theorem World.grow_drewN:(w.drewN n).grow g=(w.grow g).drewN n:=rfl
@[go_sem] theorem World.grow_drew:w.drew.grow g=(w.grow g).drew:=rfl
@[go_sem] theorem World.shape?_drewN (r:Nat):(w.drewN n).shape? r=w.shape? r:=rfl
@[go_sem] theorem World.grow_grow:(w.grow g).grow h=w.grow (g++h):=by simp [World.grow]
theorem World.grow_nil:w.grow []=w:=by simp [World.grow]
theorem World.grow_heap_lt (k:Nat) (hk:k<w.heap.size):(w.grow g).heap[k]? = w.heap[k]? := by
 simp only [World.grow];rw [Array.getElem?_append_left hk]
@[go_sem] theorem World.cell?_grow_past (k i : Nat) (hk : k < w.heap.size) : (w.grow g).cell? ⟨k, i, none⟩ = w.cell? ⟨k, i, none⟩ := by
  simp only [World.cell?,World.grow_heap_lt w g k hk]
@[go_sem] theorem World.frozen?_grow_past (k i : Nat) (hk : k < w.heap.size) : (w.grow g).frozen? ⟨k, i, none⟩ = w.frozen? ⟨k, i, none⟩ := by
  simp only [World.frozen?,World.grow_heap_lt w g k hk]
@[go_sem] theorem World.shape?_grow_past (k : Nat) (hk : k < w.heap.size) : (w.grow g).shape? k = w.shape? k := by
  simp only [World.shape?,World.grow_heap_lt w g k hk]
@[go_sem] theorem World.setCell_grow_past (k i : Nat) (hk : k < w.heap.size) : (w.grow g).setCell ⟨k, i, none⟩ v = (w.setCell ⟨k, i, none⟩ v).grow g := by
  unfold World.setCell World.grow
  congr 1
  apply Array.ext_getElem?;intro j;simp only [Array.getElem?_modify,Array.getElem?_append,Array.size_modify];by_cases hj:j<w.heap.size
  · simp [hj]
  · simp only [hj,if_false]
    rw [if_neg (by omega)]
theorem World.grow_alloc:w.alloc o=w.grow [o]:=by simp [World.grow]
end
@[go_sem] theorem lt_suf1 (k a0:Nat):(k<k+1+a0)=True:=by simp only [eq_iff_iff,iff_true];omega
@[go_sem] theorem lt_suf2 (k a0 a1:Nat):(k<k+1+a0+a1)=True:=by simp only [eq_iff_iff,iff_true];omega
@[go_sem] theorem lt_suf3 (k a0 a1 a2:Nat):(k<k+1+a0+a1+a2)=True:=by simp only [eq_iff_iff,iff_true];omega
@[go_sem] theorem lt_suf4 (k a0 a1 a2 a3:Nat):(k<k+1+a0+a1+a2+a3)=True:=by simp only [eq_iff_iff,iff_true];omega
@[go_sem] theorem lt_suf5 (k a0 a1 a2 a3 a4:Nat):(k<k+1+a0+a1+a2+a3+a4)=True:=by simp only [eq_iff_iff,iff_true];omega
@[go_sem] theorem lt_suf6 (k a0 a1 a2 a3 a4 a5:Nat):(k<k+1+a0+a1+a2+a3+a4+a5)=True:=by simp only [eq_iff_iff,iff_true];omega
@[go_sem] theorem lt_suf7 (k a0 a1 a2 a3 a4 a5 a6:Nat):(k<k+1+a0+a1+a2+a3+a4+a5+a6)=True:=by simp only [eq_iff_iff,iff_true];omega
@[go_sem] theorem lt_suf8 (k a0 a1 a2 a3 a4 a5 a6 a7:Nat):(k<k+1+a0+a1+a2+a3+a4+a5+a6+a7)=True:=by simp only [eq_iff_iff,iff_true];omega
@[go_sem] theorem lt_suf9 (k a0 a1 a2 a3 a4 a5 a6 a7 a8:Nat):(k<k+1+a0+a1+a2+a3+a4+a5+a6+a7+a8)=True:=by simp only [eq_iff_iff,iff_true];omega
@[go_sem] theorem lt_suf10 (k a0 a1 a2 a3 a4 a5 a6 a7 a8 a9:Nat):(k<k+1+a0+a1+a2+a3+a4+a5+a6+a7+a8+a9)=True:=by simp only [eq_iff_iff,iff_true];omega
@[go_sem] theorem lt_suf11 (k a0 a1 a2 a3 a4 a5 a6 a7 a8 a9 a10:Nat):(k<k+1+a0+a1+a2+a3+a4+a5+a6+a7+a8+a9+a10)=True:=by simp only [eq_iff_iff,iff_true];omega
@[go_sem] theorem lt_suf12 (k a0 a1 a2 a3 a4 a5 a6 a7 a8 a9 a10 a11:Nat):(k<k+1+a0+a1+a2+a3+a4+a5+a6+a7+a8+a9+a10+a11)=True:=by simp only [eq_iff_iff,iff_true];omega
@[go_sem] theorem lt_suf13 (k a0 a1 a2 a3 a4 a5 a6 a7 a8 a9 a10 a11 a12:Nat):(k<k+1+a0+a1+a2+a3+a4+a5+a6+a7+a8+a9+a10+a11+a12)=True:=by simp only [eq_iff_iff,iff_true];omega
@[go_sem] theorem lt_suf14 (k a0 a1 a2 a3 a4 a5 a6 a7 a8 a9 a10 a11 a12 a13:Nat):(k<k+1+a0+a1+a2+a3+a4+a5+a6+a7+a8+a9+a10+a11+a12+a13)=True:=by simp only [eq_iff_iff,iff_true];omega
structure GN where
 g:List Obj
 n:Nat
def Grew (w w':World):Prop:=∃ (g:List Obj) (n:Nat),w'=(w.grow g).drewN n
theorem Grew.refl (w:World):Grew w w:=⟨[],0,by rw [World.grow_nil];rfl⟩
theorem Grew.trans {a b c:World} (h:Grew a b) (k:Grew b c):Grew a c:=by
 obtain ⟨g,n,rfl⟩:=h;obtain ⟨g',n',rfl⟩:=k;exact ⟨g++g',n+n',by rw [World.grow_drewN,World.grow_grow,World.drewN_drewN]⟩
theorem Grew.alloc {a w:World} (h:Grew a w) (o:Obj):Grew a (w.alloc o) :=
 h.trans ⟨[o],0,by rw [World.grow_alloc];rfl⟩
theorem Grew.grow {a w:World} (h:Grew a w) (g:List Obj):Grew a (w.grow g):=h.trans ⟨g,0,rfl⟩
theorem Grew.drewN {a w:World} (h:Grew a w) (n:Nat):Grew a (w.drewN n):=h.trans ⟨[],n,by rw [World.grow_nil]⟩
theorem Grew.drew {a w:World} (h:Grew a w):Grew a w.drew:=h.drewN 1
theorem gw0 {a w:World} (h:Grew a w:=by repeat (first | exact Grew.refl _ | refine Grew.drewN ?_ _ | refine Grew.grow ?_ _ | refine Grew.alloc ?_ _ | refine Grew.drew ?_)):Grew a w:=h
theorem Grew.size {a w:World} (h:Grew a w):a.heap.size≤w.heap.size:=by
 obtain ⟨g,n,rfl⟩:=h;simp [World.drewN,World.grow]
theorem Grew.block {a w:World} (h:Grew a w) (k:Nat) (hk:k<a.heap.size):w.heap[k]? = a.heap[k]? := by
 obtain ⟨g,n,rfl⟩:=h;show (a.grow g).heap[k]? = _
 exact World.grow_heap_lt a g k hk
theorem Grew.below {a w:World} (h:Grew a w):Below a.heap.size a w:=by
 obtain ⟨g,n,rfl⟩:=h;exact ⟨rfl,rfl,rfl,by simp [World.drewN,World.grow],fun k hk=>World.grow_heap_lt a g k hk⟩
theorem wpQuiet_imp {P:Program} {ops:Array Oper} {C:World→Prop} {Q Q':Act→Prop} (h:∀ a,Q a→Q' a):∀ (l:List Oper) (a:Act),wpQuiet P ops C Q l a→wpQuiet P ops C Q' l a
 | [],a,hq=>h a hq
 | o :: l, a, hq => by
   unfold wpQuiet at *
   split
   · rename_i hw
     rw [if_pos hw] at hq;exact Oper.quiet_mono (fun a'=>wpQuiet_imp h l a') hq
   · rename_i hw
     rw [if_neg hw] at hq;exact wpQuiet_imp h l _ hq
theorem Grew.pair {w w':World} (h:∃ p:GN,w'=(w.grow p.g).drewN p.n):Grew w w':=by
 obtain ⟨⟨g,n⟩,h⟩:=h;exact ⟨g,n,h⟩
theorem wp_region_gentle_lit {P:Program} {id:Nat} {Q:Exit→Act→World→Prop} {a:Act} {w:World} {l:List Oper} (hm:P.follows .mixedOrders=true) (hB:Region.lexB .any l.toArray=true)
  (h:wpQuiet P l.toArray (fun w'=>∃ p:GN,w'=(w.grow p.g).drewN p.n) (fun a'=>∀ w',Grew w w'→Q .normal a' w') l a):(Code.region id l.toArray true).wp P Q a w :=
 wp_region_quiet (C:=fun w'=>∃ p:GN,w'=(w.grow p.g).drewN p.n) hm hB ⟨⟨[],1⟩,by rw [World.grow_nil];rfl⟩ (by simpa using wpQuiet_imp (Q':=fun a'=>∀ w',(∃ p:GN,w'=(w.grow p.g).drewN p.n)→Q .normal a' w') (fun _ (h:∀ w',Grew w w'→Q .normal _ w') w' hw'=>h w' (Grew.pair hw')) _ _ h)
@[go_sem] theorem i64_and1 (n : Int) : bits .and .i64 n 1 = n % 2 := by
  have h127:(BitVec.ofInt 64 1).toNat=2 ^ 1 - 1:=by decide
  have key:(BitVec.ofInt 64 n &&& BitVec.ofInt 64 1).toNat=(n % ((2 ^ 64:Nat):Int)).toNat % 2 ^ 1:=by
   rw [BitVec.toNat_and,BitVec.toNat_ofInt,h127,Nat.and_two_pow_sub_one_eq_mod]
  show IntKind.i64.wrap ((BitVec.ofInt 64 n &&& BitVec.ofInt 64 1).toNat:Nat)=n % 2
  rw [key,IntKind.wrap_i64];omega
@[go_sem] theorem i64_and3 (n : Int) : bits .and .i64 n 3 = n % 4 := by
  have h127:(BitVec.ofInt 64 3).toNat=2 ^ 2 - 1:=by decide
  have key:(BitVec.ofInt 64 n &&& BitVec.ofInt 64 3).toNat=(n % ((2 ^ 64:Nat):Int)).toNat % 2 ^ 2:=by
   rw [BitVec.toNat_and,BitVec.toNat_ofInt,h127,Nat.and_two_pow_sub_one_eq_mod]
  show IntKind.i64.wrap ((BitVec.ofInt 64 n &&& BitVec.ofInt 64 3).toNat:Nat)=n % 4
  rw [key,IntKind.wrap_i64];omega
@[go_sem] theorem i64_and7 (n : Int) : bits .and .i64 n 7 = n % 8 := by
  have h127:(BitVec.ofInt 64 7).toNat=2 ^ 3 - 1:=by decide
  have key:(BitVec.ofInt 64 n &&& BitVec.ofInt 64 7).toNat=(n % ((2 ^ 64:Nat):Int)).toNat % 2 ^ 3:=by
   rw [BitVec.toNat_and,BitVec.toNat_ofInt,h127,Nat.and_two_pow_sub_one_eq_mod]
  show IntKind.i64.wrap ((BitVec.ofInt 64 n &&& BitVec.ofInt 64 7).toNat:Nat)=n % 8
  rw [key,IntKind.wrap_i64];omega
end Go
