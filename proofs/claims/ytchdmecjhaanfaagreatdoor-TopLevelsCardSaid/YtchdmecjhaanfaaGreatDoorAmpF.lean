import Derived.Test.YtchdmecjhaanfaaGreatDoorAmpC
import Derived.Test.YtchdmecjhaanfaaGreatDoorHouse
import Derived.Test.YtchdmecjhaanfaaGreatDoorMshPlain
import Derived.OpenShut
import Derived.Deep.Slices
namespace Go.Proofs.YtchdmecjhaanfaaGreatDoor
open Go Go.RowKit Amp
def allV (l:List Num):Bool:=l.all fun z=>validB z.x z.k
def NumsAt (w:World) (b off:Nat) (l:List Num):Prop:=∀ i z,l[i]? = some z→(w.cell? ⟨b,off+i*5,none⟩=some (.int .i64 z.x.a)∧w.cell? ⟨b,off+i*5+1,none⟩=some (.int .i64 z.x.b)∧w.cell? ⟨b,off+i*5+2,none⟩=some (.int .i64 z.x.c)∧w.cell? ⟨b,off+i*5+3,none⟩=some (.int .i64 z.x.d)∧w.cell? ⟨b,off+i*5+4,none⟩=some (.int .i64 z.k))
theorem allV_take {l:List Num} {i:Nat} {z:Num} (h:l[i]? = some z):allV (l.take (i+1))=(allV (l.take i)&&validB z.x z.k):=by
 unfold allV;rw [List.take_add_one,h];simp
theorem allV_cut {l:List Num} {i:Nat} {z:Num} (h:l[i]? = some z) (hz:validB z.x z.k=false):allV l=false:=by
 unfold allV;exact k71_
set_option maxHeartbeats 800000 in
theorem valid_any (b off cap:Nat) (l:List Num) (w:World) (hb:b<w.heap.size) (hl:l.length≤1000000000000000) (hc:NumsAt w b off l) :
  Calls Tryz.prog 92 #[.slice (some ⟨b,off,none⟩) l.length cap] w fun e w'=>e=.returned (.bool (allV l))∧Grew w w':=by
 have HC:=hid hc;clear hc;go_enter Tryz.func92,Tryz.ntmps92
 go_wp2_with fail
 go_loopw [7] (fun n wr=>∃ i:Nat,i≤l.length∧n=.int .i64 i∧Hid (allV (l.take i)=true)∧Grew w wr) (fun n _=>l.length - (intOf n).toNat)
 case atStart=>exact ⟨0,Nat.zero_le _,rfl,rfl,Grew.refl _⟩
 case round =>
  obtain ⟨i,hi,rfl,hp,g,n,rfl⟩:=hrel;by_cases hlt:i<l.length
  · obtain ⟨z,hz⟩:∃ z,l[i]? = some z:=⟨l[i],List.getElem?_eq_getElem hlt⟩
    obtain ⟨c0,c1,c2,c3,c4⟩:=HC.out i z hz;have Hz:=hid hz;clear hz;go_wp2_with fail
    refine (aValid_any z.x z.k _).mono ?_;rintro e w' ⟨rfl,g1,n1,rfl⟩;by_cases hv:validB z.x z.k=true
    · rw [hv]
      have Hv:=hid hv;clear hv;go_wp2_with fail
      go_roundw
      case rel=>exact ⟨i+1,by omega,by go_num,by unfold Hid;rw [allV_take Hz.out,hp.out,Hv.out];rfl,gw0⟩
      case measure=>simp [intOf];omega
    · have Hv:Hid (allV l=false):=allV_cut Hz.out (by simpa using hv)
      rw [show validB z.x z.k=false from by simpa using hv];clear hv;go_wp2_with fail
      go_ret;exact ⟨by rw [Hv.out];rfl,gw0⟩
  · obtain rfl:i=l.length:=by omega
    have hp':Hid (allV l=true):=by have:=hp.out;rw [List.take_length] at this;exact this
    clear hp;go_wp2_with fail
    go_ret;exact ⟨by rw [hp'.out];rfl,gw0⟩
theorem valid2_any (x y:C4) (k j:Int) (b:Nat) (w:World) (T:Nat) (fr:Nat × Nat) (h:w.heap[b]? = some (.cells #[.int .i64 x.a,.int .i64 x.b,.int .i64 x.c,.int .i64 x.d,.int .i64 k,.int .i64 y.a,.int .i64 y.b,.int .i64 y.c,.int .i64 y.d,.int .i64 j] T fr)) :
  Calls Tryz.prog 92 #[.slice (some ⟨b,0,none⟩) 2 2] w fun e w'=>e=.returned (.bool (validB x k&&validB y j))∧Grew w w':=by
 have hb:b<w.heap.size:=by
  rcases Nat.lt_or_ge b w.heap.size with h' | h'
  · exact h'
  · rw [Array.getElem?_eq_none h'] at h;cases h
 have:=valid_any b 0 2 [⟨x,k⟩,⟨y,j⟩] w hb (by simp) (by
  intro i z hz;have hi:i<2:=(List.getElem?_eq_some_iff.1 hz).1;have hi':i=0∨i=1:=by omega
  rcases hi' with rfl | rfl
  · obtain rfl:=Option.some.inj hz
    simp [World.cell?,h]
  · obtain rfl:=Option.some.inj hz
    simp [World.cell?,h])
 simpa [allV] using this
open Go Go.RowKit Amp
@[go_sem] theorem eq5_self (x:C4) (k:Int):eq5 x k x k=true:=eq5_iff.2 ⟨rfl,rfl⟩
@[go_sem] theorem eq4_self (x:C4):eq4 x x=true:=eq4_iff.2 rfl
set_option maxHeartbeats 800000 in
theorem aconj_any (x:C4) (k:Int) (w:World) (h:smallB x=true) :
  Calls Tryz.prog 93 #[.agg #[.int .i64 x.a,.int .i64 x.b,.int .i64 x.c,.int .i64 x.d,.int .i64 k]] w fun e w'=>e=.returned (.agg #[.int .i64 (conjC x).a,.int .i64 (conjC x).b,.int .i64 (conjC x).c,.int .i64 (conjC x).d,.int .i64 k])∧Grew w w':=by
 obtain ⟨⟨_,_⟩,⟨_,_⟩,⟨_,_⟩,⟨_,_⟩⟩:=smallB_iff.1 h;clear h;go_enter Tryz.func93,Tryz.ntmps93
 go_wp2_with fail
 exact bodyPost_ret (v:=.agg #[.int .i64 x.a,.int .i64 (-x.d),.int .i64 (-x.c),.int .i64 (-x.b),.int .i64 k]) (by simp [results,Tryz.results93,go_sem]) rfl ⟨rfl,gw0⟩
def realB (x:C4):Bool:=eq4 x (conjC x)
set_option maxHeartbeats 4000000 in
theorem amul_any (x y:C4) (k j:Int) (w:World) (hx:smallB x=true) (hy:smallB y=true) (hk:0≤k∧k≤40) (hj:0≤j∧j≤40) :
  Calls Tryz.prog 127 #[.agg #[.int .i64 x.a,.int .i64 x.b,.int .i64 x.c,.int .i64 x.d,.int .i64 k],.agg #[.int .i64 y.a,.int .i64 y.b,.int .i64 y.c,.int .i64 y.d,.int .i64 j]] w fun e w'=>e=.returned (.agg #[.int .i64 (mulC x y).a,.int .i64 (mulC x y).b,.int .i64 (mulC x y).c,.int .i64 (mulC x y).d,.int .i64 (k+j)])∧Grew w w':=by
 obtain ⟨⟨_,_⟩,⟨_,_⟩,⟨_,_⟩,⟨_,_⟩,⟨_,_⟩,⟨_,_⟩,⟨_,_⟩,⟨_,_⟩,⟨_,_⟩,⟨_,_⟩,⟨_,_⟩,⟨_,_⟩,⟨_,_⟩,⟨_,_⟩,⟨_,_⟩,⟨_,_⟩⟩:=prods hx hy;obtain ⟨_,_⟩:=hk;obtain ⟨_,_⟩:=hj;clear hx hy;go_enter Tryz.func127,Tryz.ntmps127
 go_wp2_with fail
 refine wp_loop_rounds 5 ?_
 iterate 4
  simp only [rounds_succ];go_wp2_with fail
  refine wp_loop_rounds 5 ?_
  iterate 5 (simp only [rounds_succ];go_wp2_with fail)
 simp only [rounds_succ];go_wp2_with fail
 exact bodyPost_ret (v:=.agg #[.int .i64 (x.a*y.a - x.b*y.d - x.c*y.c - x.d*y.b),.int .i64 (x.a*y.b+x.b*y.a - x.c*y.d - x.d*y.c),.int .i64 (x.a*y.c+x.b*y.b+x.c*y.a - x.d*y.d),.int .i64 (x.a*y.d+x.b*y.c+x.c*y.b+x.d*y.a),.int .i64 (k+j)]) (by simp [results,Tryz.results127,go_sem]) rfl ⟨rfl,gw0⟩
open Go Go.RowKit Amp
open Go Go.ChangeShapes Go.WideShapes Go.ChangeAt Go.RowKit Go.Deep Amp
section
variable {H:Type} {enc:TypeId × Value→H} {w:World} {base:Nat} {spare:Nat→Bool} {held:Bool}
theorem cellsNum:Tryz.prog.cellsOf 67=5:=by kernel_rfl
theorem cellsArr:Tryz.prog.cellsOf 60=4:=by kernel_rfl
theorem cellsInt:Tryz.prog.cellsOf 3=1:=by kernel_rfl
theorem trod_arr4 {fuel:Nat} {c0 c1 c2 c3:Value} {x:DataW H × List MemPlace} (h:DataW.trod enc Tryz.prog w base spare held fuel 60 [c0,c1,c2,c3]=some x) :
  ∃ z:C4,c0=.int .i64 z.a∧c1=.int .i64 z.b∧c2=.int .i64 z.c∧c3=.int .i64 z.d:=by
 obtain ⟨xs,m,_,_,_,hxs,hall⟩:=DataW.trod_array Tryz.underlying60 h;rw [cellsInt] at hall;have get:∀ i,i<4→∃ n,((([c0,c1,c2,c3]:List Value).drop (i*1)).take 1)=[Value.int .i64 n]:=fun i hi=>by
  have h1:=hall i hi;have h2:xs[i]? = some xs[i]:=List.getElem?_eq_getElem (by omega);rw [h2] at h1;obtain ⟨n,h3,_⟩:=DataW.trod_int Tryz.underlying3 h1;exact ⟨n,h3⟩
 obtain ⟨n0,h0⟩:=get 0 (by decide);obtain ⟨n1,h1⟩:=get 1 (by decide);obtain ⟨n2,h2⟩:=get 2 (by decide);obtain ⟨n3,h3⟩:=get 3 (by decide);simp at h0 h1 h2 h3;exact ⟨⟨n0,n1,n2,n3⟩,h0,h1,h2,h3⟩
theorem list_five {cs:List Value} (h:cs.length=5):∃ c0 c1 c2 c3 c4,cs=[c0,c1,c2,c3,c4]:=list5 h
theorem trod_num {fuel:Nat} {cs:List Value} {x:DataW H × List MemPlace} (h:DataW.trod enc Tryz.prog w base spare held fuel 67 cs=some x) :
  ∃ z:Num,cs=[.int .i64 z.x.a,.int .i64 z.x.b,.int .i64 z.x.c,.int .i64 z.x.d,.int .i64 z.k]:=by
 obtain ⟨y0,y1,n,_,hlen,h0,h1⟩:=trod_struct2 Tryz.underlying67 h;rw [cellsNum] at hlen;obtain ⟨c0,c1,c2,c3,c4,rfl⟩:=list_five hlen;simp only [cellsArr] at h0;simp only [cellsInt] at h1;obtain ⟨z,rfl,rfl,rfl,rfl⟩:=trod_arr4 h0;obtain ⟨k,h2,_⟩:=DataW.trod_int Tryz.underlying3 h1;simp at h2;subst h2;exact ⟨⟨z,k⟩,rfl⟩
theorem open_nums {a0:Option Addr} {len cap:Nat} {d:DataW H} {p:List MemPlace} (h:DataW.Trod enc Tryz.prog w 0 (fun _=>true) true 23 (.slice a0 len cap) d p) :
  len=0∨∃ (b off:Nat) (l:List Num),a0=some ⟨b,off,none⟩∧len=l.length∧l.length≤9223372036854775807∧b<w.heap.size∧NumsAt w b off l:=by
 obtain ⟨fuel,hf⟩:=h;rcases open_slice Tryz.underlying23 hf with ⟨hcs,_⟩ | ⟨a,len',cap',m,n,D,Pl,hcs,_,hl,hm,hmm,_,hx⟩
 · simp [Value.cells] at hcs
   exact .inl hcs.2.1
 simp [Value.cells] at hcs;obtain ⟨rfl,rfl,rfl⟩:=hcs;simp only [if_true] at hmm;subst hmm;rw [cellsNum] at hx;by_cases h0:len=0
 · exact .inl h0
 right
 have each:∀ i,i<len→∃ z:Num,w.cell? ((a.add (i*5)).add 0)=some (.int .i64 z.x.a)∧w.cell? ((a.add (i*5)).add 1)=some (.int .i64 z.x.b)∧w.cell? ((a.add (i*5)).add 2)=some (.int .i64 z.x.c)∧w.cell? ((a.add (i*5)).add 3)=some (.int .i64 z.x.d)∧w.cell? ((a.add (i*5)).add 4)=some (.int .i64 z.k):=fun i hi=>by
  obtain ⟨cs',h1,h2⟩:=hx i (by omega);obtain ⟨z,rfl⟩:=trod_num h2;obtain ⟨_,_,h3⟩:=World.cells?_some h1;exact ⟨z,h3 0 (by decide),h3 1 (by decide),h3 2 (by decide),h3 3 (by decide),h3 4 (by decide)⟩
 obtain ⟨b,off,spot⟩:=a;have hspot:spot=none:=by
  obtain ⟨z,h1,_⟩:=each 0 (by omega)
  simpa [Addr.add] using World.cell?_spot h1
 subst hspot;have hb:b<w.heap.size:=by
  obtain ⟨z,h1,_⟩:=each 0 (by omega)
  simpa [Addr.add] using World.block_lt_of_cell? w _ h1
 have build:∀ n,n≤len→∃ l:List Num,l.length=n∧NumsAt w b off l:=by
  intro n
  induction n with
  | zero=>intro _;exact ⟨[],rfl,fun i z hz=>by simp at hz⟩
  | succ n ih =>
    intro hn;obtain ⟨l,hl1,hl2⟩:=ih (by omega);obtain ⟨z,c0,c1,c2,c3,c4⟩:=each n (by omega);refine ⟨l++[z],by simp [hl1],fun i y hy=>?_⟩;by_cases hi:i<l.length
    · rw [List.getElem?_append_left hi] at hy
      exact hl2 i y hy
    · have hin:i=n:=by
       have:=(List.getElem?_eq_some_iff.1 hy).1;simp at this;omega
      subst hin;rw [List.getElem?_append_right (by omega),hl1,Nat.sub_self] at hy;obtain rfl:=Option.some.inj hy;have ad:∀ j,((⟨b,off,none⟩:Addr).add (i*5)).add j=⟨b,off+i*5+j,none⟩:=fun j=>by
       unfold Addr.add;by_cases h1:i*5=0
       · rw [if_pos h1]
         by_cases h2:j=0
         · simp [h1,h2]
         · simp [h1,h2]
       · rw [if_neg h1]
         by_cases h2:j=0
         · simp [h2]
         · simp [h2]
      rw [ad] at c0 c1 c2 c3 c4;exact ⟨c0,c1,c2,c3,c4⟩
 obtain ⟨l,hl1,hl2⟩:=build len (Nat.le_refl _);refine ⟨b,off,l,rfl,hl1.symm, ?_,hb,hl2⟩;unfold maxLen at hm;omega
end
end Go.Proofs.YtchdmecjhaanfaaGreatDoor
