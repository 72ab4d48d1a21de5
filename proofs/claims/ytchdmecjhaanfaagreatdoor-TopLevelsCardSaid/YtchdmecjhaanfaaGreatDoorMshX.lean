import Derived.Test.YtchdmecjhaanfaaGreatDoorMshA
import Derived.Test.YtchdmecjhaanfaaGreatDoorMshM
import Derived.Test.YtchdmecjhaanfaaGreatDoorMshPlain
import Derived.Test.YtchdmecjhaanfaaGreatDoorMshE
import Derived.Laws.IdiomStrings
import Derived.Carry
import Derived.Test.YtchdmecjhaanfaaGreatDoorMshJ
import Derived.Lib.LazyBuf
import Derived.Laws.AppendOwnNone
import Derived.OwnWalk
namespace Go.Proofs.YtchdmecjhaanfaaGreatDoor
open Go Go.RowKit Amp Msh
open Go Go.RowKit Msh
theorem _root_.k72_ {p:Prop} (h:p:=by
 obtain ⟨D,⟨es,clock,hb,_⟩,_⟩:=h;exact ⟨es,clock,hb⟩):p:=h
theorem _root_.k62_ {p:Prop} (h:p:=by
 go_enter Tryz.func98,Tryz.ntmps98
 go_wp2_with fail
 go_ret;exact ⟨rfl,gw0⟩):p:=h
theorem _root_.k49_ {p:Prop} (h:p:=by
 have hv:=HV.out;rw [List.drop_length] at hv;have HF:=hid hv;have HG:=hid hg;clear hv hg;exact k25_):p:=h
theorem _root_.k43_ {p:Prop} (h:p:=by
 go_wp2_with fail
 go_ret;exact ⟨by rw [Hv.out];rfl,HG.out.trans gw0⟩):p:=h
theorem _root_.k25_ {p:Prop} (h:p:=by
 go_wp2_with fail
 go_ret;exact ⟨by rw [HF.out];rfl,HG.out.trans gw0⟩):p:=h
def ClsAt (w:World) (b off:Nat) (L:List Cl):Prop:=∀ i c,L[i]? = some c→(w.cell? ⟨b,off+i*3,none⟩=some (.string c.name)∧w.cell? ⟨b,off+i*3+1,none⟩=some (.int .i64 c.gd)∧∃ (a:Option Addr) (k:Nat),w.cell? ⟨b,off+i*3+2,none⟩=some (.slice a c.items.length k)∧Its w a c.items)
def CsOk (L:List Cl):Prop:=∀ c∈L,c.name.size≤maxLen∧c.items.length≤9223372036854775807∧∀ x∈c.items,x.name.size≤maxLen
def Net (w:World) (a0:Option Addr) (L:List Cl):Prop:=L=[]∨∃ b off:Nat,a0=some ⟨b,off,none⟩∧b<w.heap.size∧ClsAt w b off L
theorem Net.grew {w w':World} {a0:Option Addr} {L:List Cl} (h:Net w a0 L) (hg:Grew w w'):Net w' a0 L:=by
 rcases h with h | ⟨b,off,h,hb,hc⟩
 · exact .inl h
 · refine .inr ⟨b,off,h,Nat.lt_of_lt_of_le hb hg.size,fun i c hi=>?_⟩
   obtain ⟨c0,c1,a,k,c2,c3⟩:=hc i c hi;exact ⟨(hg.cell hb _).trans c0,(hg.cell hb _).trans c1,a,k,(hg.cell hb _).trans c2,c3.grew hg⟩
theorem Net.cells {w:World} {a0:Option Addr} {L:List Cl} {i:Nat} {c:Cl} (h:Net w a0 L) (hz:L[i]? = some c) :
  ∃ b off:Nat,a0=some ⟨b,off,none⟩∧b<w.heap.size∧w.cell? ⟨b,off+i*3,none⟩=some (.string c.name)∧w.cell? ⟨b,off+i*3+1,none⟩=some (.int .i64 c.gd)∧∃ (a:Option Addr) (k:Nat),w.cell? ⟨b,off+i*3+2,none⟩=some (.slice a c.items.length k)∧Its w a c.items:=by
 rcases h with rfl | ⟨b,off,h,hb,hc⟩
 · simp at hz
 · exact ⟨b,off,h,hb,hc i c hz⟩
theorem Net.take {w:World} {a0:Option Addr} {L:List Cl} (h:Net w a0 L) (j:Nat):Net w a0 (L.take j):=by
 rcases h with rfl | ⟨b,off,e,hb,hc⟩
 · exact .inl (by simp)
 · refine .inr ⟨b,off,e,hb,fun i z hz=>hc i z ?_⟩
   rw [List.getElem?_take] at hz;split at hz
   · exact hz
   · cases hz
theorem CsOk.take {L:List Cl} (h:CsOk L) (j:Nat):CsOk (L.take j):=fun c hc=>h c (List.mem_of_mem_take hc)
theorem CsOk.at {L:List Cl} (h:CsOk L) {i:Nat} {c:Cl} (hc:L[i]? = some c):c.name.size≤maxLen∧c.items.length≤9223372036854775807∧∀ x∈c.items,x.name.size≤maxLen:=h c (List.mem_of_getElem? hc)
open Go Go.ChangeShapes Go.WideShapes Go.ChangeAt Go.RowKit Go.Deep Go.Joins Msh
section
variable {H:Type} {enc:TypeId × Value→H} {w:World} {base:Nat} {spare:Nat→Bool} {held:Bool}
theorem addr_two (b off i j n:Nat):((⟨b,off,none⟩:Addr).add (i*n)).add j=⟨b,off+i*n+j,none⟩:=by
 unfold Addr.add;by_cases h1:i*n=0
 · rw [if_pos h1]
   by_cases h2:j=0
   · simp [h1,h2]
   · simp [h1,h2]
 · rw [if_neg h1]
   by_cases h2:j=0
   · simp [h2]
   · simp [h2]
theorem trod_itS {fuel:Nat} {cs:List Value} {x:DataW H × List MemPlace} (h:DataW.trod enc Tryz.prog w base spare held fuel 51 cs=some x) :
  ∃ z:It,cs=[.int .i64 z.kind,.int .i64 z.pos,.int .i64 z.n,.string z.name]∧z.name.size≤maxLen:=by
 obtain ⟨y0,y1,y2,y3,n,_,hlen,h0,h1,h2,h3⟩:=trod_struct4 Tryz.underlying51 h;rw [cellsIt] at hlen;obtain ⟨c0,c1,c2,c3,rfl⟩:=list4 hlen;simp only [cellsIntI] at h0 h1 h2 h3;try simp only [cellsStrI] at h3
 obtain ⟨k0,e0,_⟩:=DataW.trod_int Tryz.underlying3 h0;obtain ⟨k1,e1,_⟩:=DataW.trod_int Tryz.underlying3 h1;obtain ⟨k2,e2,_⟩:=DataW.trod_int Tryz.underlying3 h2;obtain ⟨k3,e3,_,e4⟩:=DataW.trod_string Tryz.underlying9 h3;simp at e0 e1 e2 e3;subst e0;subst e1;subst e2;subst e3;exact ⟨⟨k0,k1,k2,k3⟩,rfl,e4⟩
theorem list_of {α:Type} {P:Nat→α→Prop}:∀ n:Nat,(∀ i,i<n→∃ z,P i z)→∃ l:List α,l.length=n∧∀ i z,l[i]? = some z→P i z
 | 0,_=>⟨[],rfl,fun i z h=>by simp at h⟩
 | n + 1, h => by
   obtain ⟨l,h1,h2⟩:=list_of n fun i hi=>h i (by omega)
   obtain ⟨z,hz⟩:=h n (by omega);refine ⟨l++[z],by simp [h1],fun i y hy=>?_⟩;by_cases hi:i<l.length
   · rw [List.getElem?_append_left hi] at hy
     exact h2 i y hy
   · have hin:i=n:=by
      have:=(List.getElem?_eq_some_iff.1 hy).1;simp at this;omega
     subst hin;rw [List.getElem?_append_right (by omega),h1,Nat.sub_self] at hy;obtain rfl:=Option.some.inj hy;exact hz
theorem open_itsS {fuel:Nat} {a0:Option Addr} {len cap:Nat} {x:DataW H × List MemPlace} (hf:DataW.trod enc Tryz.prog w 0 (fun _=>true) true fuel 26 [.slice a0 len cap]=some x) :
  ∃ l:List It,len=l.length∧l.length≤9223372036854775807∧Its w a0 l∧∀ x∈l,x.name.size≤maxLen:=by
 rcases open_slice Tryz.underlying26 hf with ⟨hcs,_⟩ | ⟨a,len',cap',m,n,D,Pl,hcs,_,hl,hm,hmm,_,hx⟩
 · simp at hcs
   exact ⟨[],hcs.2.1,by simp,.inl rfl,fun x hx=>absurd hx List.not_mem_nil⟩
 simp at hcs;obtain ⟨rfl,rfl,rfl⟩:=hcs;simp only [if_true] at hmm;subst hmm;rw [cellsIt] at hx;by_cases h0:len=0
 · exact ⟨[],h0,by simp,.inl rfl,fun x hx=>absurd hx List.not_mem_nil⟩
 have each:∀ i,i<len→∃ z:It,(w.cell? ((a.add (i*4)).add 0)=some (.int .i64 z.kind)∧w.cell? ((a.add (i*4)).add 1)=some (.int .i64 z.pos)∧w.cell? ((a.add (i*4)).add 2)=some (.int .i64 z.n)∧w.cell? ((a.add (i*4)).add 3)=some (.string z.name))∧z.name.size≤maxLen:=fun i hi=>by
  obtain ⟨cs',h1,h2⟩:=hx i (by omega);obtain ⟨z,rfl,h4⟩:=trod_itS h2;obtain ⟨_,_,h3⟩:=World.cells?_some h1;exact ⟨z,⟨h3 0 (by decide),h3 1 (by decide),h3 2 (by decide),h3 3 (by decide)⟩,h4⟩
 obtain ⟨b,off,spot⟩:=a;have hspot:spot=none:=by
  obtain ⟨z,⟨h1,_⟩,_⟩:=each 0 (by omega)
  simpa [Addr.add] using World.cell?_spot h1
 subst hspot;have hb:b<w.heap.size:=by
  obtain ⟨z,⟨h1,_⟩,_⟩:=each 0 (by omega)
  simpa [Addr.add] using World.block_lt_of_cell? w _ h1
 obtain ⟨l,hl1,hl2⟩:=list_of len each;refine ⟨l,hl1.symm, ?_,.inr ⟨b,off,rfl,hb,fun i z hz=>?_⟩,fun x hx=>?_⟩
 · unfold maxLen at hm
   omega
 · obtain ⟨⟨c0,c1,c2,c3⟩,_⟩:=hl2 i z hz
   rw [addr_two] at c0 c1 c2 c3;exact ⟨c0,c1,c2,c3⟩
 · obtain ⟨i,hi⟩:=List.getElem?_of_mem hx
   exact (hl2 i x hi).2
theorem list3C {α:Type} {l:List α} (h:l.length=3):∃ a b c,l=[a,b,c]:=by
 match l,h with
 | [a,b,c],_=>exact ⟨a,b,c,rfl⟩
theorem cellsCl:Tryz.prog.cellsOf 28=3:=by kernel_rfl
theorem cellsItsI:Tryz.prog.cellsOf 26=1:=by kernel_rfl
theorem trod_cl {fuel:Nat} {cs:List Value} {x:DataW H × List MemPlace} (h:DataW.trod enc Tryz.prog w 0 (fun _=>true) true fuel 28 cs=some x) :
  ∃ (c:Cl) (a:Option Addr) (k:Nat),cs=[.string c.name,.int .i64 c.gd,.slice a c.items.length k]∧Its w a c.items∧c.name.size≤maxLen∧c.items.length≤9223372036854775807∧∀ x∈c.items,x.name.size≤maxLen:=by
 obtain ⟨y0,y1,y2,n,_,hlen,h0,h1,h2⟩:=trod_struct3 Tryz.underlying28 h;rw [cellsCl] at hlen;obtain ⟨c0,c1,c2,rfl⟩:=list3C hlen;try simp only [cellsStrI] at h0
 try simp only [cellsIntI] at h0 h1 h2
 try simp only [cellsItsI] at h2
 obtain ⟨k0,e0,_,e4⟩:=DataW.trod_string Tryz.underlying9 h0;obtain ⟨k1,e1,_⟩:=DataW.trod_int Tryz.underlying3 h1;simp at e0 e1;subst e0;subst e1;have h3:∃ a l k,c2=.slice a l k:=by
  rcases open_slice Tryz.underlying26 h2 with ⟨hcs,_⟩ | ⟨a,len',cap',m,n,D,Pl,hcs,_⟩
  · simp at hcs
    exact ⟨_,_,_,hcs⟩
  · simp at hcs
    exact ⟨_,_,_,hcs⟩
 obtain ⟨a,len,k,rfl⟩:=h3;obtain ⟨l,rfl,h5,h6,h7⟩:=open_itsS (by simpa using h2);exact ⟨⟨k0,k1,l⟩,a,k,rfl,h6,e4,h5,h7⟩
theorem open_cls {a0:Option Addr} {len cap:Nat} {d:DataW H} {p:List MemPlace} (h:DataW.Trod enc Tryz.prog w 0 (fun _=>true) true 22 (.slice a0 len cap) d p) :
  ∃ L:List Cl,len=L.length∧L.length≤9223372036854775807∧Net w a0 L∧CsOk L∧L.length≤cap:=by
 obtain ⟨fuel,hf⟩:=h;rcases open_slice Tryz.underlying22 hf with ⟨hcs,_⟩ | ⟨a,len',cap',m,n,D,Pl,hcs,_,hl,hm,hmm,_,hx⟩
 · simp [Value.cells] at hcs
   exact ⟨[],hcs.2.1,by simp,.inl rfl,fun x hx=>absurd hx List.not_mem_nil,by simp⟩
 simp [Value.cells] at hcs;obtain ⟨rfl,rfl,rfl⟩:=hcs;simp only [if_true] at hmm;subst hmm;rw [cellsCl] at hx;by_cases h0:len=0
 · exact ⟨[],h0,by simp,.inl rfl,fun x hx=>absurd hx List.not_mem_nil,by simp⟩
 have each:∀ i,i<len→∃ c:Cl,(w.cell? ((a.add (i*3)).add 0)=some (.string c.name)∧w.cell? ((a.add (i*3)).add 1)=some (.int .i64 c.gd)∧∃ (a':Option Addr) (k:Nat),w.cell? ((a.add (i*3)).add 2)=some (.slice a' c.items.length k)∧Its w a' c.items)∧c.name.size≤maxLen∧c.items.length≤9223372036854775807∧∀ x∈c.items,x.name.size≤maxLen:=fun i hi=>by
  obtain ⟨cs',h1,h2⟩:=hx i (by omega);obtain ⟨c,a',k,rfl,h4,h5⟩:=trod_cl h2;obtain ⟨_,_,h3⟩:=World.cells?_some h1;exact ⟨c,⟨h3 0 (by decide),h3 1 (by decide),a',k,h3 2 (by decide),h4⟩,h5⟩
 obtain ⟨b,off,spot⟩:=a;have hspot:spot=none:=by
  obtain ⟨z,⟨h1,_⟩,_⟩:=each 0 (by omega)
  simpa [Addr.add] using World.cell?_spot h1
 subst hspot;have hb:b<w.heap.size:=by
  obtain ⟨z,⟨h1,_⟩,_⟩:=each 0 (by omega)
  simpa [Addr.add] using World.block_lt_of_cell? w _ h1
 obtain ⟨L,hl1,hl2⟩:=list_of len each;refine ⟨L,hl1.symm, ?_,.inr ⟨b,off,rfl,hb,fun i c hc=>?_⟩,fun c hc=>?_,by omega⟩
 · unfold maxLen at hm
   omega
 · obtain ⟨⟨c0,c1,a',k,c2,c3⟩,_⟩:=hl2 i c hc
   rw [addr_two] at c0 c1 c2;exact ⟨c0,c1,a',k,c2,c3⟩
 · obtain ⟨i,hi⟩:=List.getElem?_of_mem hc
   exact (hl2 i c hi).2
end
open Go Go.RowKit Amp Msh
def Bys (w:World) (a0:Option Addr) (l:List UInt8):Prop:=l=[]∨∃ b off:Nat,a0=some ⟨b,off,none⟩∧b<w.heap.size∧∀ i z,l[i]? = some z→w.cell? ⟨b,off+i,none⟩=some (.int .u8 z.toNat)
theorem Bys.grew {w w':World} {a0:Option Addr} {l:List UInt8} (h:Bys w a0 l) (hg:Grew w w'):Bys w' a0 l:=by
 rcases h with h | ⟨b,off,h,hb,hc⟩
 · exact .inl h
 · exact .inr ⟨b,off,h,Nat.lt_of_lt_of_le hb hg.size,fun i z hz=>(hg.cell hb _).trans (hc i z hz)⟩
theorem Bys.cells {w:World} {a0:Option Addr} {l:List UInt8} {i:Nat} {z:UInt8} (h:Bys w a0 l) (hz:l[i]? = some z):∃ b off:Nat,a0=some ⟨b,off,none⟩∧b<w.heap.size∧w.cell? ⟨b,off+i,none⟩=some (.int .u8 z.toNat):=by
 rcases h with rfl | ⟨b,off,h,hb,hc⟩
 · simp at hz
 · exact ⟨b,off,h,hb,hc i z hz⟩
def bysW (w:World) (s:ByteArray):World:=w.drew.alloc (.cells (bytesRow s (grownCap w s.size 0 5)) 5 ((bytesRow s (grownCap w s.size 0 5)).size,(bytesRow s (grownCap w s.size 0 5)).size+1))
theorem bysW_grew (w:World) (s:ByteArray):Grew w (bysW w s):=(Grew.refl w).drew.alloc _
theorem bysW_run (w:World) (s:ByteArray):(convert 9 106 (.string s)).run Tryz.prog w=.ok (.slice (some ⟨w.heap.size,0,none⟩) s.size (grownCap w s.size 0 5)) (bysW w s) :=
 run_bytes_of_string w 9 106 5 s Tryz.underlying9 Tryz.underlying106 Tryz.underlying5
theorem bysW_bys (w:World) (s:ByteArray):Bys (bysW w s) (some ⟨w.heap.size,0,none⟩) s.data.toList:=by
 have hb:(bysW w s).heap[w.heap.size]? = some (.cells (bytesRow s (grownCap w s.size 0 5)) 5 ((bytesRow s (grownCap w s.size 0 5)).size,(bytesRow s (grownCap w s.size 0 5)).size+1)):=by
  show (w.heap.push _)[w.heap.size]? = _
  simp
 refine .inr ⟨_,0,rfl,(Array.getElem?_eq_some_iff.1 hb).1,fun i z hz=>?_⟩;rw [Array.getElem?_toList] at hz;obtain ⟨hi,rfl⟩:=Array.getElem?_eq_some_iff.1 hz;rw [Nat.zero_add];simp only [World.cell?,hb];exact bytesRow_at s _ i hi
def allB (l:List UInt8):Bool:=l.all letB
theorem allB_step {l:List UInt8} {i:Nat} {z:UInt8} (h:l[i]? = some z) (hz:letB z=true) (hp:allB (l.take i)=true):allB (l.take (i+1))=true:=by
 unfold allB at *
 exact k66_
theorem allB_cut {l:List UInt8} {i:Nat} {z:UInt8} (h:l[i]? = some z) (hz:letB z=false):allB l=false:=by
 unfold allB;rw [List.all_eq_false];exact ⟨z,List.mem_of_getElem? h,by rw [hz];exact Bool.false_ne_true⟩
set_option maxHeartbeats 800000 in
theorem nameP_any (z:UInt8) (w:World) :
  Calls Tryz.prog 98 #[.int .u8 z.toNat] w fun e w'=>e=.returned (.bool (!letB z))∧Grew w w':=by
 have hz:letB z=(decide (97≤z.toNat)&&decide (z.toNat≤122)):=rfl;rw [hz];obtain ⟨m,hm⟩:∃ m,z.toNat=m:=⟨_,rfl⟩;rw [hm];clear hz hm;by_cases h1:97≤m
 case neg =>
  have e1:decide ((m:Int)<97)=true:=decide_eq_true (by omega);rw [decide_eq_false h1];clear h1;exact k62_
 have e1:decide ((m:Int)<97)=false:=decide_eq_false (by omega);rw [decide_eq_true h1];by_cases h2:m≤122
 · have e2:decide ((122:Int)<m)=false:=decide_eq_false (by omega)
   rw [decide_eq_true h2];clear h1 h2;exact k62_
 · have e2:decide ((122:Int)<m)=true:=decide_eq_true (by omega)
   rw [decide_eq_false h2];clear h1 h2;exact k62_
set_option maxHeartbeats 800000 in
theorem idxB_any (a0:Option Addr) (cap:Nat) (l:List UInt8) (w:World) (hl:l.length≤9223372036854775807) (hc:Bys w a0 l) :
  Calls Tryz.prog 132 #[.slice a0 l.length cap,.func (.func 98) #[] #[]] w (IdxI (allB l) w):=by
 have HC:=hid hc;clear hc;go_enter Tryz.func132,Tryz.ntmps132
 go_wp2_with fail
 go_loopw [8] (fun n wr=>∃ i:Nat,i≤l.length∧n=.int .i64 i∧Hid (allB (l.take i)=true)∧Grew w wr) (fun n _=>l.length - (intOf n).toNat)
 case atStart=>exact ⟨0,Nat.zero_le _,rfl,rfl,Grew.refl _⟩
 case round =>
  obtain ⟨i,hi,rfl,hp,g',n,rfl⟩:=hrel;by_cases hlt:i<l.length
  · obtain ⟨z,hz⟩:∃ z,l[i]? = some z:=⟨l[i],List.getElem?_eq_getElem hlt⟩
    obtain ⟨b,off,rfl,hb,c0⟩:=HC.out.cells hz;have hb1:=fun m0:Nat=>Nat.lt_add_right m0 (hb)
    have hb2:=fun m0 m1:Nat=>Nat.lt_add_right m1 (hb1 m0)
    have hb3:=fun m0 m1 m2:Nat=>Nat.lt_add_right m2 (hb2 m0 m1)
    have Hz:=hid hz;clear hz;go_wp2_with fail
    refine (nameP_any z _).mono ?_;rintro e w' ⟨rfl,g1,n1,rfl⟩;by_cases hv:letB z=true
    · rw [hv]
      have Hv:=hid hv;clear hv;go_wp2_with fail
      go_roundw
      case rel=>exact ⟨i+1,by omega,by go_num,allB_step Hz.out Hv.out hp.out,gw0⟩
      case measure=>simp [intOf];omega
    · have Hv:Hid (allB l=false):=allB_cut Hz.out (by simpa using hv)
      rw [show letB z=false by simpa using hv];exact k47_
  · obtain rfl:i=l.length:=by omega
    have hp':Hid (allB l=true):=by have:=hp.out;rw [List.take_length] at this;exact this
    exact k55_
set_option maxHeartbeats 800000 in
theorem hasB_any (a0:Option Addr) (cap:Nat) (l:List UInt8) (w:World) (hl:l.length≤9223372036854775807) (hc:Bys w a0 l) :
  Calls Tryz.prog 97 #[.slice a0 l.length cap,.func (.func 98) #[] #[]] w fun e w'=>e=.returned (.bool (!allB l))∧Grew w w':=by
 have HI:=hid fun w' (hg:Grew w w')=>idxB_any a0 cap l w' hl (hc.grew hg)
 clear hc;go_enter Tryz.func97,Tryz.ntmps97
 exact k30_
set_option maxHeartbeats 800000 in
theorem name_any (s:ByteArray) (w:World) (hs:s.size≤9223372036854775807) :
  Calls Tryz.prog 45 #[.string s] w fun e w'=>e=.returned (.bool (nameB s))∧Grew w w':=by
 have hv:nameB s=(decide (1≤s.size∧s.size≤8)&&allB s.data.toList):=rfl;rw [hv];have HM:=hid fun w=>mbtw_any 1 s.size 8 w
 by_cases hg:1≤s.size∧s.size≤8
 case neg =>
  rw [decide_eq_false hg];rw [decide_eq_false (show ¬ ((1:Int)≤s.size∧(s.size:Int)≤8) by omega)] at HM;clear hg hv;go_enter Tryz.func45,Tryz.ntmps45
  go_wp2_with fail
  refine (HM.out _).mono ?_;rintro e w' ⟨rfl,g',n,rfl⟩;go_wp2_with fail
  go_ret;exact ⟨rfl,gw0⟩
 rw [decide_eq_true hg,Bool.true_and];rw [decide_eq_true (show ((1:Int)≤s.size∧(s.size:Int)≤8) by omega)] at HM;have hlen:s.data.toList.length=s.size:=by simp
 have HCV:=fun w'=>bysW_run w' s
 have HAS:=hid fun (w':World) (b c:Nat) (hb:b=w'.heap.size)=>hasB_any (some ⟨b,0,none⟩) c s.data.toList (bysW w' s) (by omega) (by rw [hb];exact bysW_bys w' s)
 obtain ⟨L,hL⟩:∃ L,s.data.toList=L:=⟨_,rfl⟩;rw [hL] at HAS hlen ⊢;rw [hlen] at HAS;clear hL hlen hg hv;go_enter Tryz.func45,Tryz.ntmps45
 go_wp2_with fail
 refine (HM.out _).mono ?_;rintro e w' ⟨rfl,g',n,rfl⟩;go_wp2_with fail
 refine (HAS.out _ _ _ (by simp [go_sem])).mono ?_;rintro e w' ⟨rfl,hg⟩;have HG:=hid hg;clear hg;go_wp2_with fail
 go_ret;exact ⟨by simp,((Grew.refl w).grow _ |>.drewN _ |>.trans (bysW_grew _ _)).trans (HG.out.trans gw0)⟩
set_option maxHeartbeats 800000 in
theorem isName_any (s:ByteArray) (w:World) (hs:s.size≤9223372036854775807) :
  Calls Tryz.prog 17 #[.string s] w fun e w'=>e=.returned (.bool (nameB s))∧Grew w w':=by
 have HV:Hid (nameB s=(decide (1≤s.size∧s.size≤8)&&allB s.data.toList)):=rfl;obtain ⟨R,hR⟩:∃ R,nameB s=R:=⟨_,rfl⟩;rw [hR] at HV ⊢;clear hR;go_enter Tryz.func17,Tryz.ntmps17
 go_wp2_with fail
 go_loopw [6] (fun n wr=>∃ i:Nat,i≤s.size∧n=.int .i64 i∧Hid (allB (s.data.toList.take i)=true)∧Grew w wr) (fun n _=>s.size - (intOf n).toNat)
 case atStart=>exact ⟨0,Nat.zero_le _,rfl,rfl,Grew.refl _⟩
 case round =>
  obtain ⟨i,hi,rfl,hp,hg⟩:=hrel;by_cases hlt:i<s.size
  · have hz:s.data.toList[i]? = some s[i]:=by
     rw [Array.getElem?_toList];exact Array.getElem?_eq_getElem hlt
    obtain ⟨z,hz1⟩:∃ z,s[i]=z:=⟨_,rfl⟩;rw [hz1] at hz;have HIX:∀ w',(Instr.index 9 (.string s) (.int .i64 i)).run Tryz.prog w'=.ok (.int .u8 z.toNat) w':=fun w'=>by
     rw [run_index_string (P:=Tryz.prog) w' _ _ _ _ Tryz.underlying9,dif_pos ⟨by omega,by omega⟩];simp only [Int.toNat_natCast,hz1]
    obtain ⟨m,hm⟩:∃ m,z.toNat=m:=⟨_,rfl⟩;have hlz:letB z=(decide (97≤m)&&decide (m≤122)):=by rw [← hm];rfl
    rw [hm] at HIX;have Hz:=hid hz;have HG:=hid hg;clear hz hz1 hg hm;by_cases hv:97≤m∧m≤122
    · have e1:decide ((m:Int)<97)=false:=decide_eq_false (by omega)
      have e2:decide ((122:Int)<m)=false:=decide_eq_false (by omega);have Hv:Hid (letB z=true):=hid (by rw [hlz,decide_eq_true hv.1,decide_eq_true hv.2];rfl);clear hv hlz;go_wp2_with fail
      go_roundw
      case rel=>exact ⟨i+1,by omega,by go_num,allB_step Hz.out Hv.out hp.out,HG.out.trans gw0⟩
      case measure=>simp [intOf];omega
    · have Hv:Hid (R=false):=hid (by
       rw [HV.out,allB_cut Hz.out (by rw [hlz,← Bool.decide_and];exact decide_eq_false hv),Bool.and_false])
      by_cases h1:97≤m
      · have e1:decide ((m:Int)<97)=false:=decide_eq_false (by omega)
        have e2:decide ((122:Int)<m)=true:=decide_eq_true (by omega);clear hv hlz h1;exact k43_
      · have e1:decide ((m:Int)<97)=true:=decide_eq_true (by omega)
        clear hv hlz h1;exact k43_
  · obtain rfl:i=s.size:=by omega
    have hp':allB s.data.toList=true:=by
     have:=hp.out
     rwa [List.take_of_length_le (by simp)] at this
    have HG:=hid hg;have HV2:=HV.out;rw [hp',Bool.and_true] at HV2;clear hp hp' hg;by_cases h1:1≤s.size
    · by_cases h2:s.size≤8
      · have Hv:Hid (R=true):=hid (by rw [HV2,decide_eq_true ⟨h1,h2⟩])
        have e1:decide ((1:Int)≤s.size)=true:=decide_eq_true (by omega);have e2:decide ((s.size:Int)≤8)=true:=decide_eq_true (by omega);clear HV2 h1 h2;exact k43_
      · have Hv:Hid (R=false):=hid (by rw [HV2,decide_eq_false (fun h=>h2 h.2)])
        have e1:decide ((1:Int)≤s.size)=true:=decide_eq_true (by omega);have e2:decide ((s.size:Int)≤8)=false:=decide_eq_false (by omega);clear HV2 h1 h2;exact k43_
    · have Hv:Hid (R=false):=hid (by rw [HV2,decide_eq_false (fun h=>h1 h.1)])
      have e1:decide ((1:Int)≤s.size)=false:=decide_eq_false (by omega);clear HV2 h1;exact k43_
open Go Go.RowKit Amp Msh
def gdV (C:List Cl):ByteArray→Option Value:=fun s=>(C.find? (hasN s)).map fun c=>.int .i64 c.gd
theorem zero_int (w:World):(zeroValue 3).run Tryz.prog w=.ok (.int .i64 0) w:=by kernel_rfl
theorem look_gd {w:World} {b n:Nat} {C:List Cl} (h:MapV w b n (gdV C)) (s:ByteArray) (hs:s.size≤maxLen) :
  (Instr.lookup 53 (.map (some b)) (.string s) false).run Tryz.prog w=.ok (.int .i64 (gdF C s)) w:=by
 rw [h.look Tryz.underlying53 (zero_int w) s hs false];unfold gdV gdF;cases C.find? (hasN s) with
 | none=>rfl
 | some c=>rfl
theorem look_gd_ok {w:World} {b n:Nat} {C:List Cl} (h:MapV w b n (gdV C)) (s:ByteArray) (hs:s.size≤maxLen) :
  (Instr.lookup 53 (.map (some b)) (.string s) true).run Tryz.prog w=.ok (.tuple #[.int .i64 (gdF C s),.bool (C.find? (hasN s)).isSome]) w:=by
 rw [h.look Tryz.underlying53 (zero_int w) s hs true];unfold gdV gdF;cases C.find? (hasN s) with
 | none=>rfl
 | some c=>rfl
set_option maxRecDepth 100000 in
set_option maxHeartbeats 800000 in
theorem widthM_named (kind p n:Int) (s:ByteArray) (bm:Nat) (w:World) (hs:¬ s.toList=[]) (hk:¬ kind=4) :
  Calls Tryz.prog 101 #[.agg #[.int .i64 kind,.int .i64 p,.int .i64 n,.string s],.map (some bm)] w fun e w'=>e=.returned (.int .i64 0)∧Grew w w':=by
 have e1:(kind==4)=false:=by simpa using hk
 have e2:(kind != 4)=true:=by simpa using hk
 clear hk;exact k21_
set_option maxRecDepth 100000 in
set_option maxHeartbeats 800000 in
theorem widthM_cellN (p n:Int) (s:ByteArray) (bm:Nat) (w:World) (hn:¬ n=0) :
  Calls Tryz.prog 101 #[.agg #[.int .i64 4,.int .i64 p,.int .i64 n,.string s],.map (some bm)] w fun e w'=>e=.returned (.int .i64 0)∧Grew w w':=by
 have e1:(n==0)=false:=by simpa using hn
 have e2:(n != 0)=true:=by simpa using hn
 clear hn;exact k21_
set_option maxRecDepth 100000 in
set_option maxHeartbeats 800000 in
theorem widthM_phase (p n:Int) (s:ByteArray) (bm:Nat) (w:World) (hs:s.toList=[]) (h1:1≤n) (h2:n≤7) :
  Calls Tryz.prog 101 #[.agg #[.int .i64 1,.int .i64 p,.int .i64 n,.string s],.map (some bm)] w fun e w'=>e=.returned (.int .i64 1)∧Grew w w':=by
 go_enter Tryz.func101,Tryz.ntmps101
 go_wp2_with fail
 refine (mbtw_yes _ _ _ _ h1 h2).mono ?_;exact k29_
set_option maxRecDepth 100000 in
set_option maxHeartbeats 800000 in
theorem widthM_phaseL (p n:Int) (s:ByteArray) (bm:Nat) (w:World) (hs:s.toList=[]) (h1:n<1) :
  Calls Tryz.prog 101 #[.agg #[.int .i64 1,.int .i64 p,.int .i64 n,.string s],.map (some bm)] w fun e w'=>e=.returned (.int .i64 0)∧Grew w w':=by
 go_enter Tryz.func101,Tryz.ntmps101
 go_wp2_with fail
 refine (mbtw_low _ _ _ _ h1).mono ?_;exact k29_
set_option maxRecDepth 100000 in
set_option maxHeartbeats 800000 in
theorem widthM_phaseH (p n:Int) (s:ByteArray) (bm:Nat) (w:World) (hs:s.toList=[]) (h1:7<n) :
  Calls Tryz.prog 101 #[.agg #[.int .i64 1,.int .i64 p,.int .i64 n,.string s],.map (some bm)] w fun e w'=>e=.returned (.int .i64 0)∧Grew w w':=by
 go_enter Tryz.func101,Tryz.ntmps101
 go_wp2_with fail
 refine (mbtw_high _ _ _ _ h1).mono ?_;exact k29_
set_option maxRecDepth 100000 in
set_option maxHeartbeats 800000 in
theorem widthM_two2 (p:Int) (s:ByteArray) (bm:Nat) (w:World) (hs:s.toList=[]) :
  Calls Tryz.prog 101 #[.agg #[.int .i64 2,.int .i64 p,.int .i64 0,.string s],.map (some bm)] w fun e w'=>e=.returned (.int .i64 2)∧Grew w w':=by
 exact k21_
set_option maxRecDepth 100000 in
set_option maxHeartbeats 800000 in
theorem widthM_two3 (p:Int) (s:ByteArray) (bm:Nat) (w:World) (hs:s.toList=[]) :
  Calls Tryz.prog 101 #[.agg #[.int .i64 3,.int .i64 p,.int .i64 0,.string s],.map (some bm)] w fun e w'=>e=.returned (.int .i64 2)∧Grew w w':=by
 exact k21_
set_option maxRecDepth 100000 in
set_option maxHeartbeats 800000 in
theorem widthM_noneN (kind p n:Int) (s:ByteArray) (bm:Nat) (w:World) (hs:s.toList=[]) (hk:¬ kind=1) (h4:¬ kind=4) (hn:¬ n=0) :
  Calls Tryz.prog 101 #[.agg #[.int .i64 kind,.int .i64 p,.int .i64 n,.string s],.map (some bm)] w fun e w'=>e=.returned (.int .i64 0)∧Grew w w':=by
 have e1:(n==0)=false:=by simpa using hn
 have e2:(n != 0)=true:=by simpa using hn
 clear hn;have k1:(kind==1)=false:=by simpa using hk
 have m1:(kind != 1)=true:=by simpa using hk
 have k4:(kind==4)=false:=by simpa using h4
 have m4:(kind != 4)=true:=by simpa using h4
 clear hk h4;exact k21_
set_option maxRecDepth 100000 in
set_option maxHeartbeats 800000 in
theorem widthM_none0 (kind p:Int) (s:ByteArray) (bm:Nat) (w:World) (hs:s.toList=[]) (h1:¬ kind=1) (h2:¬ kind=2) (h3:¬ kind=3) (h4:¬ kind=4) :
  Calls Tryz.prog 101 #[.agg #[.int .i64 kind,.int .i64 p,.int .i64 0,.string s],.map (some bm)] w fun e w'=>e=.returned (.int .i64 0)∧Grew w w':=by
 have k1:(kind==1)=false:=by simpa using h1
 have m1:(kind != 1)=true:=by simpa using h1
 have k2:(kind==2)=false:=by simpa using h2
 have m2:(kind != 2)=true:=by simpa using h2
 have k3:(kind==3)=false:=by simpa using h3
 have m3:(kind != 3)=true:=by simpa using h3
 have k4:(kind==4)=false:=by simpa using h4
 have m4:(kind != 4)=true:=by simpa using h4
 clear h1 h2 h3 h4;exact k21_
set_option maxRecDepth 100000 in
set_option maxHeartbeats 800000 in
theorem widthM_cell0 (p:Int) (s:ByteArray) (bm nn:Nat) (C:List Cl) (w:World) (hs:s.size≤maxLen) (hM:MapV w bm nn (gdV C)) :
  Calls Tryz.prog 101 #[.agg #[.int .i64 4,.int .i64 p,.int .i64 0,.string s],.map (some bm)] w fun e w'=>e=.returned (.int .i64 (gdF C s))∧Grew w w':=by
 have hrun:=look_gd (hM.grew ((Grew.refl w).alloc (.cells #[.int .i64 4,.int .i64 p,.int .i64 0,.string s] 51))) s hs;clear hM hs;exact k21_
theorem widthM_any (x:It) (bm nn:Nat) (C:List Cl) (w:World) (hs:x.name.size≤maxLen) (hM:MapV w bm nn (gdV C)) :
  Calls Tryz.prog 101 #[.agg #[.int .i64 x.kind,.int .i64 x.pos,.int .i64 x.n,.string x.name],.map (some bm)] w fun e w'=>e=.returned (.int .i64 (wdE (gdF C) x))∧Grew w w':=by
 obtain ⟨kind,p,n,s⟩:=x;unfold wdE;dsimp only at hs ⊢;by_cases h4:kind=4
 · subst h4
   rw [if_pos rfl];by_cases hn:n=0
   · subst hn;rw [if_pos rfl];exact widthM_cell0 p s bm nn C w hs hM
   · rw [if_neg hn];exact widthM_cellN p n s bm w hn
 rw [if_neg h4];unfold wid;by_cases hs:s.toList=[]
 case neg=>rw [if_neg hs];exact widthM_named kind p n s bm w hs h4
 rw [if_pos hs];by_cases h1:kind=1
 · subst h1
   by_cases hl:n<1
   · rw [if_neg (by omega),if_neg (by omega)];exact widthM_phaseL p n s bm w hs hl
   by_cases hh:7<n
   · rw [if_neg (by omega),if_neg (by omega)];exact widthM_phaseH p n s bm w hs hh
   rw [if_pos (by omega)];exact widthM_phase p n s bm w hs (by omega) (by omega)
 rw [if_neg (by omega)];by_cases hn:n=0
 · subst hn
   by_cases h2:kind=2
   · subst h2;rw [if_pos (by omega)];exact widthM_two2 p s bm w hs
   by_cases h3:kind=3
   · subst h3;rw [if_pos (by omega)];exact widthM_two3 p s bm w hs
   rw [if_neg (by omega)];exact widthM_none0 kind p s bm w hs h1 h2 h3 h4
 · rw [if_neg (by omega)];exact widthM_noneN kind p n s bm w hs h1 h4 hn
set_option maxHeartbeats 800000 in
theorem fitM_any (g:Int) (x:It) (bc bn:Nat) (w:World) (bm nn:Nat) (C:List Cl) (hbc:bc<w.heap.size) (hbn:bn<w.heap.size) (hcc:w.cell? ⟨bc,0,none⟩=some (.map (some bm))) (hcn:w.cell? ⟨bn,0,none⟩=some (.int .i64 g)) (hM:MapV w bm nn (gdV C)) (hC:Gds C) (g1:1≤g) (g2:g≤6) (hs:x.name.size≤maxLen) :
  Calls Tryz.prog 100 #[.agg #[.int .i64 x.kind,.int .i64 x.pos,.int .i64 x.n,.string x.name],.pointer (some ⟨bc,0,none⟩),.pointer (some ⟨bn,0,none⟩)] w fun e w'=>e=.returned (.bool (!okE (gdF C) g x))∧Grew w w':=by
 have HV:=hid fun w' (hg:Grew w w')=>widthM_any x bm nn C w' hs (hM.grew hg)
 have hr:=wdE_range (gdF_range hC) x;have HO:Hid (okE (gdF C) g x=(decide (wdE (gdF C) x≠0)&&decide (1≤x.pos∧x.pos≤g - wdE (gdF C) x+1))):=rfl;obtain ⟨R,hR⟩:∃ R,okE (gdF C) g x=R:=⟨_,rfl⟩;obtain ⟨W,hW⟩:∃ W,wdE (gdF C) x=W:=⟨_,rfl⟩;rw [hW] at HV hr HO;rw [hR] at HO ⊢;obtain ⟨r1,r2⟩:=hr;clear hR hW hM hC hs;by_cases h0:W=0
 · subst h0
   have HR:=hid (show R=false by rw [HO.out];simp);clear r1 r2 hcn hbn g1 g2;have hbc1:=fun m0:Nat=>Nat.lt_add_right m0 (hbc)
   have hbc2:=fun m0 m1:Nat=>Nat.lt_add_right m1 (hbc1 m0)
   have hbc3:=fun m0 m1 m2:Nat=>Nat.lt_add_right m2 (hbc2 m0 m1)
   go_enter Tryz.func100,Tryz.ntmps100
   go_wp2_with fail
   refine (HV.out _ gw0).mono ?_;rintro e w' ⟨rfl,g',n,rfl⟩;go_wp2_with fail
   go_ret;exact ⟨by rw [HR.out];rfl,gw0⟩
 · have e0:(W==0)=false:=by simpa using h0
   have HR:=hid (show R=decide (1≤x.pos∧x.pos≤g - W+1) by rw [HO.out,decide_eq_true h0,Bool.true_and]);have HM:=hid fun w=>mbtw_any 1 x.pos (g - W+1) w
   clear h0 HO;have hbc1:=fun m0:Nat=>Nat.lt_add_right m0 (hbc)
   have hbc2:=fun m0 m1:Nat=>Nat.lt_add_right m1 (hbc1 m0)
   have hbc3:=fun m0 m1 m2:Nat=>Nat.lt_add_right m2 (hbc2 m0 m1)
   have hbn1:=fun m0:Nat=>Nat.lt_add_right m0 (hbn)
   have hbn2:=fun m0 m1:Nat=>Nat.lt_add_right m1 (hbn1 m0)
   have hbn3:=fun m0 m1 m2:Nat=>Nat.lt_add_right m2 (hbn2 m0 m1)
   go_enter Tryz.func100,Tryz.ntmps100
   go_wp2_with fail
   refine (HV.out _ gw0).mono ?_;rintro e w' ⟨rfl,g',n,rfl⟩;go_wp2_with fail
   refine (HM.out _).mono ?_;rintro e w' ⟨rfl,g3,n3,rfl⟩;go_wp2_with fail
   go_ret;exact ⟨by rw [HR.out,Bool.decide_and,Bool.not_and];rfl,gw0⟩
set_option maxHeartbeats 800000 in
theorem idxM_any (g:Int) (a0:Option Addr) (cap:Nat) (l:List It) (bc bn:Nat) (w:World) (hl:l.length≤9223372036854775807) (hc:Its w a0 l) (bm nn:Nat) (C:List Cl) (hbc:bc<w.heap.size) (hbn:bn<w.heap.size) (hcc:w.cell? ⟨bc,0,none⟩=some (.map (some bm))) (hcn:w.cell? ⟨bn,0,none⟩=some (.int .i64 g)) (hM:MapV w bm nn (gdV C)) (hC:Gds C) (g1:1≤g) (g2:g≤6) (hs:∀ x∈l,x.name.size≤maxLen) :
  Calls Tryz.prog 133 #[.slice a0 l.length cap,.func (.func 100) #[] #[.pointer (some ⟨bc,0,none⟩),.pointer (some ⟨bn,0,none⟩)]] w (IdxI (okEs (gdF C) g l) w):=by
 have HC:=hid hc;have HP:=hid fun (x:It) (w':World) (hg:Grew w w') (hx:x∈l)=>fitM_any g x bc bn w' bm nn C (Nat.lt_of_lt_of_le hbc hg.size) (Nat.lt_of_lt_of_le hbn hg.size) ((hg.cell hbc _).trans hcc) ((hg.cell hbn _).trans hcn) (hM.grew hg) hC g1 g2 (hs x hx)
 obtain ⟨Fn,hF⟩:∃ F,gdF C=F:=⟨_,rfl⟩;rw [hF] at HP ⊢;clear hc hbc hbn hcc hcn g1 g2 hM hC hs hF;go_enter Tryz.func133,Tryz.ntmps133
 go_wp2_with fail
 go_loopw [8] (fun n wr=>∃ i:Nat,i≤l.length∧n=.int .i64 i∧Hid (okEs Fn g (l.take i)=true)∧Grew w wr) (fun n _=>l.length - (intOf n).toNat)
 case atStart=>exact ⟨0,Nat.zero_le _,rfl,rfl,Grew.refl _⟩
 case round =>
  obtain ⟨i,hi,rfl,hp,g',n,rfl⟩:=hrel;by_cases hlt:i<l.length
  · obtain ⟨z,hz⟩:∃ z,l[i]? = some z:=⟨l[i],List.getElem?_eq_getElem hlt⟩
    obtain ⟨b,off,rfl,hb,c0,c1,c2,c3⟩:=HC.out.cells hz;have hb1:=fun m0:Nat=>Nat.lt_add_right m0 (hb)
    have hb2:=fun m0 m1:Nat=>Nat.lt_add_right m1 (hb1 m0)
    have hb3:=fun m0 m1 m2:Nat=>Nat.lt_add_right m2 (hb2 m0 m1)
    have hb4:=fun m0 m1 m2 m3:Nat=>Nat.lt_add_right m3 (hb3 m0 m1 m2)
    have hb5:=fun m0 m1 m2 m3 m4:Nat=>Nat.lt_add_right m4 (hb4 m0 m1 m2 m3)
    have Hz:=hid hz;clear hz;go_wp2_with fail
    refine (HP.out z _ gw0 (List.mem_of_getElem? Hz.out)).mono ?_;rintro e w' ⟨rfl,g1,n1,rfl⟩;by_cases hv:okE Fn g z=true
    · rw [hv]
      have Hv:=hid hv;clear hv;go_wp2_with fail
      go_roundw
      case rel=>exact ⟨i+1,by omega,by go_num,okEs_step Hz.out Hv.out hp.out,gw0⟩
      case measure=>simp [intOf];omega
    · have Hv:Hid (okEs Fn g l=false):=okEs_cut Hz.out (by simpa using hv)
      rw [show okE Fn g z=false by simpa using hv];exact k47_
  · obtain rfl:i=l.length:=by omega
    have hp':Hid (okEs Fn g l=true):=by have:=hp.out;rw [List.take_length] at this;exact this
    exact k55_
set_option maxHeartbeats 800000 in
theorem hasM_any (g:Int) (a0:Option Addr) (cap:Nat) (l:List It) (bc bn:Nat) (w:World) (hl:l.length≤9223372036854775807) (hc:Its w a0 l) (bm nn:Nat) (C:List Cl) (hbc:bc<w.heap.size) (hbn:bn<w.heap.size) (hcc:w.cell? ⟨bc,0,none⟩=some (.map (some bm))) (hcn:w.cell? ⟨bn,0,none⟩=some (.int .i64 g)) (hM:MapV w bm nn (gdV C)) (hC:Gds C) (g1:1≤g) (g2:g≤6) (hs:∀ x∈l,x.name.size≤maxLen) :
  Calls Tryz.prog 99 #[.slice a0 l.length cap,.func (.func 100) #[] #[.pointer (some ⟨bc,0,none⟩),.pointer (some ⟨bn,0,none⟩)]] w fun e w'=>e=.returned (.bool (!okEs (gdF C) g l))∧Grew w w':=by
 have HI:=hid fun w' (hg:Grew w w')=>idxM_any g a0 cap l bc bn w' hl (hc.grew hg) bm nn C (Nat.lt_of_lt_of_le hbc hg.size) (Nat.lt_of_lt_of_le hbn hg.size) ((hg.cell hbc _).trans hcc) ((hg.cell hbn _).trans hcn) (hM.grew hg) hC g1 g2 hs
 clear hc hbc hbn hcc hcn g1 g2 hM hC hs;go_enter Tryz.func99,Tryz.ntmps99
 exact k30_
set_option maxHeartbeats 800000 in
theorem fitsM_any (g:Int) (a0:Option Addr) (cap:Nat) (l:List It) (bm nn:Nat) (C:List Cl) (w:World) (hl:l.length≤9223372036854775807) (hc:Its w a0 l) (hM:MapV w bm nn (gdV C)) (hC:Gds C) (g1:1≤g) (g2:g≤6) (hs:∀ x∈l,x.name.size≤maxLen) :
  Calls Tryz.prog 46 #[.int .i64 g,.slice a0 l.length cap,.map (some bm)] w fun e w'=>e=.returned (.bool (okEs (gdF C) g l))∧Grew w w':=by
 have HI:=hid fun (bc bn:Nat) w' (hg:Grew w w') h1 h2 h3 h4=>hasM_any g a0 cap l bc bn w' hl (hc.grew hg) bm nn C h1 h2 h3 h4 (hM.grew hg) hC g1 g2 hs
 clear hc hM hC hs;go_enter Tryz.func46,Tryz.ntmps46
 go_wp2_with fail
 refine (HI.out _ _ _ gw0 (by simp <;> omega) (by simp <;> omega) (by simp [go_sem]) (by simp [go_sem])).mono ?_;rintro e w' ⟨rfl,g',n,rfl⟩;go_wp2_with fail
 go_ret;exact ⟨by simp,gw0⟩
open Go Go.RowKit Amp Msh
theorem gdV_snoc {L:List Cl} {i:Nat} {c:Cl} (h:L[i]? = some c) (hn:(L.take i).find? (hasN c.name)=none) (q:ByteArray):(if q=c.name then some (Value.int .i64 c.gd) else gdV (L.take i) q)=gdV (L.take (i+1)) q:=by
 unfold gdV;rw [List.take_add_one,h,Option.toList,find_snoc hn];by_cases hq:q=c.name
 · rw [if_pos hq,if_pos hq];rfl
 · rw [if_neg hq,if_neg hq]
theorem gds_snoc {L:List Cl} {i:Nat} {c:Cl} (h:L[i]? = some c) (hC:Gds (L.take i)) (hg:1≤c.gd∧c.gd≤6):Gds (L.take (i+1)):=by
 rw [List.take_add_one,h];intro d hd;rcases List.mem_append.1 hd with hd | hd
 · exact hC d hd
 · simp at hd
   subst hd;exact hg
set_option maxRecDepth 100000 in
set_option maxHeartbeats 2000000 in
theorem vnetP_main (a0:Option Addr) (cap:Nat) (L:List Cl) (w:World) (hl:L.length≤9223372036854775807) (hN:Net w a0 L) (hk:CsOk L) (hlen:1≤L.length∧L.length≤20) :
  Calls Tryz.prog 20 #[.slice a0 L.length cap] w fun e w'=>e=.returned (.bool (vfrom [] L))∧Grew w w':=by
 have HM:=hid fun w=>mbtw_any 1 L.length 20 w
 rw [decide_eq_true (show ((1:Int)≤L.length∧(L.length:Int)≤20) by omega)] at HM;have HN:=hid hN;have HK:=hid hk;obtain ⟨R,hR⟩:∃ R,vfrom [] L=R:=⟨_,rfl⟩;have HR:=hid hR;rw [hR];have hl20:L.length≤20:=hlen.2;have hmm:=@run_makeMap Tryz.prog;clear hN hk hR hlen hl;go_enter Tryz.func20,Tryz.ntmps20
 go_wp2_with fail
 refine (HM.out _).mono ?_;rintro e w' ⟨rfl,g0,n0,rfl⟩;go_wp2_with fail
 obtain ⟨W2,hW2⟩:∃ W2,W2=((w.grow g0).alloc (.map #[] 0)).drewN n0:=⟨_,rfl⟩;obtain ⟨bm,hbm⟩:∃ b,b=w.heap.size+g0.length:=⟨_,rfl⟩;have hg2:Grew w W2:=by rw [hW2];exact gw0
 have hM0:MapV W2 bm 0 (gdV (L.take 0)):=by
  rw [hW2,hbm,List.take_zero];exact (MapV.made (w:=w.grow g0) (by simp [go_sem])).grew gw0
 have hbB:w.heap.size≤bm:=by omega
 rw [← hW2,← hbm];have HM0:=hid hM0;have HG2:=hid hg2;have HBB:=hid hbB;clear hW2 hbm hg2 hM0 HM hbB;go_loopw [15] (fun v wr=>∃ i:Nat,i≤L.length∧v=.int .i64 i∧Hid (R=vfrom (L.take i) (L.drop i))∧Hid (Gds (L.take i))∧Hid (MapV wr bm i (gdV (L.take i)))∧Grew w wr) (fun v _=>L.length - (intOf v).toNat)
 case atStart=>exact ⟨0,Nat.zero_le _,rfl,HR.out.symm,fun c hc=>absurd hc (by simp),HM0.out,HG2.out⟩
 case round =>
  obtain ⟨i,hi,rfl,HV,HGD,HMV,hg⟩:=hrel;by_cases hlt:i<L.length
  case neg =>
   obtain rfl:i=L.length:=by omega
   exact k49_
  case pos =>
   obtain ⟨c,hc⟩:∃ c,L[i]? = some c:=⟨L[i],List.getElem?_eq_getElem hlt⟩;obtain ⟨b,off,rfl,hb,c0,c1,a2,k2,c2,hits⟩:=(HN.out.grew hg).cells hc;obtain ⟨k3,k4,k5⟩:=HK.out.at hc;have hv:=HV.out;rw [vfrom_step hc] at hv;have hvc:vcell (L.take i) c=(nameB c.name&&(L.take i |>.find? (hasN c.name)).isNone&&decide (1≤c.gd∧c.gd≤6)&&decide (c.items.length≤200)&&okEs (gdF (L.take i)) c.gd c.items):=rfl;have HL:=look_gd_ok (HMV.out.grew ((Grew.refl wr).alloc (.cells #[.string c.name,.int .i64 c.gd,.slice a2 c.items.length k2] 28))) c.name k3;have HNM:=hid fun w'=>name_any c.name w' k3
   have HBT:=hid fun w'=>mbtw_any 1 c.gd 6 w'
   have HFT:=hid fun w' (hg2:Grew wr w') (g1:1≤c.gd) (g2:c.gd≤6)=>fitsM_any c.gd a2 k2 c.items bm i (L.take i) w' k4 (hits.grew hg2) (HMV.out.grew hg2) HGD.out g1 g2 k5
   obtain ⟨n5,hn5⟩:∃ n,c.items.length=n:=⟨_,rfl⟩;obtain ⟨q,hq⟩:∃ q,c.name=q:=⟨_,rfl⟩;obtain ⟨gd,hgd⟩:∃ q,c.gd=q:=⟨_,rfl⟩;have hC:=hid (And.intro hc (And.intro hq hgd));rw [hn5] at HFT c2 HL hvc k4;rw [hq] at HL HNM c0 hvc k3;rw [hgd] at HBT HFT c1 HL hvc;have HG:=hid hg;have HMW:=hid HMV.out;obtain ⟨vc,hvcq⟩:∃ v,vcell (L.take i) c=v:=⟨_,rfl⟩;rw [hvcq] at hv hvc;have hF:vc=false→R=false:=fun h=>by rw [hv,h,Bool.false_and]
   have HFF:=hid hF;have HVV:=hid hv;obtain ⟨gF,hgF⟩:∃ F,okEs (gdF (L.take i)) gd c.items=F:=⟨_,rfl⟩;rw [hgF] at HFT hvc;have hb1:=fun m0:Nat=>Nat.lt_add_right m0 (hb)
   have hb2:=fun m0 m1:Nat=>Nat.lt_add_right m1 (hb1 m0)
   have hb3:=fun m0 m1 m2:Nat=>Nat.lt_add_right m2 (hb2 m0 m1)
   clear hc hits hv hF hq hgd hgF HV HMV hvcq hg k5;cases hfd:(L.take i).find? (hasN q) with
   | some d =>
     rw [hfd] at HL hvc;have HF:=hid (HFF.out (by rw [hvc];simp));clear hvc hfd HFT HBT HNM;dsimp only [Option.isSome] at HL;exact k25_
   | none =>
     rw [hfd] at HL hvc;have HFD:=hid hfd;dsimp only [Option.isSome] at HL;clear hfd;cases hnm:nameB q with
     | false =>
       rw [hnm] at HNM hvc;have HF:=hid (HFF.out (by rw [hvc];rfl));clear hvc hnm HFT HBT;go_wp2_with fail
       refine (HNM.out _).mono ?_;rintro e w' ⟨rfl,g1,n1,rfl⟩;exact k25_
     | true =>
       rw [hnm] at HNM hvc;by_cases hgg:1≤gd∧gd≤6
       case neg =>
        rw [decide_eq_false hgg] at HBT hvc;have HF:=hid (HFF.out (by rw [hvc];rfl));clear hvc hnm HFT hgg;go_wp2_with fail
        refine (HNM.out _).mono ?_;rintro e w' ⟨rfl,g1,n1,rfl⟩;go_wp2_with fail
        refine (HBT.out _).mono ?_;rintro e w' ⟨rfl,g2,n2,rfl⟩;exact k25_
       case pos =>
        rw [decide_eq_true hgg] at HBT hvc;have HGG:=hid hgg;by_cases h200:n5≤200
        case neg =>
         rw [decide_eq_false h200] at hvc;have HF:=hid (HFF.out (by rw [hvc];rfl));have e5:(200:Int)<n5:=by omega
         clear hvc hnm HFT hgg h200;go_wp2_with fail
         refine (HNM.out _).mono ?_;rintro e w' ⟨rfl,g1,n1,rfl⟩;go_wp2_with fail
         refine (HBT.out _).mono ?_;rintro e w' ⟨rfl,g2,n2,rfl⟩;exact k25_
        case pos =>
         rw [decide_eq_true h200] at hvc;have e5:(n5:Int)≤200:=by omega
         have HFT:=hid fun w' (hg2:Grew wr w')=>HFT.out w' hg2 hgg.1 hgg.2
         cases gF with
         | false =>
           have HF:=hid (HFF.out (by rw [hvc];rfl));clear hvc hnm hgg h200;go_wp2_with fail
           refine (HNM.out _).mono ?_;rintro e w' ⟨rfl,g1,n1,rfl⟩;go_wp2_with fail
           refine (HBT.out _).mono ?_;rintro e w' ⟨rfl,g2,n2,rfl⟩;go_wp2_with fail
           refine (HFT.out _ gw0).mono ?_;rintro e w' ⟨rfl,g3,n3,rfl⟩;exact k25_
         | true =>
           have HN2:=hid (show R=vfrom (L.take (i+1)) (L.drop (i+1)) by rw [HVV.out,hvc];rfl);clear hvc hnm hgg h200;go_wp2_with fail
           refine (HNM.out _).mono ?_;rintro e w' ⟨rfl,g1,n1,rfl⟩;go_wp2_with fail
           refine (HBT.out _).mono ?_;rintro e w' ⟨rfl,g2,n2,rfl⟩;go_wp2_with fail
           refine (HFT.out _ gw0).mono ?_;rintro e w' ⟨rfl,g3,n3,rfl⟩;go_wp2_with (at_mapUpdate;go_loud (refine wpList_mapUpdate_v rfl _ _ _ 53 rfl Tryz.underlying53 bm i (gdV (L.take i)) rfl (HMW.out.grew gw0) ?hmx q k3 (.int .i64 gd) rfl rfl ?_))
           case hmx=>unfold maxLen;omega
           · intro wB hMB hgB hdB
             have HGB:=hid (show Grew w wB from Grew.by (HG.out.trans gw0) hgB hdB (fun jj hjj=>by cases hjj;exact HBB.out));have hd:=HFD.out;rw [← hC.out.2.1] at hd;have HMB:=hid (show MapV wB bm (i+1) (gdV (L.take (i+1))) from MapV.congr hMB fun p _=>by
              have:=gdV_snoc hC.out.1 hd p;rw [hC.out.2.1,hC.out.2.2] at this;exact this)
             have HGN:=hid (gds_snoc hC.out.1 HGD.out (by rw [hC.out.2.2];exact HGG.out));clear hMB hgB hdB hd;go_wp2_with fail
             go_roundw
             case rel=>exact ⟨i+1,by omega,by go_num,HN2.out,HGN.out,HMB.out.grew gw0,HGB.out.trans gw0⟩
             case measure=>simp [intOf];omega
theorem vnetP_any (a0:Option Addr) (cap:Nat) (L:List Cl) (w:World) (hl:L.length≤9223372036854775807) (hN:Net w a0 L) (hk:CsOk L) :
  Calls Tryz.prog 20 #[.slice a0 L.length cap] w fun e w'=>e=.returned (.bool (vnet L))∧Grew w w':=by
 by_cases hlen:1≤L.length∧L.length≤20
 · rw [show vnet L=vfrom [] L by unfold vnet;rw [decide_eq_true hlen,Bool.true_and]]
   exact vnetP_main a0 cap L w hl hN hk hlen
 · rw [show vnet L=false by unfold vnet;rw [decide_eq_false hlen,Bool.false_and]]
   have HM:=hid fun w=>mbtw_any 1 L.length 20 w
   rw [decide_eq_false (show ¬ ((1:Int)≤L.length∧(L.length:Int)≤20) by omega)] at HM;clear hN hk hlen;go_enter Tryz.func20,Tryz.ntmps20
   go_wp2_with fail
   refine (HM.out _).mono ?_;rintro e w' ⟨rfl,g0,n0,rfl⟩;go_wp2_with fail
   go_ret;exact ⟨rfl,gw0⟩
open Go Go.RowKit Amp Msh
def itCells (z:It):List Value:=[.int .i64 z.kind,.int .i64 z.pos,.int .i64 z.n,.string z.name]
def itsCells (l:List It):List Value:=l.flatMap itCells
theorem itsCells_length (l:List It):(itsCells l).length=l.length*4:=by
 unfold itsCells
 induction l with
 | nil=>rfl
 | cons z t ih=>simp [List.flatMap_cons,itCells] at *;omega
theorem itsCells_app (l m:List It):itsCells (l++m)=itsCells l++itsCells m:=by simp [itsCells]
theorem itsCells_one' (z:It):itsCells [z]=itCells z:=by simp [itsCells]
theorem itsCells_at:∀ (l:List It) (i:Nat) (z:It),l[i]? = some z→∀ j,j<4→(itsCells l)[i*4+j]? = (itCells z)[j]?
 | [],i,z,h,_,_=>by simp at h
 | y :: t, 0, z, h, j, hj => by
   simp at h;subst h;simp only [itsCells,List.flatMap_cons,Nat.zero_mul,Nat.zero_add];rw [List.getElem?_append_left (by simpa [itCells] using hj)]
 | y :: t, i + 1, z, h, j, hj => by
   simp at h;have:=itsCells_at t i z h j hj;simp only [itsCells,List.flatMap_cons] at *
   rw [List.getElem?_append_right (by simp [itCells];omega),← this]
   congr 1
   simp [itCells];omega
theorem info_it:(Tryz.prog.info? 51).map (fun i=>(i.zero,i.size,i.bytes))=some (some (.agg #[.int .i64 0,.int .i64 0,.int .i64 0,.string ⟨#[]⟩]),4,40):=by kernel_rfl
theorem itCells_one {z:It} {u:Value} (hu:u∈itCells z):u.oneCell'=true:=by
 simp [itCells] at hu;rcases hu with rfl | rfl | rfl | rfl <;> rfl
theorem itsCells_one {l:List It} {u:Value} (hu:u∈itsCells l):u.oneCell'=true:=by
 unfold itsCells at hu;obtain ⟨z,_,hz⟩:=List.mem_flatMap.1 hu;exact itCells_one hz
theorem itCells_in {w:World} {b:Nat} {z:It} (h0:w.cell? ⟨b,0,none⟩=some (.int .i64 z.kind)) (h1:w.cell? ⟨b,1,none⟩=some (.int .i64 z.pos)) (h2:w.cell? ⟨b,2,none⟩=some (.int .i64 z.n)) (h3:w.cell? ⟨b,3,none⟩=some (.string z.name)) :
  ∀ j u,(itCells z)[j]? = some u→w.cell? ((⟨b,0,none⟩:Addr).add j)=some u:=by
 intro j u hj;match j,hj with
 | 0,hj=>simp [itCells] at hj;subst hj;simpa [Addr.add] using h0
 | 1,hj=>simp [itCells] at hj;subst hj;simpa [Addr.add] using h1
 | 2,hj=>simp [itCells] at hj;subst hj;simpa [Addr.add] using h2
 | 3,hj=>simp [itCells] at hj;subst hj;simpa [Addr.add] using h3
 | j+4,hj=>simp [itCells] at hj
def OwnI (w:World) (base:Nat) (a0:Option Addr) (k0:Nat) (l:List It):Prop:=w.ownsRow base 51 4 (.slice a0 l.length k0) l.length (itsCells l)
theorem OwnI.nil (w:World) (base:Nat):OwnI w base none 0 []:=World.ownsRow_nil w base 51 4
theorem OwnI.grew {w w':World} {base:Nat} {a0:Option Addr} {k0:Nat} {l:List It} (h:OwnI w base a0 k0 l) (g:Grew w w'):OwnI w' base a0 k0 l:=World.ownsRow.grew h g
theorem OwnI.its {w:World} {base:Nat} {a0:Option Addr} {k0:Nat} {l:List It} (h:OwnI w base a0 k0 l):Its w a0 l:=by
 rcases h.2 with ⟨h1,h2⟩ | ⟨g,cap,cur,h1,h2,h3,h4⟩
 · exact .inl (List.eq_nil_of_length_eq_zero h2)
 · injection h1 with e1 e2 e3
   subst e1;subst e3;refine .inr ⟨g,0,rfl,(Array.getElem?_eq_some_iff.1 h3).1,fun i z hz=>?_⟩;have hi:i<l.length:=(List.getElem?_eq_some_iff.1 hz).1;have key:∀ j,j<4→w.cell? ⟨g,0+i*4+j,none⟩=(itCells z)[j]? := fun j hj=>by
    rw [Nat.zero_add];rw [World.ownsRow.cellAt h (i*4+j) (by omega)];exact itsCells_at l i z hz j hj
   exact ⟨key 0 (by decide),key 1 (by decide),key 2 (by decide),key 3 (by decide)⟩
theorem wpList_append_its {w:World} {ops:Array Oper} {rest:List Oper} {o:Oper} {a:Act} {Q:Exit→Act→World→Prop} (hgd:o.guard=none) (s x:Operand)
  (ho:o.op=.call { callee:=.builtin .append,args:=#[s,x],argTypes:=#[26,26] })
  (base:Nat) (a0:Option Addr) (k0:Nat) (xs:List It) (hs:a.eval s=.slice a0 xs.length k0) (hown:OwnI w base a0 k0 xs)
  (ao:Option Addr) (c:Nat) (l:List It) (hx:a.eval x=.slice ao l.length c) (hnone:ao=none→l.length=0∧c=0) (hnews:∀ ad,ao=some ad→∀ j u,(itsCells l)[j]? = some u→w.cell? (ad.add j)=some u)
  (hmax:xs.length+l.length≤100000) (hbase:base≤w.heap.size)
  (h:∀ a2 k2 w',OwnI w' base a2 k2 (xs++l)→w.grownBy w' (Value.slice a0 xs.length k0).ownBlock→w.drawn≤w'.drawn→wpList Tryz.prog ops Q rest (a.put o.dst (.slice a2 (xs++l).length k2)) w') :
  wpList Tryz.prog ops Q (o::rest) a w:=by
 obtain ⟨i0,hi,hz0,hz1,hz2⟩:=info_parts info_it;cases ao with
 | some ad =>
   refine wpList_append_behind hgd s x 26 ho base 51 i0 (.agg #[.int .i64 0,.int .i64 0,.int .i64 0,.string ⟨#[]⟩]) 4 40 Tryz.underlying26 hi hz0 hz1 hz2 rfl (by decide) _ _ (itsCells xs) hs hown ad l.length c (itsCells l) hx (itsCells_length l) (hnews ad rfl) (fun u hu=>itsCells_one hu) (by unfold maxLen;omega) (by omega) hbase fun v' w' hown' hgrow _ hdr=>?_
   obtain ⟨a2,k2,rfl⟩:=ownsRow_slice hown';rw [show xs.length+l.length=(xs++l).length by simp] at hown' ⊢;rw [← itsCells_app] at hown';exact h a2 k2 w' hown' hgrow hdr
 | none =>
   obtain ⟨hl,rfl⟩:=hnone rfl;obtain rfl:=List.eq_nil_of_length_eq_zero hl;refine wpList_append_own_none hgd s x 26 ho base 51 i0 4 Tryz.underlying26 hi _ _ (itsCells xs) hs hown hx ?_;have h1:=h a0 k0 w (by rw [List.append_nil];exact hown) (World.grownBy.refl _ _) (Nat.le_refl _);rw [List.append_nil] at h1;exact h1
end Go.Proofs.YtchdmecjhaanfaaGreatDoor
