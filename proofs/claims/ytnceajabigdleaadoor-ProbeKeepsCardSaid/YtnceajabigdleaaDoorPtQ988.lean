/- Layer 9, in main's ghost: lists of tries with their port alone: which fit. Condition: they lie in memory. -/
import Derived.Test.YtnceajabigdleaaDoorPtQ94
import Derived.Test.YtnceajabigdleaaDoorPtQ986
namespace Go.Proofs.Qm
open Go Go.Pt Go.RowKit Prb
def AqAt (w:World) (a:Option Addr) (l:List Tq):Prop:=∀ i z,l[i]? = some z→∃ b off:Nat,a=some ⟨b,off,none⟩∧b<w.heap.size∧(w.cell? ⟨b,off+i*2,none⟩=some (.slice z.t.a z.t.len z.t.cap)∧w.cell? ⟨b,off+i*2+1,none⟩=some (.int .i64 z.t.i))∧z.t.len≤9223372036854775807∧TurnAt w z.t.a z.t.len z.b
theorem AqAt.below {w w':World} {a:Option Addr} {l:List Tq} (h:AqAt w a l) (hg:Below w.heap.size w w'):AqAt w' a l:=fun i z hz=>by
 obtain ⟨b,off,rfl,hb,⟨c0,c1⟩,hl,ht⟩:=h i z hz;have key:∀ k:Nat,w'.cell? ⟨b,k,none⟩=w.cell? ⟨b,k,none⟩:=fun k=>by simp only [World.cell?,hg.block b hb]
 exact ⟨b,off,rfl,Nat.lt_of_lt_of_le hb hg.size,⟨(key _).trans c0,(key _).trans c1⟩,hl,ht.below hg⟩
theorem AqAt.grew {w w':World} {a:Option Addr} {l:List Tq} (h:AqAt w a l) (hg:Grew w w'):AqAt w' a l:=h.below hg.below
def asksB (n:Int) (l:List Tq):Bool:=l.all fun z=>ansB n 0 z.t.len z.t.i
theorem asksB_step {n:Int} {l:List Tq} {i:Nat} {z:Tq} (hz:l[i]? = some z) (hv:ansB n 0 z.t.len z.t.i=true) (h:asksB n (l.take i)=true):asksB n (l.take (i+1))=true:=by
 unfold asksB at *
 rw [List.take_add_one,hz,Option.toList_some,List.all_append,h];simp [hv]
theorem asksB_cut {n:Int} {l:List Tq} {i:Nat} {z:Tq} (hz:l[i]? = some z) (hv:ansB n 0 z.t.len z.t.i=false):asksB n l=false:=by
 rw [Bool.eq_false_iff];intro h;have:=List.all_eq_true.1 h z (List.mem_of_getElem? hz);rw [hv] at this;cases this
theorem rans_ok (n s:Int) (a:Option Addr) (len cap:Nat) (i:Int) (l:List Bool) (w:World) (hl:len≤9223372036854775807) (ht:TurnAt w a len l) :
  ∃ r:Int × Int,(r.2 != 0)=!ansB n s len i∧∀ w',Grew w w'→Calls prog 55 #[.int .i64 n,.int .i64 s,.slice a len cap,.int .i64 i] w' fun e w''=>e=.returned (.tuple #[.int .i64 r.1,.int .i64 r.2])∧Grew w' w'':=by
 cases h:ansB n s len i with
 | false=>exact ⟨(0,2),rfl,fun w' _=>rAnswer_no n s a len cap i w' hl h⟩
 | true =>
   obtain ⟨rfl,ht⟩:=ht;have hne:l≠[]:=by rintro rfl;rcases ansB_iff.1 h with h | h <;> (obtain ⟨_,_,_,h4,_⟩:=h;simp at h4)
   rcases ht with ht | ⟨b,off,rfl,hb,hc⟩
   · exact absurd ht hne
   have hs:∃ S:Nat,s=S:=⟨s.toNat,by rcases ansB_iff.1 h with h | h <;> omega⟩;have hi:∃ I:Nat,i=I:=⟨i.toNat,by rcases ansB_iff.1 h with h | h <;> omega⟩;obtain ⟨S,rfl⟩:=hs;obtain ⟨I,rfl⟩:=hi;refine ⟨((refA n (thB S l) I:Nat),0),rfl,fun w' hg=>?_⟩;rcases ansB_iff.1 h with h | h
   · exact rAnswer_yes n 2 2 S I b off cap l w' (.inl ⟨h.1,rfl,rfl,by omega⟩) (by omega) (by omega) (Nat.lt_of_lt_of_le hb hg.size) (hc.grew hb hg)
   · exact rAnswer_yes n 64 4 S I b off cap l w' (.inr ⟨h.1,rfl,rfl,by omega⟩) (by omega) (by omega) (Nat.lt_of_lt_of_le hb hg.size) (hc.grew hb hg)
set_option maxHeartbeats 3200000 in
theorem afit_no (n:Int) (a:Option Addr) (cap:Nat) (l:List Tq) (w:World) (_:l.length≤9223372036854775807) (hn:¬ (n=2∨n=4)) :
  Calls prog 21 #[.int .i64 n,.slice a l.length cap] w fun e w'=>e=.returned (.bool false)∧Grew w w':=by
 have HS:=hid fun w=>rStates_any n w
 rw [show stZ n=(0,2) by unfold stZ;rw [if_neg (fun h=>hn (.inl h)),if_neg (fun h=>hn (.inr h))]] at HS;clear hn;go_enter func21,ntmps21
 go_wp2_with fail
 refine (HS.out _).mono ?_;rintro e w' ⟨rfl,g1,n1,rfl⟩;go_wp2_with fail
 exact bodyPost_ret (v:=.bool false) (by simp [results,go_sem]) rfl ⟨rfl,gw0⟩
set_option maxHeartbeats 3200000 in
theorem afit_any (n:Int) (hn:n=2∨n=4) (a:Option Addr) (cap:Nat) (l:List Tq) (w:World) (hl:l.length≤9223372036854775807) (hc:AqAt w a l) :
  Calls prog 21 #[.int .i64 n,.slice a l.length cap] w fun e w'=>e=.returned (.bool (decide (l.length≤40)&&asksB n l))∧Grew w w':=by
 have HS:=hid fun w=>rStates_any n w
 obtain ⟨N,hN⟩:∃ N:Int,stZ n=(N,0):=by rcases hn with rfl | rfl <;> exact ⟨_,rfl⟩
 rw [hN] at HS;have HC:=hid hc;have HA:=hid fun (z:Tq) (w:World) (hl:z.t.len≤9223372036854775807) (ht:TurnAt w z.t.a z.t.len z.b)=>rans_ok n 0 z.t.a z.t.len z.t.cap z.t.i z.b w hl ht
 clear hc hn hN;by_cases h40:l.length≤40
 case neg =>
  have h3:decide ((40:Int)<(l.length:Int))=true:=decide_eq_true (by omega);rw [decide_eq_false h40,Bool.false_and];go_enter func21,ntmps21
  go_wp2_with fail
  refine (HS.out _).mono ?_;rintro e w' ⟨rfl,g1,n1,rfl⟩;go_wp2_with fail
  exact bodyPost_ret (v:=.bool false) (by simp [results,go_sem]) rfl ⟨rfl,gw0⟩
 have h3:decide ((40:Int)<(l.length:Int))=false:=decide_eq_false (by omega);rw [decide_eq_true h40,Bool.true_and];go_enter func21,ntmps21
 go_wp2_with fail
 refine (HS.out _).mono ?_;rintro e w' ⟨rfl,g1,n1,rfl⟩;go_wp2_with fail
 go_loopw [25] (fun v wr=>∃ i:Nat,i≤l.length∧v=.int .i64 i∧Hid (asksB n (l.take i)=true)∧Grew w wr) (fun v _=>l.length - (intOf v).toNat)
 case atStart=>exact ⟨0,Nat.zero_le _,rfl,rfl,gw0⟩
 case round =>
  obtain ⟨i,hi,rfl,hp,g,k,rfl⟩:=hrel;by_cases hlt:i<l.length
  · obtain ⟨z,hz⟩:∃ z,l[i]? = some z:=⟨l[i],List.getElem?_eq_getElem hlt⟩
    have HQ:=HC.out i z hz;obtain ⟨b,off,rfl,hb,⟨c0,c1⟩,hzl,ht⟩:=HQ;obtain ⟨r,hr,HR⟩:=HA.out z w hzl ht;have HR:=hid HR;have hb1:=fun m0:Nat=>Nat.lt_add_right m0 (hb)
    have Hz:=hid hz;obtain ⟨r1,r2⟩:=r;replace hr:(r2 != 0)=!ansB n 0 z.t.len z.t.i:=hr;clear hz ht HA;cases hv:ansB n 0 z.t.len z.t.i with
    | true =>
      rw [hv] at hr;replace hr:(r2 != 0)=false:=hr;have HN:=hid (asksB_step Hz.out hv hp.out);clear hv;go_wp2_with fail
      refine (HR.out _ gw0).mono ?_;rintro e w' ⟨rfl,g1,k1,rfl⟩;go_wp2_with fail
      go_roundw
      case rel=>exact ⟨i+1,by omega,by go_num,HN,gw0⟩
      case measure=>simp [intOf];omega
    | false =>
      rw [hv] at hr;replace hr:(r2 != 0)=true:=hr;have HN:=hid (asksB_cut Hz.out hv);clear hv;go_wp2_with fail
      refine (HR.out _ gw0).mono ?_;rintro e w' ⟨rfl,g1,k1,rfl⟩;go_wp2_with fail
      exact bodyPost_ret (v:=.bool false) (by simp [results,go_sem]) rfl ⟨by rw [HN.out],gw0⟩
  · obtain rfl:i=l.length:=by omega
    have HM:Hid (asksB n l=true):=hid (by have:=hp.out;rw [List.take_length] at this;exact this);clear hp;go_wp2_with fail
    exact bodyPost_ret (v:=.bool true) (by simp [results,go_sem]) rfl ⟨by rw [HM.out],gw0⟩
open Go Go.Pt Go.RowKit Prb
def BldA (base:Nat) (bl:List Bool) (T I A:Nat) (v:Value) (W:World):Prop:=∃ (g k2:Nat),v=.agg #[.slice (some ⟨g,0,none⟩) T k2,.int .i64 I,.int .i64 A]∧base≤g∧BlkB W g bl
theorem BldA.grew {base T I A:Nat} {bl:List Bool} {v:Value} {W W':World} (h:BldA base bl T I A v W) (hg:Grew W W'):BldA base bl T I A v W':=by
 obtain ⟨g,k2,h1,h2,h3⟩:=h;exact ⟨g,k2,h1,h2,h3.kept (KeepB.grew hg)⟩
def RowA (base:Nat) (bl:List Bool) (T I A:Nat) (v:Value) (W:World):Prop:=∃ (r g k2:Nat),v=.slice (some ⟨r,0,none⟩) 1 1∧base≤r∧base≤g∧BlkB W g bl∧W.heap[r]? = some (.cells #[.slice (some ⟨g,0,none⟩) T k2,.int .i64 I,.int .i64 A] 48 (0,0))
theorem RowA.grew {base T I A:Nat} {bl:List Bool} {v:Value} {W W':World} (h:RowA base bl T I A v W) (hg:Grew W W'):RowA base bl T I A v W':=by
 obtain ⟨r,g,k2,h1,h2,h3,h4,h5⟩:=h;exact ⟨r,g,k2,h1,h2,h3,h4.kept (KeepB.grew hg),(hg.block _ (Array.getElem?_eq_some_iff.1 h5).1).trans h5⟩
def anF (n:Int) (S:Nat) (z:Tq):Fd:=⟨z.b,z.t.i,(ansF n S z:Nat)⟩
theorem anF_step {n:Int} {S:Nat} {l Ft:List Tq} {i:Nat} {z q:Tq} (hz:l[i]? = some z) (hq:fdOf q=anF n S z) (h:Ft.map fdOf=(l.take i).map (anF n S)):(Ft++[q]).map fdOf=(l.take (i+1)).map (anF n S):=by
 rw [List.take_add_one,hz,Option.toList_some,List.map_append,List.map_append,h,List.map_cons,List.map_cons,hq];rfl
theorem ask_open {n:Int} {N m:Nat} {z:Tq} {w:World} (hn:(n=2∧N=2∧m=2)∨(n=4∧N=64∧m=4)) (ht:TurnAt w z.t.a z.t.len z.b) (h:ansB n 0 z.t.len z.t.i=true) :
  ∃ (b off I:Nat),z.t.a=some ⟨b,off,none⟩∧b<w.heap.size∧BlsAt w b off z.b∧z.t.len=z.b.length∧z.t.i=(I:Int)∧I<m∧((n=2∧N=2∧m=2∧z.b.length=1)∨(n=4∧N=64∧m=4∧z.b.length=6)):=by
 obtain ⟨hl,ht⟩:=ht;rw [hl] at h;have hne:z.b≠[]:=by
  intro e;rw [e] at h;rcases ansB_iff.1 h with h | h <;> (obtain ⟨_,_,_,h4,_⟩:=h;simp at h4)
 rcases ht with ht | ⟨b,off,h1,hb,hc⟩
 · exact absurd ht hne
 refine ⟨b,off,z.t.i.toNat,h1,hb,hc,hl, ?_, ?_, ?_⟩
 · rcases ansB_iff.1 h with h | h <;> omega
 · rcases ansB_iff.1 h with h | h <;> rcases hn with ⟨q1,q2,q3⟩ | ⟨q1,q2,q3⟩ <;> omega
 · rcases ansB_iff.1 h with h | h <;> rcases hn with ⟨q1,q2,q3⟩ | ⟨q1,q2,q3⟩
   · exact .inl ⟨q1,q2,q3,h.2.2.2.1⟩
   · omega
   · omega
   · exact .inr ⟨q1,q2,q3,h.2.2.2.1⟩
theorem OwnT.room {w:World} {base k0:Nat} {a0:Option Addr} {l:List Tq} (h:OwnT w base a0 k0 l):l.length≤k0:=by
 rcases h.1.2 with ⟨_,h2⟩ | ⟨g,cap,cur,h1,_,_,h4,_⟩
 · omega
 · injection h1 with e1 e2 e3
   omega
set_option maxRecDepth 100000 in
set_option maxHeartbeats 12800000 in
theorem answered_any (n:Int) (N m S:Nat) (hn:(n=2∧N=2∧m=2)∨(n=4∧N=64∧m=4)) (hS:S<N) (a:Option Addr) (cap:Nat) (l:List Tq) (w:World) (hl:l.length≤40) (hc:AqAt w a l) (h:asksB n l=true) :
  Calls prog 23 #[.int .i64 n,.int .i64 S,.slice a l.length cap] w fun e w'=>∃ (a4:Option Addr) (k4:Nat) (Ft:List Tq),e=.returned (.tuple #[.slice a4 Ft.length k4,.bool true])∧Ft.map fdOf=l.map (anF n S)∧TqAt w' a4 Ft∧Ft.length≤k4∧Below w.heap.size w w':=by
 have HN:=hid hn;have HC:=hid hc;have HFT:=hid fun z (hz:z∈l)=>List.all_eq_true.1 h z hz
 have hnm:n=(m:Int):=by rcases hn with ⟨rfl,_,rfl⟩ | ⟨rfl,_,rfl⟩ <;> rfl
 have HNM:=hid hnm;clear hc h hn hnm;go_enter func23,ntmps23
 go_wp2_with fail
 go_loopw [8,15] (fun t v wr=>∃ (i:Nat) (a4:Option Addr) (k4:Nat) (Ft:List Tq),i≤l.length∧v=.int .i64 i∧t=.slice a4 Ft.length k4∧Hid (Ft.map fdOf=(l.take i).map (anF n S))∧Hid (∀ z∈Ft,z.b.length≤6)∧Hid (OwnT wr w.heap.size a4 k4 Ft)∧Hid (Below w.heap.size w wr)) (fun _ v _=>l.length - (intOf v).toNat)
 case atStart=>exact ⟨0,none,0,[],Nat.zero_le _,rfl,rfl,hid rfl,hid (fun z hz=>by cases hz),hid (OwnT.nil _ _),hid (Below.refl _ _)⟩
 case round =>
  obtain ⟨i,a4,k4,Ft,hi,rfl,rfl,hmp,h6,hO,hB⟩:=hrel;by_cases hlt:i<l.length
  · obtain ⟨z,hz⟩:∃ z,l[i]? = some z:=⟨l[i],List.getElem?_eq_getElem hlt⟩
    have HFL:Hid (Ft.length=i):=hid (by have:=congrArg List.length hmp.out;simp at this;omega);obtain ⟨b,off,rfl,hb,⟨c0,c1⟩,hzl,htz⟩:=(HC.out.below hB.out) i z hz;obtain ⟨tb,toff,I,hta,htb,hbl,hlen,hI,hIm,hk⟩:=ask_open HN.out htz (HFT.out z (List.mem_of_getElem? hz));rw [hta,hlen] at c0;rw [hI] at c1;have Hz:=hid hz;have HANS:Hid (ansF n S z=refA n (thB S z.b) I):=hid (by unfold ansF;rw [hI,Int.toNat_natCast]);have HLT:=hid (refA_lt n N m _ hk (thB S z.b) I hIm);obtain ⟨bl,hbb⟩:∃ bl,z.b=bl:=⟨_,rfl⟩;rw [hbb] at hbl hk c0 HANS HLT;have HBB:=hid hbb;have HNE:Hid (bl≠[]):=hid (by rintro rfl;simp at hk);obtain ⟨tcap,htc⟩:∃ o,z.t.cap=o:=⟨_,rfl⟩;have HAW:=hid fun W (hg:Grew wr W)=>Answer_yes n N m S I tb toff tcap bl W hk hS hIm (Nat.lt_of_lt_of_le htb hg.size) (hbl.grew htb hg)
    obtain ⟨A,hA⟩:∃ A,refA n (thB S bl) I=A:=⟨_,rfl⟩;rw [hA] at HANS HAW HLT;have HLT:=HLT.out;obtain ⟨T,hTT⟩:∃ o,bl.length=o:=⟨_,rfl⟩;rw [hTT,htc] at c0;have hT6:T≤6:=by omega
    rw [hTT] at HAW;have hb1:=fun m0:Nat=>Nat.lt_add_right m0 hb
    have d1:decide ((A:Int)<0)=false:=decide_eq_false (by omega);have d2:decide (n≤(A:Int))=false:=decide_eq_false (by rw [HNM.out];omega);have HII:=hid hI;have HTT:=hid hTT;have HBLW:=hid fun W (hg:Grew wr W)=>hbl.grew htb hg
    clear hzl htz hta hlen hI hk htc hTT hbl hbb hz hA;go_wp2_with fail
    refine (HAW.out _ gw0).mono ?_;rintro e w2 ⟨rfl,hg2⟩;have hw2:Grew wr w2:=(show Grew wr (wr.alloc (Obj.cells #[Value.slice (some ⟨tb,toff,none⟩) T tcap,Value.int IntKind.i64 I] 95)) from gw0).trans hg2;have e2:w2.heap[wr.heap.size]? = some (Obj.cells #[Value.slice (some ⟨tb,toff,none⟩) T tcap,Value.int IntKind.i64 I] 95 (0,0)):=by
     have e1:(wr.alloc (Obj.cells #[Value.slice (some ⟨tb,toff,none⟩) T tcap,Value.int IntKind.i64 I] 95)).heap[wr.heap.size]? = some (Obj.cells #[Value.slice (some ⟨tb,toff,none⟩) T tcap,Value.int IntKind.i64 I] 95 (0,0)):=al_new rfl;exact (hg2.block _ (Array.getElem?_eq_some_iff.1 e1).1).trans e1
    obtain ⟨B,hBB⟩:∃ B,wr.heap.size=B:=⟨_,rfl⟩;rw [hBB] at e2 ⊢;have f0:w2.cell? ⟨B,0,none⟩=some (.slice (some ⟨tb,toff,none⟩) T tcap):=by simp [World.cell?,e2]
    have f1:w2.cell? ⟨B,1,none⟩=some (.int .i64 I):=by simp [World.cell?,e2]
    have hBl:B<w2.heap.size:=(Array.getElem?_eq_some_iff.1 e2).1;have HBL:=hid fun W (hg:Grew w2 W)=>HBLW.out W (hw2.trans hg)
    have HO2:=hid (hO.out.grew hw2);have HB2:=hid (hB.out.trans (hw2.below.mono hB.out.size));have hb2:=fun m0:Nat=>Nat.lt_add_right m0 hBl
    clear hg2 hw2 e2 hBB c0 c1 hb hb1 htb HAW HBLW hO hB;go_wp2_with fail
    refine R4.wp_region_slots 10 (fun ix vs W=>match ix with | 0=>vs 0=.slice a4 Ft.length k4 | 1=>EmpS (vs 1) | 2=>vs 2=.pointer (some ⟨B,0,none⟩) | 3=>vs 3=.slice (some ⟨tb,toff,none⟩) T tcap | 4=>CopS w2.heap.size bl T (vs 4) W | 5=>vs 5=.pointer (some ⟨B,1,none⟩) | 6=>vs 6=.int .i64 I | 7=>vs 7=.int .i64 A | 8=>BldA w2.heap.size bl T I A (vs 8) W | 9=>RowA w2.heap.size bl T I A (vs 9) W | _=>True) (by kernel_rfl) (by kernel_rfl) ?slst ?sldep ?slop ?slq
    case slst =>
     intro ix vs W W' h hg;match ix,h with
     | 0,h=>exact h
     | 1,h=>exact h
     | 2,h=>exact h
     | 3,h=>exact h
     | 4,h=>exact CopS.grew h hg
     | 5,h=>exact h
     | 6,h=>exact h
     | 7,h=>exact h
     | 8,h=>exact BldA.grew h hg
     | 9,h=>exact RowA.grew h hg
     | _+10,_=>trivial
    case sldep =>
     intro ix o vs vs' W hix ho h hv hn;match ix,hix,ho,h,hv with
     | 0,_,_,h,hv=>exact Eq.trans hv h
     | 1,_,_,h,hv=>show EmpS (vs' 1);rw [hv];exact h
     | 2,_,_,h,hv=>exact Eq.trans hv h
     | 3,_,_,h,hv=>exact Eq.trans hv h
     | 4,_,_,h,hv=>show CopS w2.heap.size bl T (vs' 4) W;rw [hv];exact h
     | 5,_,_,h,hv=>exact Eq.trans hv h
     | 6,_,_,h,hv=>exact Eq.trans hv h
     | 7,_,_,h,hv=>exact Eq.trans hv h
     | 8,_,_,h,hv=>show BldA w2.heap.size bl T I A (vs' 8) W;rw [hv];exact h
     | 9,_,_,h,hv=>show RowA w2.heap.size bl T I A (vs' 9) W;rw [hv];exact h
     | kx+10,hix,_,_,_=>exact absurd hix (by omega)
    case slop =>
     intro ix o hix ho vs W L hg hL hn hall;match ix,hix,ho,hL with
     | 0, _, ho, _ =>
       obtain rfl:=Option.some.inj ho;change R4.Oper.slotAt _ _ { tmps:=_,defers:=_ } _ _;obtain ⟨gq,nq,rfl⟩:=hg;go_simp;exact ⟨R4.upd_same _ _ _,.inl gw0⟩
     | 1, _, ho, _ =>
       obtain rfl:=Option.some.inj ho;change R4.Oper.slotAt _ _ { tmps:=_,defers:=_ } _ _;go_simp;exact ⟨by rw [R4.upd_same];exact ⟨_,rfl⟩,.inl ((Grew.refl _).alloc _)⟩
     | 2, _, ho, _ =>
       obtain rfl:=Option.some.inj ho;change R4.Oper.slotAt _ _ { tmps:=_,defers:=_ } _ _;obtain ⟨gq,nq,rfl⟩:=hg;go_simp;exact ⟨R4.upd_same _ _ _,.inl gw0⟩
     | 3, _, ho, _ =>
       obtain rfl:=Option.some.inj ho;have hn2:=(hn 2 (by decide)).2;try dsimp only at hn2
       change R4.Oper.slotAt _ _ (Act.put _ (some 42) (vs 2)) _ _;conv=>arg 3;rw [hn2]
       clear hn2;obtain ⟨gq,nq,rfl⟩:=hg;go_simp;exact ⟨R4.upd_same _ _ _,.inl gw0⟩
     | 4, _, ho, _ =>
       obtain rfl:=Option.some.inj ho;have hn1:=(hn 1 (by decide)).2;have hn3:=(hn 3 (by decide)).2;try dsimp only at hn1 hn3
       change R4.Oper.slotAt _ _ (Act.put (Act.put _ (some 41) (vs 1)) (some 43) (vs 3)) _ _;conv=>arg 3;rw [hn3]
       clear hn3;obtain ⟨g0,hv0⟩:=hn1;conv=>arg 3;rw [hv0]
       rw [← HTT.out];refine slot_append_b rfl (b0:=⟨g0,0,none⟩) (s:=.tmp 41) (x:=.tmp 43) rfl rfl HNE.out (by rw [HTT.out];exact hT6) (HBL.out _ hg) fun gg kk W' hgg hgW hbk=>?_
       exact ⟨by rw [R4.upd_same];exact ⟨gg,kk,by rw [HTT.out],Nat.le_trans hg.size hgg,hbk⟩,.inl hgW⟩
     | 5, _, ho, _ =>
       obtain rfl:=Option.some.inj ho;change R4.Oper.slotAt _ _ { tmps:=_,defers:=_ } _ _;obtain ⟨gq,nq,rfl⟩:=hg;go_simp;exact ⟨R4.upd_same _ _ _,.inl gw0⟩
     | 6, _, ho, _ =>
       obtain rfl:=Option.some.inj ho;have hn5:=(hn 5 (by decide)).2;try dsimp only at hn5
       change R4.Oper.slotAt _ _ (Act.put _ (some 45) (vs 5)) _ _;conv=>arg 3;rw [hn5]
       clear hn5;obtain ⟨gq,nq,rfl⟩:=hg;go_simp;exact ⟨R4.upd_same _ _ _,.inl gw0⟩
     | 7, _, ho, _ =>
       obtain rfl:=Option.some.inj ho;change R4.Oper.slotAt _ _ { tmps:=_,defers:=_ } _ _;obtain ⟨gq,nq,rfl⟩:=hg;go_simp;exact ⟨R4.upd_same _ _ _,.inl gw0⟩
     | 8, _, ho, _ =>
       obtain rfl:=Option.some.inj ho;have hn4:=(hn 4 (by decide)).2;have hn6:=(hn 6 (by decide)).2;have hn7:=(hn 7 (by decide)).2;try dsimp only at hn4 hn6 hn7
       change R4.Oper.slotAt _ _ (Act.put (Act.put (Act.put _ (some 44) (vs 4)) (some 46) (vs 6)) (some 47) (vs 7)) _ _;conv=>arg 3;rw [hn6,hn7]
       clear hn6 hn7;obtain ⟨gq,nq,rfl⟩:=hg;obtain ⟨g0,k0,hv0,hB0,hb0⟩:=hn4;conv=>arg 3;rw [hv0]
       have HB0:=hid hb0;clear hv0 hb0;go_simp;exact ⟨by rw [R4.upd_same];exact ⟨g0,k0,rfl,hB0,HB0.out.kept (KeepB.grew gw0)⟩,.inl gw0⟩
     | 9, _, ho, _ =>
       obtain rfl:=Option.some.inj ho;have hn8:=(hn 8 (by decide)).2;try dsimp only at hn8
       change R4.Oper.slotAt _ _ (Act.put _ (some 48) (vs 8)) _ _;obtain ⟨g0,k0,hv0,hB0,hb0⟩:=hn8;conv=>arg 3;rw [hv0]
       have HB0:=hid hb0;have hsz:=hg.size;clear hv0 hb0;go_simp;exact ⟨by rw [R4.upd_same];exact ⟨_,g0,k0,rfl,hsz,hB0,HB0.out.kept (KeepB.grew ((Grew.refl _).alloc _)),al_new rfl⟩,.inl ((Grew.refl _).alloc _)⟩
     | kx+10,hix,_,_=>exact absurd hix (by omega)
    case slq =>
     intro vs V hg hn;have hn0:=hn 0 (by decide) (by decide);have hn1:=hn 1 (by decide) (by decide);have hn2:=hn 2 (by decide) (by decide);have hn3:=hn 3 (by decide) (by decide);have hn4:=hn 4 (by decide) (by decide);have hn5:=hn 5 (by decide) (by decide);have hn6:=hn 6 (by decide) (by decide);have hn7:=hn 7 (by decide) (by decide);have hn8:=hn 8 (by decide) (by decide);have hn9:=hn 9 (by decide) (by decide);change wpList _ _ _ _ (Act.put (Act.put (Act.put (Act.put (Act.put (Act.put (Act.put (Act.put (Act.put (Act.put _ (some 40) (vs 0)) (some 41) (vs 1)) (some 42) (vs 2)) (some 43) (vs 3)) (some 44) (vs 4)) (some 45) (vs 5)) (some 46) (vs 6)) (some 47) (vs 7)) (some 48) (vs 8)) (some 49) (vs 9)) _;rw [hn0,hn2,hn3,hn5,hn6,hn7];clear hn hn0 hn2 hn3 hn5 hn6 hn7;obtain ⟨gE,q1⟩:=hn1;obtain ⟨gC,kC,q4,_,_⟩:=hn4;obtain ⟨gD,kD,q8,_,_⟩:=hn8;obtain ⟨r,g,k2,q9,hgr,hgB,hblk,hrow⟩:=hn9;rw [q1,q4,q8,q9];clear q1 q4 q8 q9;simp only [Act.put,List.setIfInBounds_toArray,List.set_cons_zero,List.set_cons_succ,List.drop_succ_cons,List.drop_zero];have HO3:=hid (HO2.out.grew hg);have HB3:=hid (below_grew HB2.out hg HB2.out.size);have HR:=hid hrow;have HBK:=hid hblk;have hsz:=HB3.out.size;clear hg hrow hblk hgr hgB;go_wp2_with (at_builtin;go_loud (refine wpList_append_t rfl _ _ rfl w.heap.size a4 k4 Ft rfl HO3.out r 1 ⟨⟨some ⟨g,0,none⟩,T,k2,(I:Nat),(A:Nat)⟩,bl⟩ rfl (by simp [World.cell?,HR.out]) ⟨HTT.out.symm,g,rfl,HBK.out⟩ ?hmx ?hbs ?_))
     case hmx=>have:=HFL.out;omega
     case hbs=>exact hsz
     · intro a6 k6 wB hownB hgrowB hdrB
       have HBB2:Hid (Below w.heap.size w wB):=hid (HB3.out.grown hgrowB hsz (fun r e=>ownsRow_above HO3.out.1 r e));have HOB:=hid hownB;have hA:fdOf ⟨⟨some ⟨g,0,none⟩,T,k2,(I:Nat),(A:Nat)⟩,bl⟩=anF n S z:=by unfold fdOf anF;rw [HANS.out,HBB.out,HII.out]
       have HM2:=hid (anF_step Hz.out hA hmp.out);have H62:Hid (∀ y∈Ft++[(⟨⟨some ⟨g,0,none⟩,T,k2,(I:Nat),(A:Nat)⟩,bl⟩:Tq)],y.b.length≤6):=hid fun y hy=>by
        rcases List.mem_append.1 hy with hy | hy
        · exact h6.out y hy
        · obtain rfl:=List.mem_singleton.1 hy
          show bl.length≤6
          rw [HTT.out];exact hT6
       obtain ⟨Ft2,hFt2⟩:∃ F,Ft++[(⟨⟨some ⟨g,0,none⟩,T,k2,(I:Nat),(A:Nat)⟩,bl⟩:Tq)]=F:=⟨_,rfl⟩;have HAPL:=hid (show (Ft++[(⟨⟨some ⟨g,0,none⟩,T,k2,(I:Nat),(A:Nat)⟩,bl⟩:Tq)]).length=Ft.length+1 by simp);rw [hFt2] at HOB HM2 H62 HAPL;clear hFt2 hgrowB hdrB hownB hA;go_wp2_with fail
       go_roundw
       case rel=>exact ⟨i+1,a6,k6,Ft2,by omega,by go_num,by rw [HAPL.out],HM2,H62,HOB,HBB2⟩
       case measure=>simp [intOf];omega
  · obtain rfl:i=l.length:=by omega
    have HM2:Hid (Ft.map fdOf=l.map (anF n S)):=hid (by have:=hmp.out;rwa [List.take_length] at this);have HTA:=hid (hO.out.tqAt h6.out);have HRM:=hid hO.out.room;clear hmp;go_wp2_with fail
    exact bodyPost_ret (v:=.tuple #[.slice a4 Ft.length k4,.bool true]) (by simp [results,go_sem]) rfl ⟨a4,k4,Ft,rfl,HM2.out,HTA.out,HRM.out,hB.out⟩
end Go.Proofs.Qm
