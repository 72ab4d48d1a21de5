/- Layer 9, in main's ghost: Left of the program and of the reference. Condition: the tests lie in memory. -/
import Derived.Test.YtnceajabigdleaaDoorPtQ95
import Derived.Test.YtnceajabigdleaaDoorPtQ8
namespace Go.Proofs.Qm
open Go Go.Pt Go.RowKit Prb
def leftL (n:Int) (N:Nat) (l:List Tq):List Nat:=l.foldl (fun L z=>L.filter (agP n z.b z.t.i.toNat z.t.o)) (List.range N)
theorem leftL_take {n:Int} {N:Nat} {l:List Tq} {q:Nat} {z:Tq} (h:l[q]? = some z):leftL n N (l.take (q+1))=(leftL n N (l.take q)).filter (agP n z.b z.t.i.toNat z.t.o):=by
 unfold leftL;rw [List.take_add_one,h,Option.toList_some,List.foldl_append];rfl
theorem asc_range:∀ N:Nat,Asc (List.range N)
 | 0=>trivial
 | N+1=>by rw [List.range_succ];exact asc_snoc (asc_range N) fun y hy=>List.mem_range.1 hy
theorem leftL_ok (n:Int) (N:Nat) (l:List Tq):Asc (leftL n N l)∧∀ y∈leftL n N l,y<N:=by
 have key:∀ (l:List Tq) (L:List Nat),Asc L→(∀ y∈L,y<N)→Asc (l.foldl (fun L z=>L.filter (agP n z.b z.t.i.toNat z.t.o)) L)∧∀ y∈l.foldl (fun L z=>L.filter (agP n z.b z.t.i.toNat z.t.o)) L,y<N:=by
  intro l
  induction l with
  | nil=>intro L h1 h2;exact ⟨h1,h2⟩
  | cons z r ih=>intro L h1 h2;exact ih _ (asc_sub _ h1) fun y hy=>h2 y (List.mem_filter.1 hy).1
 exact key l _ (asc_range N) fun y hy=>List.mem_range.1 hy
theorem tq_open {n:Int} {N m:Nat} {z:Tq} {w:World} (hn:(n=2∧N=2∧m=2)∨(n=4∧N=64∧m=4)) (ht:TurnAt w z.t.a z.t.len z.b) (h:tstB n z.t=true) :
  ∃ (b off I:Nat),z.t.a=some ⟨b,off,none⟩∧b<w.heap.size∧BlsAt w b off z.b∧z.t.len=z.b.length∧z.t.i=(I:Int)∧I<m∧((n=2∧N=2∧m=2∧z.b.length=1)∨(n=4∧N=64∧m=4∧z.b.length=6)):=by
 obtain ⟨h1,h2,h3,_,_⟩:=tq_fits (hn.imp (fun h=>h.1) (fun h=>h.1)) h;obtain ⟨hl,ht⟩:=ht;have hk:(n=2∧N=2∧m=2∧z.b.length=1)∨(n=4∧N=64∧m=4∧z.b.length=6):=by
  rcases hn with ⟨rfl,rfl,rfl⟩ | ⟨rfl,rfl,rfl⟩
  · exact .inl ⟨rfl,rfl,rfl,by rw [← hl,h1];rfl⟩
  · exact .inr ⟨rfl,rfl,rfl,by rw [← hl,h1];rfl⟩
 rcases ht with ht | ⟨b,off,ha,hb,hc⟩
 · rw [ht] at hk;simp at hk
 · exact ⟨b,off,z.t.i.toNat,ha,hb,hc,hl,by omega,by omega,hk⟩
set_option maxRecDepth 100000 in
set_option maxHeartbeats 6400000 in
theorem Left_yes (n:Int) (N m:Nat) (hn:(n=2∧N=2∧m=2)∨(n=4∧N=64∧m=4)) (a:Option Addr) (cap:Nat) (l:List Tq) (w:World) (hl:l.length≤40) (hc:TqAt w a l) (h:tqsB n l=true) (hD:DebAt w):Calls prog 14 #[.int .i64 n,.slice a l.length cap] w (ParP (ints (leftL n N l)) 0 w):=by
 have hn2:n=2∨n=4:=hn.imp (fun h=>h.1) (fun h=>h.1);have HC:=hid fun w=>pcount_any n w
 have HF:=hid fun w' (hg:Grew w w')=>fit_any n hn2 a cap l w' (by omega) (hc.grew hg)
 rw [h,decide_eq_true hl] at HF;simp only [Bool.and_true] at HF;have HT:=hid fun w'=>tables_any n N m hn w'
 have HW:=hid fun w=>whole_any n N (hn.imp (fun h=>⟨h.1,h.2.1⟩) (fun h=>⟨h.1,h.2.1⟩)) w
 have h0:cntZ n≠0:=by rcases hn2 with rfl | rfl <;> simp [cntZ]
 obtain ⟨c,hcc⟩:∃ c,cntZ n=c:=⟨_,rfl⟩;rw [hcc] at HC h0;have e0:((c:Int)==0)=false:=by simpa using h0
 have HN:=hid hn;have HTE:=hid (tqsB_at h);have HCC:=hid hc;have HD:=hid hD;have hN64:N≤64:=by omega
 clear hcc hc h h0 hn hn2 hD;go_enter func14,ntmps14
 go_wp2_with fail
 refine (HC.out _).mono ?_;rintro e w' ⟨rfl,hw'⟩;obtain rfl:w=w':=hw'.symm;clear hw';go_wp2_with fail
 refine (HF.out _ gw0).mono ?_;rintro e w' ⟨rfl,g1,n1,rfl⟩;go_wp2_with fail
 refine (HT.out _).mono ?_;rintro e w1 ⟨C,rfl,hT,hg⟩;have HT1:=hid hT;have HG1:=hid ((show Grew w ((w.grow g1).drewN n1) from gw0).trans hg);clear hT hg;go_wp2_with fail
 refine (HW.out _).mono ?_;rintro e w' ⟨rfl,hw1⟩;obtain rfl:w1=w':=hw1.symm;clear hw1;have HG1:Hid (Below w.heap.size w w1):=hid (show Grew w w1 from HG1.out).below;have e1:leftL n N (l.take 0)=List.range N:=rfl;rw [← e1];go_wp2_with fail
 go_loopw [7,25] (fun s v wr=>∃ q:Nat,q≤l.length∧v=.int .i64 q∧s=.int .u64 (setS (leftL n N (l.take q)):Nat)∧Hid (Below w.heap.size w wr)∧Hid (Tab wr m N C)) (fun _ v _=>l.length - (intOf v).toNat)
 case atStart=>exact ⟨0,Nat.zero_le _,rfl,rfl,HG1,HT1⟩
 case round =>
  obtain ⟨q,hq,rfl,rfl,HB,HTR⟩:=hrel;by_cases hlt:q<l.length
  · obtain ⟨z,hz⟩:∃ z,l[q]? = some z:=⟨l[q],List.getElem?_eq_getElem hlt⟩
    obtain ⟨b,off,rfl,hb,⟨c0,c1,c2⟩,hzl,htz⟩:=(HCC.out.below HB.out) q z hz;obtain ⟨tb,toff,I,ha,htb,hbl,hlen,hI,hIm,hk⟩:=tq_open HN.out htz (HTE.out z (List.mem_of_getElem? hz));have hst:=leftL_take (n:=n) (N:=N) hz;rw [hI,Int.toNat_natCast] at hst;rw [ha,hlen] at c0;rw [hI] at c1;obtain ⟨hasc,hlts⟩:=leftL_ok n N (l.take q);have HK:=hid fun w' (hg:Grew wr w')=>keep_any n N m I tb toff z.t.cap C z.b z.t.o (leftL n N (l.take q)) w' hk hasc hlts (Nat.lt_of_lt_of_le htb hg.size) (hbl.grew htb hg) hIm (HTR.out.grew hg) ((HD.out.below HB.out).of_block (hg.block 0 (HD.out.below HB.out).1))
    rw [← hst] at HK;have HK2:=hid fun w' (hg:Grew wr w')=>(HK.out w' hg).mono fun e w'' h=>(show e=.returned (.int .u64 (setS (leftL n N (l.take (q+1))):Nat))∧Below w.heap.size w w''∧Tab w'' m N C from ⟨h.1,(below_grew HB.out hg HB.out.size).trans (h.2.mono (Nat.le_trans HB.out.size hg.size)),(HTR.out.grew hg).below h.2⟩)
    obtain ⟨S,hS⟩:∃ S,setS (leftL n N (l.take q))=S:=⟨_,rfl⟩;rw [hS] at HK2 ⊢;obtain ⟨o,ho⟩:∃ o,z.t.o=o:=⟨_,rfl⟩;obtain ⟨tcap,htc⟩:∃ o,z.t.cap=o:=⟨_,rfl⟩;obtain ⟨T,hTT⟩:∃ o,z.b.length=o:=⟨_,rfl⟩;rw [ho,htc,hTT] at HK2;rw [ho] at c2;rw [hTT,htc] at c0;have hT6:T≤6:=by omega
    clear HK hst hz hzl htz ha htb hbl hlen hI hk hasc hlts hS ho htc hTT;go_wp2_with fail
    refine (HK2.out _ gw0).mono ?_;rintro e w2 ⟨rfl,hB2,hT2⟩;have HB2:=hid hB2;have HT2:=hid hT2;clear hB2 hT2;go_wp2_with fail
    go_roundw
    case rel=>exact ⟨q+1,by omega,by go_num,rfl,HB2,HT2⟩
    case measure=>simp [intOf];omega
  · obtain rfl:q=l.length:=by omega
    rw [List.take_length];obtain ⟨hasc,hlts⟩:=leftL_ok n N l;have hlen64:=asc_len (lo:=0) hasc (fun y hy=>⟨Nat.zero_le _,by have:=hlts y hy;omega⟩) (by decide);have HDR:=hid (HD.out.below HB.out);have HCO:=hid fun (w':World) (bS:Nat) (hx:w'.heap[bS]? = some (.cells #[.int .u64 (setS (leftL n N l))] 69 (0,0))) (hd:DebAt w')=>collect_any bS (leftL n N l) w' hasc (fun y hy=>by have:=hlts y hy;omega) (by omega) hd hx
    obtain ⟨L,hL⟩:∃ L,leftL n N l=L:=⟨_,rfl⟩;rw [hL] at HCO hlen64 ⊢;have hil:=ints_len L;have HLL:=hid hL;clear hasc hlts hL;go_wp2_with fail
    refine (all_any _ _).mono ?_;rintro e w2 ⟨rfl,hw2⟩;have hbS:w2.heap[wr.heap.size]? = some (.cells #[.int .u64 (setS L:Nat)] 69 (0,0)):=by rw [hw2];exact al_new rfl
    have hgw:Grew wr w2:=by rw [hw2];exact (Grew.refl wr).alloc _
    have HCC2:=hid (HCO.out w2 wr.heap.size hbS (HDR.out.of_block (hgw.block 0 HDR.out.1)));have HGW:=hid hgw;have HBW:=hid (below_grew HB.out hgw HB.out.size);clear hw2 hbS hgw;go_wp2_with fail
    refine HCC2.out.mono ?_;rintro e w3 ⟨a3,k3,rfl,hO,hG⟩;have HN3:=hid (ownZ_nsA hO);have HB3:Hid (Below w.heap.size w w3):=hid (HBW.out.grown hG (by have:=HBW.out.size;omega) (fun r e=>by cases e;exact HB.out.size));clear hO hG;go_wp2_with fail
    exact bodyPost_ret (v:=.tuple #[.slice a3 L.length k3,.int .i64 0]) (by simp [results,go_sem]) rfl ⟨a3,k3,by rw [HLL.out,hil],by rw [HLL.out];exact HN3.out,HB3.out⟩
open Go Go.Pt Go.RowKit Prb
end Go.Proofs.Qm
