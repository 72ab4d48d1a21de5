import Derived.Test.YtchdmecjhaanfaaGreatDoorStrA
import Derived.Test.YtchdmecjhaanfaaGreatDoorDecA
import Derived.Test.YtchdmecjhaanfaaGreatDoorMshA
import Derived.Test.YtchdmecjhaanfaaGreatDoorMshX
import Derived.Test.YtchdmecjhaanfaaGreatDoorNetD
namespace Go.Proofs.YtchdmecjhaanfaaGreatDoor
open Go Go.RowKit Amp Msh
theorem _root_.k33_ {p:Prop} (h:p:=by
 clear hp1 hp2 hnm;go_enter Tryz.func59,Tryz.ntmps59
 go_wp2_with fail
 refine (HP.out _ (hT.below (Grew.below gw0))).mono ?_;rintro e w1 ⟨rfl,g1,n1,rfl⟩;go_wp2_with fail
 go_ret;rw [HX.out];exact ⟨rfl,gw0⟩):p:=h
theorem itoa_one {v:Int} (h0:0≤v) (h9:v≤9):(Lib.itoa v).length=1:=by rw [itoa_small h0 h9];rfl
theorem name_len {s:List UInt8} (h:nameB (strB s)=true):1≤s.length∧s.length≤8:=by
 unfold nameB at h;rw [Bool.and_eq_true,decide_eq_true_iff,strB_size] at h;exact h.1
theorem itT_len {x:It} (h:ItW x):(itT x).length≤10:=by
 obtain ⟨hp,h⟩:=h;have h1:=itoa_one (v:=x.pos) (by omega) (by omega);unfold itT;rcases h with ⟨hk,hn1,hn2,_⟩ | ⟨hk | hk,hn,_⟩ | ⟨hk,hn,hnm⟩
 · have h2:=itoa_one (v:=x.n) (by omega) (by omega)
   rw [if_pos hk,List.length_cons,List.length_append,List.length_cons];omega
 · rw [if_neg (by omega),if_pos hk,List.length_cons]
   omega
 · rw [if_neg (by omega),if_neg (by omega),if_pos hk,List.length_cons]
   omega
 · rw [if_neg (by omega),if_neg (by omega),if_neg (by omega),List.length_append,List.length_cons]
   have:=name_len (s:=x.name.data.toList) (by rw [strB_data];exact hnm);omega
set_option maxHeartbeats 1000000 in
set_option maxRecDepth 100000 in
theorem item_any (x:It) (w:World) (hx:ItW x) (hT:Tab w) :
  Calls Tryz.prog 59 #[.agg #[.int .i64 x.kind,.int .i64 x.pos,.int .i64 x.n,.string x.name]] w fun e w'=>e=.returned (.string (strB (itT x)))∧Grew w w':=by
 obtain ⟨kd,ps,n,nm⟩:=x;obtain ⟨s,rfl⟩:∃ s,nm=strB s:=⟨_,(strB_data _).symm⟩;obtain ⟨⟨hp1,hp2⟩,hx⟩:=hx;dsimp only at hp1 hp2 hx ⊢;have lp:=itoa_one (v:=ps) (by omega) (by omega);rcases hx with ⟨rfl,hn1,hn2,hnm⟩ | ⟨rfl | rfl,rfl,hnm⟩ | ⟨rfl,rfl,hnm⟩
 · have ln:=itoa_one (v:=n) (by omega) (by omega)
   have HP:=hid (fun w (ht:Tab w)=>itoa_any ps w (by omega) (by omega) ht);have HN:=hid (fun w (ht:Tab w)=>itoa_any n w (by omega) (by omega) ht);have HX:=hid (show itT ⟨1,ps,n,strB s⟩=112::(Lib.itoa ps++32::Lib.itoa n) by unfold itT;simp);have l2:((112::Lib.itoa ps)++[32]).length≤100:=by rw [List.length_append,List.length_cons,lp];simp
   clear hp1 hp2 hn1 hn2 hnm;go_enter Tryz.func59,Tryz.ntmps59
   go_wp2_with fail
   refine (HP.out _ (hT.below (Grew.below gw0))).mono ?_;rintro e w1 ⟨rfl,g1,n1,rfl⟩;go_wp2_with fail
   refine (HN.out _ (hT.below (Grew.below gw0))).mono ?_;rintro e w1 ⟨rfl,g2,n2,rfl⟩;go_wp2_with fail
   go_ret;rw [HX.out];exact ⟨rfl,gw0⟩
 · have HP:=hid (fun w (ht:Tab w)=>itoa_any ps w (by omega) (by omega) ht)
   have HX:=hid (show itT ⟨2,ps,0,strB s⟩=99::Lib.itoa ps by unfold itT;simp);exact k33_
 · have HP:=hid (fun w (ht:Tab w)=>itoa_any ps w (by omega) (by omega) ht)
   have HX:=hid (show itT ⟨3,ps,0,strB s⟩=120::Lib.itoa ps by unfold itT;simp);exact k33_
 · have ls:=(name_len hnm).2
   have HP:=hid (fun w (ht:Tab w)=>itoa_any ps w (by omega) (by omega) ht);have HX:=hid (show itT ⟨4,ps,0,strB s⟩=s++64::Lib.itoa ps by unfold itT;simp [strB_of]);have l2:(s++[64]).length≤100:=by rw [List.length_append];simp;omega
   exact k33_
open Go Go.RowKit
def KeptB (b:Nat) (w w':World):Prop:=∀ k cs T fr,k≠b→T≠5→w.heap[k]? = some (.cells cs T fr)→w'.heap[k]? = some (.cells cs T fr)
theorem KeptB.refl (b:Nat) (w:World):KeptB b w w:=fun _ _ _ _ _ _ h=>h
theorem KeptB.trans {b:Nat} {w w1 w2:World} (h:KeptB b w w1) (k:KeptB b w1 w2):KeptB b w w2:=fun i cs T fr h1 h2 h3=>k i cs T fr h1 h2 (h i cs T fr h1 h2 h3)
set_option maxHeartbeats 1000000 in
theorem ccheck_k (B b:Nat) (bs:List Value) (w:World) (h:Lib.IsBuilder 108 5 B b bs w) :
  Calls Tryz.prog 108 #[.pointer (some ⟨b,0,none⟩)] w fun e w'=>e=.returned (.tuple #[])∧(Lib.BuilderAt 108 5 B b (.pointer (some ⟨b,0,none⟩)) bs w'∧Below B w w'∧KeptB b w w'):=by
 rcases h with h | h
 · refine (ccheck_fresh b w h.cell0 h.shape h.frozen0).mono ?_
   rintro e w' ⟨rfl,rfl⟩;exact ⟨rfl,h.used _,(Below.refl B w).setCell (p:=⟨b,0,none⟩) h.1 _,fun k _ _ _ h1 _ h2=>(Below.heap_setCell _ _ _ k h1).trans h2⟩
 · refine (ccheck_used b w h.cell0).mono ?_
   rintro e w' ⟨rfl,rfl⟩;exact ⟨rfl,h,Below.refl B _,KeptB.refl _ _⟩
set_option maxHeartbeats 2000000 in
set_option maxRecDepth 100000 in
theorem wstr_k (B b:Nat) (bs:List Value) (s:ByteArray) (w:World) (h:Lib.IsBuilder 108 5 B b bs w) (hlen:bs.length+s.size≤140737488355328) (hBw:B≤w.heap.size) :
  Calls Tryz.prog 57 #[.pointer (some ⟨b,0,none⟩),.string s] w fun e w'=>(∃ n,e=.returned (.tuple #[.int .i64 n,.nilIface]))∧(Lib.IsBuilder 108 5 B b (bs++Lib.strCells s) w'∧Below B w w'∧KeptB b w w'):=by
 obtain ⟨i0,hi,hz0,hz1,hz2⟩:=info_parts infoByteB;go_enter Tryz.func57,Tryz.ntmps57
 go_wp2_with (go_at_call 108;refine (ccheck_k B b bs _ h).mono ?_)
 rintro e w1 ⟨rfl,h1,hb1,hkk⟩;obtain ⟨hB,v,hbk,hown,hne⟩:=h1;have c0:w1.cell? ⟨b,0,none⟩=some (.pointer (some ⟨b,0,none⟩)):=by rw [Lib.cell_of_heap hbk];rfl
 have c1:w1.cell? ⟨b,1,none⟩=some v:=by rw [Lib.cell_of_heap hbk];rfl
 have HKK:=hid hkk;clear hkk;go_wp2_with (at_builtin;refine Lib.wpList_append_own_string _ rfl _ _ 106 9 rfl B 5 i0 Tryz.underlying106 Tryz.underlying9 hi hz0 hz1 hz2 _ _ _ rfl hown s rfl ?c3 ?c4 ?c5 ?_)
 case c3=>unfold maxLen;omega
 case c4=>omega
 case c5=>have:=hb1.size;omega
 intro v' w2 hown' hgrow _;have hlt:b<w1.heap.size:=(Array.getElem?_eq_some_iff.1 hbk).1;have hb2:w2.heap[b]? = some (.cells #[.pointer (some ⟨b,0,none⟩),v] 108 (0,0)):=by
  rw [hgrow.block b hlt (fun e=>hne e.symm)];exact hbk
 have d0:w2.cell? ⟨b,0,none⟩=some (.pointer (some ⟨b,0,none⟩)):=by rw [Lib.cell_of_heap hb2];rfl
 have d1:w2.cell? ⟨b,1,none⟩=some v:=by rw [Lib.cell_of_heap hb2];rfl
 have f1:w2.frozen? ⟨b,1,none⟩=false:=Lib.frozen_of_heap hb2 1;obtain ⟨ao,n',cap,rfl⟩:∃ ao n' cap,v'=.slice ao n' cap:=by
  rcases hown'.2 with ⟨hv,_⟩ | ⟨g,cap,cur,hv,_⟩
  · exact ⟨_,_,_,hv⟩
  · exact ⟨_,_,_,hv⟩
 have HK2:Hid (KeptB b w1 w2):=hid fun k cs T fr h1 h2 h3=>by
  refine (hgrow.block k (Array.getElem?_eq_some_iff.1 h3).1 fun e=>?_).trans h3;rcases hown.2 with ⟨rfl,_⟩ | ⟨g,cap,cur,rfl,_,hg,_⟩
  · simp [Value.ownBlock] at e
  · simp [Value.ownBlock] at e
    subst e;rw [hg] at h3;injection h3 with h3;injection h3 with _ h3;exact h2 h3.symm
 go_wp2;go_ret2
 refine ⟨⟨_,rfl⟩,.inr ?_, ?_,HKK.out.trans (HK2.out.trans fun k _ _ _ h1 _ h2=>(Below.heap_setCell _ _ _ k h1).trans h2)⟩
 · exact Lib.BuilderAt.put (T:=108) (e:=5) hB hb2 (bs':=bs++Lib.strCells s) (by simpa [Lib.strCells_length] using hown') (by decide)
 · exact (hb1.grown hgrow (by have:=hb1.size;omega) (fun k hk=>(hown.lt k hk).1)).setCell (p:=⟨b,1,none⟩) hB _
theorem wstrK (W0:World) (b:Nat) (l m:List UInt8) (w:World) (h:BldW W0 b l w) (hl:l.length≤100000) (hm:m.length≤100000) :
  Calls Tryz.prog 57 #[.pointer (some ⟨b,0,none⟩),.string (strB m)] w fun e w'=>(∃ n,e=.returned (.tuple #[.int .i64 n,.nilIface]))∧BldW W0 b (l++m) w'∧KeptB b w w':=by
 refine (wstr_k W0.heap.size b (Lib.byteCells l) (strB m) w h.is (by rw [Lib.byteCells_length,strB_size];omega) h.below.size).mono ?_;rintro e w' ⟨he,h1,h2,h3⟩;refine ⟨he,⟨?_,h.below.trans h2,h.tab⟩,h3⟩;have:Lib.byteCells (l++m)=Lib.byteCells l++Lib.strCells (strB m):=by
  simp [Lib.byteCells,Lib.strCells,strB_of]
 rw [this];exact h1
open Go Go.RowKit Amp Msh
theorem hdT_len {c:Cl} (h:ClW c):(hdT c).length≤15:=by
 obtain ⟨hn,hg,_⟩:=h;have h1:=itoa_one (v:=c.gd) (by omega) (by omega);have h2:=name_len (s:=c.name.data.toList) (by rw [strB_data];exact hn);unfold hdT;rw [List.length_append,List.length_append,show (32::Lib.itoa c.gd).length=(Lib.itoa c.gd).length+1 from rfl,h1];show 5+(c.name.data.toList.length+(1+1))≤15
 omega
theorem itsT_len:∀ {l:List It},(∀ x∈l,ItW x)→(itsT l).length≤12*l.length
 | [],_=>Nat.le_refl _
 | [x], h => by
   have:=itT_len (h x List.mem_cons_self);show (32::itT x).length≤12
   rw [List.length_cons];omega
 | x :: y :: t, h => by
   have h1:=itT_len (h x List.mem_cons_self);have h2:=itsT_len (l:=y::t) fun z hz=>h z (List.mem_cons_of_mem _ hz)
   show ((32::itT x)++(59::itsT (y::t))).length≤_
   have e:(x::y::t).length=(y::t).length+1:=rfl;rw [e,List.length_append,show (32::itT x).length=(itT x).length+1 from rfl,show (59::itsT (y::t)).length=(itsT (y::t)).length+1 from rfl];omega
theorem clT_len {c:Cl} (h:ClW c) (hi:c.items.length≤200):(clT c).length≤2416:=by
 have h1:=hdT_len h;have h2:=itsT_len h.2.2;unfold clT;rw [List.length_append,List.length_cons];omega
theorem netT_len:∀ {L:List Cl},(∀ c∈L,ClW c∧c.items.length≤200)→(netT L).length≤2417*L.length
 | [],_=>Nat.le_refl _
 | c :: t, h => by
   obtain ⟨h1,h2⟩:=h c List.mem_cons_self;have h3:=clT_len h1 h2;have h4:=netT_len (L:=t) fun d hd=>h d (List.mem_cons_of_mem _ hd)
   show (clT c++10::netT t).length≤_
   rw [List.length_append,List.length_cons,List.length_cons];omega
theorem vnet_wi {L:List Cl} (h:vnet L=true):∀ c∈L,ClW c∧c.items.length≤200:=fun c hc=>by
 refine ⟨vnet_w h c hc, ?_⟩;obtain ⟨i,hi⟩:=List.mem_iff_getElem?.1 hc;exact (vcell_iff.1 ((vnet_all h).2 i c hi)).2.2.2.1
theorem netT_take {L:List Cl} (h:vnet L=true) (i:Nat):(netT (L.take i)).length≤48340:=by
 have h1:=netT_len (L:=L.take i) fun c hc=>vnet_wi h c (List.mem_of_mem_take hc)
 have h2:=(vnet_all h).1.2;have h3:(L.take i).length≤20:=by rw [List.length_take];omega
 omega
theorem Its.belowT {w w':World} {a0:Option Addr} {l:List It} (h:Its w a0 l) (hb:Below w.heap.size w w'):Its w' a0 l:=by
 rcases h with h | ⟨b,off,h,hl,hc⟩
 · exact .inl h
 · refine .inr ⟨b,off,h,Nat.lt_of_lt_of_le hl hb.size,fun i z hz=>?_⟩
   obtain ⟨c0,c1,c2,c3⟩:=hc i z hz;exact ⟨(hb.cell (p:=⟨b,_,none⟩) hl).trans c0,(hb.cell (p:=⟨b,_,none⟩) hl).trans c1,(hb.cell (p:=⟨b,_,none⟩) hl).trans c2,(hb.cell (p:=⟨b,_,none⟩) hl).trans c3⟩
theorem Net.below {w w':World} {a0:Option Addr} {L:List Cl} (h:Net w a0 L) (hb:Below w.heap.size w w'):Net w' a0 L:=by
 rcases h with h | ⟨b,off,h,hl,hc⟩
 · exact .inl h
 · refine .inr ⟨b,off,h,Nat.lt_of_lt_of_le hl hb.size,fun i c hi=>?_⟩
   obtain ⟨c0,c1,a,k,c2,c3⟩:=hc i c hi;exact ⟨(hb.cell (p:=⟨b,_,none⟩) hl).trans c0,(hb.cell (p:=⟨b,_,none⟩) hl).trans c1,a,k,(hb.cell (p:=⟨b,_,none⟩) hl).trans c2,c3.belowT hb⟩
@[go_sem 100000] theorem run_str_cell (b:List UInt8) (w:World) (h:b.length≤4611686018427387903):(binOp .add 9 (.string ⟨#[99,101,108,108,32]⟩) (.string (strB b))).run Tryz.prog w=.ok (.string (strB ([99,101,108,108,32]++b))) w:=run_str_add [99,101,108,108,32] b w (by simp;omega)
theorem its_take {l:List It} {k:Nat} {x:It} (h:l[k]? = some x):itsT (l.take (k+1))=itsT (l.take k)++((if k=0 then [] else [59])++32::itT x):=by
 have hlt:=(List.getElem?_eq_some_iff.1 h).1;rw [List.take_add_one,h];show itsT (l.take k++[x])=_
 rw [itsT_snoc];by_cases hk:k=0
 · subst hk
   rw [List.take_zero,if_pos rfl,if_pos rfl]
 · rw [if_neg hk,if_neg fun e=>hk (by have:=congrArg List.length e;rw [List.length_take,List.length_nil] at this;omega)]
theorem net_take {L:List Cl} {k:Nat} {c:Cl} (h:L[k]? = some c):netT (L.take (k+1))=netT (L.take k)++(clT c++[10]):=by
 rw [List.take_add_one,h];exact netT_snoc c _
theorem keptB_cell {b k i:Nat} {w w':World} {cs:Array Value} {T:TypeId} (h:KeptB b w w') (hb:w.heap[k]? = some (.cells cs T (0,0))) (h1:k≠b) (h2:T≠5):w'.cell? ⟨k,i,none⟩=cs[i]? := by
 rw [Lib.cell_of_heap (h k cs T _ h1 h2 hb)]
set_option maxRecDepth 100000 in
set_option maxHeartbeats 8000000 in
theorem textN_any (a0:Option Addr) (cap:Nat) (L:List Cl) (w:World) (hN:Net w a0 L) (hv:vnet L=true) (hT:Tab w) :
  Calls Tryz.prog 30 #[.slice a0 L.length cap] w fun e w'=>e=.returned (.string (strB (netT L)))∧Below w.heap.size w w':=by
 have h0:=hid (bld_new w hT);have HN:=hid hN;have HV:=hid hv;have HT:=hid hT;have hL20:L.length≤20:=(vnet_all hv).1.2;clear hN hv hT;go_enter Tryz.func30,Tryz.ntmps30
 go_wp2_with fail
 go_loopw [10] (fun v wr=>∃ i:Nat,i≤L.length∧v=.int .i64 i∧Hid (BldW w w.heap.size (netT (L.take i)) wr)) (fun v _=>L.length - (intOf v).toNat)
 case atStart=>exact ⟨0,Nat.zero_le _,rfl,h0⟩
 case round =>
  obtain ⟨i,hi,rfl,HB⟩:=hrel;clear h0;by_cases hlt:i<L.length
  case neg =>
   obtain rfl:i=L.length:=by omega
   have hB:=HB.out;rw [List.take_length] at hB;clear HB;go_wp2_with (go_at_call 60;refine (bstrW _ _ _ _ hB).mono ?_;rintro e w1 ⟨rfl,hBe⟩)
   go_ret;exact ⟨rfl,hBe⟩
  case pos =>
   obtain ⟨c,hc⟩:∃ c,L[i]? = some c:=⟨L[i],List.getElem?_eq_getElem hlt⟩;obtain ⟨b,off,rfl,hb0,c0,c1,a2,k2,c2,hits⟩:=HN.out.cells hc;have hbw:=HB.out.below;have c0:=(hbw.cell (p:=⟨b,_,none⟩) hb0).trans c0;have c1:=(hbw.cell (p:=⟨b,_,none⟩) hb0).trans c1;have c2:=(hbw.cell (p:=⟨b,_,none⟩) hb0).trans c2;have hb:=Nat.lt_of_lt_of_le hb0 hbw.size;have hw:=vnet_wi HV.out c (List.mem_of_getElem? hc);have hni:=net_take hc;have hlX:=netT_take HV.out i;have hhd:=hdT_len hw.1;have h200:=hw.2;have HIW:=hid hw.1.2.2;have hgd:=hw.1.2.1;have hnm:=name_len (s:=c.name.data.toList) (by rw [strB_data];exact hw.1.1);obtain ⟨nm,hnmq⟩:∃ nm,c.name=strB nm:=⟨_,(strB_data _).symm⟩;have HHD:=hid (show hdT c++[58]=[99,101,108,108,32]++nm++[32]++Lib.itoa c.gd++[58] by unfold hdT;rw [hnmq,strB_of];simp);rw [hnmq] at c0;rw [hnmq,strB_of] at hnm;have HCL:=hid (show clT c++[10]=(hdT c++[58])++(itsT c.items++[10]) by unfold clT;simp);obtain ⟨gd,hgq⟩:∃ g,c.gd=g:=⟨_,rfl⟩;obtain ⟨its,hiq⟩:∃ l,c.items=l:=⟨_,rfl⟩;obtain ⟨X,hX⟩:∃ X,netT (L.take i)=X:=⟨_,rfl⟩;obtain ⟨D,hD⟩:∃ D,hdT c++[58]=D:=⟨_,rfl⟩;have hDl:D.length≤16:=by rw [← hD,List.length_append];simp;omega
   rw [hgq] at c1 hgd HHD;rw [hiq] at c2 hits h200 HIW HCL;rw [hX] at HB hlX hni;rw [hD] at HHD HCL;have HNI:=hid (hni.trans (by rw [HCL.out]));have hlg:=itoa_one (v:=gd) (by omega) (by omega);have hES:=hid (show (⟨#[99,101,108,108,32]⟩:ByteArray)++strB nm++⟨#[32]⟩++strB (Lib.itoa gd)++⟨#[58]⟩=strB D by
    rw [HHD.out,show (⟨#[99,101,108,108,32]⟩:ByteArray)=strB [99,101,108,108,32] from rfl,show (⟨#[32]⟩:ByteArray)=strB [32] from rfl,show (⟨#[58]⟩:ByteArray)=strB [58] from rfl,strB_append,strB_append,strB_append,strB_append])
   have HIT:=hid hits;have HGD:=hid fun w' (g:Grew wr w')=>itoa_any gd w' (by omega) (by omega) (HT.out.below (HB.out.below.trans (g.below.mono HB.out.below.size)))
   have HLT:=hid hlt;have HIX:=hid fun (k:Nat) (x:It) (h:its[k]? = some x)=>And.intro (its_take h) (HIW.out x (List.mem_of_getElem? h))
   have HIL:=hid fun k=>itsT_len (l:=its.take k) fun x hx=>HIW.out x (List.mem_of_mem_take hx)
   have hbne:wr.heap.size≠w.heap.size:=by
    have h1:w.heap.size<wr.heap.size:=by
     rcases HB.out.is with h | h
     · obtain ⟨_,v,hb,_⟩:=h
       exact (Array.getElem?_eq_some_iff.1 hb).1
     · obtain ⟨_,v,hb,_⟩:=h
       exact (Array.getElem?_eq_some_iff.1 hb).1
    omega
   have HNE:=hid hbne;clear hc hnmq hgq hiq hX hD hits hni hgd hw HCL HHD hhd hb0 hbw hbne HN;have hb1:=fun m0:Nat=>Nat.lt_add_right m0 (hb)
   have hb2:=fun m0 m1:Nat=>Nat.lt_add_right m1 (hb1 m0)
   have hb3:=fun m0 m1 m2:Nat=>Nat.lt_add_right m2 (hb2 m0 m1)
   go_wp2_with fail
   refine R3.wp_region_gentle_tail 9 (by kernel_rfl) (by kernel_rfl) (by kernel_rfl) ?_;simp only [List.take_succ_cons,List.take_zero,List.drop_succ_cons,List.drop_zero];repeat (first | go_big_quiet_skip | (go_big_quiet_want;go_big_quiet_op;first | go_big_quiet_on | (apply Exists.intro;refine ⟨fun qq=>?_, ?_⟩;(focus ((first | (go_at_call 58;with_reducible refine Calls.gentle_of (HGD.out _ gw0) ?_));rintro _ ⟨g',n',rfl⟩;exact ⟨⟨qq.g++g',qq.n+n'⟩,by rw [World.grow_drewN,World.grow_grow,World.drewN_drewN];repeat (first | rw [List.append_assoc] | rw [Nat.add_assoc])⟩));go_big_quiet_on)))
   refine wpQuiet_nil ?_;rintro _ ⟨gg,ng,rfl⟩;rw [hES.out];have hG:Grew wr (((wr.alloc (.cells #[.string (strB nm),.int .i64 gd,.slice a2 its.length k2] 28)).grow gg).drewN ng):=gw0;have hB1:=HB.out.grew hG;have h5:(((wr.alloc (.cells #[.string (strB nm),.int .i64 gd,.slice a2 its.length k2] 28)).grow gg).drewN ng).heap[wr.heap.size]? = some (.cells #[.string (strB nm),.int .i64 gd,.slice a2 its.length k2] 28 (0,0)):=(Grew.block (a:=wr.alloc _) ⟨gg,ng,rfl⟩ _ (by rw [World.size_alloc];omega)).trans (blk_new rfl);obtain ⟨W1,hW1⟩:∃ W1,((wr.alloc (.cells #[.string (strB nm),.int .i64 gd,.slice a2 its.length k2] 28)).grow gg).drewN ng=W1:=⟨_,rfl⟩;rw [hW1] at hB1 h5;rw [hW1];obtain ⟨b5,hb5⟩:∃ b5,wr.heap.size=b5:=⟨_,rfl⟩;rw [hb5] at h5 HNE;rw [hb5];have H5:=hid h5;have HLX:=hid hlX;clear hG hW1 h5 c0 c1 c2 hES hlg hnm hb hb1 hb2 hb3 HGD HB hb5 hlX;go_wp2_with (go_at_call 57;refine (wstrK w w.heap.size X D _ hB1 (by have:=HLX.out;omega) (by omega)).mono ?_;rintro e w2 ⟨⟨n',rfl⟩,hB2,hK2⟩;have hB2:=hid hB2;have hy2:=keptB_cell (i:=2) hK2 H5.out HNE.out (by decide);have hz5:=(Array.getElem?_eq_some_iff.1 (hK2 _ _ _ _ HNE.out (by decide) H5.out)).1;clear hK2 hB1 H5;simp at hy2)
   go_loopw [27] (fun v ws=>∃ k:Nat,k≤its.length∧v=.int .i64 k∧Hid (BldW w w.heap.size (X++D++itsT (its.take k)) ws)) (fun v _=>its.length - (intOf v).toNat)
   case atStart=>exact ⟨0,Nat.zero_le _,rfl,by rw [List.take_zero,show itsT []=[] from rfl,List.append_nil];exact hB2⟩
   case round =>
    obtain ⟨k,hk,rfl,HB⟩:=hrel;clear hB2 hy2 hz5;by_cases hlk:k<its.length
    case neg =>
     obtain rfl:k=its.length:=by omega
     have hB:=HB.out;rw [List.take_length] at hB;have hll:=HIL.out its.length;rw [List.take_length] at hll;obtain ⟨Y,hY⟩:∃ Y,X++D++itsT its=Y:=⟨_,rfl⟩;have hYl:Y.length≤60000:=by rw [← hY,List.length_append,List.length_append];have:=HLX.out;omega
     rw [hY] at hB;have HNI:=hid (HNI.out.trans (show _=Y++[10] by rw [← hY];simp));have HYL:=hid hYl;clear hY hYl hll HB hk hlk HIL HLX;go_wp2_with (go_at_call 57;refine (wstrK w w.heap.size Y [10] _ hB (by have:=HYL.out;omega) (by simp)).mono ?_;rintro e w3 ⟨⟨n',rfl⟩,hB3,hK3⟩)
     have HB3:=hid hB3;clear hK3 hB hB3;go_roundw
     case rel=>exact ⟨i+1,HLT.out,by go_num,hid (by rw [HNI.out];exact HB3.out)⟩
     case measure=>have:=HLT.out;simp [intOf];omega
    case pos =>
     obtain ⟨z,hz⟩:∃ z,its[k]? = some z:=⟨its[k],List.getElem?_eq_getElem hlk⟩;obtain ⟨h1,hzw⟩:=HIX.out k z hz;obtain ⟨bz,oz,rfl,hbz,z0,z1,z2,z3⟩:=(HIT.out.belowT HB.out.below).cells hz;have hll:=HIL.out k;have htl:(its.take k).length=k:=by rw [List.length_take];omega
     rw [htl] at hll;have hzl:=itT_len hzw;obtain ⟨T,hT⟩:∃ T,itT z=T:=⟨_,rfl⟩;obtain ⟨Y,hY⟩:∃ Y,X++D++itsT (its.take k)=Y:=⟨_,rfl⟩;have hYl:Y.length≤60000:=by rw [← hY,List.length_append,List.length_append];have:=HLX.out;omega
     rw [hT] at h1 hzl;rw [hY] at HB;have HIM:=hid fun w' (ht:Tab w')=>item_any z w' hzw ht
     rw [hT] at HIM;have HH1:=hid h1;have HZ:=hid hzl;have HYL:=hid hYl;have HYY:=hid hY;have HLK:=hid hlk;have hbne:wr.heap.size≠w.heap.size:=by
      have h1:w.heap.size<wr.heap.size:=by
       rcases HB.out.is with h | h
       · obtain ⟨_,v,hb,_⟩:=h
         exact (Array.getElem?_eq_some_iff.1 hb).1
       · obtain ⟨_,v,hb,_⟩:=h
         exact (Array.getElem?_eq_some_iff.1 hb).1
      omega
     have HNEW:=hid hbne;have hB:=HB.out.grew ((Grew.refl wr).alloc (.cells #[.int .i64 z.kind,.int .i64 z.pos,.int .i64 z.n,.string z.name] 51));have h7:(wr.alloc (.cells #[.int .i64 z.kind,.int .i64 z.pos,.int .i64 z.n,.string z.name] 51)).heap[wr.heap.size]? = some (.cells #[.int .i64 z.kind,.int .i64 z.pos,.int .i64 z.n,.string z.name] 51 (0,0)):=blk_new rfl;have H7:=hid h7;clear hz h1 hzw hll htl hT hY hYl hbne h7 HB HIX HIL;have hbz1:=fun m0:Nat=>Nat.lt_add_right m0 (hbz)
     have hbz2:=fun m0 m1:Nat=>Nat.lt_add_right m1 (hbz1 m0)
     have hbz3:=fun m0 m1 m2:Nat=>Nat.lt_add_right m2 (hbz2 m0 m1)
     by_cases hk0:k=0
     case pos =>
      have HH:=hid (show X++D++itsT (its.take (k+1))=Y++32::T by rw [HH1.out,if_pos hk0,List.nil_append,← List.append_assoc,HYY.out]);have hk1:decide (0<k)=false:=decide_eq_false (by omega);clear HH1 HYY hk0;go_wp2_with (first | (go_at_call 59;refine (HIM.out _ (HT.out.below hB.below)).mono ?_;rintro e w3 ⟨rfl,g3⟩;have hB3:=hB.grew g3;clear hB g3) | (go_at_call 57;refine (wstrK w w.heap.size Y (32::T) _ hB3 (by have:=HYL.out;omega) (by have:=HZ.out;rw [List.length_cons];omega)).mono ?_;rintro e w4 ⟨⟨n',rfl⟩,hB4,hK4⟩;have HB4:=hid hB4;clear hB4 hK4))
      go_roundw
      case rel=>exact ⟨k+1,HLK.out,by go_num,hid (by rw [HH.out];exact HB4.out)⟩
      case measure=>have:=HLK.out;simp [intOf];omega
     case neg =>
      have HH:=hid (show X++D++itsT (its.take (k+1))=(Y++[59])++32::T by rw [HH1.out,if_neg hk0,← List.append_assoc,HYY.out];simp);have hk1:decide (0<k)=true:=decide_eq_true (by omega);clear HH1 HYY hk0;go_wp2_with (go_at_call 57;refine (wstrK w w.heap.size Y [59] _ hB (by have:=HYL.out;omega) (by simp)).mono ?_;rintro e w3 ⟨⟨n',rfl⟩,hB3,hK3⟩;have y0:=keptB_cell (i:=0) hK3 H7.out HNEW.out (by decide);have y1:=keptB_cell (i:=1) hK3 H7.out HNEW.out (by decide);have y2:=keptB_cell (i:=2) hK3 H7.out HNEW.out (by decide);have y3:=keptB_cell (i:=3) hK3 H7.out HNEW.out (by decide);have hzz:=(Array.getElem?_eq_some_iff.1 (hK3 _ _ _ _ HNEW.out (by decide) H7.out)).1;clear hK3 hB H7;simp at y0 y1 y2 y3)
      go_wp2_with (first | (go_at_call 59;refine (HIM.out _ (HT.out.below hB3.below)).mono ?_;rintro e w4 ⟨rfl,g4⟩;have hB4:=hB3.grew g4;clear hB3 g4) | (go_at_call 57;refine (wstrK w w.heap.size (Y++[59]) (32::T) _ hB4 (by have:=HYL.out;rw [List.length_append];simp;omega) (by have:=HZ.out;rw [List.length_cons];omega)).mono ?_;rintro e w5 ⟨⟨n',rfl⟩,hB5,hK5⟩;have HB5:=hid hB5;clear hB5 hK5))
      go_roundw
      case rel=>exact ⟨k+1,HLK.out,by go_num,hid (by rw [HH.out];exact HB5.out)⟩
      case measure=>have:=HLK.out;simp [intOf];omega
open Go Go.RowKit Amp Msh
def fmtN (L:List Cl):List UInt8 × Int:=if vnet L=true then (if (netT L).length≤4000 then (netT L,0) else ([],4)) else ([],30)
set_option maxHeartbeats 1000000 in
theorem formatN_any (a0:Option Addr) (cap:Nat) (L:List Cl) (w:World) (hl:L.length≤9223372036854775807) (hN:Net w a0 L) (hk:CsOk L) (hT:Tab w) :
  Calls Tryz.prog 13 #[.slice a0 L.length cap] w fun e w'=>e=.returned (.tuple #[.string (strB (fmtN L).1),.int .i64 (fmtN L).2])∧Below w.heap.size w w':=by
 have HV:=hid (vnetP_any a0 cap L w hl hN hk);have HN:=hid hN;have HT:=hid hT;by_cases hv:vnet L=true
 case neg =>
  have HF:=hid (show fmtN L=([],30) by unfold fmtN;rw [if_neg hv]);rw [show vnet L=false by simpa using hv] at HV;clear hv hN hT hk;go_enter Tryz.func13,Tryz.ntmps13
  go_wp2_with fail
  refine HV.out.mono ?_;rintro e w1 ⟨rfl,g1,n1,rfl⟩;go_wp2_with fail
  go_ret2
  rw [HF.out];exact ⟨rfl,Grew.below gw0⟩
 case pos =>
  have HX:=hid fun w' (hg:Grew w w')=>textN_any a0 cap L w' (HN.out.grew hg) hv (HT.out.below hg.below)
  have hlen:=netT_len (L:=L) (vnet_wi hv);have hl20:=(vnet_all hv).1.2;have HF:=hid (show fmtN L=if (netT L).length≤4000 then (netT L,0) else ([],4) by unfold fmtN;rw [if_pos hv]);rw [hv] at HV;obtain ⟨T,hTq⟩:∃ T,netT L=T:=⟨_,rfl⟩;rw [hTq] at HX HF hlen;have hTl:T.length≤9223372036854775807:=by omega
  clear hv hN hT hk hTq hlen;by_cases h4:T.length≤4000
  · have HF:=hid (HF.out.trans (if_pos h4))
    have d1:decide ((4000:Int)<T.length)=false:=decide_eq_false (by omega);clear h4;go_enter Tryz.func13,Tryz.ntmps13
    go_wp2_with fail
    refine HV.out.mono ?_;rintro e w1 ⟨rfl,g1,n1,rfl⟩;go_wp2_with fail
    refine (HX.out _ gw0).mono ?_;rintro e w2 ⟨rfl,hb2⟩;have HB2:=hid hb2;clear hb2;go_wp2_with fail
    go_ret2
    rw [HF.out];exact ⟨rfl,(Grew.below gw0).trans (HB2.out.mono (Grew.size gw0))⟩
  · have HF:=hid (HF.out.trans (if_neg h4))
    have d1:decide ((4000:Int)<T.length)=true:=decide_eq_true (by omega);clear h4;go_enter Tryz.func13,Tryz.ntmps13
    go_wp2_with fail
    refine HV.out.mono ?_;rintro e w1 ⟨rfl,g1,n1,rfl⟩;go_wp2_with fail
    refine (HX.out _ gw0).mono ?_;rintro e w2 ⟨rfl,hb2⟩;have HB2:=hid hb2;clear hb2;go_wp2_with fail
    go_ret2
    rw [HF.out];exact ⟨rfl,(Grew.below gw0).trans (HB2.out.mono (Grew.size gw0))⟩
end Go.Proofs.YtchdmecjhaanfaaGreatDoor
