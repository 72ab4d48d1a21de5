/- Layer 9, in main's ghost: lists of tests: which fit. Condition: they lie in memory. -/
import Derived.Test.YtnceajabigdleaaDoorPtQ7
import Derived.Test.YtnceajabigdleaaDoorPtQ8
namespace Go.Proofs.Qm
open Go Go.Pt Go.RowKit Prb
structure Tq where
 t:Tst
 b:List Bool
def TqAt (w:World) (a:Option Addr) (l:List Tq):Prop:=∀ i z,l[i]? = some z→∃ b off:Nat,a=some ⟨b,off,none⟩∧b<w.heap.size∧(w.cell? ⟨b,off+i*3,none⟩=some (.slice z.t.a z.t.len z.t.cap)∧w.cell? ⟨b,off+i*3+1,none⟩=some (.int .i64 z.t.i)∧w.cell? ⟨b,off+i*3+2,none⟩=some (.int .i64 z.t.o))∧z.t.len≤9223372036854775807∧TurnAt w z.t.a z.t.len z.b
theorem TurnAt.below {w w':World} {a:Option Addr} {len:Nat} {l:List Bool} (h:TurnAt w a len l) (hg:Below w.heap.size w w'):TurnAt w' a len l:=by
 refine ⟨h.1,h.2.imp id ?_⟩;rintro ⟨b,off,rfl,hb,hc⟩;exact ⟨b,off,rfl,Nat.lt_of_lt_of_le hb hg.size,hc.below hb hg⟩
theorem TqAt.below {w w':World} {a:Option Addr} {l:List Tq} (h:TqAt w a l) (hg:Below w.heap.size w w'):TqAt w' a l:=fun i z hz=>by
 obtain ⟨b,off,rfl,hb,⟨c0,c1,c2⟩,hl,ht⟩:=h i z hz;have key:∀ k:Nat,w'.cell? ⟨b,k,none⟩=w.cell? ⟨b,k,none⟩:=fun k=>by simp only [World.cell?,hg.block b hb]
 exact ⟨b,off,rfl,Nat.lt_of_lt_of_le hb hg.size,⟨(key _).trans c0,(key _).trans c1,(key _).trans c2⟩,hl,ht.below hg⟩
theorem TqAt.grew {w w':World} {a:Option Addr} {l:List Tq} (h:TqAt w a l) (hg:Grew w w'):TqAt w' a l:=h.below hg.below
theorem TqAt.tsAt {w:World} {b off:Nat} {l:List Tq} (h:TqAt w (some ⟨b,off,none⟩) l):TsAt w b off (l.map (·.t)):=fun i z hz=>by
 rw [List.getElem?_map] at hz;cases hq:l[i]? with
 | none=>rw [hq] at hz;cases hz
 | some q =>
   rw [hq] at hz;obtain rfl:=Option.some.inj hz;obtain ⟨b',off',e,hb,hc,hl,_⟩:=h i q hq;obtain ⟨rfl,rfl⟩:b=b'∧off=off':=by injection e with e;injection e with e1 e2;exact ⟨e1,e2⟩
   exact ⟨hc,hl⟩
def tqsB (n:Int) (l:List Tq):Bool:=tstsB n (l.map (·.t))
theorem tqsB_step {n:Int} {l:List Tq} {i:Nat} {z:Tq} (hz:l[i]? = some z) (hv:tstB n z.t=true) (h:tqsB n (l.take i)=true):tqsB n (l.take (i+1))=true:=by
 unfold tqsB at *
 rw [List.map_take] at *
 exact tstsB_step (by rw [List.getElem?_map,hz];rfl) hv h
theorem tqsB_cut {n:Int} {l:List Tq} {i:Nat} {z:Tq} (hz:l[i]? = some z) (hv:tstB n z.t=false):tqsB n l=false:=tstsB_cut (i:=i) (z:=z.t) (by rw [List.getElem?_map,hz];rfl) hv
theorem tqsB_at {n:Int} {l:List Tq} (h:tqsB n l=true):∀ z∈l,tstB n z.t=true:=fun z hz=>by
 unfold tqsB tstsB at h;exact List.all_eq_true.1 h z.t (List.mem_map_of_mem hz)
theorem tq_fits {n:Int} {z:Tq} (_:n=2∨n=4) (h:tstB n z.t=true):z.t.len=cntZ n∧0≤z.t.i∧z.t.i≤n - 1∧0≤z.t.o∧z.t.o≤n - 1:=by
 unfold tstB fitB at h;simp only [Bool.and_eq_true,decide_eq_true_eq] at h;obtain ⟨⟨h1,h2,h3⟩,h4,h5⟩:=h;exact ⟨h1,h2,h3,h4,h5⟩
set_option maxHeartbeats 1600000 in
theorem fit_nil (n:Int) (a:Option Addr) (cap:Nat) (w:World):Calls prog 40 #[.int .i64 n,.slice a 0 cap] w fun e w'=>e=.returned (.bool true)∧Grew w w':=by
 have HI:=hid fun (f:Value) (w:World)=>show Calls prog 75 #[.slice a 0 cap,f] w fun e w'=>e=.returned (.int .i64 (-1))∧Grew w w' by
  go_enter func75,ntmps75
  go_wp2_with fail
  refine wp_loop_rounds 2 ?_;simp only [rounds_succ];go_wp2_with fail
  exact bodyPost_ret (v:=.int .i64 (-1)) (by simp [results,go_sem]) rfl ⟨rfl,gw0⟩
 have HH:=hid fun (f:Value) (w:World)=>show Calls prog 50 #[.slice a 0 cap,f] w fun e w'=>e=.returned (.bool false)∧Grew w w' by
  go_enter func50,ntmps50
  go_wp2_with fail
  refine (HI.out _ _).mono ?_;rintro e w' ⟨rfl,g,k,rfl⟩;go_wp2_with fail
  exact bodyPost_ret (v:=.bool false) (by simp [results,go_sem]) rfl ⟨rfl,gw0⟩
 go_enter func40,ntmps40
 go_wp2_with fail
 refine (HH.out _ _).mono ?_;rintro e w' ⟨rfl,g,k,rfl⟩;go_wp2_with fail
 exact bodyPost_ret (v:=.bool true) (by simp [results,go_sem]) rfl ⟨rfl,gw0⟩
theorem fit_any (n:Int) (hn:n=2∨n=4) (a:Option Addr) (cap:Nat) (l:List Tq) (w:World) (hl:l.length≤9223372036854775807) (hc:TqAt w a l) :
  Calls prog 40 #[.int .i64 n,.slice a l.length cap] w fun e w'=>e=.returned (.bool (decide (l.length≤40)&&tqsB n l))∧Grew w w':=by
 cases l with
 | nil=>exact fit_nil n a cap w
 | cons z r =>
   obtain ⟨b,off,rfl,hb,_⟩:=hc 0 z rfl;have h:=fit_some n b off cap ((z::r).map (·.t)) w hn hb (by simpa using hl) hc.tsAt;rw [List.length_map] at h;exact h
def manyB (l:List Tq):Bool:=(l.any fun z=>decide (40<z.t.len))||decide (45<l.length)
set_option maxHeartbeats 3200000 in
theorem many_any (a:Option Addr) (cap:Nat) (l:List Tq) (w:World) (hl:l.length≤9223372036854775807) (hc:TqAt w a l) :
  Calls prog 13 #[.slice a l.length cap] w fun e w'=>e=.returned (.bool (manyB l))∧Grew w w':=by
 have HC:=hid hc;clear hc;go_enter func13,ntmps13
 go_wp2_with fail
 go_loopw [7] (fun v wr=>∃ i:Nat,i≤l.length∧v=.int .i64 i∧Hid (((l.take i).any fun z=>decide (40<z.t.len))=false)∧Grew w wr) (fun v _=>l.length - (intOf v).toNat)
 case atStart=>exact ⟨0,Nat.zero_le _,rfl,rfl,Grew.refl _⟩
 case round =>
  obtain ⟨i,hi,rfl,hp,g,k,rfl⟩:=hrel;by_cases hlt:i<l.length
  · obtain ⟨z,hz⟩:∃ z,l[i]? = some z:=⟨l[i],List.getElem?_eq_getElem hlt⟩
    obtain ⟨b,off,rfl,hb,⟨c0,c1,c2⟩,hzl,_⟩:=HC.out i z hz;have hb1:=fun m0:Nat=>Nat.lt_add_right m0 (hb)
    have Hz:=hid hz;clear hz;by_cases hv:40<z.t.len
    · have HM:Hid (manyB l=true):=hid (by
       unfold manyB;rw [Bool.or_eq_true];exact .inl (List.any_eq_true.2 ⟨z,List.mem_of_getElem? Hz.out,decide_eq_true hv⟩))
      go_wp2_with fail
      exact bodyPost_ret (v:=.bool true) (by simp [results,go_sem]) rfl ⟨by rw [HM.out],gw0⟩
    · have HN:Hid (((l.take (i+1)).any fun z=>decide (40<z.t.len))=false):=hid (by
       rw [List.take_add_one,Hz.out,Option.toList_some,List.any_append,hp.out];simp only [List.any_cons,List.any_nil,Bool.or_false,Bool.false_or];exact decide_eq_false hv)
      go_wp2_with fail
      go_roundw
      case rel=>exact ⟨i+1,by omega,by go_num,HN,gw0⟩
      case measure=>simp [intOf];omega
  · obtain rfl:i=l.length:=by omega
    have HM:Hid (manyB l=decide (45<l.length)):=hid (by
     have:=hp.out;rw [List.take_length] at this;unfold manyB;rw [this,Bool.false_or])
    clear hp;by_cases h45:45<l.length
    · have h3:decide ((45:Int)<(l.length:Int))=true:=decide_eq_true (by omega)
      go_wp2_with fail
      exact bodyPost_ret (v:=.bool true) (by simp [results,go_sem]) rfl ⟨by rw [HM.out,decide_eq_true h45],gw0⟩
    · have h3:decide ((45:Int)<(l.length:Int))=false:=decide_eq_false (by omega)
      go_wp2_with fail
      exact bodyPost_ret (v:=.bool false) (by simp [results,go_sem]) rfl ⟨by rw [HM.out,decide_eq_false h45],gw0⟩
set_option maxHeartbeats 3200000 in
theorem areTests_any (n:Int) (hn:n=2∨n=4) (a:Option Addr) (cap:Nat) (l:List Tq) (w:World) (hl:l.length≤9223372036854775807) (hc:TqAt w a l) :
  Calls prog 45 #[.int .i64 n,.slice a l.length cap] w fun e w'=>e=.returned (.bool (decide (l.length≤40)&&tqsB n l))∧Grew w w':=by
 have HC:=hid hc;have HT:=hid fun (t:Tst) (w:World) (hl:t.len≤9223372036854775807)=>isTest_any n t w hn hl
 clear hc hn;go_enter func45,ntmps45
 go_wp2_with fail
 go_loopw [9] (fun v wr=>∃ i:Nat,i≤l.length∧v=.int .i64 i∧Hid (tqsB n (l.take i)=true)∧Grew w wr) (fun v _=>l.length - (intOf v).toNat)
 case atStart=>exact ⟨0,Nat.zero_le _,rfl,rfl,Grew.refl _⟩
 case round =>
  obtain ⟨i,hi,rfl,hp,g,k,rfl⟩:=hrel;by_cases hlt:i<l.length
  · obtain ⟨z,hz⟩:∃ z,l[i]? = some z:=⟨l[i],List.getElem?_eq_getElem hlt⟩
    obtain ⟨b,off,rfl,hb,⟨c0,c1,c2⟩,hzl,_⟩:=HC.out i z hz;have hb1:=fun m0:Nat=>Nat.lt_add_right m0 (hb)
    have Hz:=hid hz;have HZT:=hid fun w=>HT.out z.t w hzl
    clear hz;by_cases hv:tstB n z.t=true
    · rw [hv] at HZT
      have HN:=hid (tqsB_step Hz.out hv hp.out);clear hv;go_wp2_with fail
      refine (HZT.out _).mono ?_;rintro e w' ⟨rfl,g1,k1,rfl⟩;go_wp2_with fail
      go_roundw
      case rel=>exact ⟨i+1,by omega,by go_num,HN.out,gw0⟩
      case measure=>simp [intOf];omega
    · have hv:tstB n z.t=false:=by simpa using hv
      rw [hv] at HZT;have HN:=hid (tqsB_cut Hz.out hv);clear hv;go_wp2_with fail
      refine (HZT.out _).mono ?_;rintro e w' ⟨rfl,g1,k1,rfl⟩;go_wp2_with fail
      exact bodyPost_ret (v:=.bool false) (by simp [results,go_sem]) rfl ⟨by rw [HN.out,Bool.and_false],gw0⟩
  · obtain rfl:i=l.length:=by omega
    have HM:Hid (tqsB n l=true):=hid (by have:=hp.out;rw [List.take_length] at this;exact this);clear hp;by_cases h40:l.length≤40
    · have h3:decide ((l.length:Int)≤40)=true:=decide_eq_true (by omega)
      go_wp2_with fail
      exact bodyPost_ret (v:=.bool true) (by simp [results,go_sem]) rfl ⟨by rw [HM.out,decide_eq_true h40];rfl,gw0⟩
    · have h3:decide ((l.length:Int)≤40)=false:=decide_eq_false (by omega)
      go_wp2_with fail
      exact bodyPost_ret (v:=.bool false) (by simp [results,go_sem]) rfl ⟨by rw [HM.out,decide_eq_false h40];rfl,gw0⟩
open Go Go.Pt Go.RowKit Prb
theorem whole_any (n:Int) (N:Nat) (hn:(n=2∧N=2)∨(n=4∧N=64)) (w:World):Calls prog 41 #[.int .i64 n] w fun e w'=>e=.returned (.int .u64 (setS (List.range N):Nat))∧w'=w:=by
 rcases hn with ⟨rfl,rfl⟩ | ⟨rfl,rfl⟩
 · rw [show setS (List.range 2)=3 from by decide +kernel]
   go_enter func41,ntmps41
   go_wp2_with fail
   refine (pcount2 _).mono ?_;rintro e w' ⟨rfl,rfl⟩;go_wp2_with fail
   exact bodyPost_ret (v:=.int .u64 3) (by simp [results,go_sem]) rfl ⟨rfl,rfl⟩
 · rw [show setS (List.range 64)=18446744073709551615 from by decide +kernel]
   go_enter func41,ntmps41
   go_wp2_with fail
   refine (pcount4 _).mono ?_;rintro e w' ⟨rfl,rfl⟩;go_wp2_with fail
   exact bodyPost_ret (v:=.int .u64 18446744073709551615) (by simp [results,go_sem]) rfl ⟨rfl,rfl⟩
def ints (L:List Nat):List Int:=L.map Int.ofNat
theorem ints_len (L:List Nat):(ints L).length=L.length:=by simp [ints]
theorem ints_snoc (L:List Nat) (x:Nat):ints (L++[x])=ints L++[(x:Int)]:=by simp [ints]
theorem ints_at {L:List Nat} {i x:Nat} (h:L[i]? = some x):(ints L)[i]? = some (x:Int):=by simp [ints,h]
def LisG (L:List Nat) (w:World) (e:Ending) (w':World):Prop:=∃ (a:Option Addr) (k:Nat),e=.returned (.slice a L.length k)∧OwnZ w' w.heap.size a k (ints L)∧Grew w w'
set_option maxHeartbeats 3200000 in
theorem rall2_any (w:World):Calls prog 46 #[.int .i64 2] w (LisG (List.range 2) w):=by
 have HS:=hid fun w=>rsw_any 2 w
 rw [show swZ 2=1 from rfl] at HS;go_enter func46,ntmps46
 go_wp2_with fail
 refine (HS.out _).mono ?_;rintro e w1 ⟨rfl,hw1⟩;obtain rfl:w=w1:=hw1.symm;clear hw1;go_wp2_with fail
 go_loopw [3,8] (fun s v wr=>∃ (i:Nat) (a:Option Addr) (k:Nat),i≤2∧v=.int .i64 i∧s=.slice a (ints (List.range i)).length k∧Hid (OwnZ wr w.heap.size a k (ints (List.range i)))∧Hid (Grew w wr)) (fun _ v _=>2 - (intOf v).toNat)
 case atStart=>exact ⟨0,none,0,Nat.zero_le _,rfl,rfl,OwnZ.nil _ _,Grew.refl _⟩
 case round =>
  obtain ⟨i,a,k,hi,rfl,rfl,HO,HG⟩:=hrel;have hxs:=ints_len (List.range i);rw [List.length_range] at hxs;have HSN:=hid (show ints (List.range (i+1))=ints (List.range i)++[(i:Int)] by rw [List.range_succ];exact ints_snoc _ _);by_cases hlt:i<2
  · obtain ⟨xs,hX⟩:∃ xs,ints (List.range i)=xs:=⟨_,rfl⟩
    rw [hX] at hxs HO HSN;rw [hX];have HXS:=hid hxs;have hx9:xs.length≤100:=by omega
    clear hX hxs;go_wp2_with (at_builtin;go_loud (refine wpList_append_z zok rfl _ _ rfl w.heap.size a k xs rfl (HO.out.grew gw0) _ 1 (i:Int) rfl (by simp [go_sem]) ?hmx ?hbs ?_))
    case hmx=>omega
    case hbs=>have:=HG.out.size;(try simp [go_sem]);omega
    · intro a4 k4 wB hownB hgrowB hdrB
      have HGB:=hid (show Grew w wB from Grew.by (w':=_) (HG.out.trans gw0) hgrowB hdrB (fun jj hjj=>ownsRow_above HO.out jj hjj));have HOB:=hid hownB;clear hgrowB hdrB hownB;go_wp2_with fail
      go_roundw
      case rel=>exact ⟨i+1,a4,k4,by omega,by go_num,by rw [HSN.out];simp,hid (by rw [HSN.out];exact HOB.out),HGB⟩
      case measure=>simp [intOf];omega
  · obtain rfl:i=2:=by omega
    have HXS:=hid hxs;clear hxs;obtain ⟨xs,hX⟩:∃ xs,ints (List.range 2)=xs:=⟨_,rfl⟩;rw [hX] at HO HXS;rw [hX];have HX:=hid hX;clear hX;go_wp2_with fail
    exact bodyPost_ret (v:=.slice a xs.length k) (by simp [results,go_sem]) rfl ⟨a,k,by rw [HXS.out];rfl,by rw [HX.out];exact HO.out,HG.out⟩
set_option maxHeartbeats 3200000 in
theorem rall4_any (w:World):Calls prog 46 #[.int .i64 4] w (LisG (List.range 64) w):=by
 have HS:=hid fun w=>rsw_any 4 w
 rw [show swZ 4=6 from rfl] at HS;go_enter func46,ntmps46
 go_wp2_with fail
 refine (HS.out _).mono ?_;rintro e w1 ⟨rfl,hw1⟩;obtain rfl:w=w1:=hw1.symm;clear hw1;go_wp2_with fail
 go_loopw [3,8] (fun s v wr=>∃ (i:Nat) (a:Option Addr) (k:Nat),i≤64∧v=.int .i64 i∧s=.slice a (ints (List.range i)).length k∧Hid (OwnZ wr w.heap.size a k (ints (List.range i)))∧Hid (Grew w wr)) (fun _ v _=>64 - (intOf v).toNat)
 case atStart=>exact ⟨0,none,0,Nat.zero_le _,rfl,rfl,OwnZ.nil _ _,Grew.refl _⟩
 case round =>
  obtain ⟨i,a,k,hi,rfl,rfl,HO,HG⟩:=hrel;have hxs:=ints_len (List.range i);rw [List.length_range] at hxs;have HSN:=hid (show ints (List.range (i+1))=ints (List.range i)++[(i:Int)] by rw [List.range_succ];exact ints_snoc _ _);by_cases hlt:i<64
  · obtain ⟨xs,hX⟩:∃ xs,ints (List.range i)=xs:=⟨_,rfl⟩
    rw [hX] at hxs HO HSN;rw [hX];have HXS:=hid hxs;have hx9:xs.length≤100:=by omega
    clear hX hxs;go_wp2_with (at_builtin;go_loud (refine wpList_append_z zok rfl _ _ rfl w.heap.size a k xs rfl (HO.out.grew gw0) _ 1 (i:Int) rfl (by simp [go_sem]) ?hmx ?hbs ?_))
    case hmx=>omega
    case hbs=>have:=HG.out.size;(try simp [go_sem]);omega
    · intro a4 k4 wB hownB hgrowB hdrB
      have HGB:=hid (show Grew w wB from Grew.by (w':=_) (HG.out.trans gw0) hgrowB hdrB (fun jj hjj=>ownsRow_above HO.out jj hjj));have HOB:=hid hownB;clear hgrowB hdrB hownB;go_wp2_with fail
      go_roundw
      case rel=>exact ⟨i+1,a4,k4,by omega,by go_num,by rw [HSN.out];simp,hid (by rw [HSN.out];exact HOB.out),HGB⟩
      case measure=>simp [intOf];omega
  · obtain rfl:i=64:=by omega
    have HXS:=hid hxs;clear hxs;obtain ⟨xs,hX⟩:∃ xs,ints (List.range 64)=xs:=⟨_,rfl⟩;rw [hX] at HO HXS;rw [hX];have HX:=hid hX;clear hX;go_wp2_with fail
    exact bodyPost_ret (v:=.slice a xs.length k) (by simp [results,go_sem]) rfl ⟨a,k,by rw [HXS.out];rfl,by rw [HX.out];exact HO.out,HG.out⟩
theorem rall_any (n:Int) (N:Nat) (hn:(n=2∧N=2)∨(n=4∧N=64)) (w:World):Calls prog 46 #[.int .i64 n] w (LisG (List.range N) w):=by
 rcases hn with ⟨rfl,rfl⟩ | ⟨rfl,rfl⟩
 · exact rall2_any w
 · exact rall4_any w
def agP (n:Int) (tl:List Bool) (I:Nat) (o:Int) (s:Nat):Bool:=decide (((refA n (thB s tl) I:Nat):Int)=o)
theorem filter_take {p:Nat→Bool} {L:List Nat} {i x:Nat} (h:L[i]? = some x):(L.take (i+1)).filter p=(L.take i).filter p++(if p x then [x] else []):=by
 rw [List.take_add_one,h,List.filter_append]
 congr 1
 cases hp:p x <;> simp [hp]
set_option maxRecDepth 100000 in
set_option maxHeartbeats 6400000 in
theorem kept_any (n:Int) (N m I b off tcap:Nat) (tl:List Bool) (o:Int) (a:Option Addr) (cap:Nat) (L:List Nat) (w:World) (hn:(n=2∧N=2∧m=2∧tl.length=1)∨(n=4∧N=64∧m=4∧tl.length=6)) (hL:∀ y∈L,y<N) (hlen:L.length≤1000) (hc:NsA w a (ints L)) (hb:b<w.heap.size) (ht:BlsAt w b off tl) (hI:I<m) :
  Calls prog 47 #[.int .i64 n,.slice a L.length cap,.agg #[.slice (some ⟨b,off,none⟩) tl.length tcap,.int .i64 I,.int .i64 o]] w (LisG (L.filter (agP n tl I o)) w):=by
 have HC:=hid hc;have HA:=hid fun s (hs:s<N) w' (hg:Grew w w')=>ranswer_any n N m s I b off tcap tl w' hn hs hI (Nat.lt_of_lt_of_le hb hg.size) (ht.grew hb hg)
 have HL:=hid hL;obtain ⟨p,hp⟩:∃ p,agP n tl I o=p:=⟨_,rfl⟩;have HP:Hid (∀ s,p s=decide (((refA n (thB s tl) I:Nat):Int)=o)):=hid fun s=>by rw [← hp];rfl
 rw [hp];clear hc ht hL hp hn;obtain ⟨T,hT⟩:∃ T,tl.length=T:=⟨_,rfl⟩;rw [hT] at HA ⊢;clear hT;have HBX:=hid (show Grew w (w.alloc (.cells #[.slice (some ⟨b,off,none⟩) T tcap,.int .i64 I,.int .i64 o] 48)) from (Grew.refl w).alloc _);go_enter func47,ntmps47
 go_wp2_with fail
 go_loopw [7,12] (fun s v wr=>∃ (q:Nat) (a4:Option Addr) (k4:Nat),q≤L.length∧v=.int .i64 q∧s=.slice a4 (ints ((L.take q).filter p)).length k4∧Hid (OwnZ wr (w.heap.size+1) a4 k4 (ints ((L.take q).filter p)))∧Hid (Grew (w.alloc (.cells #[.slice (some ⟨b,off,none⟩) T tcap,.int .i64 I,.int .i64 o] 48)) wr)) (fun _ v _=>L.length - (intOf v).toNat)
 case atStart=>exact ⟨0,none,0,Nat.zero_le _,rfl,rfl,OwnZ.nil _ _,Grew.refl _⟩
 case round =>
  obtain ⟨q,a4,k4,hq,rfl,rfl,HO,HG⟩:=hrel;have HGW:=hid (HBX.out.trans HG.out);by_cases hlt:q<L.length
  · obtain ⟨x,hx⟩:∃ x,L[q]? = some x:=⟨L[q],List.getElem?_eq_getElem hlt⟩
    obtain ⟨b',off',rfl,hb',c0⟩:=(HC.out.grew HGW.out) q x (ints_at hx);have hxN:=HL.out x (List.mem_of_getElem? hx);have HAX:=hid fun w' (hg:Grew wr w')=>HA.out x hxN w' (HGW.out.trans hg)
    have hst:=filter_take (p:=p) hx;rw [HP.out x] at hst;obtain ⟨r,hr⟩:∃ r,refA n (thB x tl) I=r:=⟨_,rfl⟩;rw [hr] at HAX hst;have hlf:((L.take q).filter p).length≤1000:=Nat.le_trans (List.length_filter_le _ _) (by simp;omega);rw [← ints_len] at hlf;have hst2:ints ((L.take (q+1)).filter p)=ints ((L.take q).filter p)++(if decide ((r:Int)=o) then [(x:Int)] else []):=by
     rw [hst];simp only [ints,List.map_append];split <;> rfl
    obtain ⟨xs,hX⟩:∃ xs,ints ((L.take q).filter p)=xs:=⟨_,rfl⟩;rw [hX] at hlf hst2 HO;rw [hX];have y:wr.heap[w.heap.size]? = some (.cells #[.slice (some ⟨b,off,none⟩) T tcap,.int .i64 I,.int .i64 o] 48 (0,0)):=(HG.out.block _ (by simp)).trans (al_new rfl);have y0:wr.cell? ⟨w.heap.size,0,none⟩=some (.slice (some ⟨b,off,none⟩) T tcap):=by simp [World.cell?,y]
    have y1:wr.cell? ⟨w.heap.size,1,none⟩=some (.int .i64 I):=by simp [World.cell?,y]
    have y2:wr.cell? ⟨w.heap.size,2,none⟩=some (.int .i64 o):=by simp [World.cell?,y]
    have zz:w.heap.size<wr.heap.size:=(Array.getElem?_eq_some_iff.1 y).1;clear hst hX hr hx hxN y;by_cases hv:(r:Int)=o
    · rw [if_pos (decide_eq_true hv)] at hst2
      have HST:=hid hst2;have hv1:((r:Int)==o)=true:=by simpa using hv
      have hv2:decide ((r:Int)=o)=true:=decide_eq_true hv;clear hst2 hv;go_wp2_with fail
      refine wp_region_gentle_lit (by kernel_rfl) (by kernel_rfl) ?_;repeat (first | go_big_quiet_skip | (go_big_quiet_want;go_big_quiet_op;first | go_big_quiet_on | (apply Exists.intro;refine ⟨fun qq=>?_, ?_⟩;(focus ((first | (go_at_call 60;refine Calls.gentle_of (HAX.out _ gw0) ?_));rintro _ ⟨g',n',rfl⟩;(first | exact gentle_fin_c _ _ _ _ _ | exact gentle_fin _ _ _ _ | exact gentle_fin_gc _ _ _ _ _ _ | exact gentle_fin_g _ _ _ _ _)));go_big_quiet_on)))
      refine wpQuiet_nil ?_;rintro _ ⟨gg,ng,rfl⟩;go_wp2_with (at_builtin;go_loud (refine wpList_append_z zok rfl _ _ rfl (w.heap.size+1) a4 k4 xs rfl (HO.out.grew gw0) _ 1 (x:Int) rfl (by simp [go_sem]) ?hmx ?hbs ?_))
      case hmx=>omega
      case hbs=>have:=HG.out.size;rw [World.size_alloc] at this;(try simp [go_sem]);omega
      · intro a5 k5 wB hownB hgrowB hdrB
        have HGB:=hid (show Grew (w.alloc (.cells #[.slice (some ⟨b,off,none⟩) T tcap,.int .i64 I,.int .i64 o] 48)) wB from Grew.by (w':=_) (HG.out.trans gw0) hgrowB hdrB (fun jj hjj=>?above))
        case above =>
         have h1:=ownsRow_above HO.out jj hjj;rw [World.size_alloc];exact h1
        have HOB:=hid hownB;clear hgrowB hdrB hownB;go_wp2_with fail
        go_roundw
        case rel=>exact ⟨q+1,a5,k5,by omega,by go_num,by rw [HST.out];simp,hid (by rw [HST.out];exact HOB.out),HGB⟩
        case measure=>simp [intOf];omega
    · rw [if_neg (by simpa using hv),List.append_nil] at hst2
      have HST:=hid hst2;have hv1:((r:Int)==o)=false:=by simpa using hv
      have hv2:decide ((r:Int)=o)=false:=decide_eq_false hv;clear hst2 hv;go_wp2_with fail
      refine wp_region_gentle_lit (by kernel_rfl) (by kernel_rfl) ?_;repeat (first | go_big_quiet_skip | (go_big_quiet_want;go_big_quiet_op;first | go_big_quiet_on | (apply Exists.intro;refine ⟨fun qq=>?_, ?_⟩;(focus ((first | (go_at_call 60;refine Calls.gentle_of (HAX.out _ gw0) ?_));rintro _ ⟨g',n',rfl⟩;(first | exact gentle_fin_c _ _ _ _ _ | exact gentle_fin _ _ _ _ | exact gentle_fin_gc _ _ _ _ _ _ | exact gentle_fin_g _ _ _ _ _)));go_big_quiet_on)))
      refine wpQuiet_nil ?_;rintro _ ⟨gg,ng,rfl⟩;go_wp2_with fail
      go_roundw
      case rel=>exact ⟨q+1,a4,k4,by omega,by go_num,by rw [HST.out],hid (by rw [HST.out];exact HO.out.grew gw0),hid (HG.out.trans gw0)⟩
      case measure=>simp [intOf];omega
  · obtain rfl:q=L.length:=by omega
    rw [List.take_length] at HO ⊢;have hxs:=ints_len (L.filter p);have HXS:=hid hxs;clear hxs;obtain ⟨xs,hX⟩:∃ xs,ints (L.filter p)=xs:=⟨_,rfl⟩;rw [hX] at HO HXS;rw [hX];have HX:=hid hX;clear hX;go_wp2_with fail
    exact bodyPost_ret (v:=.slice a4 xs.length k4) (by simp [results,go_sem]) rfl ⟨a4,k4,by rw [HXS.out],by rw [HX.out];exact World.ownsRow.mono HO.out (Nat.le_succ _),HGW.out⟩
end Go.Proofs.Qm
