/- Layer 9, in main's ghost: which tries part two states. Condition: the table and the tests lie in memory. -/
import Derived.Test.YtnceajabigdleaaDoorPtQ98
namespace Go.Proofs.Qm
open Go Go.Pt Go.RowKit Prb
def ptB (n:Int) (z:Tq) (x y:Nat):Bool:=decide (refA n (thB x z.b) z.t.i.toNat≠refA n (thB y z.b) z.t.i.toNat)
structure TwAt (w:World) (N C bt bx by' x y:Nat):Prop where
 t:w.cell? ⟨bt,0,none⟩=some (.slice (some ⟨C,0,none⟩) N N)∧bt<w.heap.size
 x:w.cell? ⟨bx,0,none⟩=some (.int .i64 x)∧bx<w.heap.size
 y:w.cell? ⟨by',0,none⟩=some (.int .i64 y)∧by'<w.heap.size
theorem TwAt.grew {w w':World} {N C bt bx by' x y:Nat} (h:TwAt w N C bt bx by' x y) (hg:Grew w w'):TwAt w' N C bt bx by' x y :=
 ⟨⟨(hg.cell h.t.2 _).trans h.t.1,Nat.lt_of_lt_of_le h.t.2 hg.size⟩,⟨(hg.cell h.x.2 _).trans h.x.1,Nat.lt_of_lt_of_le h.x.2 hg.size⟩,⟨(hg.cell h.y.2 _).trans h.y.1,Nat.lt_of_lt_of_le h.y.2 hg.size⟩⟩
theorem panswer_any (n:Int) (N m s I b off tcap C:Nat) (tl:List Bool) (w:World) (hn:(n=2∧N=2∧m=2∧tl.length=1)∨(n=4∧N=64∧m=4∧tl.length=6)) (hs:s<N) (hI:I<m) (hb:b<w.heap.size) (hc:BlsAt w b off tl) (hT:Tab w m N C) :
  Calls prog 52 #[.slice (some ⟨C,0,none⟩) N N,.int .i64 s,.slice (some ⟨b,off,none⟩) tl.length tcap,.int .i64 I] w fun e w'=>e=.returned (.int .i64 (refA n (thB s tl) I:Nat))∧Grew w w':=by
 rcases hn with ⟨rfl,rfl,rfl,h4⟩ | ⟨rfl,rfl,rfl,h4⟩
 · exact (answer_any s I b off tcap tl _ w hb (by omega) hc hT (by rw [h4]) hs hI (by omega) (table2 s tl I hI)).mono fun e w' h=>⟨h.1,h.2 ▸ Grew.refl _⟩
 · exact (answer_any s I b off tcap tl _ w hb (by omega) hc hT (by rw [h4]) hs hI (by omega) (table4 s tl I hI)).mono fun e w' h=>⟨h.1,h.2 ▸ Grew.refl _⟩
theorem ne_cast (a b:Nat):((a:Int) != (b:Int))=decide (a≠b):=by
 by_cases h:a=b
 · subst h;simp
 · have:¬ (a:Int)=(b:Int):=by omega
   simp [h,bne_iff_ne];omega
set_option maxRecDepth 100000 in
set_option maxHeartbeats 6400000 in
theorem tw1_any (n:Int) (N m C bt bx by' x y:Nat) (hn:(n=2∧N=2∧m=2)∨(n=4∧N=64∧m=4)) (hx:x<N) (hy:y<N) (z:Tq) (w:World) (hz:tstB n z.t=true) (ht:TurnAt w z.t.a z.t.len z.b) (hT:Tab w m N C) (hA:TwAt w N C bt bx by' x y) :
  Calls prog 51 #[.agg #[.slice z.t.a z.t.len z.t.cap,.int .i64 z.t.i,.int .i64 z.t.o],.pointer (some ⟨bt,0,none⟩),.pointer (some ⟨bx,0,none⟩),.pointer (some ⟨by',0,none⟩)] w fun e w'=>e=.returned (.bool (ptB n z x y))∧Grew w w':=by
 obtain ⟨tb,toff,I,ha,htb,hbl,hlen,hI,hIm,hk⟩:=tq_open hn ht hz;obtain ⟨f,hf⟩:∃ f,(fun s=>refA n (thB s z.b) I)=f:=⟨_,rfl⟩;have hfs:∀ s,refA n (thB s z.b) I=f s:=fun s=>by rw [← hf]
 have HAX:Hid (∀ s,s<N→∀ w',Grew w w'→Calls prog 52 #[.slice (some ⟨C,0,none⟩) N N,.int .i64 s,.slice (some ⟨tb,toff,none⟩) z.b.length z.t.cap,.int .i64 I] w' fun e w''=>e=.returned (.int .i64 (f s:Nat))∧Grew w' w''):=hid fun s hs w' hg=>by
  rw [← hfs s];exact panswer_any n N m s I tb toff z.t.cap C z.b w' hk hs hIm (Nat.lt_of_lt_of_le htb hg.size) (hbl.grew htb hg) (hT.grew hg)
 have HP:Hid (ptB n z x y=decide (refA n (thB x z.b) I≠refA n (thB y z.b) I)):=hid (by unfold ptB;rw [hI,Int.toNat_natCast]);obtain ⟨⟨c0,q0⟩,⟨c1,q1⟩,⟨c2,q2⟩⟩:=hA;rw [ha,hlen,hI];obtain ⟨o,ho⟩:∃ o,z.t.o=o:=⟨_,rfl⟩;obtain ⟨tcap,htc⟩:∃ o,z.t.cap=o:=⟨_,rfl⟩;obtain ⟨T,hTT⟩:∃ o,z.b.length=o:=⟨_,rfl⟩;rw [htc,hTT] at HAX;rw [HP.out,ho,htc,hTT,hfs,hfs];clear hz ht hT ha htb hbl hlen hI hk ho htc hTT HP hn hf hfs;go_enter func51,ntmps51
 go_wp2_with fail
 refine wp_region_gentle_lit (by kernel_rfl) (by kernel_rfl) ?_;repeat (first | go_big_quiet_skip | (go_big_quiet_want;go_big_quiet_op;first | go_big_quiet_on | (apply Exists.intro;refine ⟨fun qq=>?_, ?_⟩;(focus ((first | (go_at_call 52;refine Calls.gentle_of (HAX.out _ (by assumption) _ gw0) ?_));rintro _ ⟨g',n',rfl⟩;(first | exact gentle_fin_c _ _ _ _ _ | exact gentle_fin _ _ _ _ | exact gentle_fin_gc _ _ _ _ _ _ | exact gentle_fin_g _ _ _ _ _)));go_big_quiet_on)))
 refine wpQuiet_nil ?_;rintro _ ⟨gg,ng,rfl⟩;go_wp2_with fail
 exact bodyPost_ret (v:=.bool (((f x:Nat):Int) != ((f y:Nat):Int))) (by simp [results,go_sem]) rfl ⟨by rw [ne_cast],gw0⟩
def twB (n:Int) (l:List Tq) (x y:Nat):Bool:=l.all fun z=>!ptB n z x y
theorem twB_step {n:Int} {l:List Tq} {i x y:Nat} {z:Tq} (hz:l[i]? = some z) (hv:ptB n z x y=false) (h:twB n (l.take i) x y=true):twB n (l.take (i+1)) x y=true:=by
 unfold twB at *
 rw [List.take_add_one,hz,Option.toList_some,List.all_append,h];simp [hv]
theorem twB_cut {n:Int} {l:List Tq} {i x y:Nat} {z:Tq} (hz:l[i]? = some z) (hv:ptB n z x y=true):twB n l x y=false:=by
 rw [Bool.eq_false_iff];intro h;have:=List.all_eq_true.1 h z (List.mem_of_getElem? hz);rw [hv] at this;cases this
set_option maxHeartbeats 6400000 in
theorem idxw_any (n:Int) (N m C bt bx by' x y:Nat) (hn:(n=2∧N=2∧m=2)∨(n=4∧N=64∧m=4)) (hx:x<N) (hy:y<N) (a:Option Addr) (cap:Nat) (l:List Tq) (w:World) (hl:l.length≤40) (hc:TqAt w a l) (hf:tqsB n l=true) (hT:Tab w m N C) (hA:TwAt w N C bt bx by' x y) :
  Calls prog 75 #[.slice a l.length cap,.func (.func 51) #[] #[.pointer (some ⟨bt,0,none⟩),.pointer (some ⟨bx,0,none⟩),.pointer (some ⟨by',0,none⟩)]] w fun e w'=>(∃ r:Int,e=.returned (.int .i64 r)∧decide (0≤r)=!twB n l x y)∧Grew w w':=by
 have HC:=hid hc;have HF:=hid fun (z:Tq) (hz:z∈l) (w':World) (hg:Grew w w') (ht:TurnAt w' z.t.a z.t.len z.b)=>tw1_any n N m C bt bx by' x y hn hx hy z w' (tqsB_at hf z hz) ht (hT.grew hg) (hA.grew hg)
 clear hc hf hT hA hn;go_enter func75,ntmps75
 go_wp2_with fail
 go_loopw [8] (fun v wr=>∃ i:Nat,i≤l.length∧v=.int .i64 i∧Hid (twB n (l.take i) x y=true)∧Grew w wr) (fun v _=>l.length - (intOf v).toNat)
 case atStart=>exact ⟨0,Nat.zero_le _,rfl,rfl,Grew.refl _⟩
 case round =>
  obtain ⟨i,hi,rfl,hp,hgw⟩:=hrel;by_cases hlt:i<l.length
  · obtain ⟨z,hz⟩:∃ z,l[i]? = some z:=⟨l[i],List.getElem?_eq_getElem hlt⟩
    obtain ⟨b,off,rfl,hb,⟨c0,c1,c2⟩,hzl,htz⟩:=(HC.out.grew hgw) i z hz;have HFZ:=hid (HF.out z (List.mem_of_getElem? hz) wr hgw htz);have Hz:=hid hz;have HGW:=hid hgw;clear hz hzl htz hgw;cases hv:ptB n z x y with
    | false =>
      have HN:=hid (twB_step Hz.out hv hp.out);rw [hv] at HFZ;clear hv;go_wp2_with fail
      refine HFZ.out.mono ?_;rintro e w' ⟨rfl,g1,k1,rfl⟩;go_wp2_with fail
      go_roundw
      case rel=>exact ⟨i+1,by omega,by go_num,HN.out,HGW.out.trans gw0⟩
      case measure=>simp [intOf];omega
    | true =>
      have HN:=hid (twB_cut Hz.out hv);rw [hv] at HFZ;clear hv;go_wp2_with fail
      refine HFZ.out.mono ?_;rintro e w' ⟨rfl,g1,k1,rfl⟩;go_wp2_with fail
      exact bodyPost_ret (v:=.int .i64 i) (by simp [results,go_sem]) rfl ⟨⟨i,rfl,by rw [HN.out];simp⟩,HGW.out.trans gw0⟩
  · obtain rfl:i=l.length:=by omega
    have hp':Hid (twB n l x y=true):=by have:=hp.out;rw [List.take_length] at this;exact this
    have HGW:=hid hgw;clear hp hgw;go_wp2_with fail
    exact bodyPost_ret (v:=.int .i64 (-1)) (by simp [results,go_sem]) rfl ⟨⟨-1,rfl,by rw [hp'.out];rfl⟩,HGW.out⟩
theorem hasw_any (n:Int) (N m C bt bx by' x y:Nat) (hn:(n=2∧N=2∧m=2)∨(n=4∧N=64∧m=4)) (hx:x<N) (hy:y<N) (a:Option Addr) (cap:Nat) (l:List Tq) (w:World) (hl:l.length≤40) (hc:TqAt w a l) (hf:tqsB n l=true) (hT:Tab w m N C) (hA:TwAt w N C bt bx by' x y) :
  Calls prog 50 #[.slice a l.length cap,.func (.func 51) #[] #[.pointer (some ⟨bt,0,none⟩),.pointer (some ⟨bx,0,none⟩),.pointer (some ⟨by',0,none⟩)]] w fun e w'=>e=.returned (.bool (!twB n l x y))∧Grew w w':=by
 have HI:=hid (idxw_any n N m C bt bx by' x y hn hx hy a cap l w hl hc hf hT hA);obtain ⟨B,hB⟩:∃ B,(!twB n l x y)=B:=⟨_,rfl⟩;rw [hB] at HI ⊢;clear hc hf hT hA hn hB;go_enter func50,ntmps50
 go_wp2_with fail
 refine HI.out.mono ?_;rintro e w' ⟨⟨r,rfl,hr⟩,g,k,rfl⟩;have HR:=hid hr;clear hr;go_wp2_with fail
 exact bodyPost_ret (v:=.bool (decide (0≤r))) (by simp [results,go_sem]) rfl ⟨by rw [HR.out],gw0⟩
open Go Go.Pt Go.RowKit Prb
def pCells (l:List (Nat × Nat)):List Value:=l.flatMap fun p=>[.int .i64 p.1,.int .i64 p.2]
theorem pCells_app (l r:List (Nat × Nat)):pCells (l++r)=pCells l++pCells r:=by simp [pCells]
theorem pCells_one {l:List (Nat × Nat)} {u:Value} (hu:u∈pCells l):u.oneCell'=true:=by
 obtain ⟨p,_,h⟩:=List.mem_flatMap.1 hu;rcases List.mem_cons.1 h with rfl | h
 · rfl
 · obtain rfl:=List.mem_singleton.1 h;rfl
theorem pCells_at:∀ {l:List (Nat × Nat)} {i:Nat} {p:Nat × Nat},l[i]? = some p→(pCells l)[i*2]? = some (.int .i64 (p.1:Nat))∧(pCells l)[i*2+1]? = some (.int .i64 (p.2:Nat))
 | [],_,_,h=>by cases h
 | q :: r, 0, p, h => by
   obtain rfl:=Option.some.inj h;exact ⟨rfl,rfl⟩
 | q :: r, i + 1, p, h => by
   have:=pCells_at (l:=r) (i:=i) (p:=p) h;rw [show (i+1)*2=i*2+2 by omega];exact this
def OwnP (w:World) (base:Nat) (a0:Option Addr) (k0:Nat) (l:List (Nat × Nat)):Prop:=w.ownsRow base 57 2 (.slice a0 l.length k0) l.length (pCells l)
theorem OwnP.nil (w:World) (base:Nat):OwnP w base none 0 []:=World.ownsRow_nil w base 57 2
theorem OwnP.grew {w w':World} {base:Nat} {a0:Option Addr} {k0:Nat} {l:List (Nat × Nat)} (h:OwnP w base a0 k0 l) (g:Grew w w'):OwnP w' base a0 k0 l:=World.ownsRow.grew h g
theorem info_p:(prog.info? 57).map (fun i=>(i.zero,i.size,i.bytes))=some (some (.agg #[.int .i64 0,.int .i64 0]),2,16):=by rw [p_info];kernel_rfl
theorem und_p:prog.underlying 36=some (.slice 57):=(p_underlying 36).trans Tryd.underlying36
def PsA (w:World) (a:Option Addr) (l:List (Nat × Nat)):Prop:=∀ i p,l[i]? = some p→∃ b:Nat,a=some ⟨b,0,none⟩∧b<w.heap.size∧w.cell? ⟨b,i*2,none⟩=some (.int .i64 (p.1:Nat))∧w.cell? ⟨b,i*2+1,none⟩=some (.int .i64 (p.2:Nat))
theorem PsA.below {w w':World} {a:Option Addr} {l:List (Nat × Nat)} (h:PsA w a l) (hg:Below w.heap.size w w'):PsA w' a l:=fun i p hp=>by
 obtain ⟨b,rfl,hb,c0,c1⟩:=h i p hp;have key:∀ k:Nat,w'.cell? ⟨b,k,none⟩=w.cell? ⟨b,k,none⟩:=fun k=>by simp only [World.cell?,hg.block b hb]
 exact ⟨b,rfl,Nat.lt_of_lt_of_le hb hg.size,(key _).trans c0,(key _).trans c1⟩
theorem OwnP.psA {w:World} {base k0:Nat} {a0:Option Addr} {l:List (Nat × Nat)} (h:OwnP w base a0 k0 l):PsA w a0 l:=fun i p hp=>by
 have hi:i<l.length:=(List.getElem?_eq_some_iff.1 hp).1;rcases h.2 with ⟨h1,h2⟩ | ⟨g,cap,cur,h1,h2,h3,h4⟩
 · omega
 · have e:=h1
   injection e with e1 e2 e3;subst e1;subst e3;refine ⟨g,rfl,(Array.getElem?_eq_some_iff.1 h3).1, ?_, ?_⟩
   · rw [World.ownsRow.cellAt h (i*2) (by omega)]
     exact (pCells_at hp).1
   · rw [World.ownsRow.cellAt h (i*2+1) (by omega)]
     exact (pCells_at hp).2
end Go.Proofs.Qm
