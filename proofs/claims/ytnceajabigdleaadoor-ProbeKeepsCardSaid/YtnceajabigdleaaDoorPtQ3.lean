/- Layer 9, in main's ghost: which tests fit. Condition: they lie in memory. -/
import Derived.Test.YtnceajabigdleaaDoorPtQ2
namespace Go.Proofs.Qm
open Go Go.Pt Go.RowKit
structure Tst where
 a:Option Addr
 len:Nat
 cap:Nat
 i:Int
 o:Int
def tstB (n:Int) (t:Tst):Bool:=fitB n t.len t.i&&(decide (0≤t.o)&&decide (t.o≤n - 1))
def tstsB (n:Int) (l:List Tst):Bool:=l.all (tstB n)
theorem tstsB_step {n:Int} {l:List Tst} {i:Nat} {z:Tst} (hz:l[i]? = some z) (hv:tstB n z=true) (h:tstsB n (l.take i)=true):tstsB n (l.take (i+1))=true:=by
 rw [List.take_add_one,hz];simp only [tstsB] at h ⊢;simp [List.all_append,h,hv]
theorem tstsB_cut {n:Int} {l:List Tst} {i:Nat} {z:Tst} (hz:l[i]? = some z) (hv:tstB n z=false):tstsB n l=false:=by
 rw [Bool.eq_false_iff];intro h;have:=List.all_eq_true.1 h z (List.mem_of_getElem? hz);rw [hv] at this;cases this
def TsAt (w:World) (b off:Nat) (l:List Tst):Prop:=∀ i z,l[i]? = some z→(w.cell? ⟨b,off+i*3,none⟩=some (.slice z.a z.len z.cap)∧w.cell? ⟨b,off+i*3+1,none⟩=some (.int .i64 z.i)∧w.cell? ⟨b,off+i*3+2,none⟩=some (.int .i64 z.o))∧z.len≤9223372036854775807
theorem TsAt.grew {w w':World} {b off:Nat} {l:List Tst} (h:TsAt w b off l) (hb:b<w.heap.size) (hg:Grew w w'):TsAt w' b off l:=fun i z hz=>by
 obtain ⟨⟨c0,c1,c2⟩,h3⟩:=h i z hz;exact ⟨⟨(hg.cell hb _).trans c0,(hg.cell hb _).trans c1,(hg.cell hb _).trans c2⟩,h3⟩
theorem pcountG (n:Int) (w:World):Calls prog 31 #[.int .i64 n] w fun e w'=>e=.returned (.int .i64 (cntZ n))∧Grew w w':=(pcount_any n w).mono fun _ _ ⟨h1,h2⟩=>⟨h1,h2 ▸ Grew.refl _⟩
theorem btwG (a n b:Int) (w:World):Calls prog 32 #[.int .i64 a,.int .i64 n,.int .i64 b] w fun e w'=>e=.returned (.bool (decide (a≤n)&&decide (n≤b)))∧Grew w w':=(btw_any a n b w).mono fun _ _ ⟨h1,h2⟩=>⟨h1,h2 ▸ Grew.refl _⟩
def portB (n m:Int):Bool:=decide (0≤m)&&decide (m≤n - 1)
theorem portG (n m:Int) (w:World):Calls prog 32 #[.int .i64 0,.int .i64 m,.int .i64 (n - 1)] w fun e w'=>e=.returned (.bool (portB n m))∧Grew w w':=btwG 0 m (n - 1) w
set_option maxHeartbeats 3200000 in
theorem fitOne_any (n:Int) (t:Tst) (nb:Nat) (w:World) (hn:n=2∨n=4) (hl:t.len≤9223372036854775807) (hb:nb<w.heap.size) (hc:w.cell? ⟨nb,0,none⟩=some (.int .i64 n)) :
  Calls prog 69 #[.agg #[.slice t.a t.len t.cap,.int .i64 t.i,.int .i64 t.o],.pointer (some ⟨nb,0,none⟩)] w fun e w'=>e=.returned (.bool (!tstB n t))∧Grew w w':=by
 obtain ⟨a,len,cap,i,o⟩:=t;dsimp only at *
 have e1:=wrapN hn;have HC:=hid fun w=>pcountG n w
 have HI:=hid fun m w=>portG n m w
 show Calls _ _ _ _ fun e w'=>e=.returned (.bool (!((decide (len=cntZ n)&&portB n i)&&portB n o)))∧Grew w w'
 obtain ⟨c,hcc⟩:∃ c,cntZ n=c:=⟨_,rfl⟩;have hcl:c≤6:=by rw [← hcc];unfold cntZ;split <;> (try split) <;> omega
 rw [hcc] at HC ⊢;clear hcc hn;by_cases h2:len=c
 case neg =>
  have e2:((len:Int) != (c:Int))=true:=by simp;omega
  rw [show decide (len=c)=false from decide_eq_false h2];clear h2;go_enter func69,ntmps69
  go_wp2_with fail
  refine wp_region_gentle_lit (by kernel_rfl) (by kernel_rfl) ?_;repeat (first | go_big_quiet_skip | (go_big_quiet_want;go_big_quiet_op;first | go_big_quiet_on | (apply Exists.intro;refine ⟨fun qq=>?_, ?_⟩;(focus ((first | (go_at_call 31;refine Calls.gentle_of (HC.out _) ?_) | (go_at_call 32;refine Calls.gentle_of (HI.out _ _) ?_));rintro _ ⟨g',n',rfl⟩;(first | exact gentle_fin_c _ _ _ _ _ | exact gentle_fin _ _ _ _ | exact gentle_fin_gc _ _ _ _ _ _ | exact gentle_fin_g _ _ _ _ _)));go_big_quiet_on)))
  refine wpQuiet_nil ?_;rintro _ ⟨gg,ng,rfl⟩;go_wp2_with fail
  exact bodyPost_ret (v:=.bool true) (by simp [results,go_sem]) rfl ⟨rfl,gw0⟩
 subst h2;rw [show decide (len=len)=true from decide_eq_true rfl];cases hI:portB n i
 · go_enter func69,ntmps69
   go_wp2_with fail
   refine wp_region_gentle_lit (by kernel_rfl) (by kernel_rfl) ?_;repeat (first | go_big_quiet_skip | (go_big_quiet_want;go_big_quiet_op;first | go_big_quiet_on | (apply Exists.intro;refine ⟨fun qq=>?_, ?_⟩;(focus ((first | (go_at_call 31;refine Calls.gentle_of (HC.out _) ?_) | (go_at_call 32;refine Calls.gentle_of (HI.out _ _) ?_));rintro _ ⟨g',n',rfl⟩;(first | exact gentle_fin_c _ _ _ _ _ | exact gentle_fin _ _ _ _ | exact gentle_fin_gc _ _ _ _ _ _ | exact gentle_fin_g _ _ _ _ _)));go_big_quiet_on)))
   refine wpQuiet_nil ?_;rintro _ ⟨gg,ng,rfl⟩;go_wp2_with fail
   exact bodyPost_ret (v:=.bool true) (by simp [results,go_sem]) rfl ⟨rfl,gw0⟩
 · go_enter func69,ntmps69
   go_wp2_with fail
   refine wp_region_gentle_lit (by kernel_rfl) (by kernel_rfl) ?_;repeat (first | go_big_quiet_skip | (go_big_quiet_want;go_big_quiet_op;first | go_big_quiet_on | (apply Exists.intro;refine ⟨fun qq=>?_, ?_⟩;(focus ((first | (go_at_call 31;refine Calls.gentle_of (HC.out _) ?_) | (go_at_call 32;refine Calls.gentle_of (HI.out _ _) ?_));rintro _ ⟨g',n',rfl⟩;(first | exact gentle_fin_c _ _ _ _ _ | exact gentle_fin _ _ _ _ | exact gentle_fin_gc _ _ _ _ _ _ | exact gentle_fin_g _ _ _ _ _)));go_big_quiet_on)))
   refine wpQuiet_nil ?_;rintro _ ⟨gg,ng,rfl⟩;go_wp2_with fail
   exact bodyPost_ret (v:=.bool (!portB n o)) (by simp [results,go_sem]) rfl ⟨rfl,gw0⟩
open Go Go.Pt Go.RowKit
def IdxT (n:Int) (l:List Tst) (w:World) (e:Ending) (w':World):Prop:=(∃ r:Int,e=.returned (.int .i64 r)∧decide (0≤r)=!tstsB n l)∧Grew w w'
set_option maxHeartbeats 1600000 in
theorem idxT_any (n:Int) (nb b off cap:Nat) (l:List Tst) (w:World) (hn:n=2∨n=4) (hnb:nb<w.heap.size) (hbox:w.cell? ⟨nb,0,none⟩=some (.int .i64 n)) (hb:b<w.heap.size) (hl:l.length≤9223372036854775807) (hc:TsAt w b off l) :
  Calls prog 75 #[.slice (some ⟨b,off,none⟩) l.length cap,.func (.func 69) #[] #[.pointer (some ⟨nb,0,none⟩)]] w (IdxT n l w):=by
 have HC:=hid hc;have HF:=hid fun (t:Tst) (w':World) (hg:Grew w w') (hl:t.len≤9223372036854775807)=>fitOne_any n t nb w' hn hl (Nat.lt_of_lt_of_le hnb hg.size) ((hg.cell hnb _).trans hbox)
 have hb1:=fun m0:Nat=>Nat.lt_add_right m0 (hb)
 have hb2:=fun m0 m1:Nat=>Nat.lt_add_right m1 (hb1 m0)
 have hb3:=fun m0 m1 m2:Nat=>Nat.lt_add_right m2 (hb2 m0 m1)
 have hb4:=fun m0 m1 m2 m3:Nat=>Nat.lt_add_right m3 (hb3 m0 m1 m2)
 clear hc hbox hnb hn;go_enter func75,ntmps75
 go_wp2_with fail
 go_loopw [8] (fun v wr=>∃ i:Nat,i≤l.length∧v=.int .i64 i∧Hid (tstsB n (l.take i)=true)∧Grew w wr) (fun v _=>l.length - (intOf v).toNat)
 case atStart=>exact ⟨0,Nat.zero_le _,rfl,rfl,Grew.refl _⟩
 case round =>
  obtain ⟨i,hi,rfl,hp,g,k,rfl⟩:=hrel;by_cases hlt:i<l.length
  · obtain ⟨z,hz⟩:∃ z,l[i]? = some z:=⟨l[i],List.getElem?_eq_getElem hlt⟩
    obtain ⟨⟨c0,c1,c2⟩,hzl⟩:=HC.out i z hz;have Hz:=hid hz;have Hzl:=hid hzl;clear hz hzl;go_wp2_with fail
    refine (HF.out z _ gw0 Hzl.out).mono ?_;rintro e w' ⟨rfl,g1,k1,rfl⟩;by_cases hv:tstB n z=true
    · rw [hv]
      have Hv:=hid hv;clear hv;go_wp2_with fail
      go_roundw
      case rel=>exact ⟨i+1,by omega,by go_num,tstsB_step Hz.out Hv.out hp.out,gw0⟩
      case measure=>simp [intOf];omega
    · have Hv:Hid (tstsB n l=false):=tstsB_cut Hz.out (by simpa using hv)
      rw [show tstB n z=false by simpa using hv];clear hv;go_wp2_with fail
      exact bodyPost_ret (v:=.int .i64 i) (by simp [results,go_sem]) rfl ⟨⟨i,rfl,by rw [Hv.out];simp⟩,gw0⟩
  · obtain rfl:i=l.length:=by omega
    have hp':Hid (tstsB n l=true):=by have:=hp.out;rw [List.take_length] at this;exact this
    clear hp;go_wp2_with fail
    exact bodyPost_ret (v:=.int .i64 (-1)) (by simp [results,go_sem]) rfl ⟨⟨-1,rfl,by rw [hp'.out];rfl⟩,gw0⟩
set_option maxHeartbeats 1600000 in
theorem hasT_any (n:Int) (nb b off cap:Nat) (l:List Tst) (w:World) (hn:n=2∨n=4) (hnb:nb<w.heap.size) (hbox:w.cell? ⟨nb,0,none⟩=some (.int .i64 n)) (hb:b<w.heap.size) (hl:l.length≤9223372036854775807) (hc:TsAt w b off l) :
  Calls prog 50 #[.slice (some ⟨b,off,none⟩) l.length cap,.func (.func 69) #[] #[.pointer (some ⟨nb,0,none⟩)]] w fun e w'=>e=.returned (.bool (!tstsB n l))∧Grew w w':=by
 have HI:=hid fun w' (hg:Grew w w')=>idxT_any n nb b off cap l w' hn (Nat.lt_of_lt_of_le hnb hg.size) ((hg.cell hnb _).trans hbox) (Nat.lt_of_lt_of_le hb hg.size) hl (hc.grew hb hg)
 clear hc hbox hn;go_enter func50,ntmps50
 go_wp2_with fail
 refine (HI.out _ gw0).mono ?_;rintro e w' ⟨⟨r,rfl,hr⟩,g,k,rfl⟩;have HR:=hid hr;clear hr;go_wp2_with fail
 exact bodyPost_ret (v:=.bool (decide (0≤r))) (by simp [results,go_sem]) rfl ⟨by rw [← HR.out],gw0⟩
set_option maxHeartbeats 1600000 in
theorem fit_some (n:Int) (b off cap:Nat) (l:List Tst) (w:World) (hn:n=2∨n=4) (hb:b<w.heap.size) (hl:l.length≤9223372036854775807) (hc:TsAt w b off l) :
  Calls prog 40 #[.int .i64 n,.slice (some ⟨b,off,none⟩) l.length cap] w fun e w'=>e=.returned (.bool (decide (l.length≤40)&&tstsB n l))∧Grew w w':=by
 have HI:=hid fun w' (hg:Grew w w') nb (hnb:nb<w'.heap.size) (hbox:w'.cell? ⟨nb,0,none⟩=some (.int .i64 n))=>hasT_any n nb b off cap l w' hn hnb hbox (Nat.lt_of_lt_of_le hb hg.size) hl (hc.grew hb hg)
 clear hc hn;obtain ⟨L,hL⟩:∃ L,l.length=L:=⟨_,rfl⟩;rw [hL] at HI hl ⊢;clear hL;by_cases h1:L≤40
 · rw [show decide (L≤40)=true from decide_eq_true h1]
   go_enter func40,ntmps40
   go_wp2_with fail
   refine (HI.out _ gw0 _ (by simp [go_sem]) (by simp [go_sem])).mono ?_;rintro e w' ⟨rfl,g,k,rfl⟩;go_wp2_with fail
   exact bodyPost_ret (v:=.bool (tstsB n l)) (by simp [results,go_sem]) rfl ⟨rfl,gw0⟩
 · rw [show decide (L≤40)=false from decide_eq_false h1]
   have h2:40<L:=by omega
   have h3:decide ((L:Int)≤40)=false:=decide_eq_false (by omega);clear h1;go_enter func40,ntmps40
   go_wp2_with fail
   exact bodyPost_ret (v:=.bool false) (by simp [results,go_sem]) rfl ⟨rfl,gw0⟩
end Go.Proofs.Qm
