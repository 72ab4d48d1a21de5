import Derived.Test.YtchdmecjhaanfaaGreatDoorWidF
import Derived.Test.YtchdmecjhaanfaaGreatDoorMshJ
import Derived.ChangeKeysEq
namespace Go.Proofs.YtchdmecjhaanfaaGreatDoor
open Go Go.RowKit Amp Msh
theorem _root_.k37_ {p:Prop} (h:p:=by
 rintro e w' ⟨rfl,gr⟩;exact ⟨_,rfl,R4.upd_same _ _ _,.inl gr⟩):p:=h
theorem _root_.k22_ {p:Prop} (h:p:=by
 obtain rfl:=Option.some.inj ho;change R4.Oper.slotAt _ _ { tmps:=_,defers:=_ } _ _;obtain ⟨gq,nq,rfl⟩:=hg;go_simp;exact ⟨R4.upd_same _ _ _,.inl gw0⟩):p:=h
theorem wp_name {P:Program} {c:Code} {Q:Exit→Act→World→Prop} {a:Act} {w:World} (h:∀ W,W=w→c.wp P Q a W):c.wp P Q a w:=h w rfl
theorem eq_wide (d:Nat) (x0 x1 x2 x3 x4 x5:Int) (w:World):(Op.equalIn (d+2) 143 (.agg #[.int .u64 x0,.int .u64 x1,.int .u64 x2,.int .u64 x3,.int .u64 x4,.int .u64 x5]) (.agg #[.int .u64 x0,.int .u64 x1,.int .u64 x2,.int .u64 x3,.int .u64 x4,.int .u64 x5])).run Tryz.prog w=.ok true w:=by
 have u3:=Tryz.underlying141;have a3:=Tryz.isAgg141;have z3:=Tryz.sizeOf141;rw [Op.equalIn];simp only [Sem.run_bind,run_underlying Tryz.underlying143,Result.andThen_ok];simp only [Std.Legacy.Range.forIn_eq_forIn_range',Std.Legacy.Range.size,Nat.sub_zero,Nat.add_sub_cancel,Nat.div_one,List.range'_succ,List.range'_zero,List.forIn_cons,List.forIn_nil];go_simp
def svC (x:C4):Array Value:=#[.int .u64 (wd x.a 0),.int .u64 (wd x.a 1),.int .u64 (wd x.a 2),.int .u64 (wd x.a 3),.int .u64 (wd x.a 4),.int .u64 (wd x.a 5),.int .u64 (wd x.b 0),.int .u64 (wd x.b 1),.int .u64 (wd x.b 2),.int .u64 (wd x.b 3),.int .u64 (wd x.b 4),.int .u64 (wd x.b 5),.int .u64 (wd x.c 0),.int .u64 (wd x.c 1),.int .u64 (wd x.c 2),.int .u64 (wd x.c 3),.int .u64 (wd x.c 4),.int .u64 (wd x.c 5),.int .u64 (wd x.d 0),.int .u64 (wd x.d 1),.int .u64 (wd x.d 2),.int .u64 (wd x.d 3),.int .u64 (wd x.d 4),.int .u64 (wd x.d 5)]
theorem svC_one (x:C4):(svC x).all (·.oneCell')=true:=by simp [svC,Value.oneCell']
theorem svC_zero:svC zero=#[.int .u64 0,.int .u64 0,.int .u64 0,.int .u64 0,.int .u64 0,.int .u64 0,.int .u64 0,.int .u64 0,.int .u64 0,.int .u64 0,.int .u64 0,.int .u64 0,.int .u64 0,.int .u64 0,.int .u64 0,.int .u64 0,.int .u64 0,.int .u64 0,.int .u64 0,.int .u64 0,.int .u64 0,.int .u64 0,.int .u64 0,.int .u64 0]:=by
 unfold svC zero;simp only [wd_zero]
theorem eq_sum (d:Nat) (x:C4) (w:World):(Op.equalIn (d+3) 145 (.agg (svC x)) (.agg (svC x))).run Tryz.prog w=.ok true w:=by
 have a3:=Tryz.isAgg143;have z3:=Tryz.sizeOf143;have E:=fun x0 x1 x2 x3 x4 x5 w=>eq_wide d x0 x1 x2 x3 x4 x5 w
 unfold svC;rw [Op.equalIn];simp only [Sem.run_bind,run_underlying Tryz.underlying145,Result.andThen_ok];simp only [Std.Legacy.Range.forIn_eq_forIn_range',Std.Legacy.Range.size,Nat.sub_zero,Nat.add_sub_cancel,Nat.div_one,List.range'_succ,List.range'_zero,List.forIn_cons,List.forIn_nil];go_simp
@[go_sem high] theorem neq_sum (x : C4) (w : World) : (binOp .neq 145 (.agg (svC x)) (.agg (svC x))).run Tryz.prog w = .ok (.bool false) w := by
  rw [run_neq_struct,eq_sum 9997 x w];rfl
theorem slot_row {P:Program} {o:Oper} {a:Act} {w:World} {V:Value→World→Prop} (ty:TypeId) (x:Operand) (ho:o.op=.load ty x)
  (g:Nat) (hx:a.eval x=.pointer (some ⟨g,0,none⟩)) (t:TypeId) (cs:Array Value) (fr:Nat × Nat) (d:TypeDesc) (hg:w.heap[g]? = some (.cells cs t fr))
  (hu:P.underlying ty=some d) (hd:(match d with | .struct _ | .array _ _=>true | _=>false)=true) (hi:(P.info? ty).map (·.size)=some cs.size)
  (h:V (.agg cs) w):R4.Oper.slotAt P o a w V:=by
 unfold R4.Oper.slotAt execOp;simp only [ho,hx,Instr.loadAt,Instr.sureAddr,Sem.run_bind,Sem.run_pure,Result.andThen_ok,run_loadVar_row w g t ty cs fr d hg hu hd hi];exact h
theorem Turned.row {W w:World} {b:Nat} (h:Turned W w b) (cs:Array Value):Turned W (w.setRow b cs) b :=
 h.by ⟨rfl,rfl,rfl,by unfold World.setRow;simp,fun k _ hk=>setRow_other w b k cs (fun e=>hk (by rw [e]))⟩ (Nat.le_refl _) (fun _ e=>by cases e;exact .inr rfl)
theorem six_cells {w:World} {b:Nat} {cs:Array Value} {T:TypeId} (v0 v1 v2 v3 v4 v5:Value) (hg:w.heap[b]? = some (.cells cs T (0,0))) :
  ((((((w.setCell ⟨b,0,none⟩ v0).setCell ⟨b,1,none⟩ v1).setCell ⟨b,2,none⟩ v2).setCell ⟨b,3,none⟩ v3).setCell ⟨b,4,none⟩ v4).setCell ⟨b,5,none⟩ v5).heap[b]? = some (.cells ((((((cs.setIfInBounds 0 v0).setIfInBounds 1 v1).setIfInBounds 2 v2).setIfInBounds 3 v3).setIfInBounds 4 v4).setIfInBounds 5 v5) T (0,0)) :=
 heap_setCell_same _ _ _ _ _ _ (heap_setCell_same _ _ _ _ _ _ (heap_setCell_same _ _ _ _ _ _ (heap_setCell_same _ _ _ _ _ _ (heap_setCell_same _ _ _ _ _ _ (heap_setCell_same _ _ _ _ _ _ hg)))))
def rowS (la:List Num) (n:Nat) (K:Nat) (i k m:Nat):C4:=sumC m fun j=>mulC (scl K (la.getD (i*n+j) noneZ)) (conjC (scl K (la.getD (k*n+j) noneZ)))
set_option maxRecDepth 100000 in
set_option maxHeartbeats 8000000 in
theorem unitary_any (n:Nat) (a0:Option Addr) (k0:Nat) (la:List Num) (w:World) (n1:1≤n) (n2:n≤6) (hla:la.length=n*n) (h0:Nms w a0 la) (va:VldL la) (hu:Uni n la) :
  Calls Tryz.prog 37 #[.agg #[.int .i64 n,.slice a0 la.length k0]] w fun e w'=>e=.returned (.tuple #[.bool true,.int .i64 0])∧Grew w w':=by
 have q:n*n≤36:=by have h:=Nat.mul_le_mul n2 n2;omega
 have i1:(1:Int)≤n:=by omega
 have i2:(n:Int)≤6:=by omega
 have la9:la.length≤9223372036854775807:=by omega
 have la36:la.length≤36:=by omega
 have laI:(la.length:Int)=(n:Int)*n:=by rw [hla];exact Int.natCast_mul n n
 have HVA:=hid fun w' (hg:Grew w w')=>mvalid_ok n i1 i2 a0 k0 la w' la9 (h0.grew hg) va laI
 have HE:=hid fun w' (hg:Grew w w')=>exponent_any a0 k0 la w' la9 (h0.grew hg)
 obtain ⟨K,hK⟩:∃ K,expL la=K:=⟨_,rfl⟩;rw [hK] at HE;have hK40:K≤40:=by rw [← hK];exact expL_le (by decide) fun z hz=>(by obtain ⟨i,hi⟩:=List.mem_iff_getElem?.1 hz;exact (validB_k (va _ _ hi)).2)
 have hK0:0≤K:=by rw [← hK];exact (expL_ge la).1
 have H0:=hid h0;have Hla:=hid hla;have HKe:=hid hK;clear hla h0 laI hK la9;go_enter Tryz.func37,Tryz.ntmps37
 go_wp2_with fail
 refine (HVA.out _ gw0).mono ?_;rintro e w' ⟨rfl,g,n',rfl⟩;go_wp2_with fail
 refine R2.wp_region_makes_one 5 (.cells #[.int .i64 0,.slice none 0 0] 135) (by kernel_rfl) (by kernel_rfl) (by decide) (fun _ _=>by kernel_rfl) ?_;simp only [List.take_succ_cons,List.take_zero];repeat (refine wpGentle_step (fun K hK=>?_);go_simp;first | (refine hK _ ?_;clear hK K) | (apply Exists.intro;refine ⟨fun gq kq=>?_,hK _ ?_⟩;(focus (first | (go_at_call 77;with_reducible exact HE.out _ gw0)));clear hK K))
 refine wpGentle_nil ?_;simp only [List.drop_succ_cons,List.drop_zero,List.getElem_cons_succ,List.getElem_cons_zero,Act.put,List.setIfInBounds_toArray,List.set_cons_zero,List.set_cons_succ];intro ga gb kk;go_wp2_with fail
 obtain ⟨bT,hbT⟩:∃ bT,(((w.alloc (.cells #[.int .i64 n,.slice a0 la.length k0] 35)).grow g).drewN n').heap.size+ga.length=bT:=⟨_,rfl⟩;rw [hbT];refine wp_name fun Wb hWb=>?_
 have hGb:Grew w Wb:=by rw [hWb];exact gw0
 have hcb:Wb.cell? ⟨bT,0,none⟩=some (.int .i64 n)∧Wb.cell? ⟨bT,1,none⟩=some (.slice a0 la.length k0)∧Wb.cell? ⟨w.heap.size,0,none⟩=some (.int .i64 n)∧bT<Wb.heap.size∧w.heap.size<Wb.heap.size:=by
  rw [hWb,← hbT];simp [go_sem] <;> omega
 obtain ⟨cb0,cb1,cb2,lbT,lbm⟩:=hcb;clear hWb hbT;go_loopw [23] (fun v wr=>∃ i:Nat,i≤n∧v=.int .i64 i∧Grew Wb wr) (fun v _=>n - (intOf v).toNat)
 case atStart=>exact ⟨0,Nat.zero_le _,rfl,Grew.refl _⟩
 case round =>
  obtain ⟨i,hin,rfl,hgi⟩:=hrel;by_cases hlt:i<n
  · have ci2:=(hgi.cell lbm 0).trans cb2
    go_wp2_with fail
    clear ci2;go_loopw [28] (fun v wr=>∃ k:Nat,k≤n∧v=.int .i64 k∧Grew Wb wr) (fun v _=>n - (intOf v).toNat)
    case atStart=>exact ⟨0,Nat.zero_le _,rfl,hgi⟩
    case round =>
     clear hgi;obtain ⟨k,hkn,rfl,hgk⟩:=hrel;by_cases hlk:k<n
     · have ck2:=(hgk.cell lbm 0).trans cb2
       have lk:=Nat.lt_of_lt_of_le lbm hgk.size;have lk1:=fun m0:Nat=>Nat.lt_add_right m0 (lk)
       have lk2:=fun m0 m1:Nat=>Nat.lt_add_right m1 (lk1 m0)
       have lk3:=fun m0 m1 m2:Nat=>Nat.lt_add_right m2 (lk2 m0 m1)
       go_wp2_with fail
       clear ck2 lk1 lk2 lk3;obtain ⟨b8,hb8⟩:∃ b8,wr.heap.size=b8:=⟨_,rfl⟩;rw [hb8];refine wp_name fun W2 hW2=>?_
       have hG2:Grew wr W2:=by rw [hW2];exact gw0
       have hs2:W2.heap.size=b8+2:=by rw [hW2,← hb8];simp [go_sem]
       have hz8:W2.heap[b8]? = some (.cells (svC (rowS la n K.toNat i k 0)) 145 (0,0)):=by
        rw [show rowS la n K.toNat i k 0=zero from rfl,svC_zero,hW2,← hb8];exact wblk_pastT (by simp [go_sem]) (wblk_new rfl)
       have hz9:W2.heap[b8+1]? = some (.cells (svC zero) 145 (0,0)):=by
        rw [svC_zero,hW2,← hb8];exact wblk_new (by simp [go_sem])
       have hb8b:Wb.heap.size≤b8:=by rw [← hb8];exact hgk.size
       have HGB2:=hid (hgk.trans hG2);clear hW2 hb8 hG2;have HS2:=hid hs2;clear hs2;have HF:Hid (rowS la n K.toNat i k n=if i=k then ⟨2 ^ K.toNat,0,0,0⟩ else zero):=rows_scl hu (by omega) (fun q=>by
        by_cases hq:q<la.length
        · have h1:=(expL_ge la).2 (la.getD q noneZ) (by rw [List.getD_eq_getElem?_getD,List.getElem?_eq_getElem hq];exact List.getElem_mem hq)
          rw [HKe.out] at h1;omega
        · rw [List.getD_eq_getElem?_getD,List.getElem?_eq_none (by omega)]
          exact Nat.zero_le _) hlt hlk
       rename_i Kr hKr
       have HK:=hid hKr;clear hKr;go_loopw [33] (fun v w3=>∃ m:Nat,m≤n∧v=.int .i64 m∧Turned W2 w3 b8∧w3.heap[b8]? = some (.cells (svC (rowS la n K.toNat i k m)) 145 (0,0))) (fun v _=>n - (intOf v).toNat)
       case atStart=>exact ⟨0,Nat.zero_le _,rfl,Turned.refl _ _,hz8⟩
       case round =>
        obtain ⟨m,hmn,rfl,hT,h8⟩:=hrel;by_cases hlm:m<n
        · have hgb3:Grew Wb wr:=hT.toGrew HGB2.out hb8b
          have hg3:=hid (hGb.trans hgb3);have d0:=(hgb3.cell lbT 0).trans cb0;have d1:=(hgb3.cell lbT 1).trans cb1;have lT:=Nat.lt_of_lt_of_le lbT hgb3.size;have q1:i*n≤36:=sq_le hlt n2;have q2:k*n≤36:=sq_le hlk n2;have c1:(i:Int)*n=((i*n:Nat):Int):=by simp
          have c2:(k:Int)*n=((k*n:Nat):Int):=by simp
          obtain ⟨zk,hzk⟩:∃ z,la.getD (k*n+m) noneZ=z:=⟨_,rfl⟩;obtain ⟨zi,hzi⟩:∃ z,la.getD (i*n+m) noneZ=z:=⟨_,rfl⟩;have gk:la[k*n+m]? = some zk:=by
           have h:=grid_lt hlk hlm;rw [← hzk,List.getD_eq_getElem?_getD,List.getElem?_eq_getElem (by rw [Hla.out];exact h)];rfl
          have gi:la[i*n+m]? = some zi:=by
           have h:=grid_lt hlt hlm;rw [← hzi,List.getD_eq_getElem?_getD,List.getElem?_eq_getElem (by rw [Hla.out];exact h)];rfl
          have vk:=validB_k (va _ _ gk);have vi:=validB_k (va _ _ gi);have ek:zk.k≤K:=by rw [← HKe.out];exact (expL_ge la).2 _ (List.mem_of_getElem? gk)
          have ei:zi.k≤K:=by rw [← HKe.out];exact (expL_ge la).2 _ (List.mem_of_getElem? gi)
          have HXk:=hid fun w' (hg:Grew w w')=>at_any n k m (k*n+m) zk a0 k0 la w' la36 (H0.out.grew hg) (by omega) (by omega) (by omega) gk
          have HXi:=hid fun w' (hg:Grew w w')=>at_any n i m (i*n+m) zi a0 k0 la w' la36 (H0.out.grew hg) (by omega) (by omega) (by omega) gi
          have HSk:=hid fun w'=>scaled_any zk.x zk.k K w' vk.1 ek hK40 (fun q hq=>by have:=uni_small hu hlk hlm (m:=q) (by rw [hzk];exact hq);rwa [hzk] at this)
          have HSi:=hid fun w'=>scaled_any zi.x zi.k K w' vi.1 ei hK40 (fun q hq=>by have:=uni_small hu hlt hlm (m:=q) (by rw [hzi];exact hq);rwa [hzi] at this)
          have mk:SmC (rpow (K - zk.k).toNat zk.x):=by have:=uni_small hu hlk hlm (m:=(K - zk.k).toNat) (by rw [hzk];omega);rwa [hzk] at this
          have mi:SmC (rpow (K - zi.k).toNat zi.x):=by have:=uni_small hu hlt hlm (m:=(K - zi.k).toNat) (by rw [hzi];omega);rwa [hzi] at this
          have tk:Hid (scl K.toNat (la.getD (k*n+m) noneZ)=rpow (K - zk.k).toNat zk.x):=by
           unfold Hid scl;rw [hzk,show K.toNat - zk.k.toNat=(K - zk.k).toNat by omega]
          have ti:Hid (scl K.toNat (la.getD (i*n+m) noneZ)=rpow (K - zi.k).toNat zi.x):=by
           unfold Hid scl;rw [hzi,show K.toNat - zi.k.toNat=(K - zi.k).toNat by omega]
          obtain ⟨sk,hsk⟩:∃ s,rpow (K - zk.k).toNat zk.x=s:=⟨_,rfl⟩;obtain ⟨si,hsi⟩:∃ s,rpow (K - zi.k).toNat zi.x=s:=⟨_,rfl⟩;rw [hsk] at HSk mk tk;rw [hsi] at HSi mi ti;have Mk:=hid mk;have Mi:=hid mi;obtain ⟨⟨_,_⟩,⟨_,_⟩,⟨_,_⟩,⟨_,_⟩⟩:=mk;obtain ⟨S0,hS0⟩:∃ S0,rowS la n K.toNat i k m=S0:=⟨_,rfl⟩;rw [hS0] at h8;have HS0:=hid hS0;have l8:b8<wr.heap.size:=(Array.getElem?_eq_some_iff.1 h8).1;have HT:=hid hT;have H8:=hid h8;have HD0:=hid d0;have HD1:=hid d1;clear hT h8 hS0 hsk hsi mi gk gi vk vi ek ei c1 c2 q1 q2 hzk hzi hgb3;have lT1:=fun m0:Nat=>Nat.lt_add_right m0 (lT)
          have lT2:=fun m0 m1:Nat=>Nat.lt_add_right m1 (lT1 m0)
          have lT3:=fun m0 m1 m2:Nat=>Nat.lt_add_right m2 (lT2 m0 m1)
          go_wp2_with fail
          refine (HXk.out _ (hg3.out.trans gw0)).mono ?_;rintro e w' ⟨rfl,g1,m1,rfl⟩;go_wp2_with fail
          refine (HSk.out _).mono ?_;rintro e w' ⟨rfl,g2,m2,rfl⟩;go_wp2_with fail
          obtain ⟨b12,hb12⟩:∃ b,wr.heap.size+g1.length+g2.length+1=b:=⟨_,rfl⟩;rw [hb12];refine wp_name fun W4 hW4=>?_
          have hG4:Grew wr W4:=by rw [hW4];exact gw0
          have hy:W4.cell? ⟨b12,0,none⟩=some (.int .i64 sk.a)∧W4.cell? ⟨b12,1,none⟩=some (.int .i64 (-sk.d))∧W4.cell? ⟨b12,2,none⟩=some (.int .i64 (-sk.c))∧W4.cell? ⟨b12,3,none⟩=some (.int .i64 (-sk.b))∧b12<W4.heap.size:=by
           rw [hW4,← hb12];simp [go_sem]
          obtain ⟨y0,y1,y2,y3,ly⟩:=hy;have x0:=(hG4.cell lT 0).trans HD0.out;have x1:=(hG4.cell lT 1).trans HD1.out;have lT4:=Nat.lt_of_lt_of_le lT hG4.size;have L8:b8<W4.heap.size:=Nat.lt_of_lt_of_le l8 hG4.size;have E8:=hid ((hG4.block b8 l8).trans H8.out);have hg4:=hid (hg3.out.trans hG4);have HG4:=hid hG4;have HONE:=hid fun w=>sone_C w
          have HT1:=hid fun w=>stimes_C oneC si w Mi.out
          have HT2:=hid fun w=>stimes_C (mulC oneC si) (conjC sk) w (by obtain ⟨⟨_,_⟩,⟨_,_⟩,⟨_,_⟩,⟨_,_⟩⟩:=Mk.out;unfold conjC;exact ⟨by dsimp only;omega,by dsimp only;omega,by dsimp only;omega,by dsimp only;omega⟩)
          have HP:Hid (∀ w,Calls Tryz.prog 79 #[.agg (svC S0),SV (mulC (mulC oneC si) (conjC sk))] w fun e w'=>e=.returned (SV (addC S0 (mulC (mulC oneC si) (conjC sk))))∧Grew w w'):=hid fun w=>splus_C S0 _ w
          clear hW4 hb12 hG4 d0 d1 lT lT1 lT2 lT3;have ly1:=fun m0:Nat=>Nat.lt_add_right m0 (ly)
          have ly2:=fun m0 m1:Nat=>Nat.lt_add_right m1 (ly1 m0)
          have ly3:=fun m0 m1 m2:Nat=>Nat.lt_add_right m2 (ly2 m0 m1)
          have lT41:=fun m0:Nat=>Nat.lt_add_right m0 (lT4)
          have lT42:=fun m0 m1:Nat=>Nat.lt_add_right m1 (lT41 m0)
          have lT43:=fun m0 m1 m2:Nat=>Nat.lt_add_right m2 (lT42 m0 m1)
          refine R4.wp_region_slots 12 (fun ix vs W=>match ix with | 0=>vs 0=.agg (svC S0) | 1=>vs 1=SV oneC | 2=>vs 2=.agg #[.int .i64 n,.slice a0 la.length k0] | 3=>vs 3=.int .i64 i | 4=>vs 4=.int .i64 m | 5=>vs 5=.agg #[.int .i64 zi.x.a,.int .i64 zi.x.b,.int .i64 zi.x.c,.int .i64 zi.x.d,.int .i64 zi.k] | 6=>vs 6=.int .i64 K | 7=>vs 7=.agg #[.int .i64 si.a,.int .i64 si.b,.int .i64 si.c,.int .i64 si.d] | 8=>vs 8=SV (mulC oneC si) | 9=>vs 9=.agg #[.int .i64 sk.a,.int .i64 (-sk.d),.int .i64 (-sk.c),.int .i64 (-sk.b)] | 10=>vs 10=SV (mulC (mulC oneC si) (conjC sk)) | 11=>vs 11=SV (addC S0 (mulC (mulC oneC si) (conjC sk))) | _=>True) (by kernel_rfl) (by kernel_rfl) ?slst ?sldep ?slop ?slq
          case slst =>
           intro ix vs W W' h hg;match ix,h with
           | 0,h=>exact h
           | 1,h=>exact h
           | 2,h=>exact h
           | 3,h=>exact h
           | 4,h=>exact h
           | 5,h=>exact h
           | 6,h=>exact h
           | 7,h=>exact h
           | 8,h=>exact h
           | 9,h=>exact h
           | 10,h=>exact h
           | 11,h=>exact h
           | _+12,_=>trivial
          case sldep =>
           intro ix o vs vs' W hix ho h hv hn;match ix,hix,ho,h,hv with
           | 0,_,_,h,hv=>exact Eq.trans hv h
           | 1,_,_,h,hv=>exact Eq.trans hv h
           | 2,_,_,h,hv=>exact Eq.trans hv h
           | 3,_,_,h,hv=>exact Eq.trans hv h
           | 4,_,_,h,hv=>exact Eq.trans hv h
           | 5,_,_,h,hv=>exact Eq.trans hv h
           | 6,_,_,h,hv=>exact Eq.trans hv h
           | 7,_,_,h,hv=>exact Eq.trans hv h
           | 8,_,_,h,hv=>exact Eq.trans hv h
           | 9,_,_,h,hv=>exact Eq.trans hv h
           | 10,_,_,h,hv=>exact Eq.trans hv h
           | 11,_,_,h,hv=>exact Eq.trans hv h
           | kx+12,hix,_,_,_=>exact absurd hix (by omega)
          case slop =>
           intro ix o hix ho vs W L hg hL hn hall;match ix,hix,ho,hL with
           | 0, _, ho, _ =>
             obtain rfl:=Option.some.inj ho;change R4.Oper.slotAt _ _ { tmps:=_,defers:=_ } _ _;exact slot_row 145 (.tmp 8) rfl b8 rfl 145 (svC S0) (0,0) _ ((hg.block b8 L8).trans E8.out) Tryz.underlying145 rfl sum_size ⟨R4.upd_same _ _ _,.inl (Grew.refl _)⟩
           | 1, _, ho, _ =>
             obtain rfl:=Option.some.inj ho;change R4.Oper.slotAt _ _ { tmps:=_,defers:=_ } _ _;obtain ⟨gq,nq,rfl⟩:=hg;go_simp;refine (HONE.out _).mono ?_;exact k37_
           | 2, _, ho, _ =>
             exact k22_
           | 3, _, ho, _ =>
             exact k22_
           | 4, _, ho, _ =>
             exact k22_
           | 5, _, ho, _ =>
             obtain rfl:=Option.some.inj ho;have hn2:=(hn 2 (by decide)).2;have hn3:=(hn 3 (by decide)).2;have hn4:=(hn 4 (by decide)).2;try dsimp only at hn2 hn3 hn4
             change R4.Oper.slotAt _ _ (Act.put (Act.put (Act.put _ (some 56) (vs 2)) (some 57) (vs 3)) (some 58) (vs 4)) _ _;conv=>arg 3;rw [hn2,hn3,hn4]
             clear hn2 hn3 hn4;obtain ⟨gq,nq,rfl⟩:=hg;go_simp;refine (HXi.out _ (hg4.out.trans gw0)).mono ?_;exact k37_
           | 6, _, ho, _ =>
             exact k22_
           | 7, _, ho, _ =>
             obtain rfl:=Option.some.inj ho;have hn5:=(hn 5 (by decide)).2;have hn6:=(hn 6 (by decide)).2;try dsimp only at hn5 hn6
             change R4.Oper.slotAt _ _ (Act.put (Act.put _ (some 59) (vs 5)) (some 60) (vs 6)) _ _;conv=>arg 3;rw [hn5,hn6]
             clear hn5 hn6;obtain ⟨gq,nq,rfl⟩:=hg;go_simp;refine (HSi.out _).mono ?_;exact k37_
           | 8, _, ho, _ =>
             obtain rfl:=Option.some.inj ho;have hn1:=(hn 1 (by decide)).2;have hn7:=(hn 7 (by decide)).2;try dsimp only at hn1 hn7
             change R4.Oper.slotAt _ _ (Act.put (Act.put _ (some 55) (vs 1)) (some 61) (vs 7)) _ _;conv=>arg 3;rw [hn1,hn7]
             clear hn1 hn7;obtain ⟨gq,nq,rfl⟩:=hg;go_simp;refine (HT1.out _).mono ?_;exact k37_
           | 9, _, ho, _ =>
             exact k22_
           | 10, _, ho, _ =>
             obtain rfl:=Option.some.inj ho;have hn8:=(hn 8 (by decide)).2;have hn9:=(hn 9 (by decide)).2;try dsimp only at hn8 hn9
             change R4.Oper.slotAt _ _ (Act.put (Act.put _ (some 62) (vs 8)) (some 63) (vs 9)) _ _;conv=>arg 3;rw [hn8,hn9]
             clear hn8 hn9;obtain ⟨gq,nq,rfl⟩:=hg;go_simp;refine (HT2.out _).mono ?_;exact k37_
           | 11, _, ho, _ =>
             obtain rfl:=Option.some.inj ho;have hn0:=(hn 0 (by decide)).2;have hn10:=(hn 10 (by decide)).2;try dsimp only at hn0 hn10
             change R4.Oper.slotAt _ _ (Act.put (Act.put _ (some 54) (vs 0)) (some 64) (vs 10)) _ _;conv=>arg 3;rw [hn0,hn10]
             clear hn0 hn10;obtain ⟨gq,nq,rfl⟩:=hg;go_simp;refine (HP.out _).mono ?_;exact k37_
           | kx+12,hix,_,_=>exact absurd hix (by omega)
          case slq =>
           intro vs W hg hn;have hn0:=hn 0 (by decide) (by decide);have hn1:=hn 1 (by decide) (by decide);have hn2:=hn 2 (by decide) (by decide);have hn3:=hn 3 (by decide) (by decide);have hn4:=hn 4 (by decide) (by decide);have hn5:=hn 5 (by decide) (by decide);have hn6:=hn 6 (by decide) (by decide);have hn7:=hn 7 (by decide) (by decide);have hn8:=hn 8 (by decide) (by decide);have hn9:=hn 9 (by decide) (by decide);have hn10:=hn 10 (by decide) (by decide);have hn11:=hn 11 (by decide) (by decide);change wpList _ _ _ _ (Act.put (Act.put (Act.put (Act.put (Act.put (Act.put (Act.put (Act.put (Act.put (Act.put (Act.put (Act.put _ (some 54) (vs 0)) (some 55) (vs 1)) (some 56) (vs 2)) (some 57) (vs 3)) (some 58) (vs 4)) (some 59) (vs 5)) (some 60) (vs 6)) (some 61) (vs 7)) (some 62) (vs 8)) (some 63) (vs 9)) (some 64) (vs 10)) (some 65) (vs 11)) _;rw [hn0,hn1,hn2,hn3,hn4,hn5,hn6,hn7,hn8,hn9,hn10,hn11];clear hn hn0 hn1 hn2 hn3 hn4 hn5 hn6 hn7 hn8 hn9 hn10 hn11;simp only [Act.put,List.setIfInBounds_toArray,List.set_cons_zero,List.set_cons_succ,List.drop_succ_cons,List.drop_zero];refine wpList_store_row rfl 145 (.tmp 8) (.tmp 65) rfl b8 (svC (addC S0 (mulC (mulC oneC si) (conjC sk)))) rfl rfl 145 (svC S0) ((hg.block b8 L8).trans E8.out) sum_size rfl (svC_one _) ?_;apply wpList_nil;go_wp2_with fail
           go_roundw
           case rel=>exact ⟨m+1,by omega,by go_num,Turned.row ((HT.out.grew HG4.out).grew hg) _,by
            rw [setRow_heap _ _ _ _ _ _ ((hg.block b8 L8).trans E8.out),← HS0.out,show rowS la n K.toNat i k (m+1)=addC (rowS la n K.toNat i k m) (mulC (scl K.toNat (la.getD (i*n+m) noneZ)) (conjC (scl K.toNat (la.getD (k*n+m) noneZ)))) from rfl,ti.out,tk.out,one_mulC]⟩
           case measure=>simp [intOf];omega
        · obtain rfl:m=n:=by omega
          rw [HF.out] at h8;have h9:=(hT.block (k:=b8+1) (by have:=HS2.out;omega) (by omega)).trans hz9;have hgb3:Grew Wb wr:=hT.toGrew HGB2.out hb8b;have l9:b8+1<wr.heap.size:=(Array.getElem?_eq_some_iff.1 h9).1;have H8:=hid h8;have H9:=hid h9;have f9:∀ j,wr.frozen? ⟨b8+1,j,none⟩=false:=fun j=>by simp [World.frozen?,h9]
          have e9:∀ j,j<6→wr.cell? ⟨b8+1,j,none⟩=some (.int .u64 0):=fun j hj=>by
           simp only [World.cell?,h9,svC_zero];match j,hj with
           | 0,_=>rfl
           | 1,_=>rfl
           | 2,_=>rfl
           | 3,_=>rfl
           | 4,_=>rfl
           | 5,_=>rfl
          clear h8 h9 hz8 hz9;by_cases hik:i=k
          · rw [if_pos hik] at H8
            have e1:((i:Int)==(k:Int))=true:=by simp;omega
            have Hik:=hid hik;clear hik;have f0:=f9 0;have f1:=f9 1;have f2:=f9 2;have f3:=f9 3;have f4:=f9 4;have f5:=f9 5;have c0:=e9 0 (by decide);have c1:=e9 1 (by decide);have c2:=e9 2 (by decide);have c3:=e9 3 (by decide);have c4:=e9 4 (by decide);have c5:=e9 5 (by decide);clear f9 e9;have l91:=fun m0:Nat=>Nat.lt_add_right m0 (l9)
            have l92:=fun m0 m1:Nat=>Nat.lt_add_right m1 (l91 m0)
            have l93:=fun m0 m1 m2:Nat=>Nat.lt_add_right m2 (l92 m0 m1)
            go_wp2_with fail
            refine HK.out _ _ ?_;apply wp_seq_k;intro Ka hKa;have HKa:=hid hKa;clear hKa;go_wp2_with fail
            obtain ⟨P,hP⟩:∃ P:Int,2 ^ K.toNat=P:=⟨_,rfl⟩;have p1:0≤P:=by rw [← hP];exact Int.le_of_lt (Int.pow_pos (by decide))
            have p2:P≤1099511627776:=by
             have h:=Nat.pow_le_pow_right (n:=2) (by decide) (show K.toNat≤40 by omega);have e:(2:Int) ^ K.toNat=((2 ^ K.toNat:Nat):Int):=by simp
             rw [← hP,e];omega
            rw [hP] at H8 ⊢;have HW:=hid fun w=>whole_any P w p1 (by omega)
            rw [IntWalk.wrap64_in _ ⟨by omega,by omega⟩];clear hP;refine (HW.out _).mono ?_;rintro e w' ⟨rfl,g1,m1,rfl⟩;go_wp2_with fail
            have h8:(((((((((wr.setCell ⟨b8+1,0,none⟩ (.int .u64 (wd P 0))).setCell ⟨b8+1,1,none⟩ (.int .u64 (wd P 1))).setCell ⟨b8+1,2,none⟩ (.int .u64 (wd P 2))).setCell ⟨b8+1,3,none⟩ (.int .u64 (wd P 3))).setCell ⟨b8+1,4,none⟩ (.int .u64 (wd P 4))).setCell ⟨b8+1,5,none⟩ (.int .u64 (wd P 5))).grow g1).drewN m1).heap)[b8]? = some (.cells (svC ⟨P,0,0,0⟩) 145 (0,0)):=wblk_drewN (wblk_grow (by simp [go_sem];omega) (by
             iterate 6 rw [heap_setCell_other _ _ _ _ (by show b8≠b8+1;omega)]
             exact H8.out))
            have h9:(((((((((wr.setCell ⟨b8+1,0,none⟩ (.int .u64 (wd P 0))).setCell ⟨b8+1,1,none⟩ (.int .u64 (wd P 1))).setCell ⟨b8+1,2,none⟩ (.int .u64 (wd P 2))).setCell ⟨b8+1,3,none⟩ (.int .u64 (wd P 3))).setCell ⟨b8+1,4,none⟩ (.int .u64 (wd P 4))).setCell ⟨b8+1,5,none⟩ (.int .u64 (wd P 5))).grow g1).drewN m1).heap)[b8+1]? = some (.cells (svC ⟨P,0,0,0⟩) 145 (0,0)):=wblk_drewN (wblk_grow (by simp [go_sem];omega) (by
             rw [six_cells _ _ _ _ _ _ H9.out];unfold svC zero;simp [wd_zero]))
            refine HKa.out _ _ ?_;clear HKa Ka;apply wp_seq_k;intro Kc hKc;apply wp_region_lit;refine wpList_load_row rfl 145 (.tmp 8) rfl b8 rfl 145 (svC ⟨P,0,0,0⟩) (0,0) _ h8 Tryz.underlying145 rfl sum_size ?_;refine wpList_load_row rfl 145 (.tmp 9) rfl (b8+1) rfl 145 (svC ⟨P,0,0,0⟩) (0,0) _ h9 Tryz.underlying145 rfl sum_size ?_;clear h8 h9;go_wp2_with fail
            go_roundw
            case rel=>exact ⟨k+1,by omega,by go_num,Grew.drewN (Grew.grow (Grew.set (Grew.set (Grew.set (Grew.set (Grew.set (Grew.set hgb3 (by omega) _ _) (by omega) _ _) (by omega) _ _) (by omega) _ _) (by omega) _ _) (by omega) _ _) _) _⟩
            case measure=>simp [intOf];omega
          · rw [if_neg hik] at H8
            have e1:((i:Int)==(k:Int))=false:=by simp;omega
            have Hik:=hid hik;clear hik f9 e9;go_wp2_with fail
            refine HK.out _ _ ?_;apply wp_seq_k;intro Ka hKa;have HKa:=hid hKa;clear hKa;go_wp2_with fail
            refine HKa.out _ _ ?_;clear HKa Ka;apply wp_seq_k;intro Kc hKc;apply wp_region_lit;refine wpList_load_row rfl 145 (.tmp 8) rfl b8 rfl 145 (svC zero) (0,0) _ H8.out Tryz.underlying145 rfl sum_size ?_;refine wpList_load_row rfl 145 (.tmp 9) rfl (b8+1) rfl 145 (svC zero) (0,0) _ H9.out Tryz.underlying145 rfl sum_size ?_;go_wp2_with fail
            go_roundw
            case rel=>exact ⟨k+1,by omega,by go_num,hgb3⟩
            case measure=>simp [intOf];omega
     · obtain rfl:k=n:=by omega
       go_wp2_with fail
       go_roundw
       case rel=>exact ⟨i+1,by omega,by go_num,hgk⟩
       case measure=>simp [intOf];omega
  · obtain rfl:i=n:=by omega
    go_wp2_with fail
    exact bodyPost_ret (v:=.tuple #[.bool true,.int .i64 0]) (by simp [results,Tryz.results37,go_sem]) rfl ⟨rfl,(hGb.trans hgi)⟩
end Go.Proofs.YtchdmecjhaanfaaGreatDoor
