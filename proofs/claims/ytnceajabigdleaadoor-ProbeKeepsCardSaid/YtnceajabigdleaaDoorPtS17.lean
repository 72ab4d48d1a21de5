/- The starter of the seat: tables. No condition. -/
import Derived.Test.YtnceajabigdleaaDoorPtS16
import Derived.Test.YtnceajabigdleaaDoorPtS9
import Derived.Test.YtnceajabigdleaaDoorPtS10
namespace Go.Proofs.YtnW
open Go Go.Pt Go.Conc Go.RowKit Go.Conc.Lib Go.ConcR.Gen Go.ConcN.Gen
open Go.ConcN hiding EvL Inv Fin
open Go.ConcR (KK wgBlock WgAt stA smA rd wr Payload Aside2 DC0)
noncomputable def LB34 : Code := match Tryd.f34.body.getD .skip with
  | .seq _ (.seq _ (.seq _ (.seq _ (.seq (.seq _ (.block _ (.loop b))) _)))) => b
  | _ => .skip
noncomputable def RE34 : Code := match Tryd.f34.body.getD .skip with
  | .seq _ (.seq _ (.seq _ (.seq _ (.seq _ r)))) => r
  | _ => .skip
structure Lay (c : Cst) : Prop where
  K : ∀ b, c.K b → b < c.B1 ∧ b ≠ c.C ∧ b ≠ c.Wg ∧ ¬ c.S b
  C : c.C < c.B1
  W : c.Wg < c.B1
  CW : c.C ≠ c.Wg
  big : c.n < 2147483648
structure FS (c : Cst) (n cnt bn bc bo : Nat) (w : World) : Prop where
  xc : w.heap[bc]? = some (.cells #[.int .i64 cnt] 3)
  xn : w.heap[bn]? = some (.cells #[.int .i64 n] 3)
  xo : w.heap[bo]? = some (.cells #[.slice (some ⟨c.C, 0, none⟩) c.n c.n] 73)
  size : c.B1 ≤ w.heap.size
structure FB (c : Cst) (n cnt bn bc bo kb j : Nat) (w : World) : Prop where
  f : FS c n cnt bn bc bo w
  low : c.B1 ≤ kb
  x : w.heap[kb]? = some (.cells #[.int .i64 j] 3)
section
variable {c : Cst} {n cnt bn bc bo kb j : Nat} {cur : Option Nat} {w w' : World} {es : Array Event}
theorem FS.of (H : Cs c n cnt bn bc bo) (h : FS c n cnt bn bc bo w) (hs : w.heap.size ≤ w'.heap.size) (hb : ∀ b, c.K b → w'.heap[b]? = w.heap[b]?) : FS c n cnt bn bc bo w' :=
  ⟨(hb bc ((H.K _).2 (.inr (.inl rfl)))).trans h.xc, (hb bn ((H.K _).2 (.inl rfl))).trans h.xn, (hb bo ((H.K _).2 (.inr (.inr rfl)))).trans h.xo, Nat.le_trans h.size hs⟩
theorem FS.rely (H : Cs c n cnt bn bc bo) (L : Lay c) : ∀ w w', c.RS cur w w' → FS c n cnt bn bc bo w → FS c n cnt bn bc bo w' :=
  fun _ _ r h => h.of H r.size fun b hb => r.known b (.inl ⟨(L.K b hb).1, (L.K b hb).2.1, (L.K b hb).2.2.1⟩)
theorem FB.rely (H : Cs c n cnt bn bc bo) (L : Lay c) : ∀ w w', c.RS (some kb) w w' → FB c n cnt bn bc bo kb j w → FB c n cnt bn bc bo kb j w' :=
  fun w w' r h => ⟨FS.rely H L w w' r h.f, h.low, (r.known kb (.inr rfl)).trans h.x⟩
theorem FB.ne (L : Lay c) (h : c.B1 ≤ kb) : kb ≠ c.C ∧ kb ≠ c.Wg ∧ ¬ c.K kb := ⟨by have := L.C; omega, by have := L.W; omega, fun hk => by have := (L.K _ hk).1; omega⟩
theorem FB.cell (h : FB c n cnt bn bc bo kb j w) : w.cell? ⟨kb, 0, none⟩ = some (.int .i64 j) := by simp [World.cell?, h.x]
theorem FB.thaw (h : FB c n cnt bn bc bo kb j w) : w.frozen? ⟨kb, 0, none⟩ = false := by simp [World.frozen?, h.x]
theorem FB.put (H : Cs c n cnt bn bc bo) (L : Lay c) {j' : Nat} (h : FB c n cnt bn bc bo kb j w ∧ WgLive c.ty c.Wg w) : FB c n cnt bn bc bo kb j' (w.setCell ⟨kb, 0, none⟩ (.int .i64 j')) ∧ WgLive c.ty c.Wg (w.setCell ⟨kb, 0, none⟩ (.int .i64 j')) := by
  have hne := FB.ne L h.1.low
  have hA := aside_setCell w ⟨kb, 0, none⟩ (.int .i64 j')
  refine ⟨⟨h.1.f.of H (Nat.le_of_eq hA.size.symm) fun b hb => hA.block b fun (e : b = kb) => hne.2.2 (e ▸ hb), h.1.low, ?_⟩, h.2.imp fun st h => h.imp fun sm h => h.of_block (hA.block _ fun e => hne.2.1 e.symm)⟩
  rw [setCell_eq_setRow w kb 0 _ 3 (0, 0) _ h.1.x, setRow_heap w kb _ _ 3 _ h.1.x]
  rfl
theorem goes_le {P : Program} {main : Bool} {R : World → World → Prop} {D : World → World → Array Event → Prop} {Stop : Goroutine → World → Prop} {g : Goroutine} {m m' : Nat} (h : m ≤ m') (hg : Goes P main R D Stop m g w) : Goes P main R D Stop m' g w := by
  induction h with
  | refl => exact hg
  | step _ ih => exact ih.more
theorem at_al {P : Program} (hP : c.P = P) {N : Nat → Goroutine → World → Prop} {g : Goroutine} (hs : g.status = .running) (h : (stepG P true g w).goes fun g' w' es => ∃ o, w' = w.alloc o ∧ (∀ e ∈ es, False) ∧ N w.heap.size g' w') : c.AtAl N g w := by
  obtain ⟨g', w', es, hgo, o, rfl, he, hn⟩ := goes_elim h
  obtain rfl : es = #[] := Array.eq_empty_iff_forall_not_mem.2 he
  exact ⟨hs, g', o, by rw [hP]; exact hgo, hn⟩
theorem at_go {P : Program} (hP : c.P = P) {N : Goroutine → World → Prop} {b : Frame} {a : Act} {k : List Item} {cs : List Frame} {ops : Array Oper} {i : Nat} {rest : List Nat} {o : Oper} {d : Deferred} {f : Fn} {cc : Array Value} (ho : ops[i]? = some o) (hw : Region.wanted o (yielded ops a.tmps) = true)
    (hk : b.kind ≠ .early) (hr : (execOp a.eval o).run P w = .ok (.spawn d) w) (hd : d.target = .fn f cc) (hl : ∀ e ∈ listed P b.fn a o w, False) (hwk : PayAt c.C c.n w → ∃ T, c.Work j kb T (fun _ => False) (born P d) w)
    (hn : N (G (b.at (a.put o.dst undef) (.inRegion ops rest :: k)) cs) w) : c.AtGo j kb N (G (b.at a (.inRegion ops (i :: rest) :: k)) cs) w :=
  ⟨rfl, _, _, by rw [hP, stepG_spawn ho hw hk hr hd, Array.eq_empty_iff_forall_not_mem.2 hl], hwk, hn⟩
theorem ds_store {v : Value} (he : ∀ e ∈ es, e = ⟨.cell ⟨kb, 0, none⟩, true, false⟩) : c.DS (some kb) w (w.setCell ⟨kb, 0, none⟩ v) es := by
  have hA := aside_setCell w ⟨kb, 0, none⟩ v
  refine ⟨hA.tape, hA.os, hA.output, hA.size, fun b hb => hA.block b fun (e : b = kb) => hb (e ▸ rfl), fun e h => ?_⟩
  rw [he e h]
  refine ⟨fun x hx => ?_, by simp, by simp, by simp⟩
  simp only [MemAct.ofEvent, MemAct.touch?, Option.some.injEq] at hx
  subst hx
  exact .inr ⟨.inr rfl, fun _ => rfl⟩
@[go_sem] theorem run_makeFunc9 (P : Program) (fn : Fn) (first cap : Array Value) (w : World) : (Instr.makeFunc fn first cap).run P w = .ok (.func fn first cap) w := by simp [Instr.makeFunc]
@[go_sem] theorem events_makeFunc9 (P : Program) (fn : Fn) (first cap : Array Value) (w : World) (es : Array Event) : (Instr.makeFunc fn first cap).events P w es = es := by simp [Instr.makeFunc]
noncomputable def anch4 (c : Cst) (bn bc bo : Nat) (tl : List Value) (cs : List Frame) (g : Goroutine) (w : World) : Prop :=
  ∃ (u6 u7 u8 u9 u10 u11 u12 u15 u16 u17 u18 u19 u20 u21 : Value), c.AnchW link (FS c 4 6 bn bc bo) ((base 34).at ⟨⟨.int .i64 4 :: .pointer (some ⟨bn, 0, none⟩) :: .slice none 0 0 :: .pointer (some ⟨bc, 0, none⟩) :: .pointer (some ⟨bo, 0, none⟩) :: .pointer (some ⟨c.Wg, 0, none⟩) :: u6 :: u7 :: u8 :: u9 :: u10 :: u11 :: u12 :: .int .i64 64 :: .int .i64 64 :: u15 :: u16 :: u17 :: u18 :: u19 :: u20 :: u21 :: tl⟩, []⟩ [.inRegion (match RE34 with | .seq (.region _ ops _) _ => ops | _ => #[]) [0], .code (match RE34 with | .seq _ r => r | _ => .skip)]) cs g w
set_option maxRecDepth 100000 in
set_option maxHeartbeats 4000000 in
theorem spw4_z (H : Cs c 4 6 bn bc bo) (L : Lay c) (tl : List Value) (cs : List Frame) (u6 u7 u8 u9 u10 u11 u12 u15 u16 u17 u18 u19 u20 u21 : Value) (w : World) (hF : FS c 4 6 bn bc bo w ∧ WgLive c.ty c.Wg w) :
    Goes c.P true (c.RS none) (c.DS none) (c.AtM (Go.ConcR.mk .disable) (c.Seg none (anch4 c bn bc bo tl cs))) 40 (G ((base 34).at ⟨⟨.int .i64 4 :: .pointer (some ⟨bn, 0, none⟩) :: .slice none 0 0 :: .pointer (some ⟨bc, 0, none⟩) :: .pointer (some ⟨bo, 0, none⟩) :: .pointer (some ⟨c.Wg, 0, none⟩) :: u6 :: u7 :: u8 :: u9 :: u10 :: u11 :: u12 :: .int .i64 64 :: .int .i64 64 :: u15 :: u16 :: u17 :: u18 :: u19 :: u20 :: u21 :: tl⟩, []⟩ [.code LB34, .inLoop LB34, .inBlock 0, .code RE34]) cs) w := by
  have hP := H.P
  have hW : WgLib c.P link := by rw [hP]; exact wgLib
  have hA := fun b₀ a₀ ops₀ i₀ rest₀ k₀ => wait_start (c := c) (F := FS c 4 6 bn bc bo) (b₀ := b₀) (a₀ := a₀) (ops₀ := ops₀) (i₀ := i₀) (rest₀ := rest₀) (k₀ := k₀) (cs := cs) hW (FS.rely H L) (Anch := anch4 c bn bc bo tl cs)
  rw [hP] at hA ⊢
  simp only [LB34, RE34, Tryd.f34, Option.getD_some]
  (refine Goes.step rfl (fun _ h₁ => ?_); replace hF := (z_rely (FS.rely H L)) hF h₁; clear h₁; rw [stepG_seq]; simp only [goes_go]; refine ⟨by ((first | refine ds_none ?_ | refine dr_none ?_ | refine dk_none ?_ | u_none); intro e he; simp at he), ?_⟩)
  (refine Goes.step rfl (fun _ h₁ => ?_); replace hF := (z_rely (FS.rely H L)) hF h₁; clear h₁; rw [stepG_region]; simp only [goes_go, List.size_toArray, List.length_cons, List.length_nil, Nat.zero_add, List.range, List.range.loop]; refine ⟨by ((first | refine ds_none ?_ | refine dr_none ?_ | refine dk_none ?_ | u_none); intro e he; simp at he), ?_⟩)
  (refine Goes.step rfl (fun _ h₁ => ?_); replace hF := (z_rely (FS.rely H L)) hF h₁; clear h₁; refine goes_oper_k rfl rfl (by k_ne) (fun K hK => ?_); go_simp; refine hK _ _ ⟨by ((first | refine ds_none ?_ | refine dr_none ?_ | refine dk_none ?_ | u_none); intro e he; have hm := mem_listed he; simp [go_sem, *] at hm), ?_⟩; clear hK K; try w_num)
  (refine Goes.step rfl (fun _ h₁ => ?_); replace hF := (z_rely (FS.rely H L)) hF h₁; clear h₁; rw [stepG_region_end]; simp only [goes_go]; refine ⟨by ((first | refine ds_none ?_ | refine dr_none ?_ | refine dk_none ?_ | u_none); intro e he; simp at he), ?_⟩)
  (refine Goes.step rfl (fun _ h₁ => ?_); replace hF := (z_rely (FS.rely H L)) hF h₁; clear h₁; rw [stepG_seq]; simp only [goes_go]; refine ⟨by ((first | refine ds_none ?_ | refine dr_none ?_ | refine dk_none ?_ | u_none); intro e he; simp at he), ?_⟩)
  (refine Goes.step rfl (fun _ h₁ => ?_); replace hF := (z_rely (FS.rely H L)) hF h₁; clear h₁; rw [stepG_cond (t := false) rfl]; simp only [goes_go, Bool.false_eq_true, ↓reduceIte]; refine ⟨by ((first | refine ds_none ?_ | refine dr_none ?_ | refine dk_none ?_ | u_none); intro e he; simp at he), ?_⟩)
  (refine Goes.step rfl (fun _ h₁ => ?_); replace hF := (z_rely (FS.rely H L)) hF h₁; clear h₁; refine goes_exit rfl ?_; refine ⟨by ((first | refine ds_none ?_ | refine dr_none ?_ | refine dk_none ?_ | u_none); intro e he; simp at he), ?_⟩)
  (refine Goes.step rfl (fun _ h₁ => ?_); replace hF := (z_rely (FS.rely H L)) hF h₁; clear h₁; rw [stepG_seq]; simp only [goes_go]; refine ⟨by ((first | refine ds_none ?_ | refine dr_none ?_ | refine dk_none ?_ | u_none); intro e he; simp at he), ?_⟩)
  (refine Goes.step rfl (fun _ h₁ => ?_); replace hF := (z_rely (FS.rely H L)) hF h₁; clear h₁; rw [stepG_region]; simp only [goes_go, List.size_toArray, List.length_cons, List.length_nil, Nat.zero_add, List.range, List.range.loop]; refine ⟨by ((first | refine ds_none ?_ | refine dr_none ?_ | refine dk_none ?_ | u_none); intro e he; simp at he), ?_⟩)
  (refine Goes.step rfl (fun _ h₁ => ?_); replace hF := (z_rely (FS.rely H L)) hF h₁; clear h₁)
  refine goes_call (f := link.wait) (fn := waitFn link) (c := body_wait link) rfl rfl (by k_ne) rfl wgLib.f_wait (nm_wait link) rfl ⟨by ((first | refine ds_none ?_ | refine dr_none ?_ | refine dk_none ?_ | u_none); intro e he; simp at he), ?_⟩
  simp only [List.map_toArray, List.map_cons, List.map_nil, Act.eval, Array.getD_eq_getD_getElem?, List.getElem?_toArray, List.getElem?_cons_succ, List.getElem?_cons_zero, Option.getD_some]
  refine goes_le (m := 8) (by omega) ?_
  exact hA _ _ _ _ _ _ (fun g w h => ⟨_, _, _, _, _, _, _, _, _, _, _, _, _, _, h⟩) _ hF
noncomputable def anch2 (c : Cst) (bn bc bo : Nat) (tl : List Value) (cs : List Frame) (g : Goroutine) (w : World) : Prop :=
  ∃ (u6 u7 u8 u9 u10 u11 u12 u15 u16 u17 u18 u19 u20 u21 : Value), c.AnchW link (FS c 2 1 bn bc bo) ((base 34).at ⟨⟨.int .i64 2 :: .pointer (some ⟨bn, 0, none⟩) :: .slice none 0 0 :: .pointer (some ⟨bc, 0, none⟩) :: .pointer (some ⟨bo, 0, none⟩) :: .pointer (some ⟨c.Wg, 0, none⟩) :: u6 :: u7 :: u8 :: u9 :: u10 :: u11 :: u12 :: .int .i64 2 :: .int .i64 2 :: u15 :: u16 :: u17 :: u18 :: u19 :: u20 :: u21 :: tl⟩, []⟩ [.inRegion (match RE34 with | .seq (.region _ ops _) _ => ops | _ => #[]) [0], .code (match RE34 with | .seq _ r => r | _ => .skip)]) cs g w
set_option maxRecDepth 100000 in
set_option maxHeartbeats 4000000 in
theorem spw2_z (H : Cs c 2 1 bn bc bo) (L : Lay c) (tl : List Value) (cs : List Frame) (u6 u7 u8 u9 u10 u11 u12 u15 u16 u17 u18 u19 u20 u21 : Value) (w : World) (hF : FS c 2 1 bn bc bo w ∧ WgLive c.ty c.Wg w) :
    Goes c.P true (c.RS none) (c.DS none) (c.AtM (Go.ConcR.mk .disable) (c.Seg none (anch2 c bn bc bo tl cs))) 40 (G ((base 34).at ⟨⟨.int .i64 2 :: .pointer (some ⟨bn, 0, none⟩) :: .slice none 0 0 :: .pointer (some ⟨bc, 0, none⟩) :: .pointer (some ⟨bo, 0, none⟩) :: .pointer (some ⟨c.Wg, 0, none⟩) :: u6 :: u7 :: u8 :: u9 :: u10 :: u11 :: u12 :: .int .i64 2 :: .int .i64 2 :: u15 :: u16 :: u17 :: u18 :: u19 :: u20 :: u21 :: tl⟩, []⟩ [.code LB34, .inLoop LB34, .inBlock 0, .code RE34]) cs) w := by
  have hP := H.P
  have hW : WgLib c.P link := by rw [hP]; exact wgLib
  have hA := fun b₀ a₀ ops₀ i₀ rest₀ k₀ => wait_start (c := c) (F := FS c 2 1 bn bc bo) (b₀ := b₀) (a₀ := a₀) (ops₀ := ops₀) (i₀ := i₀) (rest₀ := rest₀) (k₀ := k₀) (cs := cs) hW (FS.rely H L) (Anch := anch2 c bn bc bo tl cs)
  rw [hP] at hA ⊢
  simp only [LB34, RE34, Tryd.f34, Option.getD_some]
  (refine Goes.step rfl (fun _ h₁ => ?_); replace hF := (z_rely (FS.rely H L)) hF h₁; clear h₁; rw [stepG_seq]; simp only [goes_go]; refine ⟨by ((first | refine ds_none ?_ | refine dr_none ?_ | refine dk_none ?_ | u_none); intro e he; simp at he), ?_⟩)
  (refine Goes.step rfl (fun _ h₁ => ?_); replace hF := (z_rely (FS.rely H L)) hF h₁; clear h₁; rw [stepG_region]; simp only [goes_go, List.size_toArray, List.length_cons, List.length_nil, Nat.zero_add, List.range, List.range.loop]; refine ⟨by ((first | refine ds_none ?_ | refine dr_none ?_ | refine dk_none ?_ | u_none); intro e he; simp at he), ?_⟩)
  (refine Goes.step rfl (fun _ h₁ => ?_); replace hF := (z_rely (FS.rely H L)) hF h₁; clear h₁; refine goes_oper_k rfl rfl (by k_ne) (fun K hK => ?_); go_simp; refine hK _ _ ⟨by ((first | refine ds_none ?_ | refine dr_none ?_ | refine dk_none ?_ | u_none); intro e he; have hm := mem_listed he; simp [go_sem, *] at hm), ?_⟩; clear hK K; try w_num)
  (refine Goes.step rfl (fun _ h₁ => ?_); replace hF := (z_rely (FS.rely H L)) hF h₁; clear h₁; rw [stepG_region_end]; simp only [goes_go]; refine ⟨by ((first | refine ds_none ?_ | refine dr_none ?_ | refine dk_none ?_ | u_none); intro e he; simp at he), ?_⟩)
  (refine Goes.step rfl (fun _ h₁ => ?_); replace hF := (z_rely (FS.rely H L)) hF h₁; clear h₁; rw [stepG_seq]; simp only [goes_go]; refine ⟨by ((first | refine ds_none ?_ | refine dr_none ?_ | refine dk_none ?_ | u_none); intro e he; simp at he), ?_⟩)
  (refine Goes.step rfl (fun _ h₁ => ?_); replace hF := (z_rely (FS.rely H L)) hF h₁; clear h₁; rw [stepG_cond (t := false) rfl]; simp only [goes_go, Bool.false_eq_true, ↓reduceIte]; refine ⟨by ((first | refine ds_none ?_ | refine dr_none ?_ | refine dk_none ?_ | u_none); intro e he; simp at he), ?_⟩)
  (refine Goes.step rfl (fun _ h₁ => ?_); replace hF := (z_rely (FS.rely H L)) hF h₁; clear h₁; refine goes_exit rfl ?_; refine ⟨by ((first | refine ds_none ?_ | refine dr_none ?_ | refine dk_none ?_ | u_none); intro e he; simp at he), ?_⟩)
  (refine Goes.step rfl (fun _ h₁ => ?_); replace hF := (z_rely (FS.rely H L)) hF h₁; clear h₁; rw [stepG_seq]; simp only [goes_go]; refine ⟨by ((first | refine ds_none ?_ | refine dr_none ?_ | refine dk_none ?_ | u_none); intro e he; simp at he), ?_⟩)
  (refine Goes.step rfl (fun _ h₁ => ?_); replace hF := (z_rely (FS.rely H L)) hF h₁; clear h₁; rw [stepG_region]; simp only [goes_go, List.size_toArray, List.length_cons, List.length_nil, Nat.zero_add, List.range, List.range.loop]; refine ⟨by ((first | refine ds_none ?_ | refine dr_none ?_ | refine dk_none ?_ | u_none); intro e he; simp at he), ?_⟩)
  (refine Goes.step rfl (fun _ h₁ => ?_); replace hF := (z_rely (FS.rely H L)) hF h₁; clear h₁)
  refine goes_call (f := link.wait) (fn := waitFn link) (c := body_wait link) rfl rfl (by k_ne) rfl wgLib.f_wait (nm_wait link) rfl ⟨by ((first | refine ds_none ?_ | refine dr_none ?_ | refine dk_none ?_ | u_none); intro e he; simp at he), ?_⟩
  simp only [List.map_toArray, List.map_cons, List.map_nil, Act.eval, Array.getD_eq_getD_getElem?, List.getElem?_toArray, List.getElem?_cons_succ, List.getElem?_cons_zero, Option.getD_some]
  refine goes_le (m := 8) (by omega) ?_
  exact hA _ _ _ _ _ _ (fun g w h => ⟨_, _, _, _, _, _, _, _, _, _, _, _, _, _, h⟩) _ hF
def st4 (c : Cst) (bn bc bo : Nat) (tl : List Value) (cs : List Frame) : Nat → Goroutine → World → Prop
  | 0 => c.AtM (Go.ConcR.mk .disable) (c.Seg none (anch4 c bn bc bo tl cs))
  | r + 1 => c.AtAl fun kb => c.Seg (some kb) (c.K0 (c.n - (r + 1)) kb (c.Spw (c.Fin (anch4 c bn bc bo tl cs)) r))
theorem spw4_of {tl : List Value} {cs : List Frame} {r k : Nat} {g : Goroutine} (h : Goes c.P true (c.RS none) (c.DS none) (st4 c bn bc bo tl cs r) k g w) : c.Spw (c.Fin (anch4 c bn bc bo tl cs)) r g w := by
  cases r with
  | zero => exact ⟨k, h⟩
  | succ r => exact ⟨k, h⟩
set_option maxRecDepth 100000 in
set_option maxHeartbeats 4000000 in
theorem spw4_s (H : Cs c 4 6 bn bc bo) (L : Lay c) (tl : List Value) (cs : List Frame) : ∀ r, r ≤ c.n → ∀ (u6 u7 u8 u9 u10 u11 u12 u15 u16 u17 u18 u19 u20 u21 : Value) (w : World), FS c 4 6 bn bc bo w ∧ WgLive c.ty c.Wg w →
    Goes c.P true (c.RS none) (c.DS none) (st4 c bn bc bo tl cs r) 40 (G ((base 34).at ⟨⟨.int .i64 4 :: .pointer (some ⟨bn, 0, none⟩) :: .slice none 0 0 :: .pointer (some ⟨bc, 0, none⟩) :: .pointer (some ⟨bo, 0, none⟩) :: .pointer (some ⟨c.Wg, 0, none⟩) :: u6 :: u7 :: u8 :: u9 :: u10 :: u11 :: u12 :: .int .i64 64 :: .int .i64 ((c.n - r : Nat) : Int) :: u15 :: u16 :: u17 :: u18 :: u19 :: u20 :: u21 :: tl⟩, []⟩ [.code LB34, .inLoop LB34, .inBlock 0, .code RE34]) cs) w := by
  intro r
  induction r with
  | zero =>
    intro _ u6 u7 u8 u9 u10 u11 u12 u15 u16 u17 u18 u19 u20 u21 w hF
    have e : ((c.n - 0 : Nat) : Int) = 64 := by rw [H.num]; rfl
    rw [e]
    exact spw4_z H L tl cs u6 u7 u8 u9 u10 u11 u12 u15 u16 u17 u18 u19 u20 u21 w hF
  | succ r ih =>
    intro hr u6 u7 u8 u9 u10 u11 u12 u15 u16 u17 u18 u19 u20 u21 w hF
    have hP := H.P
    have hn := H.num
    replace ih := ih (by omega)
    obtain ⟨j, hj⟩ : ∃ j, c.n - (r + 1) = j := ⟨_, rfl⟩
    have ej : ((c.n - r : Nat) : Int) = (j : Int) + 1 := by omega
    rw [ej] at ih
    have hlt : (j : Int) < 64 := by omega
    have hwr : IntKind.i64.wrap ((j : Int) + 1) = (j : Int) + 1 := by rw [IntKind.wrap_i64]; omega
    have hji : j < c.n := by omega
    simp only [st4, hj]
    rw [hP]
    simp only [LB34, RE34, Tryd.f34, Option.getD_some] at ih ⊢
    have HI := hid ih
    clear ih ej hj
    (refine Goes.step rfl (fun _ h₁ => ?_); replace hF := (z_rely (FS.rely H L)) hF h₁; clear h₁; rw [stepG_seq]; simp only [goes_go]; refine ⟨by ((first | refine ds_none ?_ | refine dr_none ?_ | refine dk_none ?_ | u_none); intro e he; simp at he), ?_⟩)
    (refine Goes.step rfl (fun _ h₁ => ?_); replace hF := (z_rely (FS.rely H L)) hF h₁; clear h₁; rw [stepG_region]; simp only [goes_go, List.size_toArray, List.length_cons, List.length_nil, Nat.zero_add, List.range, List.range.loop]; refine ⟨by ((first | refine ds_none ?_ | refine dr_none ?_ | refine dk_none ?_ | u_none); intro e he; simp at he), ?_⟩)
    (refine Goes.step rfl (fun _ h₁ => ?_); replace hF := (z_rely (FS.rely H L)) hF h₁; clear h₁; refine goes_oper_k rfl rfl (by k_ne) (fun K hK => ?_); go_simp; refine hK _ _ ⟨by ((first | refine ds_none ?_ | refine dr_none ?_ | refine dk_none ?_ | u_none); intro e he; have hm := mem_listed he; simp [go_sem, *] at hm), ?_⟩; clear hK K; try w_num)
    (refine Goes.step rfl (fun _ h₁ => ?_); replace hF := (z_rely (FS.rely H L)) hF h₁; clear h₁; rw [stepG_region_end]; simp only [goes_go]; refine ⟨by ((first | refine ds_none ?_ | refine dr_none ?_ | refine dk_none ?_ | u_none); intro e he; simp at he), ?_⟩)
    (refine Goes.step rfl (fun _ h₁ => ?_); replace hF := (z_rely (FS.rely H L)) hF h₁; clear h₁; rw [stepG_seq]; simp only [goes_go]; refine ⟨by ((first | refine ds_none ?_ | refine dr_none ?_ | refine dk_none ?_ | u_none); intro e he; simp at he), ?_⟩)
    (refine Goes.step rfl (fun _ h₁ => ?_); replace hF := (z_rely (FS.rely H L)) hF h₁; clear h₁; rw [stepG_cond (t := true) rfl]; simp only [goes_go, ↓reduceIte]; refine ⟨by ((first | refine ds_none ?_ | refine dr_none ?_ | refine dk_none ?_ | u_none); intro e he; simp at he), ?_⟩)
    (refine Goes.step rfl (fun _ h₁ => ?_); replace hF := (z_rely (FS.rely H L)) hF h₁; clear h₁; rw [stepG_skip]; simp only [goes_go]; refine ⟨by ((first | refine ds_none ?_ | refine dr_none ?_ | refine dk_none ?_ | u_none); intro e he; simp at he), ?_⟩)
    (refine Goes.step rfl (fun _ h₁ => ?_); replace hF := (z_rely (FS.rely H L)) hF h₁; clear h₁; rw [stepG_seq]; simp only [goes_go]; refine ⟨by ((first | refine ds_none ?_ | refine dr_none ?_ | refine dk_none ?_ | u_none); intro e he; simp at he), ?_⟩)
    (refine Goes.step rfl (fun _ h₁ => ?_); replace hF := (z_rely (FS.rely H L)) hF h₁; clear h₁; rw [stepG_block]; simp only [goes_go]; refine ⟨by ((first | refine ds_none ?_ | refine dr_none ?_ | refine dk_none ?_ | u_none); intro e he; simp at he), ?_⟩)
    (refine Goes.step rfl (fun _ h₁ => ?_); replace hF := (z_rely (FS.rely H L)) hF h₁; clear h₁; rw [stepG_seq]; simp only [goes_go]; refine ⟨by ((first | refine ds_none ?_ | refine dr_none ?_ | refine dk_none ?_ | u_none); intro e he; simp at he), ?_⟩)
    (refine Goes.step rfl (fun _ h₁ => ?_); replace hF := (z_rely (FS.rely H L)) hF h₁; clear h₁; rw [stepG_region]; simp only [goes_go, List.size_toArray, List.length_cons, List.length_nil, Nat.reduceAdd, Nat.zero_add, List.range, List.range.loop]; refine ⟨by ((first | refine ds_none ?_ | refine dr_none ?_ | refine dk_none ?_ | u_none); intro e he; simp at he), ?_⟩)
    (refine Goes.step rfl (fun _ h₁ => ?_); replace hF := (z_rely (FS.rely H L)) hF h₁; clear h₁; refine goes_oper_k rfl rfl (by k_ne) (fun K hK => ?_); go_simp; refine hK _ _ ⟨by ((first | refine ds_none ?_ | refine dr_none ?_ | refine dk_none ?_ | u_none); intro e he; have hm := mem_listed he; simp [go_sem, *] at hm), ?_⟩; clear hK K; try w_num)
    refine Goes.stop (fun w₁ h₁ => ?_)
    replace hF := z_rely (FS.rely H L) hF h₁
    clear h₁
    refine at_al hP rfl ?_
    refine goes_oper_k rfl rfl (by k_ne) (fun K hK => ?_)
    go_simp
    refine hK _ _ ⟨_, rfl, ?_, ?_⟩
    · intro e he
      have hm := mem_listed he
      simp [go_sem, *] at hm
    clear hK K
    obtain ⟨kb, hkb⟩ : ∃ kb, w₁.heap.size = kb := ⟨_, rfl⟩
    have hold : ∀ b, b < w₁.heap.size → (w₁.alloc (.cells #[.int .i64 0] 3)).heap[b]? = w₁.heap[b]? := fun b hb => heap_alloc_old w₁ _ hb
    have hB : FB c 4 6 bn bc bo kb 0 (w₁.alloc (.cells #[.int .i64 0] 3)) ∧ WgLive c.ty c.Wg (w₁.alloc (.cells #[.int .i64 0] 3)) := by
      have h1 := hF.1.size
      refine ⟨⟨hF.1.of H (by simp) fun b hb => hold b (by have := (L.K b hb).1; omega), by omega, ?_⟩, hF.2.imp fun st h => h.imp fun sm h => h.of_block (hold _ (by have := L.W; omega))⟩
      rw [← hkb]
      exact heap_alloc_new w₁ _
    rw [hkb]
    generalize w₁.alloc (.cells #[.int .i64 0] 3) = w₂ at hB ⊢
    clear hF hold hkb
    refine ⟨80, ?_⟩
    rw [hP]
    refine Goes.step rfl (fun w₃ h₃ => ?_)
    replace hB := z_rely (FB.rely H L) hB h₃
    clear h₃
    have hc1 := hB.1.cell
    have hc2 := hB.1.thaw
    have hB2 := FB.put H L (j' := j) hB
    refine goes_oper_k rfl rfl (by k_ne) (fun K hK => ?_)
    go_simp
    refine hK _ _ ⟨ds_store (fun e he => ?_), ?_⟩
    · have hm := mem_listed he
      simp [go_sem, storedEv, hc1, hc2] at hm
      exact hm
    clear hK K hc1 hc2 hB
    generalize World.setCell w₃ _ _ = w₄ at hB2 ⊢
    have hne := FB.ne L hB2.1.low
    have hW : WgLib c.P link := by rw [hP]; exact wgLib
    (refine Goes.step rfl (fun _ h₁ => ?_); replace hB2 := (z_rely (FB.rely H L)) hB2 h₁; clear h₁; rw [stepG_region_end]; simp only [goes_go]; refine ⟨by ((first | refine ds_none ?_ | refine dr_none ?_ | refine dk_none ?_ | u_none); intro e he; simp at he), ?_⟩)
    (refine Goes.step rfl (fun _ h₁ => ?_); replace hB2 := (z_rely (FB.rely H L)) hB2 h₁; clear h₁; rw [stepG_seq]; simp only [goes_go]; refine ⟨by ((first | refine ds_none ?_ | refine dr_none ?_ | refine dk_none ?_ | u_none); intro e he; simp at he), ?_⟩)
    (refine Goes.step rfl (fun _ h₁ => ?_); replace hB2 := (z_rely (FB.rely H L)) hB2 h₁; clear h₁; rw [stepG_region]; simp only [goes_go, List.size_toArray, List.length_cons, List.length_nil, Nat.zero_add, List.range, List.range.loop]; refine ⟨by ((first | refine ds_none ?_ | refine dr_none ?_ | refine dk_none ?_ | u_none); intro e he; simp at he), ?_⟩)
    (refine Goes.step rfl (fun _ h₁ => ?_); replace hB2 := (z_rely (FB.rely H L)) hB2 h₁; clear h₁)
    refine goes_call (f := link.add) (fn := addFn link) (c := body_add link) rfl rfl (by k_ne) rfl wgLib.f_add (nm_add link) rfl ⟨by ((first | refine ds_none ?_ | refine dr_none ?_ | refine dk_none ?_ | u_none); intro e he; simp at he), ?_⟩
    simp only [List.map_toArray, List.map_cons, List.map_nil, Act.eval, Array.getD_eq_getD_getElem?, List.getElem?_toArray, List.getElem?_cons_succ, List.getElem?_cons_zero, Option.getD_some]
    refine goes_le (m := 60) (by omega) ?_
    rw [← hP]
    refine add_any hW H.ty (FB.rely H L) hne.2.1 (mT := 20) ?_ _ hB2
    intro w₅ hB5 hl5
    have hB := And.intro hB5 hl5
    clear hB5 hl5 hB2
    rw [hP]
    walk_nrm
    (refine Goes.step rfl (fun _ h₁ => ?_); replace hB := (z_rely (FB.rely H L)) hB h₁; clear h₁; rw [stepG_region_end]; simp only [goes_go]; refine ⟨by ((first | refine ds_none ?_ | refine dr_none ?_ | refine dk_none ?_ | u_none); intro e he; simp at he), ?_⟩)
    (refine Goes.step rfl (fun _ h₁ => ?_); replace hB := (z_rely (FB.rely H L)) hB h₁; clear h₁; rw [stepG_region]; simp only [goes_go, List.size_toArray, List.length_cons, List.length_nil, Nat.reduceAdd, Nat.zero_add, List.range, List.range.loop]; refine ⟨by ((first | refine ds_none ?_ | refine dr_none ?_ | refine dk_none ?_ | u_none); intro e he; simp at he), ?_⟩)
    (refine Goes.step rfl (fun _ h₁ => ?_); replace hB := (z_rely (FB.rely H L)) hB h₁; clear h₁; refine goes_oper_k rfl rfl (by k_ne) (fun K hK => ?_); go_simp; refine hK _ _ ⟨by ((first | refine ds_none ?_ | refine dr_none ?_ | refine dk_none ?_ | u_none); intro e he; have hm := mem_listed he; simp [go_sem, *] at hm), ?_⟩; clear hK K; try w_num)
    refine Goes.stop (fun w₆ h₆ => ?_)
    replace hB := z_rely (FB.rely H L) hB h₆
    clear h₆
    refine at_go hP (d := call64 c.Wg bc kb bn bo) (f := .func 64) (cc := #[.pointer (some ⟨c.Wg, 0, none⟩), .pointer (some ⟨bc, 0, none⟩), .pointer (some ⟨kb, 0, none⟩), .pointer (some ⟨bn, 0, none⟩), .pointer (some ⟨bo, 0, none⟩)]) rfl rfl (by k_ne) (by simp [go_sem, call64, Deferred.ofValue]) rfl (fun e he => ?ev4) (fun hpay => ?wk4) ?nx4
    case ev4 =>
      have hm := mem_listed he
      simp [go_sem, Deferred.ofValue] at hm
    case wk4 =>
      refine work4_a H hji ?_ ⟨hB.1.f.xc, hB.1.f.xn, hB.1.f.xo, hB.1.x, hB.2, hpay⟩
      have h1 := hB.1.f.size
      have h2 := L.C
      have h3 := L.W
      refine ⟨fun b hb => ⟨fun h => h, ?_, ?_⟩, ⟨fun h => h, by omega⟩, ⟨fun h => h, by omega, Ne.symm L.CW⟩⟩
      · rcases hb with hb | rfl
        · have := (L.K b hb).1; omega
        · exact (Array.getElem?_eq_some_iff.1 hB.1.x).1
      · rcases hb with hb | rfl
        · exact (L.K b hb).2.1
        · exact hne.1
    case nx4 =>
      have hF := And.intro hB.1.f hB.2
      clear hB
      refine spw4_of (k := 60) ?_
      rw [hP]
      walk_nrm
      (refine Goes.step rfl (fun _ h₁ => ?_); replace hF := (z_rely (FS.rely H L)) hF h₁; clear h₁; rw [stepG_region_end]; simp only [goes_go]; refine ⟨by ((first | refine ds_none ?_ | refine dr_none ?_ | refine dk_none ?_ | u_none); intro e he; simp at he), ?_⟩)
      (refine Goes.step rfl (fun _ h₁ => ?_); replace hF := (z_rely (FS.rely H L)) hF h₁; clear h₁; rw [stepG_inBlock]; simp only [goes_go]; refine ⟨by ((first | refine ds_none ?_ | refine dr_none ?_ | refine dk_none ?_ | u_none); intro e he; simp at he), ?_⟩)
      (refine Goes.step rfl (fun _ h₁ => ?_); replace hF := (z_rely (FS.rely H L)) hF h₁; clear h₁; rw [stepG_region]; simp only [goes_go, List.size_toArray, List.length_cons, List.length_nil, Nat.reduceAdd, Nat.zero_add, List.range, List.range.loop]; refine ⟨by ((first | refine ds_none ?_ | refine dr_none ?_ | refine dk_none ?_ | u_none); intro e he; simp at he), ?_⟩)
      (refine Goes.step rfl (fun _ h₁ => ?_); replace hF := (z_rely (FS.rely H L)) hF h₁; clear h₁; refine goes_oper_k rfl rfl (by k_ne) (fun K hK => ?_); go_simp; refine hK _ _ ⟨by ((first | refine ds_none ?_ | refine dr_none ?_ | refine dk_none ?_ | u_none); intro e he; have hm := mem_listed he; simp [go_sem, *] at hm), ?_⟩; clear hK K; try w_num)
      (refine Goes.step rfl (fun _ h₁ => ?_); replace hF := (z_rely (FS.rely H L)) hF h₁; clear h₁; refine goes_oper_k rfl rfl (by k_ne) (fun K hK => ?_); go_simp; refine hK _ _ ⟨by ((first | refine ds_none ?_ | refine dr_none ?_ | refine dk_none ?_ | u_none); intro e he; have hm := mem_listed he; simp [go_sem, *] at hm), ?_⟩; clear hK K; try w_num)
      (refine Goes.step rfl (fun _ h₁ => ?_); replace hF := (z_rely (FS.rely H L)) hF h₁; clear h₁; rw [stepG_region_end]; simp only [goes_go]; refine ⟨by ((first | refine ds_none ?_ | refine dr_none ?_ | refine dk_none ?_ | u_none); intro e he; simp at he), ?_⟩)
      (refine Goes.step rfl (fun _ h₁ => ?_); replace hF := (z_rely (FS.rely H L)) hF h₁; clear h₁; rw [stepG_inLoop]; simp only [goes_go]; refine ⟨by ((first | refine ds_none ?_ | refine dr_none ?_ | refine dk_none ?_ | u_none); intro e he; simp at he), ?_⟩)
      have ih := HI.out
      rw [hP] at ih
      exact goes_le (by omega) (ih _ _ _ _ _ _ _ _ _ _ _ _ _ _ _ hF)
def st2 (c : Cst) (bn bc bo : Nat) (tl : List Value) (cs : List Frame) : Nat → Goroutine → World → Prop
  | 0 => c.AtM (Go.ConcR.mk .disable) (c.Seg none (anch2 c bn bc bo tl cs))
  | r + 1 => c.AtAl fun kb => c.Seg (some kb) (c.K0 (c.n - (r + 1)) kb (c.Spw (c.Fin (anch2 c bn bc bo tl cs)) r))
theorem spw2_of {tl : List Value} {cs : List Frame} {r k : Nat} {g : Goroutine} (h : Goes c.P true (c.RS none) (c.DS none) (st2 c bn bc bo tl cs r) k g w) : c.Spw (c.Fin (anch2 c bn bc bo tl cs)) r g w := by
  cases r with
  | zero => exact ⟨k, h⟩
  | succ r => exact ⟨k, h⟩
set_option maxRecDepth 100000 in
set_option maxHeartbeats 4000000 in
theorem spw2_s (H : Cs c 2 1 bn bc bo) (L : Lay c) (tl : List Value) (cs : List Frame) : ∀ r, r ≤ c.n → ∀ (u6 u7 u8 u9 u10 u11 u12 u15 u16 u17 u18 u19 u20 u21 : Value) (w : World), FS c 2 1 bn bc bo w ∧ WgLive c.ty c.Wg w →
    Goes c.P true (c.RS none) (c.DS none) (st2 c bn bc bo tl cs r) 40 (G ((base 34).at ⟨⟨.int .i64 2 :: .pointer (some ⟨bn, 0, none⟩) :: .slice none 0 0 :: .pointer (some ⟨bc, 0, none⟩) :: .pointer (some ⟨bo, 0, none⟩) :: .pointer (some ⟨c.Wg, 0, none⟩) :: u6 :: u7 :: u8 :: u9 :: u10 :: u11 :: u12 :: .int .i64 2 :: .int .i64 ((c.n - r : Nat) : Int) :: u15 :: u16 :: u17 :: u18 :: u19 :: u20 :: u21 :: tl⟩, []⟩ [.code LB34, .inLoop LB34, .inBlock 0, .code RE34]) cs) w := by
  intro r
  induction r with
  | zero =>
    intro _ u6 u7 u8 u9 u10 u11 u12 u15 u16 u17 u18 u19 u20 u21 w hF
    have e : ((c.n - 0 : Nat) : Int) = 2 := by rw [H.num]; rfl
    rw [e]
    exact spw2_z H L tl cs u6 u7 u8 u9 u10 u11 u12 u15 u16 u17 u18 u19 u20 u21 w hF
  | succ r ih =>
    intro hr u6 u7 u8 u9 u10 u11 u12 u15 u16 u17 u18 u19 u20 u21 w hF
    have hP := H.P
    have hn := H.num
    replace ih := ih (by omega)
    obtain ⟨j, hj⟩ : ∃ j, c.n - (r + 1) = j := ⟨_, rfl⟩
    have ej : ((c.n - r : Nat) : Int) = (j : Int) + 1 := by omega
    rw [ej] at ih
    have hlt : (j : Int) < 2 := by omega
    have hwr : IntKind.i64.wrap ((j : Int) + 1) = (j : Int) + 1 := by rw [IntKind.wrap_i64]; omega
    have hji : j < c.n := by omega
    simp only [st2, hj]
    rw [hP]
    simp only [LB34, RE34, Tryd.f34, Option.getD_some] at ih ⊢
    have HI := hid ih
    clear ih ej hj
    (refine Goes.step rfl (fun _ h₁ => ?_); replace hF := (z_rely (FS.rely H L)) hF h₁; clear h₁; rw [stepG_seq]; simp only [goes_go]; refine ⟨by ((first | refine ds_none ?_ | refine dr_none ?_ | refine dk_none ?_ | u_none); intro e he; simp at he), ?_⟩)
    (refine Goes.step rfl (fun _ h₁ => ?_); replace hF := (z_rely (FS.rely H L)) hF h₁; clear h₁; rw [stepG_region]; simp only [goes_go, List.size_toArray, List.length_cons, List.length_nil, Nat.zero_add, List.range, List.range.loop]; refine ⟨by ((first | refine ds_none ?_ | refine dr_none ?_ | refine dk_none ?_ | u_none); intro e he; simp at he), ?_⟩)
    (refine Goes.step rfl (fun _ h₁ => ?_); replace hF := (z_rely (FS.rely H L)) hF h₁; clear h₁; refine goes_oper_k rfl rfl (by k_ne) (fun K hK => ?_); go_simp; refine hK _ _ ⟨by ((first | refine ds_none ?_ | refine dr_none ?_ | refine dk_none ?_ | u_none); intro e he; have hm := mem_listed he; simp [go_sem, *] at hm), ?_⟩; clear hK K; try w_num)
    (refine Goes.step rfl (fun _ h₁ => ?_); replace hF := (z_rely (FS.rely H L)) hF h₁; clear h₁; rw [stepG_region_end]; simp only [goes_go]; refine ⟨by ((first | refine ds_none ?_ | refine dr_none ?_ | refine dk_none ?_ | u_none); intro e he; simp at he), ?_⟩)
    (refine Goes.step rfl (fun _ h₁ => ?_); replace hF := (z_rely (FS.rely H L)) hF h₁; clear h₁; rw [stepG_seq]; simp only [goes_go]; refine ⟨by ((first | refine ds_none ?_ | refine dr_none ?_ | refine dk_none ?_ | u_none); intro e he; simp at he), ?_⟩)
    (refine Goes.step rfl (fun _ h₁ => ?_); replace hF := (z_rely (FS.rely H L)) hF h₁; clear h₁; rw [stepG_cond (t := true) rfl]; simp only [goes_go, ↓reduceIte]; refine ⟨by ((first | refine ds_none ?_ | refine dr_none ?_ | refine dk_none ?_ | u_none); intro e he; simp at he), ?_⟩)
    (refine Goes.step rfl (fun _ h₁ => ?_); replace hF := (z_rely (FS.rely H L)) hF h₁; clear h₁; rw [stepG_skip]; simp only [goes_go]; refine ⟨by ((first | refine ds_none ?_ | refine dr_none ?_ | refine dk_none ?_ | u_none); intro e he; simp at he), ?_⟩)
    (refine Goes.step rfl (fun _ h₁ => ?_); replace hF := (z_rely (FS.rely H L)) hF h₁; clear h₁; rw [stepG_seq]; simp only [goes_go]; refine ⟨by ((first | refine ds_none ?_ | refine dr_none ?_ | refine dk_none ?_ | u_none); intro e he; simp at he), ?_⟩)
    (refine Goes.step rfl (fun _ h₁ => ?_); replace hF := (z_rely (FS.rely H L)) hF h₁; clear h₁; rw [stepG_block]; simp only [goes_go]; refine ⟨by ((first | refine ds_none ?_ | refine dr_none ?_ | refine dk_none ?_ | u_none); intro e he; simp at he), ?_⟩)
    (refine Goes.step rfl (fun _ h₁ => ?_); replace hF := (z_rely (FS.rely H L)) hF h₁; clear h₁; rw [stepG_seq]; simp only [goes_go]; refine ⟨by ((first | refine ds_none ?_ | refine dr_none ?_ | refine dk_none ?_ | u_none); intro e he; simp at he), ?_⟩)
    (refine Goes.step rfl (fun _ h₁ => ?_); replace hF := (z_rely (FS.rely H L)) hF h₁; clear h₁; rw [stepG_region]; simp only [goes_go, List.size_toArray, List.length_cons, List.length_nil, Nat.reduceAdd, Nat.zero_add, List.range, List.range.loop]; refine ⟨by ((first | refine ds_none ?_ | refine dr_none ?_ | refine dk_none ?_ | u_none); intro e he; simp at he), ?_⟩)
    (refine Goes.step rfl (fun _ h₁ => ?_); replace hF := (z_rely (FS.rely H L)) hF h₁; clear h₁; refine goes_oper_k rfl rfl (by k_ne) (fun K hK => ?_); go_simp; refine hK _ _ ⟨by ((first | refine ds_none ?_ | refine dr_none ?_ | refine dk_none ?_ | u_none); intro e he; have hm := mem_listed he; simp [go_sem, *] at hm), ?_⟩; clear hK K; try w_num)
    refine Goes.stop (fun w₁ h₁ => ?_)
    replace hF := z_rely (FS.rely H L) hF h₁
    clear h₁
    refine at_al hP rfl ?_
    refine goes_oper_k rfl rfl (by k_ne) (fun K hK => ?_)
    go_simp
    refine hK _ _ ⟨_, rfl, ?_, ?_⟩
    · intro e he
      have hm := mem_listed he
      simp [go_sem, *] at hm
    clear hK K
    obtain ⟨kb, hkb⟩ : ∃ kb, w₁.heap.size = kb := ⟨_, rfl⟩
    have hold : ∀ b, b < w₁.heap.size → (w₁.alloc (.cells #[.int .i64 0] 3)).heap[b]? = w₁.heap[b]? := fun b hb => heap_alloc_old w₁ _ hb
    have hB : FB c 2 1 bn bc bo kb 0 (w₁.alloc (.cells #[.int .i64 0] 3)) ∧ WgLive c.ty c.Wg (w₁.alloc (.cells #[.int .i64 0] 3)) := by
      have h1 := hF.1.size
      refine ⟨⟨hF.1.of H (by simp) fun b hb => hold b (by have := (L.K b hb).1; omega), by omega, ?_⟩, hF.2.imp fun st h => h.imp fun sm h => h.of_block (hold _ (by have := L.W; omega))⟩
      rw [← hkb]
      exact heap_alloc_new w₁ _
    rw [hkb]
    generalize w₁.alloc (.cells #[.int .i64 0] 3) = w₂ at hB ⊢
    clear hF hold hkb
    refine ⟨80, ?_⟩
    rw [hP]
    refine Goes.step rfl (fun w₃ h₃ => ?_)
    replace hB := z_rely (FB.rely H L) hB h₃
    clear h₃
    have hc1 := hB.1.cell
    have hc2 := hB.1.thaw
    have hB2 := FB.put H L (j' := j) hB
    refine goes_oper_k rfl rfl (by k_ne) (fun K hK => ?_)
    go_simp
    refine hK _ _ ⟨ds_store (fun e he => ?_), ?_⟩
    · have hm := mem_listed he
      simp [go_sem, storedEv, hc1, hc2] at hm
      exact hm
    clear hK K hc1 hc2 hB
    generalize World.setCell w₃ _ _ = w₄ at hB2 ⊢
    have hne := FB.ne L hB2.1.low
    have hW : WgLib c.P link := by rw [hP]; exact wgLib
    (refine Goes.step rfl (fun _ h₁ => ?_); replace hB2 := (z_rely (FB.rely H L)) hB2 h₁; clear h₁; rw [stepG_region_end]; simp only [goes_go]; refine ⟨by ((first | refine ds_none ?_ | refine dr_none ?_ | refine dk_none ?_ | u_none); intro e he; simp at he), ?_⟩)
    (refine Goes.step rfl (fun _ h₁ => ?_); replace hB2 := (z_rely (FB.rely H L)) hB2 h₁; clear h₁; rw [stepG_seq]; simp only [goes_go]; refine ⟨by ((first | refine ds_none ?_ | refine dr_none ?_ | refine dk_none ?_ | u_none); intro e he; simp at he), ?_⟩)
    (refine Goes.step rfl (fun _ h₁ => ?_); replace hB2 := (z_rely (FB.rely H L)) hB2 h₁; clear h₁; rw [stepG_region]; simp only [goes_go, List.size_toArray, List.length_cons, List.length_nil, Nat.zero_add, List.range, List.range.loop]; refine ⟨by ((first | refine ds_none ?_ | refine dr_none ?_ | refine dk_none ?_ | u_none); intro e he; simp at he), ?_⟩)
    (refine Goes.step rfl (fun _ h₁ => ?_); replace hB2 := (z_rely (FB.rely H L)) hB2 h₁; clear h₁)
    refine goes_call (f := link.add) (fn := addFn link) (c := body_add link) rfl rfl (by k_ne) rfl wgLib.f_add (nm_add link) rfl ⟨by ((first | refine ds_none ?_ | refine dr_none ?_ | refine dk_none ?_ | u_none); intro e he; simp at he), ?_⟩
    simp only [List.map_toArray, List.map_cons, List.map_nil, Act.eval, Array.getD_eq_getD_getElem?, List.getElem?_toArray, List.getElem?_cons_succ, List.getElem?_cons_zero, Option.getD_some]
    refine goes_le (m := 60) (by omega) ?_
    rw [← hP]
    refine add_any hW H.ty (FB.rely H L) hne.2.1 (mT := 20) ?_ _ hB2
    intro w₅ hB5 hl5
    have hB := And.intro hB5 hl5
    clear hB5 hl5 hB2
    rw [hP]
    walk_nrm
    (refine Goes.step rfl (fun _ h₁ => ?_); replace hB := (z_rely (FB.rely H L)) hB h₁; clear h₁; rw [stepG_region_end]; simp only [goes_go]; refine ⟨by ((first | refine ds_none ?_ | refine dr_none ?_ | refine dk_none ?_ | u_none); intro e he; simp at he), ?_⟩)
    (refine Goes.step rfl (fun _ h₁ => ?_); replace hB := (z_rely (FB.rely H L)) hB h₁; clear h₁; rw [stepG_region]; simp only [goes_go, List.size_toArray, List.length_cons, List.length_nil, Nat.reduceAdd, Nat.zero_add, List.range, List.range.loop]; refine ⟨by ((first | refine ds_none ?_ | refine dr_none ?_ | refine dk_none ?_ | u_none); intro e he; simp at he), ?_⟩)
    (refine Goes.step rfl (fun _ h₁ => ?_); replace hB := (z_rely (FB.rely H L)) hB h₁; clear h₁; refine goes_oper_k rfl rfl (by k_ne) (fun K hK => ?_); go_simp; refine hK _ _ ⟨by ((first | refine ds_none ?_ | refine dr_none ?_ | refine dk_none ?_ | u_none); intro e he; have hm := mem_listed he; simp [go_sem, *] at hm), ?_⟩; clear hK K; try w_num)
    refine Goes.stop (fun w₆ h₆ => ?_)
    replace hB := z_rely (FB.rely H L) hB h₆
    clear h₆
    refine at_go hP (d := call64 c.Wg bc kb bn bo) (f := .func 64) (cc := #[.pointer (some ⟨c.Wg, 0, none⟩), .pointer (some ⟨bc, 0, none⟩), .pointer (some ⟨kb, 0, none⟩), .pointer (some ⟨bn, 0, none⟩), .pointer (some ⟨bo, 0, none⟩)]) rfl rfl (by k_ne) (by simp [go_sem, call64, Deferred.ofValue]) rfl (fun e he => ?ev2) (fun hpay => ?wk2) ?nx2
    case ev2 =>
      have hm := mem_listed he
      simp [go_sem, Deferred.ofValue] at hm
    case wk2 =>
      refine work2_a H hji ?_ ⟨hB.1.f.xc, hB.1.f.xn, hB.1.f.xo, hB.1.x, hB.2, hpay⟩
      have h1 := hB.1.f.size
      have h2 := L.C
      have h3 := L.W
      refine ⟨fun b hb => ⟨fun h => h, ?_, ?_⟩, ⟨fun h => h, by omega⟩, ⟨fun h => h, by omega, Ne.symm L.CW⟩⟩
      · rcases hb with hb | rfl
        · have := (L.K b hb).1; omega
        · exact (Array.getElem?_eq_some_iff.1 hB.1.x).1
      · rcases hb with hb | rfl
        · exact (L.K b hb).2.1
        · exact hne.1
    case nx2 =>
      have hF := And.intro hB.1.f hB.2
      clear hB
      refine spw2_of (k := 60) ?_
      rw [hP]
      walk_nrm
      (refine Goes.step rfl (fun _ h₁ => ?_); replace hF := (z_rely (FS.rely H L)) hF h₁; clear h₁; rw [stepG_region_end]; simp only [goes_go]; refine ⟨by ((first | refine ds_none ?_ | refine dr_none ?_ | refine dk_none ?_ | u_none); intro e he; simp at he), ?_⟩)
      (refine Goes.step rfl (fun _ h₁ => ?_); replace hF := (z_rely (FS.rely H L)) hF h₁; clear h₁; rw [stepG_inBlock]; simp only [goes_go]; refine ⟨by ((first | refine ds_none ?_ | refine dr_none ?_ | refine dk_none ?_ | u_none); intro e he; simp at he), ?_⟩)
      (refine Goes.step rfl (fun _ h₁ => ?_); replace hF := (z_rely (FS.rely H L)) hF h₁; clear h₁; rw [stepG_region]; simp only [goes_go, List.size_toArray, List.length_cons, List.length_nil, Nat.reduceAdd, Nat.zero_add, List.range, List.range.loop]; refine ⟨by ((first | refine ds_none ?_ | refine dr_none ?_ | refine dk_none ?_ | u_none); intro e he; simp at he), ?_⟩)
      (refine Goes.step rfl (fun _ h₁ => ?_); replace hF := (z_rely (FS.rely H L)) hF h₁; clear h₁; refine goes_oper_k rfl rfl (by k_ne) (fun K hK => ?_); go_simp; refine hK _ _ ⟨by ((first | refine ds_none ?_ | refine dr_none ?_ | refine dk_none ?_ | u_none); intro e he; have hm := mem_listed he; simp [go_sem, *] at hm), ?_⟩; clear hK K; try w_num)
      (refine Goes.step rfl (fun _ h₁ => ?_); replace hF := (z_rely (FS.rely H L)) hF h₁; clear h₁; refine goes_oper_k rfl rfl (by k_ne) (fun K hK => ?_); go_simp; refine hK _ _ ⟨by ((first | refine ds_none ?_ | refine dr_none ?_ | refine dk_none ?_ | u_none); intro e he; have hm := mem_listed he; simp [go_sem, *] at hm), ?_⟩; clear hK K; try w_num)
      (refine Goes.step rfl (fun _ h₁ => ?_); replace hF := (z_rely (FS.rely H L)) hF h₁; clear h₁; rw [stepG_region_end]; simp only [goes_go]; refine ⟨by ((first | refine ds_none ?_ | refine dr_none ?_ | refine dk_none ?_ | u_none); intro e he; simp at he), ?_⟩)
      (refine Goes.step rfl (fun _ h₁ => ?_); replace hF := (z_rely (FS.rely H L)) hF h₁; clear h₁; rw [stepG_inLoop]; simp only [goes_go]; refine ⟨by ((first | refine ds_none ?_ | refine dr_none ?_ | refine dk_none ?_ | u_none); intro e he; simp at he), ?_⟩)
      have ih := HI.out
      rw [hP] at ih
      exact goes_le (by omega) (ih _ _ _ _ _ _ _ _ _ _ _ _ _ _ _ hF)
end
open Go Go.Pt Go.Conc Go.RowKit Go.Conc.Lib Go.ConcR.Gen Go.ConcN.Gen
open Go.ConcN hiding EvL Inv Fin
open Go.ConcR (KK wgBlock WgAt stA smA rd wr Payload Aside2 DC0)
theorem nm31 : (Tryd.f31.name == "runtime.NumGoroutine") = false := by kernel_rfl
noncomputable def body34 : Code := Tryd.f34.body.getD .skip
theorem ds_read {c : Cst} {cur : Option Nat} {w : World} {es : Array Event} (h : ∀ e ∈ es, c.EvS cur e) : c.DS cur w w es := ⟨rfl, rfl, rfl, rfl, fun _ _ => rfl, h⟩
theorem evS_see {c : Cst} {cur : Option Nat} (L : Lay c) {b i : Nat} (hb : c.K b) : c.EvS cur ⟨.cell ⟨b, i, none⟩, false, false⟩ := by
  refine ⟨fun x hx => ?_, by simp, by simp, by simp⟩
  simp only [MemAct.ofEvent, MemAct.touch?, Option.some.injEq] at hx
  subst hx
  have h := L.K b hb
  exact .inr ⟨.inl h, fun e => by cases e⟩
theorem FS.co {c : Cst} {n cnt bn bc bo : Nat} {w : World} {N : Nat} (hn : c.n = 2 ^ cnt) (h : FS c n cnt bn bc bo w) (hN : 2 ^ cnt = N := by rfl) : w.cell? ⟨bo, 0, none⟩ = some (.slice (some ⟨c.C, 0, none⟩) N N) := by
  rw [hN] at hn
  rw [← hn]
  simp [World.cell?, h.xo]
structure Kp (w0 w : World) : Prop where
  old : ∀ b, b < w0.heap.size → w.heap[b]? = w0.heap[b]?
  size : w0.heap.size ≤ w.heap.size
  tape : w.tape = w0.tape
  os : w.os = w0.os
  output : w.output = w0.output
theorem Kp.refl (w : World) : Kp w w := ⟨fun _ _ => rfl, Nat.le_refl _, rfl, rfl, rfl⟩
theorem Kp.alloc {w0 w : World} (h : Kp w0 w) (o : Obj) : Kp w0 (w.alloc o) := ⟨fun b hb => (heap_alloc_old w o (Nat.lt_of_lt_of_le hb h.size)).trans (h.old b hb), by simp; have := h.size; omega, h.tape, h.os, h.output⟩
theorem Kp.set {w0 w : World} (h : Kp w0 w) {b : Nat} (hb : w0.heap.size ≤ b) (i : Nat) (v : Value) : Kp w0 (w.setCell ⟨b, i, none⟩ v) := by
  have hA := aside_setCell w ⟨b, i, none⟩ v
  exact ⟨fun k hk => (hA.block k (show k ≠ b by omega)).trans (h.old k hk), by rw [hA.size]; exact h.size, hA.tape.trans h.tape, hA.os.trans h.os, hA.output.trans h.output⟩
structure Bx (w0 w : World) (b : Nat) (v : Value) (ty : TypeId) : Prop where
  x : w.heap[b]? = some (.cells #[v] ty)
  hi : w0.heap.size ≤ b
theorem Bx.alloc {w0 w : World} {b : Nat} {v : Value} {ty : TypeId} (h : Bx w0 w b v ty) (o : Obj) : Bx w0 (w.alloc o) b v ty := ⟨(heap_alloc_old w o (Array.getElem?_eq_some_iff.1 h.x).1).trans h.x, h.hi⟩
theorem Bx.other {w0 w : World} {b : Nat} {v : Value} {ty : TypeId} (h : Bx w0 w b v ty) {k : Nat} (hk : b ≠ k) (i : Nat) (u : Value) : Bx w0 (w.setCell ⟨k, i, none⟩ u) b v ty := ⟨((aside_setCell w ⟨k, i, none⟩ u).block b hk).trans h.x, h.hi⟩
theorem Bx.set {w0 w : World} {b : Nat} {v : Value} {ty : TypeId} (h : Bx w0 w b v ty) (u : Value) : Bx w0 (w.setCell ⟨b, 0, none⟩ u) b u ty := by
  refine ⟨?_, h.hi⟩
  rw [setCell_eq_setRow w b 0 _ ty (0, 0) _ h.x, setRow_heap w b _ _ ty _ h.x]
  rfl
theorem Bx.new {w0 w : World} (h : Kp w0 w) (v : Value) (ty : TypeId) : Bx w0 (w.alloc (.cells #[v] ty)) w.heap.size v ty := ⟨heap_alloc_new w _, h.size⟩
theorem Bx.lt {w0 w : World} {b : Nat} {v : Value} {ty : TypeId} (h : Bx w0 w b v ty) : b < w.heap.size := (Array.getElem?_eq_some_iff.1 h.x).1
theorem Bx.cell {w0 w : World} {b : Nat} {v : Value} {ty : TypeId} (h : Bx w0 w b v ty) : w.cell? ⟨b, 0, none⟩ = some v := by simp [World.cell?, h.x]
theorem Bx.thaw {w0 w : World} {b : Nat} {v : Value} {ty : TypeId} (h : Bx w0 w b v ty) : w.frozen? ⟨b, 0, none⟩ = false := by simp [World.frozen?, h.x]
def nilC (N : Nat) : Array Value := (List.replicate N (Value.slice none 0 0)).toArray
def Py (w0 w : World) (C N : Nat) : Prop := w.heap[C]? = some (.cells (nilC N) 22) ∧ w0.heap.size ≤ C
theorem Py.alloc {w0 w : World} {C N : Nat} (h : Py w0 w C N) (o : Obj) : Py w0 (w.alloc o) C N := ⟨(heap_alloc_old w o (Array.getElem?_eq_some_iff.1 h.1).1).trans h.1, h.2⟩
theorem Py.other {w0 w : World} {C N : Nat} (h : Py w0 w C N) {k : Nat} (hk : C ≠ k) (i : Nat) (u : Value) : Py w0 (w.setCell ⟨k, i, none⟩ u) C N := ⟨((aside_setCell w ⟨k, i, none⟩ u).block C hk).trans h.1, h.2⟩
theorem Py.lt {w0 w : World} {C N : Nat} (h : Py w0 w C N) : C < w.heap.size := (Array.getElem?_eq_some_iff.1 h.1).1
theorem info_l : (Tryd.prog.info? 22).map (fun i => (i.zero, i.size, i.bytes)) = some (some (.slice none 0 0), 1, 24) := by kernel_rfl
theorem made22 (m : Nat) : madeCells (Value.slice none 0 0).cells (m * 1) = (List.replicate m (Value.slice none 0 0)).toArray := by
  apply Array.ext'
  apply List.ext_getElem
  · simp [madeCells]
  · intro k h1 h2
    simp [madeCells, Value.cells, Nat.mod_one]
theorem run_mk22 (m : Nat) (hm : m ≤ 100) (w : World) : Sem.run Tryd.prog (Instr.makeSlice 73 (.int .i64 m) (.int .i64 m)) w = .ok (.slice (some ⟨w.heap.size, 0, none⟩) m m) (w.alloc (.cells (nilC m) 22)) := by
  obtain ⟨i0, hi, hz0, hz1, hz2⟩ := info_parts info_l
  have hr := run_make (P := Tryd.prog) w 73 22 i0 (.slice none 0 0) Tryd.underlying73 hi hz0 .i64 .i64 m m (by omega) (Int.le_refl _) (by rw [hz2]; omega) (by omega)
  rw [hz1, Int.toNat_natCast, made22 m] at hr
  exact hr
theorem ev_mk22 (m : Nat) (hm : m ≤ 100) (w : World) (es : Array Event) : (Instr.makeSlice 73 (.int .i64 m) (.int .i64 m)).events Tryd.prog w es = es := by
  obtain ⟨i0, hi, hz0, hz1, hz2⟩ := info_parts info_l
  exact events_make w 73 22 i0 (.slice none 0 0) Tryd.underlying73 hi hz0 .i64 .i64 m m (by omega) (Int.le_refl _) (by rw [hz2]; omega) (by omega) (by rw [hz2, Int.toNat_natCast]; omega) es
theorem Kp.at_ {w0 w : World} (d : Nat) (h : Kp w0 w) : Kp w0 (w.at d) := ⟨h.old, h.size, h.tape, h.os, h.output⟩
theorem Bx.at_ {w0 w : World} {b : Nat} {v : Value} {ty : TypeId} (d : Nat) (h : Bx w0 w b v ty) : Bx w0 (w.at d) b v ty := ⟨h.x, h.hi⟩
theorem Py.at_ {w0 w : World} {C N : Nat} (d : Nat) (h : Py w0 w C N) : Py w0 (w.at d) C N := h
theorem rb {F : World → Prop} (h : ∀ w d, F w → F (w.at d)) {w w₁ : World} (hF : F w) (r : RB w w₁) : F w₁ := by
  obtain ⟨d, rfl⟩ := r
  exact h w d hF
def ahead4 (w0 : World) (S : Nat → Prop) (tl : List Value) (cs : List Frame) (g : Goroutine) (w : World) : Prop :=
  ∃ bn bc bo C, Kp w0 w ∧ Bx w0 w bn (.int .i64 4) 3 ∧ Bx w0 w bc (.int .i64 6) 3 ∧ Bx w0 w bo (.slice (some ⟨C, 0, none⟩) 64 64) 73 ∧ Py w0 w C 64 ∧ bn ≠ C ∧ bc ≠ C ∧ bo ≠ C ∧ (¬ S bn ∧ ¬ S bc ∧ ¬ S bo ∧ ¬ S C) ∧ g.status = .running ∧
    (stepG Tryd.prog true g w).goes fun g' w' es => w' = w.alloc (wgBlock 109 0 0) ∧ (∀ e ∈ es, False) ∧ ∀ c : Cst, Cs c 4 6 bn bc bo → Lay c → c.Wg = w.heap.size → FS c 4 6 bn bc bo w' ∧ WgLive c.ty c.Wg w' → c.Spw (c.Fin (anch4 c bn bc bo tl cs)) c.n g' w'
def asks4 (w0 : World) (tl : List Value) (cs : List Frame) (g : Goroutine) (w : World) : Prop :=
  ∃ bn, Kp w0 w ∧ Bx w0 w bn (.int .i64 4) 3 ∧ ∃ b : Frame, g = G (Frame.enter Tryd.prog 31 #[.int .i64 4] .normal) (b :: cs) ∧
    ∀ (S' : Nat → Prop) (w' : World), (∀ b, S' b → b < w0.heap.size ∨ w.heap.size ≤ b) → (∀ b, S' b → b < w'.heap.size) → Kp w0 w' → Bx w0 w' bn (.int .i64 4) 3 → bn < w.heap.size → Goes Tryd.prog true RB (DB S') (ahead4 w0 S' tl cs) 60 (G (b.finish (.int .i64 6)) cs) w'
set_option maxRecDepth 100000 in
set_option maxHeartbeats 4000000 in
theorem pre4 (w0 : World) (S : Nat → Prop) (hS : ∀ b, S b → b < w0.heap.size) (r1 r2 r3 r4 r5 r6 r7 r8 r9 r10 r11 r12 r13 r14 r15 r16 r17 r18 r19 r20 r21 : Value) (tl : List Value) (cs : List Frame) :
    Goes Tryd.prog true RB (DB S) (asks4 w0 tl cs) 40 (G ((base 34).at ⟨⟨.int .i64 4 :: r1 :: r2 :: r3 :: r4 :: r5 :: r6 :: r7 :: r8 :: r9 :: r10 :: r11 :: r12 :: r13 :: r14 :: r15 :: r16 :: r17 :: r18 :: r19 :: r20 :: r21 :: tl⟩, []⟩ [.code body34]) cs) w0 := by
  have hF : Kp w0 w0 := Kp.refl w0
  simp only [body34, Tryd.f34, Option.getD_some]
  (refine Goes.step rfl (fun _ h₁ => ?_); replace hF := (rb fun _ d h => h.at_ d) hF h₁; clear h₁; rw [stepG_seq]; simp only [goes_go]; refine ⟨by ((first | refine db_none ?_ | refine ds_none ?_ | refine dr_none ?_ | u_none); intro e he; simp at he), ?_⟩)
  (refine Goes.step rfl (fun _ h₁ => ?_); replace hF := (rb fun _ d h => h.at_ d) hF h₁; clear h₁; rw [stepG_region]; simp only [goes_go, List.size_toArray, List.length_cons, List.length_nil, Nat.reduceAdd, Nat.zero_add, List.range, List.range.loop]; refine ⟨by ((first | refine db_none ?_ | refine ds_none ?_ | refine dr_none ?_ | u_none); intro e he; simp at he), ?_⟩)
  refine Goes.step rfl (fun w₁ h₁ => ?_)
  replace hF := rb (fun _ d h => h.at_ d) hF h₁
  clear h₁
  refine goes_oper_k rfl rfl (by k_ne) (fun K hK => ?_)
  go_simp
  refine hK _ _ ⟨⟨by simp, fun e he => ?_⟩, ?_⟩
  · exfalso
    have hm := mem_listed he
    simp [go_sem] at hm
  clear hK K
  replace hF := And.intro (hF.alloc (.cells #[.int .i64 4] 3)) (Bx.new hF (.int .i64 4) 3)
  generalize w₁.heap.size = bn at hF ⊢
  generalize w₁.alloc _ = w₂ at hF ⊢
  have rr : ∀ {w w' : World}, Kp w0 w ∧ Bx w0 w bn (.int .i64 4) 3 → RB w w' → Kp w0 w' ∧ Bx w0 w' bn (.int .i64 4) 3 := fun h r => rb (F := fun w => Kp w0 w ∧ Bx w0 w bn (.int .i64 4) 3) (fun _ d h => ⟨h.1.at_ d, h.2.at_ d⟩) h r
  (refine Goes.step rfl (fun _ h₁ => ?_); replace hF := rr hF h₁; clear h₁; refine goes_oper_k rfl rfl (by k_ne) (fun K hK => ?_); go_simp; refine hK _ _ ⟨by ((first | refine db_none ?_ | refine ds_none ?_ | refine dr_none ?_ | u_none); intro e he; have hm := mem_listed he; simp [go_sem, *] at hm), ?_⟩; clear hK K; try w_num)
  (refine Goes.step rfl (fun _ h₁ => ?_); replace hF := rr hF h₁; clear h₁; rw [stepG_region_end]; simp only [goes_go]; refine ⟨by ((first | refine db_none ?_ | refine ds_none ?_ | refine dr_none ?_ | u_none); intro e he; simp at he), ?_⟩)
  (refine Goes.step rfl (fun _ h₁ => ?_); replace hF := rr hF h₁; clear h₁; rw [stepG_seq]; simp only [goes_go]; refine ⟨by ((first | refine db_none ?_ | refine ds_none ?_ | refine dr_none ?_ | u_none); intro e he; simp at he), ?_⟩)
  (refine Goes.step rfl (fun _ h₁ => ?_); replace hF := rr hF h₁; clear h₁; rw [stepG_region]; simp only [goes_go, List.size_toArray, List.length_cons, List.length_nil, Nat.reduceAdd, Nat.zero_add, List.range, List.range.loop]; refine ⟨by ((first | refine db_none ?_ | refine ds_none ?_ | refine dr_none ?_ | u_none); intro e he; simp at he), ?_⟩)
  refine Goes.step rfl (fun w₃ h₃ => ?_)
  replace hF := rr hF h₃
  clear h₃
  have hc := hF.2.cell
  refine goes_oper_k rfl rfl (by k_ne) (fun K hK => ?_)
  go_simp
  refine hK _ _ ⟨⟨Nat.le_refl _, fun e he => ?_⟩, ?_⟩
  · have hm := mem_listed he
    simp [go_sem, hc] at hm
    subst hm
    exact evO_cell (fun h => by have h1 := hS _ h; have h2 := hF.2.hi; simp only at h1; omega) hF.2.lt
  clear hK K hc
  (refine Goes.step rfl (fun _ h₁ => ?_); replace hF := rr hF h₁; clear h₁)
  refine goes_enter rfl rfl (by k_ne) rfl Tryd.func31 nm31 rfl ⟨by ((first | refine db_none ?_ | refine ds_none ?_ | refine dr_none ?_ | u_none); intro e he; simp at he), ?_⟩
  simp only [List.map_toArray, List.map_cons, List.map_nil, Act.eval, Array.getD_eq_getD_getElem?, List.getElem?_toArray, List.getElem?_cons_succ, List.getElem?_cons_zero, Option.getD_some]
  refine Goes.stop (fun w₄ h₄ => ?_)
  replace hF := rr hF h₄
  clear h₄
  refine ⟨bn, hF.1, hF.2, _, rfl, ?_⟩
  clear hF
  intro S' w' hS1 hS2 hk hb hlt
  rw [Frame.finish_at]
  walk_nrm
  have wrN : IntKind.i64.wrap 64 = 64 := by decide
  have hF : Kp w0 w' ∧ Bx w0 w' bn (.int .i64 4) 3 ∧ w'.heap.size ≤ w'.heap.size := ⟨hk, hb, Nat.le_refl _⟩
  clear hk hb
  have c1 : ∀ {w w₁ : World}, Kp w0 w ∧ Bx w0 w bn (.int .i64 4) 3 ∧ w'.heap.size ≤ w.heap.size → RB w w₁ → Kp w0 w₁ ∧ Bx w0 w₁ bn (.int .i64 4) 3 ∧ w'.heap.size ≤ w₁.heap.size := fun h r => rb (F := fun w => Kp w0 w ∧ Bx w0 w bn (.int .i64 4) 3 ∧ w'.heap.size ≤ w.heap.size) (fun _ d h => ⟨h.1.at_ d, h.2.1.at_ d, h.2.2⟩) h r
  refine Goes.step rfl (fun w₁ h₁ => ?_)
  replace hF := c1 hF h₁
  clear h₁
  refine goes_oper_k rfl rfl (by k_ne) (fun K hK => ?_)
  go_simp
  refine hK _ _ ⟨⟨by simp, fun e he => ?_⟩, ?_⟩
  · exfalso
    have hm := mem_listed he
    simp [go_sem] at hm
  clear hK K
  have hbc := hF.2.2
  have hn1 : bn ≠ w₁.heap.size := Nat.ne_of_lt hF.2.1.lt
  replace hF := And.intro (hF.1.alloc (.cells #[.int .i64 0] 3)) (And.intro (hF.2.1.alloc (.cells #[.int .i64 0] 3)) (And.intro (Bx.new hF.1 (.int .i64 0) 3) (show w'.heap.size ≤ (w₁.alloc (.cells #[.int .i64 0] 3)).heap.size by simp; omega)))
  generalize w₁.heap.size = bc at hF hbc hn1 ⊢
  generalize w₁.alloc _ = w₂ at hF ⊢
  have c2 : ∀ {w w₁ : World}, Kp w0 w ∧ Bx w0 w bn (.int .i64 4) 3 ∧ Bx w0 w bc (.int .i64 0) 3 ∧ w'.heap.size ≤ w.heap.size → RB w w₁ → Kp w0 w₁ ∧ Bx w0 w₁ bn (.int .i64 4) 3 ∧ Bx w0 w₁ bc (.int .i64 0) 3 ∧ w'.heap.size ≤ w₁.heap.size := fun h r => rb (F := fun w => Kp w0 w ∧ Bx w0 w bn (.int .i64 4) 3 ∧ Bx w0 w bc (.int .i64 0) 3 ∧ w'.heap.size ≤ w.heap.size) (fun _ d h => ⟨h.1.at_ d, h.2.1.at_ d, h.2.2.1.at_ d, h.2.2.2⟩) h r
  refine Goes.step rfl (fun w₃ h₃ => ?_)
  replace hF := c2 hF h₃
  clear h₃
  have hc1 := hF.2.2.1.cell
  have hc2 := hF.2.2.1.thaw
  refine goes_oper_k rfl rfl (by k_ne) (fun K hK => ?_)
  go_simp
  refine hK _ _ ⟨⟨by simp, fun e he => ?_⟩, ?_⟩
  · have hm := mem_listed he
    simp [go_sem, storedEv, hc1, hc2] at hm
    subst hm
    exact evO_cell (fun h => by have h1 := hS2 _ h; simp only at h1; omega) (by have := hF.2.2.1.lt; simpa using this)
  clear hK K hc1 hc2
  replace hF : Kp w0 (w₃.setCell ⟨bc, 0, none⟩ (.int .i64 6)) ∧ Bx w0 (w₃.setCell ⟨bc, 0, none⟩ (.int .i64 6)) bn (.int .i64 4) 3 ∧ Bx w0 (w₃.setCell ⟨bc, 0, none⟩ (.int .i64 6)) bc (.int .i64 6) 3 ∧ w'.heap.size ≤ (w₃.setCell ⟨bc, 0, none⟩ (.int .i64 6)).heap.size := ⟨hF.1.set hF.2.2.1.hi 0 _, hF.2.1.other hn1 0 _, hF.2.2.1.set _, by simpa using hF.2.2.2⟩
  generalize World.setCell w₃ _ _ = w₅ at hF ⊢
  have c3 : ∀ {w w₁ : World}, Kp w0 w ∧ Bx w0 w bn (.int .i64 4) 3 ∧ Bx w0 w bc (.int .i64 6) 3 ∧ w'.heap.size ≤ w.heap.size → RB w w₁ → Kp w0 w₁ ∧ Bx w0 w₁ bn (.int .i64 4) 3 ∧ Bx w0 w₁ bc (.int .i64 6) 3 ∧ w'.heap.size ≤ w₁.heap.size := fun h r => rb (F := fun w => Kp w0 w ∧ Bx w0 w bn (.int .i64 4) 3 ∧ Bx w0 w bc (.int .i64 6) 3 ∧ w'.heap.size ≤ w.heap.size) (fun _ d h => ⟨h.1.at_ d, h.2.1.at_ d, h.2.2.1.at_ d, h.2.2.2⟩) h r
  (refine Goes.step rfl (fun _ h₁ => ?_); replace hF := c3 hF h₁; clear h₁; rw [stepG_region_end]; simp only [goes_go]; refine ⟨by ((first | refine db_none ?_ | refine ds_none ?_ | refine dr_none ?_ | u_none); intro e he; simp at he), ?_⟩)
  (refine Goes.step rfl (fun _ h₁ => ?_); replace hF := c3 hF h₁; clear h₁; rw [stepG_seq]; simp only [goes_go]; refine ⟨by ((first | refine db_none ?_ | refine ds_none ?_ | refine dr_none ?_ | u_none); intro e he; simp at he), ?_⟩)
  (refine Goes.step rfl (fun _ h₁ => ?_); replace hF := c3 hF h₁; clear h₁; rw [stepG_region]; simp only [goes_go, List.size_toArray, List.length_cons, List.length_nil, Nat.reduceAdd, Nat.zero_add, List.range, List.range.loop]; refine ⟨by ((first | refine db_none ?_ | refine ds_none ?_ | refine dr_none ?_ | u_none); intro e he; simp at he), ?_⟩)
  refine Goes.step rfl (fun w₆ h₆ => ?_)
  replace hF := c3 hF h₆
  clear h₆
  have hc := hF.2.2.1.cell
  refine goes_oper_k rfl rfl (by k_ne) (fun K hK => ?_)
  go_simp
  refine hK _ _ ⟨⟨Nat.le_refl _, fun e he => ?_⟩, ?_⟩
  · have hm := mem_listed he
    simp [go_sem, hc] at hm
    subst hm
    exact evO_cell (fun h => by have h1 := hS2 _ h; simp only at h1; omega) hF.2.2.1.lt
  clear hK K hc
  (refine Goes.step rfl (fun _ h₁ => ?_); replace hF := c3 hF h₁; clear h₁; refine goes_oper_k rfl rfl (by k_ne) (fun K hK => ?_); go_simp; refine hK _ _ ⟨by ((first | refine db_none ?_ | refine ds_none ?_ | refine dr_none ?_ | u_none); intro e he; have hm := mem_listed he; simp [go_sem, *] at hm), ?_⟩; clear hK K; try w_num)
  refine Goes.step rfl (fun w₇ h₇ => ?_)
  replace hF := c3 hF h₇
  clear h₇
  have hme : ∀ es, (Instr.makeSlice 73 (.int .i64 64) (.int .i64 64)).events Tryd.prog w₇ es = es := ev_mk22 64 (by omega) w₇
  have hmk : Sem.run Tryd.prog (Instr.makeSlice 73 (.int .i64 64) (.int .i64 64)) w₇ = .ok (.slice (some ⟨w₇.heap.size, 0, none⟩) 64 64) (w₇.alloc (.cells (nilC 64) 22)) := run_mk22 64 (by omega) w₇
  refine goes_oper_k rfl rfl (by k_ne) (fun K hK => ?_)
  go_simp
  refine hK _ _ ⟨⟨by simp, fun e he => ?_⟩, ?_⟩
  · exfalso
    have hm := mem_listed he
    simp [go_sem, hme] at hm
  clear hK K hme hmk
  have hCs := hF.2.2.2
  have hn2 : bn ≠ w₇.heap.size := Nat.ne_of_lt hF.2.1.lt
  have hn3 : bc ≠ w₇.heap.size := Nat.ne_of_lt hF.2.2.1.lt
  replace hF : Kp w0 (w₇.alloc (.cells (nilC 64) 22)) ∧ Bx w0 (w₇.alloc (.cells (nilC 64) 22)) bn (.int .i64 4) 3 ∧ Bx w0 (w₇.alloc (.cells (nilC 64) 22)) bc (.int .i64 6) 3 ∧ Py w0 (w₇.alloc (.cells (nilC 64) 22)) w₇.heap.size 64 ∧ w'.heap.size ≤ (w₇.alloc (.cells (nilC 64) 22)).heap.size := ⟨hF.1.alloc _, hF.2.1.alloc _, hF.2.2.1.alloc _, ⟨heap_alloc_new w₇ _, hF.1.size⟩, by simp; omega⟩
  generalize w₇.heap.size = C at hF hCs hn2 hn3 ⊢
  generalize w₇.alloc _ = w₈ at hF ⊢
  have c4 : ∀ {w w₁ : World}, Kp w0 w ∧ Bx w0 w bn (.int .i64 4) 3 ∧ Bx w0 w bc (.int .i64 6) 3 ∧ Py w0 w C 64 ∧ w'.heap.size ≤ w.heap.size → RB w w₁ → Kp w0 w₁ ∧ Bx w0 w₁ bn (.int .i64 4) 3 ∧ Bx w0 w₁ bc (.int .i64 6) 3 ∧ Py w0 w₁ C 64 ∧ w'.heap.size ≤ w₁.heap.size := fun h r => rb (F := fun w => Kp w0 w ∧ Bx w0 w bn (.int .i64 4) 3 ∧ Bx w0 w bc (.int .i64 6) 3 ∧ Py w0 w C 64 ∧ w'.heap.size ≤ w.heap.size) (fun _ d h => ⟨h.1.at_ d, h.2.1.at_ d, h.2.2.1.at_ d, h.2.2.2.1.at_ d, h.2.2.2.2⟩) h r
  refine Goes.step rfl (fun w₉ h₉ => ?_)
  replace hF := c4 hF h₉
  clear h₉
  refine goes_oper_k rfl rfl (by k_ne) (fun K hK => ?_)
  go_simp
  refine hK _ _ ⟨⟨by simp, fun e he => ?_⟩, ?_⟩
  · exfalso
    have hm := mem_listed he
    simp [go_sem] at hm
  clear hK K
  have hbo := hF.2.2.2.2
  have hn4 : bn ≠ w₉.heap.size := Nat.ne_of_lt hF.2.1.lt
  have hn5 : bc ≠ w₉.heap.size := Nat.ne_of_lt hF.2.2.1.lt
  have hn6 : C ≠ w₉.heap.size := Nat.ne_of_lt hF.2.2.2.1.lt
  replace hF := And.intro (hF.1.alloc (.cells #[.slice none 0 0] 73)) (And.intro (hF.2.1.alloc (.cells #[.slice none 0 0] 73)) (And.intro (hF.2.2.1.alloc (.cells #[.slice none 0 0] 73)) (And.intro (hF.2.2.2.1.alloc (.cells #[.slice none 0 0] 73)) (And.intro (Bx.new hF.1 (.slice none 0 0) 73) (show w'.heap.size ≤ (w₉.alloc (.cells #[.slice none 0 0] 73)).heap.size by simp; omega)))))
  generalize w₉.heap.size = bo at hF hbo hn4 hn5 hn6 ⊢
  generalize w₉.alloc _ = v₀ at hF ⊢
  have c5 : ∀ {w w₁ : World}, Kp w0 w ∧ Bx w0 w bn (.int .i64 4) 3 ∧ Bx w0 w bc (.int .i64 6) 3 ∧ Py w0 w C 64 ∧ Bx w0 w bo (.slice none 0 0) 73 ∧ w'.heap.size ≤ w.heap.size → RB w w₁ → Kp w0 w₁ ∧ Bx w0 w₁ bn (.int .i64 4) 3 ∧ Bx w0 w₁ bc (.int .i64 6) 3 ∧ Py w0 w₁ C 64 ∧ Bx w0 w₁ bo (.slice none 0 0) 73 ∧ w'.heap.size ≤ w₁.heap.size := fun h r => rb (F := fun w => Kp w0 w ∧ Bx w0 w bn (.int .i64 4) 3 ∧ Bx w0 w bc (.int .i64 6) 3 ∧ Py w0 w C 64 ∧ Bx w0 w bo (.slice none 0 0) 73 ∧ w'.heap.size ≤ w.heap.size) (fun _ d h => ⟨h.1.at_ d, h.2.1.at_ d, h.2.2.1.at_ d, h.2.2.2.1.at_ d, h.2.2.2.2.1.at_ d, h.2.2.2.2.2⟩) h r
  refine Goes.step rfl (fun v₁ k₁ => ?_)
  replace hF := c5 hF k₁
  clear k₁
  have hc1 := hF.2.2.2.2.1.cell
  have hc2 := hF.2.2.2.2.1.thaw
  refine goes_oper_k rfl rfl (by k_ne) (fun K hK => ?_)
  go_simp
  refine hK _ _ ⟨⟨by simp, fun e he => ?_⟩, ?_⟩
  · have hm := mem_listed he
    simp [go_sem, storedEv, hc1, hc2] at hm
    subst hm
    exact evO_cell (fun h => by have h1 := hS2 _ h; simp only at h1; omega) (by have := hF.2.2.2.2.1.lt; simpa using this)
  clear hK K hc1 hc2
  replace hF : Kp w0 (v₁.setCell ⟨bo, 0, none⟩ (.slice (some ⟨C, 0, none⟩) 64 64)) ∧ Bx w0 (v₁.setCell ⟨bo, 0, none⟩ (.slice (some ⟨C, 0, none⟩) 64 64)) bn (.int .i64 4) 3 ∧ Bx w0 (v₁.setCell ⟨bo, 0, none⟩ (.slice (some ⟨C, 0, none⟩) 64 64)) bc (.int .i64 6) 3 ∧ Py w0 (v₁.setCell ⟨bo, 0, none⟩ (.slice (some ⟨C, 0, none⟩) 64 64)) C 64 ∧ Bx w0 (v₁.setCell ⟨bo, 0, none⟩ (.slice (some ⟨C, 0, none⟩) 64 64)) bo (.slice (some ⟨C, 0, none⟩) 64 64) 73 ∧ w'.heap.size ≤ (v₁.setCell ⟨bo, 0, none⟩ (.slice (some ⟨C, 0, none⟩) 64 64)).heap.size := ⟨hF.1.set hF.2.2.2.2.1.hi 0 _, hF.2.1.other hn4 0 _, hF.2.2.1.other hn5 0 _, hF.2.2.2.1.other hn6 0 _, hF.2.2.2.2.1.set _, by simpa using hF.2.2.2.2.2⟩
  generalize World.setCell v₁ _ _ = v₂ at hF ⊢
  have c6 : ∀ {w w₁ : World}, Kp w0 w ∧ Bx w0 w bn (.int .i64 4) 3 ∧ Bx w0 w bc (.int .i64 6) 3 ∧ Py w0 w C 64 ∧ Bx w0 w bo (.slice (some ⟨C, 0, none⟩) 64 64) 73 ∧ w'.heap.size ≤ w.heap.size → RB w w₁ → Kp w0 w₁ ∧ Bx w0 w₁ bn (.int .i64 4) 3 ∧ Bx w0 w₁ bc (.int .i64 6) 3 ∧ Py w0 w₁ C 64 ∧ Bx w0 w₁ bo (.slice (some ⟨C, 0, none⟩) 64 64) 73 ∧ w'.heap.size ≤ w₁.heap.size := fun h r => rb (F := fun w => Kp w0 w ∧ Bx w0 w bn (.int .i64 4) 3 ∧ Bx w0 w bc (.int .i64 6) 3 ∧ Py w0 w C 64 ∧ Bx w0 w bo (.slice (some ⟨C, 0, none⟩) 64 64) 73 ∧ w'.heap.size ≤ w.heap.size) (fun _ d h => ⟨h.1.at_ d, h.2.1.at_ d, h.2.2.1.at_ d, h.2.2.2.1.at_ d, h.2.2.2.2.1.at_ d, h.2.2.2.2.2⟩) h r
  (refine Goes.step rfl (fun _ h₁ => ?_); replace hF := c6 hF h₁; clear h₁; rw [stepG_region_end]; simp only [goes_go]; refine ⟨by ((first | refine db_none ?_ | refine ds_none ?_ | refine dr_none ?_ | u_none); intro e he; simp at he), ?_⟩)
  (refine Goes.step rfl (fun _ h₁ => ?_); replace hF := c6 hF h₁; clear h₁; rw [stepG_seq]; simp only [goes_go]; refine ⟨by ((first | refine db_none ?_ | refine ds_none ?_ | refine dr_none ?_ | u_none); intro e he; simp at he), ?_⟩)
  (refine Goes.step rfl (fun _ h₁ => ?_); replace hF := c6 hF h₁; clear h₁; rw [stepG_region]; simp only [goes_go, List.size_toArray, List.length_cons, List.length_nil, Nat.zero_add, List.range, List.range.loop]; refine ⟨by ((first | refine db_none ?_ | refine ds_none ?_ | refine dr_none ?_ | u_none); intro e he; simp at he), ?_⟩)
  refine Goes.stop (fun v₃ k₃ => ?_)
  replace hF := c6 hF k₃
  clear k₃
  refine ⟨bn, bc, bo, C, hF.1, hF.2.1, hF.2.2.1, hF.2.2.2.2.1, hF.2.2.2.1, hn2, hn3, fun e => hn6 e.symm, ⟨fun h => ?_, fun h => ?_, fun h => ?_, fun h => ?_⟩, rfl, ?_⟩
  · have h1 := hS1 _ h
    have h2 := hF.2.1.hi
    omega
  · have := hS2 _ h; omega
  · have := hS2 _ h; omega
  · have := hS2 _ h; omega
  clear hF c1 c2 c3 c4 c5 c6
  refine goes_oper_k rfl rfl (by k_ne) (fun K hK => ?_)
  go_simp
  refine hK _ _ ⟨rfl, fun e he => ?_, fun c HC L hWg hF => ?_⟩
  · have hm := mem_listed he
    simp [go_sem] at hm
  clear hK K
  refine spw4_of (k := 60) ?_
  have hsp := spw4_s HC L tl cs c.n (Nat.le_refl _)
  have e0 : ((c.n - c.n : Nat) : Int) = 0 := by simp
  rw [e0, HC.P] at hsp
  simp only [LB34, RE34, Tryd.f34, Option.getD_some] at hsp
  have HSP := hid hsp
  clear hsp e0
  rw [HC.P]
  rw [← hWg]
  clear hWg
  (refine Goes.step rfl (fun _ h₁ => ?_); replace hF := (z_rely (FS.rely HC L)) hF h₁; clear h₁; rw [stepG_region_end]; simp only [goes_go]; refine ⟨by ((first | refine db_none ?_ | refine ds_none ?_ | refine dr_none ?_ | u_none); intro e he; simp at he), ?_⟩)
  (refine Goes.step rfl (fun _ h₁ => ?_); replace hF := (z_rely (FS.rely HC L)) hF h₁; clear h₁; rw [stepG_seq]; simp only [goes_go]; refine ⟨by ((first | refine db_none ?_ | refine ds_none ?_ | refine dr_none ?_ | u_none); intro e he; simp at he), ?_⟩)
  (refine Goes.step rfl (fun _ h₁ => ?_); replace hF := (z_rely (FS.rely HC L)) hF h₁; clear h₁; rw [stepG_seq]; simp only [goes_go]; refine ⟨by ((first | refine db_none ?_ | refine ds_none ?_ | refine dr_none ?_ | u_none); intro e he; simp at he), ?_⟩)
  (refine Goes.step rfl (fun _ h₁ => ?_); replace hF := (z_rely (FS.rely HC L)) hF h₁; clear h₁; rw [stepG_region]; simp only [goes_go, List.size_toArray, List.length_cons, List.length_nil, Nat.reduceAdd, Nat.zero_add, List.range, List.range.loop]; refine ⟨by ((first | refine db_none ?_ | refine ds_none ?_ | refine dr_none ?_ | u_none); intro e he; simp at he), ?_⟩)
  refine Goes.step rfl (fun v₄ k₄ => ?_)
  replace hF := z_rely (FS.rely HC L) hF k₄
  clear k₄
  have hc : v₄.cell? ⟨bo, 0, none⟩ = some (.slice (some ⟨c.C, 0, none⟩) 64 64) := FS.co HC.num hF.1
  refine goes_oper_k rfl rfl (by k_ne) (fun K hK => ?_)
  go_simp
  refine hK _ _ ⟨ds_read fun e he => ?_, ?_⟩
  · have hm := mem_listed he
    simp [go_sem, hc] at hm
    subst hm
    exact evS_see L ((HC.K bo).2 (.inr (.inr rfl)))
  clear hK K hc
  (refine Goes.step rfl (fun _ h₁ => ?_); replace hF := (z_rely (FS.rely HC L)) hF h₁; clear h₁; refine goes_oper_k rfl rfl (by k_ne) (fun K hK => ?_); go_simp; refine hK _ _ ⟨by ((first | refine db_none ?_ | refine ds_none ?_ | refine dr_none ?_ | u_none); intro e he; have hm := mem_listed he; simp [go_sem, *] at hm), ?_⟩; clear hK K; try w_num)
  (refine Goes.step rfl (fun _ h₁ => ?_); replace hF := (z_rely (FS.rely HC L)) hF h₁; clear h₁; refine goes_oper_k rfl rfl (by k_ne) (fun K hK => ?_); go_simp; refine hK _ _ ⟨by ((first | refine db_none ?_ | refine ds_none ?_ | refine dr_none ?_ | u_none); intro e he; have hm := mem_listed he; simp [go_sem, *] at hm), ?_⟩; clear hK K; try w_num)
  (refine Goes.step rfl (fun _ h₁ => ?_); replace hF := (z_rely (FS.rely HC L)) hF h₁; clear h₁; rw [stepG_region_end]; simp only [goes_go]; refine ⟨by ((first | refine db_none ?_ | refine ds_none ?_ | refine dr_none ?_ | u_none); intro e he; simp at he), ?_⟩)
  (refine Goes.step rfl (fun _ h₁ => ?_); replace hF := (z_rely (FS.rely HC L)) hF h₁; clear h₁; rw [stepG_block]; simp only [goes_go]; refine ⟨by ((first | refine db_none ?_ | refine ds_none ?_ | refine dr_none ?_ | u_none); intro e he; simp at he), ?_⟩)
  (refine Goes.step rfl (fun _ h₁ => ?_); replace hF := (z_rely (FS.rely HC L)) hF h₁; clear h₁; rw [stepG_loop]; simp only [goes_go]; refine ⟨by ((first | refine db_none ?_ | refine ds_none ?_ | refine dr_none ?_ | u_none); intro e he; simp at he), ?_⟩)
  exact goes_le (m := 40) (by omega) (HSP.out _ _ _ _ _ _ _ _ _ _ _ _ _ _ _ hF)
def ahead2 (w0 : World) (S : Nat → Prop) (tl : List Value) (cs : List Frame) (g : Goroutine) (w : World) : Prop :=
  ∃ bn bc bo C, Kp w0 w ∧ Bx w0 w bn (.int .i64 2) 3 ∧ Bx w0 w bc (.int .i64 1) 3 ∧ Bx w0 w bo (.slice (some ⟨C, 0, none⟩) 2 2) 73 ∧ Py w0 w C 2 ∧ bn ≠ C ∧ bc ≠ C ∧ bo ≠ C ∧ (¬ S bn ∧ ¬ S bc ∧ ¬ S bo ∧ ¬ S C) ∧ g.status = .running ∧
    (stepG Tryd.prog true g w).goes fun g' w' es => w' = w.alloc (wgBlock 109 0 0) ∧ (∀ e ∈ es, False) ∧ ∀ c : Cst, Cs c 2 1 bn bc bo → Lay c → c.Wg = w.heap.size → FS c 2 1 bn bc bo w' ∧ WgLive c.ty c.Wg w' → c.Spw (c.Fin (anch2 c bn bc bo tl cs)) c.n g' w'
def asks2 (w0 : World) (tl : List Value) (cs : List Frame) (g : Goroutine) (w : World) : Prop :=
  ∃ bn, Kp w0 w ∧ Bx w0 w bn (.int .i64 2) 3 ∧ ∃ b : Frame, g = G (Frame.enter Tryd.prog 31 #[.int .i64 2] .normal) (b :: cs) ∧
    ∀ (S' : Nat → Prop) (w' : World), (∀ b, S' b → b < w0.heap.size ∨ w.heap.size ≤ b) → (∀ b, S' b → b < w'.heap.size) → Kp w0 w' → Bx w0 w' bn (.int .i64 2) 3 → bn < w.heap.size → Goes Tryd.prog true RB (DB S') (ahead2 w0 S' tl cs) 60 (G (b.finish (.int .i64 1)) cs) w'
set_option maxRecDepth 100000 in
set_option maxHeartbeats 4000000 in
theorem pre2 (w0 : World) (S : Nat → Prop) (hS : ∀ b, S b → b < w0.heap.size) (r1 r2 r3 r4 r5 r6 r7 r8 r9 r10 r11 r12 r13 r14 r15 r16 r17 r18 r19 r20 r21 : Value) (tl : List Value) (cs : List Frame) :
    Goes Tryd.prog true RB (DB S) (asks2 w0 tl cs) 40 (G ((base 34).at ⟨⟨.int .i64 2 :: r1 :: r2 :: r3 :: r4 :: r5 :: r6 :: r7 :: r8 :: r9 :: r10 :: r11 :: r12 :: r13 :: r14 :: r15 :: r16 :: r17 :: r18 :: r19 :: r20 :: r21 :: tl⟩, []⟩ [.code body34]) cs) w0 := by
  have hF : Kp w0 w0 := Kp.refl w0
  simp only [body34, Tryd.f34, Option.getD_some]
  (refine Goes.step rfl (fun _ h₁ => ?_); replace hF := (rb fun _ d h => h.at_ d) hF h₁; clear h₁; rw [stepG_seq]; simp only [goes_go]; refine ⟨by ((first | refine db_none ?_ | refine ds_none ?_ | refine dr_none ?_ | u_none); intro e he; simp at he), ?_⟩)
  (refine Goes.step rfl (fun _ h₁ => ?_); replace hF := (rb fun _ d h => h.at_ d) hF h₁; clear h₁; rw [stepG_region]; simp only [goes_go, List.size_toArray, List.length_cons, List.length_nil, Nat.reduceAdd, Nat.zero_add, List.range, List.range.loop]; refine ⟨by ((first | refine db_none ?_ | refine ds_none ?_ | refine dr_none ?_ | u_none); intro e he; simp at he), ?_⟩)
  refine Goes.step rfl (fun w₁ h₁ => ?_)
  replace hF := rb (fun _ d h => h.at_ d) hF h₁
  clear h₁
  refine goes_oper_k rfl rfl (by k_ne) (fun K hK => ?_)
  go_simp
  refine hK _ _ ⟨⟨by simp, fun e he => ?_⟩, ?_⟩
  · exfalso
    have hm := mem_listed he
    simp [go_sem] at hm
  clear hK K
  replace hF := And.intro (hF.alloc (.cells #[.int .i64 2] 3)) (Bx.new hF (.int .i64 2) 3)
  generalize w₁.heap.size = bn at hF ⊢
  generalize w₁.alloc _ = w₂ at hF ⊢
  have rr : ∀ {w w' : World}, Kp w0 w ∧ Bx w0 w bn (.int .i64 2) 3 → RB w w' → Kp w0 w' ∧ Bx w0 w' bn (.int .i64 2) 3 := fun h r => rb (F := fun w => Kp w0 w ∧ Bx w0 w bn (.int .i64 2) 3) (fun _ d h => ⟨h.1.at_ d, h.2.at_ d⟩) h r
  (refine Goes.step rfl (fun _ h₁ => ?_); replace hF := rr hF h₁; clear h₁; refine goes_oper_k rfl rfl (by k_ne) (fun K hK => ?_); go_simp; refine hK _ _ ⟨by ((first | refine db_none ?_ | refine ds_none ?_ | refine dr_none ?_ | u_none); intro e he; have hm := mem_listed he; simp [go_sem, *] at hm), ?_⟩; clear hK K; try w_num)
  (refine Goes.step rfl (fun _ h₁ => ?_); replace hF := rr hF h₁; clear h₁; rw [stepG_region_end]; simp only [goes_go]; refine ⟨by ((first | refine db_none ?_ | refine ds_none ?_ | refine dr_none ?_ | u_none); intro e he; simp at he), ?_⟩)
  (refine Goes.step rfl (fun _ h₁ => ?_); replace hF := rr hF h₁; clear h₁; rw [stepG_seq]; simp only [goes_go]; refine ⟨by ((first | refine db_none ?_ | refine ds_none ?_ | refine dr_none ?_ | u_none); intro e he; simp at he), ?_⟩)
  (refine Goes.step rfl (fun _ h₁ => ?_); replace hF := rr hF h₁; clear h₁; rw [stepG_region]; simp only [goes_go, List.size_toArray, List.length_cons, List.length_nil, Nat.reduceAdd, Nat.zero_add, List.range, List.range.loop]; refine ⟨by ((first | refine db_none ?_ | refine ds_none ?_ | refine dr_none ?_ | u_none); intro e he; simp at he), ?_⟩)
  refine Goes.step rfl (fun w₃ h₃ => ?_)
  replace hF := rr hF h₃
  clear h₃
  have hc := hF.2.cell
  refine goes_oper_k rfl rfl (by k_ne) (fun K hK => ?_)
  go_simp
  refine hK _ _ ⟨⟨Nat.le_refl _, fun e he => ?_⟩, ?_⟩
  · have hm := mem_listed he
    simp [go_sem, hc] at hm
    subst hm
    exact evO_cell (fun h => by have h1 := hS _ h; have h2 := hF.2.hi; simp only at h1; omega) hF.2.lt
  clear hK K hc
  (refine Goes.step rfl (fun _ h₁ => ?_); replace hF := rr hF h₁; clear h₁)
  refine goes_enter rfl rfl (by k_ne) rfl Tryd.func31 nm31 rfl ⟨by ((first | refine db_none ?_ | refine ds_none ?_ | refine dr_none ?_ | u_none); intro e he; simp at he), ?_⟩
  simp only [List.map_toArray, List.map_cons, List.map_nil, Act.eval, Array.getD_eq_getD_getElem?, List.getElem?_toArray, List.getElem?_cons_succ, List.getElem?_cons_zero, Option.getD_some]
  refine Goes.stop (fun w₄ h₄ => ?_)
  replace hF := rr hF h₄
  clear h₄
  refine ⟨bn, hF.1, hF.2, _, rfl, ?_⟩
  clear hF
  intro S' w' hS1 hS2 hk hb hlt
  rw [Frame.finish_at]
  walk_nrm
  have wrN : IntKind.i64.wrap 2 = 2 := by decide
  have hF : Kp w0 w' ∧ Bx w0 w' bn (.int .i64 2) 3 ∧ w'.heap.size ≤ w'.heap.size := ⟨hk, hb, Nat.le_refl _⟩
  clear hk hb
  have c1 : ∀ {w w₁ : World}, Kp w0 w ∧ Bx w0 w bn (.int .i64 2) 3 ∧ w'.heap.size ≤ w.heap.size → RB w w₁ → Kp w0 w₁ ∧ Bx w0 w₁ bn (.int .i64 2) 3 ∧ w'.heap.size ≤ w₁.heap.size := fun h r => rb (F := fun w => Kp w0 w ∧ Bx w0 w bn (.int .i64 2) 3 ∧ w'.heap.size ≤ w.heap.size) (fun _ d h => ⟨h.1.at_ d, h.2.1.at_ d, h.2.2⟩) h r
  refine Goes.step rfl (fun w₁ h₁ => ?_)
  replace hF := c1 hF h₁
  clear h₁
  refine goes_oper_k rfl rfl (by k_ne) (fun K hK => ?_)
  go_simp
  refine hK _ _ ⟨⟨by simp, fun e he => ?_⟩, ?_⟩
  · exfalso
    have hm := mem_listed he
    simp [go_sem] at hm
  clear hK K
  have hbc := hF.2.2
  have hn1 : bn ≠ w₁.heap.size := Nat.ne_of_lt hF.2.1.lt
  replace hF := And.intro (hF.1.alloc (.cells #[.int .i64 0] 3)) (And.intro (hF.2.1.alloc (.cells #[.int .i64 0] 3)) (And.intro (Bx.new hF.1 (.int .i64 0) 3) (show w'.heap.size ≤ (w₁.alloc (.cells #[.int .i64 0] 3)).heap.size by simp; omega)))
  generalize w₁.heap.size = bc at hF hbc hn1 ⊢
  generalize w₁.alloc _ = w₂ at hF ⊢
  have c2 : ∀ {w w₁ : World}, Kp w0 w ∧ Bx w0 w bn (.int .i64 2) 3 ∧ Bx w0 w bc (.int .i64 0) 3 ∧ w'.heap.size ≤ w.heap.size → RB w w₁ → Kp w0 w₁ ∧ Bx w0 w₁ bn (.int .i64 2) 3 ∧ Bx w0 w₁ bc (.int .i64 0) 3 ∧ w'.heap.size ≤ w₁.heap.size := fun h r => rb (F := fun w => Kp w0 w ∧ Bx w0 w bn (.int .i64 2) 3 ∧ Bx w0 w bc (.int .i64 0) 3 ∧ w'.heap.size ≤ w.heap.size) (fun _ d h => ⟨h.1.at_ d, h.2.1.at_ d, h.2.2.1.at_ d, h.2.2.2⟩) h r
  refine Goes.step rfl (fun w₃ h₃ => ?_)
  replace hF := c2 hF h₃
  clear h₃
  have hc1 := hF.2.2.1.cell
  have hc2 := hF.2.2.1.thaw
  refine goes_oper_k rfl rfl (by k_ne) (fun K hK => ?_)
  go_simp
  refine hK _ _ ⟨⟨by simp, fun e he => ?_⟩, ?_⟩
  · have hm := mem_listed he
    simp [go_sem, storedEv, hc1, hc2] at hm
    subst hm
    exact evO_cell (fun h => by have h1 := hS2 _ h; simp only at h1; omega) (by have := hF.2.2.1.lt; simpa using this)
  clear hK K hc1 hc2
  replace hF : Kp w0 (w₃.setCell ⟨bc, 0, none⟩ (.int .i64 1)) ∧ Bx w0 (w₃.setCell ⟨bc, 0, none⟩ (.int .i64 1)) bn (.int .i64 2) 3 ∧ Bx w0 (w₃.setCell ⟨bc, 0, none⟩ (.int .i64 1)) bc (.int .i64 1) 3 ∧ w'.heap.size ≤ (w₃.setCell ⟨bc, 0, none⟩ (.int .i64 1)).heap.size := ⟨hF.1.set hF.2.2.1.hi 0 _, hF.2.1.other hn1 0 _, hF.2.2.1.set _, by simpa using hF.2.2.2⟩
  generalize World.setCell w₃ _ _ = w₅ at hF ⊢
  have c3 : ∀ {w w₁ : World}, Kp w0 w ∧ Bx w0 w bn (.int .i64 2) 3 ∧ Bx w0 w bc (.int .i64 1) 3 ∧ w'.heap.size ≤ w.heap.size → RB w w₁ → Kp w0 w₁ ∧ Bx w0 w₁ bn (.int .i64 2) 3 ∧ Bx w0 w₁ bc (.int .i64 1) 3 ∧ w'.heap.size ≤ w₁.heap.size := fun h r => rb (F := fun w => Kp w0 w ∧ Bx w0 w bn (.int .i64 2) 3 ∧ Bx w0 w bc (.int .i64 1) 3 ∧ w'.heap.size ≤ w.heap.size) (fun _ d h => ⟨h.1.at_ d, h.2.1.at_ d, h.2.2.1.at_ d, h.2.2.2⟩) h r
  (refine Goes.step rfl (fun _ h₁ => ?_); replace hF := c3 hF h₁; clear h₁; rw [stepG_region_end]; simp only [goes_go]; refine ⟨by ((first | refine db_none ?_ | refine ds_none ?_ | refine dr_none ?_ | u_none); intro e he; simp at he), ?_⟩)
  (refine Goes.step rfl (fun _ h₁ => ?_); replace hF := c3 hF h₁; clear h₁; rw [stepG_seq]; simp only [goes_go]; refine ⟨by ((first | refine db_none ?_ | refine ds_none ?_ | refine dr_none ?_ | u_none); intro e he; simp at he), ?_⟩)
  (refine Goes.step rfl (fun _ h₁ => ?_); replace hF := c3 hF h₁; clear h₁; rw [stepG_region]; simp only [goes_go, List.size_toArray, List.length_cons, List.length_nil, Nat.reduceAdd, Nat.zero_add, List.range, List.range.loop]; refine ⟨by ((first | refine db_none ?_ | refine ds_none ?_ | refine dr_none ?_ | u_none); intro e he; simp at he), ?_⟩)
  refine Goes.step rfl (fun w₆ h₆ => ?_)
  replace hF := c3 hF h₆
  clear h₆
  have hc := hF.2.2.1.cell
  refine goes_oper_k rfl rfl (by k_ne) (fun K hK => ?_)
  go_simp
  refine hK _ _ ⟨⟨Nat.le_refl _, fun e he => ?_⟩, ?_⟩
  · have hm := mem_listed he
    simp [go_sem, hc] at hm
    subst hm
    exact evO_cell (fun h => by have h1 := hS2 _ h; simp only at h1; omega) hF.2.2.1.lt
  clear hK K hc
  (refine Goes.step rfl (fun _ h₁ => ?_); replace hF := c3 hF h₁; clear h₁; refine goes_oper_k rfl rfl (by k_ne) (fun K hK => ?_); go_simp; refine hK _ _ ⟨by ((first | refine db_none ?_ | refine ds_none ?_ | refine dr_none ?_ | u_none); intro e he; have hm := mem_listed he; simp [go_sem, *] at hm), ?_⟩; clear hK K; try w_num)
  refine Goes.step rfl (fun w₇ h₇ => ?_)
  replace hF := c3 hF h₇
  clear h₇
  have hme : ∀ es, (Instr.makeSlice 73 (.int .i64 2) (.int .i64 2)).events Tryd.prog w₇ es = es := ev_mk22 2 (by omega) w₇
  have hmk : Sem.run Tryd.prog (Instr.makeSlice 73 (.int .i64 2) (.int .i64 2)) w₇ = .ok (.slice (some ⟨w₇.heap.size, 0, none⟩) 2 2) (w₇.alloc (.cells (nilC 2) 22)) := run_mk22 2 (by omega) w₇
  refine goes_oper_k rfl rfl (by k_ne) (fun K hK => ?_)
  go_simp
  refine hK _ _ ⟨⟨by simp, fun e he => ?_⟩, ?_⟩
  · exfalso
    have hm := mem_listed he
    simp [go_sem, hme] at hm
  clear hK K hme hmk
  have hCs := hF.2.2.2
  have hn2 : bn ≠ w₇.heap.size := Nat.ne_of_lt hF.2.1.lt
  have hn3 : bc ≠ w₇.heap.size := Nat.ne_of_lt hF.2.2.1.lt
  replace hF : Kp w0 (w₇.alloc (.cells (nilC 2) 22)) ∧ Bx w0 (w₇.alloc (.cells (nilC 2) 22)) bn (.int .i64 2) 3 ∧ Bx w0 (w₇.alloc (.cells (nilC 2) 22)) bc (.int .i64 1) 3 ∧ Py w0 (w₇.alloc (.cells (nilC 2) 22)) w₇.heap.size 2 ∧ w'.heap.size ≤ (w₇.alloc (.cells (nilC 2) 22)).heap.size := ⟨hF.1.alloc _, hF.2.1.alloc _, hF.2.2.1.alloc _, ⟨heap_alloc_new w₇ _, hF.1.size⟩, by simp; omega⟩
  generalize w₇.heap.size = C at hF hCs hn2 hn3 ⊢
  generalize w₇.alloc _ = w₈ at hF ⊢
  have c4 : ∀ {w w₁ : World}, Kp w0 w ∧ Bx w0 w bn (.int .i64 2) 3 ∧ Bx w0 w bc (.int .i64 1) 3 ∧ Py w0 w C 2 ∧ w'.heap.size ≤ w.heap.size → RB w w₁ → Kp w0 w₁ ∧ Bx w0 w₁ bn (.int .i64 2) 3 ∧ Bx w0 w₁ bc (.int .i64 1) 3 ∧ Py w0 w₁ C 2 ∧ w'.heap.size ≤ w₁.heap.size := fun h r => rb (F := fun w => Kp w0 w ∧ Bx w0 w bn (.int .i64 2) 3 ∧ Bx w0 w bc (.int .i64 1) 3 ∧ Py w0 w C 2 ∧ w'.heap.size ≤ w.heap.size) (fun _ d h => ⟨h.1.at_ d, h.2.1.at_ d, h.2.2.1.at_ d, h.2.2.2.1.at_ d, h.2.2.2.2⟩) h r
  refine Goes.step rfl (fun w₉ h₉ => ?_)
  replace hF := c4 hF h₉
  clear h₉
  refine goes_oper_k rfl rfl (by k_ne) (fun K hK => ?_)
  go_simp
  refine hK _ _ ⟨⟨by simp, fun e he => ?_⟩, ?_⟩
  · exfalso
    have hm := mem_listed he
    simp [go_sem] at hm
  clear hK K
  have hbo := hF.2.2.2.2
  have hn4 : bn ≠ w₉.heap.size := Nat.ne_of_lt hF.2.1.lt
  have hn5 : bc ≠ w₉.heap.size := Nat.ne_of_lt hF.2.2.1.lt
  have hn6 : C ≠ w₉.heap.size := Nat.ne_of_lt hF.2.2.2.1.lt
  replace hF := And.intro (hF.1.alloc (.cells #[.slice none 0 0] 73)) (And.intro (hF.2.1.alloc (.cells #[.slice none 0 0] 73)) (And.intro (hF.2.2.1.alloc (.cells #[.slice none 0 0] 73)) (And.intro (hF.2.2.2.1.alloc (.cells #[.slice none 0 0] 73)) (And.intro (Bx.new hF.1 (.slice none 0 0) 73) (show w'.heap.size ≤ (w₉.alloc (.cells #[.slice none 0 0] 73)).heap.size by simp; omega)))))
  generalize w₉.heap.size = bo at hF hbo hn4 hn5 hn6 ⊢
  generalize w₉.alloc _ = v₀ at hF ⊢
  have c5 : ∀ {w w₁ : World}, Kp w0 w ∧ Bx w0 w bn (.int .i64 2) 3 ∧ Bx w0 w bc (.int .i64 1) 3 ∧ Py w0 w C 2 ∧ Bx w0 w bo (.slice none 0 0) 73 ∧ w'.heap.size ≤ w.heap.size → RB w w₁ → Kp w0 w₁ ∧ Bx w0 w₁ bn (.int .i64 2) 3 ∧ Bx w0 w₁ bc (.int .i64 1) 3 ∧ Py w0 w₁ C 2 ∧ Bx w0 w₁ bo (.slice none 0 0) 73 ∧ w'.heap.size ≤ w₁.heap.size := fun h r => rb (F := fun w => Kp w0 w ∧ Bx w0 w bn (.int .i64 2) 3 ∧ Bx w0 w bc (.int .i64 1) 3 ∧ Py w0 w C 2 ∧ Bx w0 w bo (.slice none 0 0) 73 ∧ w'.heap.size ≤ w.heap.size) (fun _ d h => ⟨h.1.at_ d, h.2.1.at_ d, h.2.2.1.at_ d, h.2.2.2.1.at_ d, h.2.2.2.2.1.at_ d, h.2.2.2.2.2⟩) h r
  refine Goes.step rfl (fun v₁ k₁ => ?_)
  replace hF := c5 hF k₁
  clear k₁
  have hc1 := hF.2.2.2.2.1.cell
  have hc2 := hF.2.2.2.2.1.thaw
  refine goes_oper_k rfl rfl (by k_ne) (fun K hK => ?_)
  go_simp
  refine hK _ _ ⟨⟨by simp, fun e he => ?_⟩, ?_⟩
  · have hm := mem_listed he
    simp [go_sem, storedEv, hc1, hc2] at hm
    subst hm
    exact evO_cell (fun h => by have h1 := hS2 _ h; simp only at h1; omega) (by have := hF.2.2.2.2.1.lt; simpa using this)
  clear hK K hc1 hc2
  replace hF : Kp w0 (v₁.setCell ⟨bo, 0, none⟩ (.slice (some ⟨C, 0, none⟩) 2 2)) ∧ Bx w0 (v₁.setCell ⟨bo, 0, none⟩ (.slice (some ⟨C, 0, none⟩) 2 2)) bn (.int .i64 2) 3 ∧ Bx w0 (v₁.setCell ⟨bo, 0, none⟩ (.slice (some ⟨C, 0, none⟩) 2 2)) bc (.int .i64 1) 3 ∧ Py w0 (v₁.setCell ⟨bo, 0, none⟩ (.slice (some ⟨C, 0, none⟩) 2 2)) C 2 ∧ Bx w0 (v₁.setCell ⟨bo, 0, none⟩ (.slice (some ⟨C, 0, none⟩) 2 2)) bo (.slice (some ⟨C, 0, none⟩) 2 2) 73 ∧ w'.heap.size ≤ (v₁.setCell ⟨bo, 0, none⟩ (.slice (some ⟨C, 0, none⟩) 2 2)).heap.size := ⟨hF.1.set hF.2.2.2.2.1.hi 0 _, hF.2.1.other hn4 0 _, hF.2.2.1.other hn5 0 _, hF.2.2.2.1.other hn6 0 _, hF.2.2.2.2.1.set _, by simpa using hF.2.2.2.2.2⟩
  generalize World.setCell v₁ _ _ = v₂ at hF ⊢
  have c6 : ∀ {w w₁ : World}, Kp w0 w ∧ Bx w0 w bn (.int .i64 2) 3 ∧ Bx w0 w bc (.int .i64 1) 3 ∧ Py w0 w C 2 ∧ Bx w0 w bo (.slice (some ⟨C, 0, none⟩) 2 2) 73 ∧ w'.heap.size ≤ w.heap.size → RB w w₁ → Kp w0 w₁ ∧ Bx w0 w₁ bn (.int .i64 2) 3 ∧ Bx w0 w₁ bc (.int .i64 1) 3 ∧ Py w0 w₁ C 2 ∧ Bx w0 w₁ bo (.slice (some ⟨C, 0, none⟩) 2 2) 73 ∧ w'.heap.size ≤ w₁.heap.size := fun h r => rb (F := fun w => Kp w0 w ∧ Bx w0 w bn (.int .i64 2) 3 ∧ Bx w0 w bc (.int .i64 1) 3 ∧ Py w0 w C 2 ∧ Bx w0 w bo (.slice (some ⟨C, 0, none⟩) 2 2) 73 ∧ w'.heap.size ≤ w.heap.size) (fun _ d h => ⟨h.1.at_ d, h.2.1.at_ d, h.2.2.1.at_ d, h.2.2.2.1.at_ d, h.2.2.2.2.1.at_ d, h.2.2.2.2.2⟩) h r
  (refine Goes.step rfl (fun _ h₁ => ?_); replace hF := c6 hF h₁; clear h₁; rw [stepG_region_end]; simp only [goes_go]; refine ⟨by ((first | refine db_none ?_ | refine ds_none ?_ | refine dr_none ?_ | u_none); intro e he; simp at he), ?_⟩)
  (refine Goes.step rfl (fun _ h₁ => ?_); replace hF := c6 hF h₁; clear h₁; rw [stepG_seq]; simp only [goes_go]; refine ⟨by ((first | refine db_none ?_ | refine ds_none ?_ | refine dr_none ?_ | u_none); intro e he; simp at he), ?_⟩)
  (refine Goes.step rfl (fun _ h₁ => ?_); replace hF := c6 hF h₁; clear h₁; rw [stepG_region]; simp only [goes_go, List.size_toArray, List.length_cons, List.length_nil, Nat.zero_add, List.range, List.range.loop]; refine ⟨by ((first | refine db_none ?_ | refine ds_none ?_ | refine dr_none ?_ | u_none); intro e he; simp at he), ?_⟩)
  refine Goes.stop (fun v₃ k₃ => ?_)
  replace hF := c6 hF k₃
  clear k₃
  refine ⟨bn, bc, bo, C, hF.1, hF.2.1, hF.2.2.1, hF.2.2.2.2.1, hF.2.2.2.1, hn2, hn3, fun e => hn6 e.symm, ⟨fun h => ?_, fun h => ?_, fun h => ?_, fun h => ?_⟩, rfl, ?_⟩
  · have h1 := hS1 _ h
    have h2 := hF.2.1.hi
    omega
  · have := hS2 _ h; omega
  · have := hS2 _ h; omega
  · have := hS2 _ h; omega
  clear hF c1 c2 c3 c4 c5 c6
  refine goes_oper_k rfl rfl (by k_ne) (fun K hK => ?_)
  go_simp
  refine hK _ _ ⟨rfl, fun e he => ?_, fun c HC L hWg hF => ?_⟩
  · have hm := mem_listed he
    simp [go_sem] at hm
  clear hK K
  refine spw2_of (k := 60) ?_
  have hsp := spw2_s HC L tl cs c.n (Nat.le_refl _)
  have e0 : ((c.n - c.n : Nat) : Int) = 0 := by simp
  rw [e0, HC.P] at hsp
  simp only [LB34, RE34, Tryd.f34, Option.getD_some] at hsp
  have HSP := hid hsp
  clear hsp e0
  rw [HC.P]
  rw [← hWg]
  clear hWg
  (refine Goes.step rfl (fun _ h₁ => ?_); replace hF := (z_rely (FS.rely HC L)) hF h₁; clear h₁; rw [stepG_region_end]; simp only [goes_go]; refine ⟨by ((first | refine db_none ?_ | refine ds_none ?_ | refine dr_none ?_ | u_none); intro e he; simp at he), ?_⟩)
  (refine Goes.step rfl (fun _ h₁ => ?_); replace hF := (z_rely (FS.rely HC L)) hF h₁; clear h₁; rw [stepG_seq]; simp only [goes_go]; refine ⟨by ((first | refine db_none ?_ | refine ds_none ?_ | refine dr_none ?_ | u_none); intro e he; simp at he), ?_⟩)
  (refine Goes.step rfl (fun _ h₁ => ?_); replace hF := (z_rely (FS.rely HC L)) hF h₁; clear h₁; rw [stepG_seq]; simp only [goes_go]; refine ⟨by ((first | refine db_none ?_ | refine ds_none ?_ | refine dr_none ?_ | u_none); intro e he; simp at he), ?_⟩)
  (refine Goes.step rfl (fun _ h₁ => ?_); replace hF := (z_rely (FS.rely HC L)) hF h₁; clear h₁; rw [stepG_region]; simp only [goes_go, List.size_toArray, List.length_cons, List.length_nil, Nat.reduceAdd, Nat.zero_add, List.range, List.range.loop]; refine ⟨by ((first | refine db_none ?_ | refine ds_none ?_ | refine dr_none ?_ | u_none); intro e he; simp at he), ?_⟩)
  refine Goes.step rfl (fun v₄ k₄ => ?_)
  replace hF := z_rely (FS.rely HC L) hF k₄
  clear k₄
  have hc : v₄.cell? ⟨bo, 0, none⟩ = some (.slice (some ⟨c.C, 0, none⟩) 2 2) := FS.co HC.num hF.1
  refine goes_oper_k rfl rfl (by k_ne) (fun K hK => ?_)
  go_simp
  refine hK _ _ ⟨ds_read fun e he => ?_, ?_⟩
  · have hm := mem_listed he
    simp [go_sem, hc] at hm
    subst hm
    exact evS_see L ((HC.K bo).2 (.inr (.inr rfl)))
  clear hK K hc
  (refine Goes.step rfl (fun _ h₁ => ?_); replace hF := (z_rely (FS.rely HC L)) hF h₁; clear h₁; refine goes_oper_k rfl rfl (by k_ne) (fun K hK => ?_); go_simp; refine hK _ _ ⟨by ((first | refine db_none ?_ | refine ds_none ?_ | refine dr_none ?_ | u_none); intro e he; have hm := mem_listed he; simp [go_sem, *] at hm), ?_⟩; clear hK K; try w_num)
  (refine Goes.step rfl (fun _ h₁ => ?_); replace hF := (z_rely (FS.rely HC L)) hF h₁; clear h₁; refine goes_oper_k rfl rfl (by k_ne) (fun K hK => ?_); go_simp; refine hK _ _ ⟨by ((first | refine db_none ?_ | refine ds_none ?_ | refine dr_none ?_ | u_none); intro e he; have hm := mem_listed he; simp [go_sem, *] at hm), ?_⟩; clear hK K; try w_num)
  (refine Goes.step rfl (fun _ h₁ => ?_); replace hF := (z_rely (FS.rely HC L)) hF h₁; clear h₁; rw [stepG_region_end]; simp only [goes_go]; refine ⟨by ((first | refine db_none ?_ | refine ds_none ?_ | refine dr_none ?_ | u_none); intro e he; simp at he), ?_⟩)
  (refine Goes.step rfl (fun _ h₁ => ?_); replace hF := (z_rely (FS.rely HC L)) hF h₁; clear h₁; rw [stepG_block]; simp only [goes_go]; refine ⟨by ((first | refine db_none ?_ | refine ds_none ?_ | refine dr_none ?_ | u_none); intro e he; simp at he), ?_⟩)
  (refine Goes.step rfl (fun _ h₁ => ?_); replace hF := (z_rely (FS.rely HC L)) hF h₁; clear h₁; rw [stepG_loop]; simp only [goes_go]; refine ⟨by ((first | refine db_none ?_ | refine ds_none ?_ | refine dr_none ?_ | u_none); intro e he; simp at he), ?_⟩)
  exact goes_le (m := 40) (by omega) (HSP.out _ _ _ _ _ _ _ _ _ _ _ _ _ _ _ hF)
open Go Go.Pt Go.Conc Go.RowKit Go.Conc.Lib Go.ConcR.Gen Go.ConcN.Gen
open Go.ConcN hiding EvL Inv Fin
open Go.ConcR (KK wgBlock WgAt stA smA rd wr Payload Aside2 DC0)
def leaves (C N : Nat) (cs : List Frame) (g : Goroutine) (_ : World) : Prop := ∃ (T : Array Value) (todo : List Item), g = G { (base 34).at ⟨T, []⟩ todo with mode := .returning } cs ∧ T[2]? = some (.slice (some ⟨C, 0, none⟩) N N)
theorem dr_read {c : Cst} (L : Lay c) {w : World} {es : Array Event} {b : Nat} (hb : c.K b) (h : ∀ e ∈ es, e = ⟨.cell ⟨b, 0, none⟩, false, false⟩) : c.DR w w es := by
  refine ⟨rfl, fun e he => ?_⟩
  rw [h e he]
  refine ⟨fun x hx => ?_, by simp, by simp⟩
  simp only [MemAct.ofEvent, MemAct.touch?, Option.some.injEq] at hx
  subst hx
  exact .inl (L.K b hb)
def Ret (c : Cst) (N : Nat) (cs : List Frame) (g : Goroutine) (w : World) : Prop := ∃ m, Goes c.P true (c.RS none) c.DR (leaves c.C N cs) m g w
theorem leave_step {P : Program} {C N : Nat} {c' : Frame} {k' : List Frame} {g : Goroutine} {w : World} (hf : P.funcs[34]? = some Tryd.f34) (h : leaves C N (c' :: k') g w) : stepG P true g w = .go (G (c'.finish (.slice (some ⟨C, 0, none⟩) N N)) k') w #[] := by
  obtain ⟨T, todo, rfl, hT⟩ := h
  exact stepG_leave (b := base 34) (a := ⟨T, []⟩) (fn := Tryd.f34) rfl rfl hf (by simp [results, Tryd.results34, Array.getD_eq_getD_getElem?, hT]) (by simp [results, Tryd.results34])
structure TabR (n N : Nat) (w0 w : World) (S : Nat → Prop) (C : Nat) (g cap : Nat → Nat) : Prop where
  tab : ∃ rows : Array Value, w.heap[C]? = some (.cells rows 22) ∧ rows.size = N ∧ ∀ i, i < N → rows[i]? = some (.slice (some ⟨g i, 0, none⟩) n (cap i))
  hi : w0.heap.size ≤ C
  shy : ¬ S C
  row : ∀ i, i < N → n ≤ cap i ∧ cap i ≤ maxLen ∧ w.heap[g i]? = some (.cells (zFull (Ghw.thr n (bitsOf i)) (cap i)).toArray 3 (0, 0)) ∧ w0.heap.size ≤ g i ∧ g i ≠ C ∧ ¬ S (g i)
  inj : ∀ i j, i < N → j < N → i ≠ j → g i ≠ g j
def left (n N : Nat) (w0 : World) (S0 : Nat → Prop) (c' : Frame) (k' : List Frame) (m : Machine) (t : Trace) : Prop :=
  ∃ gs w sl q S C g cap, m = crowd gs w sl ∧ Bes Tryd.prog S gs (G (c'.finish (.slice (some ⟨C, 0, none⟩) N N)) k') w t q ∧ (∀ b, S b → S0 b ∨ w0.heap.size ≤ b) ∧ Kp w0 w ∧ TabR n N w0 w S C g cap
noncomputable def noInj : Inj where
  g := Ghw.prog.globals.size
  ok := fun c => CRel Ghw.prog (fun _ => False) c c
  dang := fun _ => none
  r := fun _ _ => False
  fn := fun h => h.elim
  inj := fun h => h.elim
  low := fun h => h.elim
set_option maxRecDepth 100000 in
set_option maxHeartbeats 4000000 in
theorem anchor4 {c : Cst} {bn bc bo : Nat} (H : Cs c 4 6 bn bc bo) (L : Lay c) (tl : List Value) (cs : List Frame) (g : Goroutine) (w : World) (h : anch4 c bn bc bo tl cs g w) : c.Seg none (c.W1 (anch4 c bn bc bo tl cs) (Ret c 64 cs)) g w := by
  have hP := H.P
  have hW : WgLib c.P link := by rw [hP]; exact wgLib
  obtain ⟨u6, u7, u8, u9, u10, u11, u12, u15, u16, u17, u18, u19, u20, u21, h⟩ := h
  refine Cst.Seg.mono (fun g w hg => hg.mono fun g w h => ⟨u6, u7, u8, u9, u10, u11, u12, u15, u16, u17, u18, u19, u20, u21, h⟩) (wait_round (R := leaves c.C 64 cs) (mT := 20) hW (FS.rely H L) ?_ g w h)
  intro w hF hl
  replace hF := And.intro hF hl
  clear hl
  rw [hP]
  simp only [RE34, Tryd.f34, Option.getD_some]
  walk_nrm
  (refine Goes.step rfl (fun _ h₁ => ?_); replace hF := (z_rely (FS.rely H L)) hF h₁; clear h₁; rw [stepG_region_end]; simp only [goes_go]; refine ⟨by ((first | refine db_none ?_ | refine dr_none ?_ | refine ds_none ?_ | u_none); intro e he; simp at he), ?_⟩)
  (refine Goes.step rfl (fun _ h₁ => ?_); replace hF := (z_rely (FS.rely H L)) hF h₁; clear h₁; rw [stepG_seq]; simp only [goes_go]; refine ⟨by ((first | refine db_none ?_ | refine dr_none ?_ | refine ds_none ?_ | u_none); intro e he; simp at he), ?_⟩)
  (refine Goes.step rfl (fun _ h₁ => ?_); replace hF := (z_rely (FS.rely H L)) hF h₁; clear h₁; rw [stepG_region]; simp only [goes_go, List.size_toArray, List.length_cons, List.length_nil, Nat.reduceAdd, Nat.zero_add, List.range, List.range.loop]; refine ⟨by ((first | refine db_none ?_ | refine dr_none ?_ | refine ds_none ?_ | u_none); intro e he; simp at he), ?_⟩)
  refine Goes.step rfl (fun v₄ k₄ => ?_)
  replace hF := z_rely (FS.rely H L) hF k₄
  clear k₄
  have hc : v₄.cell? ⟨bo, 0, none⟩ = some (.slice (some ⟨c.C, 0, none⟩) 64 64) := FS.co H.num hF.1
  refine goes_oper_k rfl rfl (by k_ne) (fun K hK => ?_)
  go_simp
  refine hK _ _ ⟨dr_read L ((H.K bo).2 (.inr (.inr rfl))) fun e he => ?_, ?_⟩
  · have hm := mem_listed he
    simp [go_sem, hc] at hm
    exact hm
  clear hK K hc
  (refine Goes.step rfl (fun _ h₁ => ?_); replace hF := (z_rely (FS.rely H L)) hF h₁; clear h₁; refine goes_oper_k rfl rfl (by k_ne) (fun K hK => ?_); go_simp; refine hK _ _ ⟨by ((first | refine db_none ?_ | refine dr_none ?_ | refine ds_none ?_ | u_none); intro e he; have hm := mem_listed he; simp [go_sem, *] at hm), ?_⟩; clear hK K; try w_num)
  (refine Goes.step rfl (fun _ h₁ => ?_); replace hF := (z_rely (FS.rely H L)) hF h₁; clear h₁; rw [stepG_region_end]; simp only [goes_go]; refine ⟨by ((first | refine db_none ?_ | refine dr_none ?_ | refine ds_none ?_ | u_none); intro e he; simp at he), ?_⟩)
  (refine Goes.step rfl (fun _ h₁ => ?_); replace hF := (z_rely (FS.rely H L)) hF h₁; clear h₁; rw [stepG_ret']; simp only [goes_go]; refine ⟨by ((first | refine db_none ?_ | refine dr_none ?_ | refine ds_none ?_ | u_none); intro e he; simp at he), ?_⟩)
  exact Goes.stop (fun w₁ h₁ => ⟨_, _, rfl, rfl⟩)
theorem anch4_run {c : Cst} {bn bc bo : Nat} (tl : List Value) (cs : List Frame) (g : Goroutine) (w : World) (h : anch4 c bn bc bo tl cs g w) : g.status = .running := by
  obtain ⟨u6, u7, u8, u9, u10, u11, u12, u15, u16, u17, u18, u19, u20, u21, T, rfl, _⟩ := h
  rfl
set_option maxRecDepth 100000 in
set_option maxHeartbeats 4000000 in
theorem anchor2 {c : Cst} {bn bc bo : Nat} (H : Cs c 2 1 bn bc bo) (L : Lay c) (tl : List Value) (cs : List Frame) (g : Goroutine) (w : World) (h : anch2 c bn bc bo tl cs g w) : c.Seg none (c.W1 (anch2 c bn bc bo tl cs) (Ret c 2 cs)) g w := by
  have hP := H.P
  have hW : WgLib c.P link := by rw [hP]; exact wgLib
  obtain ⟨u6, u7, u8, u9, u10, u11, u12, u15, u16, u17, u18, u19, u20, u21, h⟩ := h
  refine Cst.Seg.mono (fun g w hg => hg.mono fun g w h => ⟨u6, u7, u8, u9, u10, u11, u12, u15, u16, u17, u18, u19, u20, u21, h⟩) (wait_round (R := leaves c.C 2 cs) (mT := 20) hW (FS.rely H L) ?_ g w h)
  intro w hF hl
  replace hF := And.intro hF hl
  clear hl
  rw [hP]
  simp only [RE34, Tryd.f34, Option.getD_some]
  walk_nrm
  (refine Goes.step rfl (fun _ h₁ => ?_); replace hF := (z_rely (FS.rely H L)) hF h₁; clear h₁; rw [stepG_region_end]; simp only [goes_go]; refine ⟨by ((first | refine db_none ?_ | refine dr_none ?_ | refine ds_none ?_ | u_none); intro e he; simp at he), ?_⟩)
  (refine Goes.step rfl (fun _ h₁ => ?_); replace hF := (z_rely (FS.rely H L)) hF h₁; clear h₁; rw [stepG_seq]; simp only [goes_go]; refine ⟨by ((first | refine db_none ?_ | refine dr_none ?_ | refine ds_none ?_ | u_none); intro e he; simp at he), ?_⟩)
  (refine Goes.step rfl (fun _ h₁ => ?_); replace hF := (z_rely (FS.rely H L)) hF h₁; clear h₁; rw [stepG_region]; simp only [goes_go, List.size_toArray, List.length_cons, List.length_nil, Nat.reduceAdd, Nat.zero_add, List.range, List.range.loop]; refine ⟨by ((first | refine db_none ?_ | refine dr_none ?_ | refine ds_none ?_ | u_none); intro e he; simp at he), ?_⟩)
  refine Goes.step rfl (fun v₄ k₄ => ?_)
  replace hF := z_rely (FS.rely H L) hF k₄
  clear k₄
  have hc : v₄.cell? ⟨bo, 0, none⟩ = some (.slice (some ⟨c.C, 0, none⟩) 2 2) := FS.co H.num hF.1
  refine goes_oper_k rfl rfl (by k_ne) (fun K hK => ?_)
  go_simp
  refine hK _ _ ⟨dr_read L ((H.K bo).2 (.inr (.inr rfl))) fun e he => ?_, ?_⟩
  · have hm := mem_listed he
    simp [go_sem, hc] at hm
    exact hm
  clear hK K hc
  (refine Goes.step rfl (fun _ h₁ => ?_); replace hF := (z_rely (FS.rely H L)) hF h₁; clear h₁; refine goes_oper_k rfl rfl (by k_ne) (fun K hK => ?_); go_simp; refine hK _ _ ⟨by ((first | refine db_none ?_ | refine dr_none ?_ | refine ds_none ?_ | u_none); intro e he; have hm := mem_listed he; simp [go_sem, *] at hm), ?_⟩; clear hK K; try w_num)
  (refine Goes.step rfl (fun _ h₁ => ?_); replace hF := (z_rely (FS.rely H L)) hF h₁; clear h₁; rw [stepG_region_end]; simp only [goes_go]; refine ⟨by ((first | refine db_none ?_ | refine dr_none ?_ | refine ds_none ?_ | u_none); intro e he; simp at he), ?_⟩)
  (refine Goes.step rfl (fun _ h₁ => ?_); replace hF := (z_rely (FS.rely H L)) hF h₁; clear h₁; rw [stepG_ret']; simp only [goes_go]; refine ⟨by ((first | refine db_none ?_ | refine dr_none ?_ | refine ds_none ?_ | u_none); intro e he; simp at he), ?_⟩)
  exact Goes.stop (fun w₁ h₁ => ⟨_, _, rfl, rfl⟩)
theorem anch2_run {c : Cst} {bn bc bo : Nat} (tl : List Value) (cs : List Frame) (g : Goroutine) (w : World) (h : anch2 c bn bc bo tl cs g w) : g.status = .running := by
  obtain ⟨u6, u7, u8, u9, u10, u11, u12, u15, u16, u17, u18, u19, u20, u21, T, rfl, _⟩ := h
  rfl
set_option maxRecDepth 100000 in
set_option maxHeartbeats 4000000 in
theorem tables4_real {gs : Array Goroutine} {w : World} {t : Trace} {q : Nat → Nat} (sl : Option (Nat × Nat)) {S : Nat → Prop} {c' : Frame} {k' : List Frame} (r1 r2 r3 r4 r5 r6 r7 r8 r9 r10 r11 r12 r13 r14 r15 r16 r17 r18 r19 r20 r21 : Value) (tl : List Value) (hB : Bes Tryd.prog S gs (G ((base 34).at ⟨⟨.int .i64 4 :: r1 :: r2 :: r3 :: r4 :: r5 :: r6 :: r7 :: r8 :: r9 :: r10 :: r11 :: r12 :: r13 :: r14 :: r15 :: r16 :: r17 :: r18 :: r19 :: r20 :: r21 :: tl⟩, []⟩ [.code body34]) (c' :: k')) w t q) (hgl : Tryd.prog.globals.size ≤ w.heap.size) :
    Pt.Reach Tryd.prog (left 4 64 w S c' k') (crowd gs w sl) t := by
  refine Pt.Reach.bind (bes_goes 40 sl hB (pre4 w S hB.low r1 r2 r3 r4 r5 r6 r7 r8 r9 r10 r11 r12 r13 r14 r15 r16 r17 r18 r19 r20 r21 tl (c' :: k'))) ?_
  rintro m t1 ⟨gs1, a1, w1, q1, sl1, rfl, hB1, hA⟩
  obtain ⟨bn, hk1, hb1, b, hg, hnext⟩ := hA w1.drawn
  subst hg
  replace hk1 : Kp w w1 := hk1
  replace hb1 : Bx w w1 bn (.int .i64 4) 3 := hb1
  have hcnt : ∀ τ, Agree w1 τ → Calls Ghw.prog 31 #[.int .i64 4] (w1.retape τ) fun e _ => ∃ v, e = .returned v ∧ v = .int .i64 6 := fun τ _ => (Ghw.pcount4 _).mono (by rintro e w' ⟨rfl, _⟩; exact ⟨_, rfl, rfl⟩)
  have hcr : CRel Ghw.prog (fun _ => False) (Tryd.f31.body.getD .skip) (Tryd.f31.body.getD .skip) := fnB_crel (fun _ h => by cases h) Ghw.ok31 rfl
  have hg1 : Ghw.prog.globals.size ≤ w1.heap.size := Nat.le_trans hgl hk1.size
  have hH : Here Ghw.prog (fun _ => False) noInj S w1 w1 := ⟨⟨fun _ _ h => h.elim, hg1, hg1⟩, rfl, rfl, fun _ h => h.elim, fun _ _ h => h.elim⟩
  obtain ⟨N2, p2, v, v', gw2, w2, S1, gs2, t2, q2, sl2, hr2, _, hv, _, hK, hS1, rfl, hB2⟩ := call_beside (Q := Ghw.prog) (F := Tryd.prog.funcs) (G := fun _ => False) (c0 := floorF Ghw.prog.funcs.size) Ghw.funs Ghw.self (floor_ok _) (Rv := fun v _ => v = .int .i64 6) (fun _ _ _ h => h) sl1 (ARel.one (.int .i64 4)) hH Ghw.func31 Tryd.func31 rfl rfl rfl rfl hcr hcr hB1 hcnt
  cases hv
  refine Pt.Reach.of hr2 ?_
  have hlt := hb1.lt
  have hold : ∀ b, b < w1.heap.size → w2.heap[b]? = w1.heap[b]? := fun b hb => hK.old b hb (fun _ h => h)
  have hk2 : Kp w w2 := ⟨fun b hb => (hold b (Nat.lt_of_lt_of_le hb hk1.size)).trans (hk1.old b hb), Nat.le_trans hk1.size hK.size, hK.tape.trans hk1.tape, hK.os.trans hk1.os, hK.output.trans hk1.output⟩
  have hb2 : Bx w w2 bn (.int .i64 4) 3 := ⟨(hold bn hlt).trans hb1.x, hb1.hi⟩
  have hSS : ∀ b, S1 b → b < w.heap.size ∨ w1.heap.size ≤ b := fun b hb => (hS1 b hb).imp (hB.low b) id
  have hG := hnext S1 w2 hSS hB2.low hk2 hb2 hlt
  refine Pt.Reach.bind (bes_goes (P := Tryd.prog) 60 sl2 hB2 hG) ?_
  rintro m t3 ⟨gs3, a3, w3, q3, sl3, rfl, hB3, hA3⟩
  have hrun : a3.status = .running := by obtain ⟨_, _, _, _, _, _, _, _, _, _, _, _, _, h, _⟩ := hA3 w3.drawn; exact h
  obtain ⟨N4, gs4, d, d', sl4, sl5, t4, q4, hr4, hturn, hB4, hsz4⟩ := own_turn _ gs3 a3 w3 sl3 t3 q3 (Nat.le_refl _) hB3 hrun
  obtain ⟨bn, bc, bo, C, hk4, hbn, hbc, hbo, hpy, n1, n2, n3, ⟨s1, s2, s3, s4⟩, _, hst⟩ := hA3 d'
  obtain ⟨g5, w5, es, hgo, rfl, hes, hsp⟩ := goes_elim hst
  obtain rfl : es = #[] := Array.eq_empty_iff_forall_not_mem.2 hes
  generalize w3.at d' = w4 at *
  obtain ⟨gs5, t5, hrunT, hB5, hsz5⟩ := hB4.own (sl := sl5) hgo (by simp) (by simp)
  refine Pt.Reach.of hr4 (Pt.Reach.step (hturn.trans hrunT) ?_)
  have ht5 : t5 = #[] := by
    have h1 := runT_crowd_go (P := Tryd.prog) (sl := sl5) (i := 0) hB4.zero (show stepG Tryd.prog (0 == 0) a3 w4 = _ from hgo)
    rw [h1] at hrunT
    have := congrArg Prod.snd hrunT
    simpa [MemOp.ofEvents] using this.symm
  subst ht5
  have hold5 : ∀ b, b < w4.heap.size → (w4.alloc (wgBlock 109 0 0)).heap[b]? = w4.heap[b]? := fun b hb => heap_alloc_old w4 _ hb
  have hsz : (w4.alloc (wgBlock 109 0 0)).heap.size = w4.heap.size + 1 := by simp
  have hwg : WgAt 109 w4.heap.size (w4.alloc (wgBlock 109 0 0)) 0 0 := heap_alloc_new w4 _
  have hSl : ∀ b, S1 b → b < w4.heap.size := hB4.low
  have l1 := hbn.lt
  have l2 := hbc.lt
  have l3 := hbo.lt
  have l4 := hpy.lt
  obtain ⟨Wg, hWg⟩ : ∃ Wg, w4.heap.size = Wg := ⟨_, rfl⟩
  rw [hWg] at hsz hwg hSl l1 l2 l3 l4
  generalize hw5 : w4.alloc (wgBlock 109 0 0) = w5 at *
  let c : Cst := { P := Tryd.prog, ty := 109, Wg := Wg, C := C, n := 64, L0 := gs5.size, B1 := w5.heap.size, S := S1, K := fun b => b = bn ∨ b = bc ∨ b = bo, Res := rowT 4, wB := w5, tB := (t4 ++ #[] : Trace).size }
  have hCs : Cs c 4 6 bn bc bo := ⟨rfl, rfl, rfl, by omega, fun b => Iff.rfl, rfl, Nat.le_trans hgl hpy.2⟩
  have hL : Lay c := by
    refine ⟨fun b hb => ?_, show C < w5.heap.size by omega, show Wg < w5.heap.size by omega, show C ≠ Wg by omega, show 64 < 2147483648 by omega⟩
    rcases hb with rfl | rfl | rfl
    · exact ⟨show b < w5.heap.size by omega, n1, show b ≠ Wg by omega, s1⟩
    · exact ⟨show b < w5.heap.size by omega, n2, show b ≠ Wg by omega, s2⟩
    · exact ⟨show b < w5.heap.size by omega, n3, show b ≠ Wg by omega, s3⟩
  have hFS : FS c 4 6 bn bc bo w5 ∧ WgLive c.ty c.Wg w5 := ⟨⟨(hold5 bc (by omega)).trans hbc.x, (hold5 bn (by omega)).trans hbn.x, (hold5 bo (by omega)).trans hbo.x, Nat.le_refl _⟩, 0, 0, hwg⟩
  have hspw := hsp c hCs hL hWg.symm hFS
  have hfresh : ∀ op ∈ (t4 ++ #[] : Trace), ∀ x, op.act.touch? = some x → ¬ InB (· = c.Wg) x.loc := fun op hop x hx h => by
    have h1 := hB4.seen op (by simpa using hop) x hx
    obtain ⟨b, hb, hbl⟩ := h.get
    have h2 : b < w4.heap.size := hbl _ h1
    have h3 : b = Wg := hb
    omega
  have hpay : PayAt c.C c.n w5 := ⟨nilC 64, (hold5 C (by omega)).trans hpy.1, by simp [nilC]; rfl⟩
  obtain ⟨μ, hI⟩ := phase_begin (c := c) (Anch := anch4 c bn bc bo tl (c' :: k')) (Ret := Ret c 64 (c' :: k')) sl5 (show 0 < 64 by omega) hB5 rfl rfl rfl rfl hL.W hfresh (fun b hb => ⟨fun (e : b = C) => s4 (e ▸ hb), fun e => (by have h1 := hSl b hb; have h2 : b = Wg := e; omega), fun hk => (hL.K b hk).2.2.2 hb⟩) (fun b hb => ⟨(hL.K b hb).1, (hL.K b hb).2.1, (hL.K b hb).2.2.1⟩) hL.C hL.CW hpay hwg hspw
  have hL0 : 1 ≤ gs5.size := (Array.getElem?_eq_some_iff.1 hB5.zero).1
  have hrunp := phase_run (c := c) (Ret := Ret c 64 (c' :: k')) ⟨fun i v M w w₁ h hr => hr.of h, hL0, show 64 < 2147483648 by omega⟩ (fun g w h => anch4_run tl (c' :: k') g w h) (anchor4 hCs hL tl (c' :: k')) hI
  refine Pt.Reach.bind hrunp ?_
  rintro m6 t6 ⟨gs6, a6, w6, sl6, q6, rfl, hD⟩
  obtain ⟨f6, hG6⟩ := hD.ret
  refine Pt.Reach.bind (goes_beside (c := c) (R := leaves C 64 (c' :: k')) (S' := fun b => S1 b ∨ b = Wg) (fun b hb hs => ?_) f6 sl6 hD.size hD.bes hG6) ?_
  · rcases hb with ⟨_, _, h3, h4⟩ | hb
    · exact hs.elim h4 h3
    · cases hb
  rintro m7 t7 ⟨gs7, a7, d7, q7, sl7, rfl, hB7, hR7⟩
  obtain ⟨N8, gs8, e8, e8', sl8, sl9, t8, q8, hr8, hturn8, hB8, _⟩ := own_turn _ gs7 a7 _ sl7 t7 q7 (Nat.le_refl _) hB7 (by obtain ⟨_, _, rfl, _⟩ := hR7; rfl)
  have hlv := leave_step (P := Tryd.prog) (w := (w6.at d7).at e8') Tryd.func34 hR7
  obtain ⟨gs9, t9, hrun9, hB9, _⟩ := hB8.own (sl := sl9) hlv (Nat.le_refl _) (by simp)
  obtain ⟨V, M, hV, hM⟩ := hD.rows
  have hrow : ∀ i, ∃ g cap, i < 64 → M i g ∧ V i = .slice (some ⟨g, 0, none⟩) 4 cap ∧ 4 ≤ cap ∧ cap ≤ maxLen ∧ w6.heap[g]? = some (.cells (zFull (Ghw.thr 4 (bitsOf i)) cap).toArray 3 (0, 0)) := fun i => by
    by_cases hi : i < 64
    · obtain ⟨g, cap, h⟩ := (hV i hi).2.1
      exact ⟨g, cap, fun _ => h⟩
    · exact ⟨0, 0, fun h => absurd h hi⟩
  obtain ⟨g, hg⟩ := Classical.axiomOfChoice hrow
  obtain ⟨cap, hgc⟩ := Classical.axiomOfChoice hg
  have hwC := hpy.2
  have hww := hk4.size
  have hSw : ∀ b, (S1 b ∨ b = Wg) → S b ∨ w.heap.size ≤ b := fun b hb => by
    rcases hb with hb | rfl
    · exact (hS1 b hb).imp id fun h => Nat.le_trans hk1.size h
    · exact .inr (by omega)
  have hkeep : ∀ b, b < w.heap.size → w6.heap[b]? = w.heap[b]? := fun b hb => (hD.keep b (show b < w5.heap.size by omega) (show b ≠ C by omega) (show b ≠ Wg by omega)).trans ((hold5 b (by omega)).trans (hk4.old b hb))
  have hD6 := hD.size
  obtain ⟨rows, hr1, hr2⟩ := hD.pay
  have hB1w : ∀ i, i < 64 → ∀ b, M i b → w5.heap.size ≤ b := fun i hi b hb => ((hV i hi).2.2 b hb).1
  refine Pt.Reach.of hr8 (Pt.Reach.step (hturn8.trans hrun9) ⟨0, _, _, rfl, gs9, _, sl9, q8, _, C, g, cap, rfl, hB9, hSw, ⟨hkeep, Nat.le_trans (show w.heap.size ≤ w5.heap.size by omega) hD6, ?_, ?_, ?_⟩, ⟨⟨rows, hr1, hr2, fun i hi => ?_⟩, hwC, fun h => ?_, fun i hi => ?_, fun i j hi hj hne e => ?_⟩⟩)
  · exact hD.tape.trans (by rw [show c.wB = w5 from rfl, ← hw5]; exact hk4.tape)
  · exact hD.os.trans (by rw [show c.wB = w5 from rfl, ← hw5]; exact hk4.os)
  · exact hD.output.trans (by rw [show c.wB = w5 from rfl, ← hw5]; exact hk4.output)
  · have h1 := (hV i hi).1
    have h2 := (hgc i hi).2.1
    rw [← h2]
    have h3 : w6.cell? ⟨C, i, none⟩ = some (V i) := h1
    have hr1' : w6.heap[C]? = some (.cells rows 22) := hr1
    simpa [World.cell?, hr1'] using h3
  · rcases h with h | h
    · exact s4 h
    · omega
  · obtain ⟨k1, _, k2, k3, k4⟩ := hgc i hi
    have k5 := hB1w i hi _ k1
    exact ⟨k2, k3, k4, by omega, by omega, fun h => by rcases h with h | h; · have := hSl _ h; omega
                                                       · omega⟩
  · have k1 := (hgc i hi).1
    have k2 := (hgc j hj).1
    rw [e] at k1
    exact hM i j hi hj hne _ k1 k2
set_option maxRecDepth 100000 in
set_option maxHeartbeats 4000000 in
theorem tables2_real {gs : Array Goroutine} {w : World} {t : Trace} {q : Nat → Nat} (sl : Option (Nat × Nat)) {S : Nat → Prop} {c' : Frame} {k' : List Frame} (r1 r2 r3 r4 r5 r6 r7 r8 r9 r10 r11 r12 r13 r14 r15 r16 r17 r18 r19 r20 r21 : Value) (tl : List Value) (hB : Bes Tryd.prog S gs (G ((base 34).at ⟨⟨.int .i64 2 :: r1 :: r2 :: r3 :: r4 :: r5 :: r6 :: r7 :: r8 :: r9 :: r10 :: r11 :: r12 :: r13 :: r14 :: r15 :: r16 :: r17 :: r18 :: r19 :: r20 :: r21 :: tl⟩, []⟩ [.code body34]) (c' :: k')) w t q) (hgl : Tryd.prog.globals.size ≤ w.heap.size) :
    Pt.Reach Tryd.prog (left 2 2 w S c' k') (crowd gs w sl) t := by
  refine Pt.Reach.bind (bes_goes 40 sl hB (pre2 w S hB.low r1 r2 r3 r4 r5 r6 r7 r8 r9 r10 r11 r12 r13 r14 r15 r16 r17 r18 r19 r20 r21 tl (c' :: k'))) ?_
  rintro m t1 ⟨gs1, a1, w1, q1, sl1, rfl, hB1, hA⟩
  obtain ⟨bn, hk1, hb1, b, hg, hnext⟩ := hA w1.drawn
  subst hg
  replace hk1 : Kp w w1 := hk1
  replace hb1 : Bx w w1 bn (.int .i64 2) 3 := hb1
  have hcnt : ∀ τ, Agree w1 τ → Calls Ghw.prog 31 #[.int .i64 2] (w1.retape τ) fun e _ => ∃ v, e = .returned v ∧ v = .int .i64 1 := fun τ _ => (Ghw.pcount2 _).mono (by rintro e w' ⟨rfl, _⟩; exact ⟨_, rfl, rfl⟩)
  have hcr : CRel Ghw.prog (fun _ => False) (Tryd.f31.body.getD .skip) (Tryd.f31.body.getD .skip) := fnB_crel (fun _ h => by cases h) Ghw.ok31 rfl
  have hg1 : Ghw.prog.globals.size ≤ w1.heap.size := Nat.le_trans hgl hk1.size
  have hH : Here Ghw.prog (fun _ => False) noInj S w1 w1 := ⟨⟨fun _ _ h => h.elim, hg1, hg1⟩, rfl, rfl, fun _ h => h.elim, fun _ _ h => h.elim⟩
  obtain ⟨N2, p2, v, v', gw2, w2, S1, gs2, t2, q2, sl2, hr2, _, hv, _, hK, hS1, rfl, hB2⟩ := call_beside (Q := Ghw.prog) (F := Tryd.prog.funcs) (G := fun _ => False) (c0 := floorF Ghw.prog.funcs.size) Ghw.funs Ghw.self (floor_ok _) (Rv := fun v _ => v = .int .i64 1) (fun _ _ _ h => h) sl1 (ARel.one (.int .i64 2)) hH Ghw.func31 Tryd.func31 rfl rfl rfl rfl hcr hcr hB1 hcnt
  cases hv
  refine Pt.Reach.of hr2 ?_
  have hlt := hb1.lt
  have hold : ∀ b, b < w1.heap.size → w2.heap[b]? = w1.heap[b]? := fun b hb => hK.old b hb (fun _ h => h)
  have hk2 : Kp w w2 := ⟨fun b hb => (hold b (Nat.lt_of_lt_of_le hb hk1.size)).trans (hk1.old b hb), Nat.le_trans hk1.size hK.size, hK.tape.trans hk1.tape, hK.os.trans hk1.os, hK.output.trans hk1.output⟩
  have hb2 : Bx w w2 bn (.int .i64 2) 3 := ⟨(hold bn hlt).trans hb1.x, hb1.hi⟩
  have hSS : ∀ b, S1 b → b < w.heap.size ∨ w1.heap.size ≤ b := fun b hb => (hS1 b hb).imp (hB.low b) id
  have hG := hnext S1 w2 hSS hB2.low hk2 hb2 hlt
  refine Pt.Reach.bind (bes_goes (P := Tryd.prog) 60 sl2 hB2 hG) ?_
  rintro m t3 ⟨gs3, a3, w3, q3, sl3, rfl, hB3, hA3⟩
  have hrun : a3.status = .running := by obtain ⟨_, _, _, _, _, _, _, _, _, _, _, _, _, h, _⟩ := hA3 w3.drawn; exact h
  obtain ⟨N4, gs4, d, d', sl4, sl5, t4, q4, hr4, hturn, hB4, hsz4⟩ := own_turn _ gs3 a3 w3 sl3 t3 q3 (Nat.le_refl _) hB3 hrun
  obtain ⟨bn, bc, bo, C, hk4, hbn, hbc, hbo, hpy, n1, n2, n3, ⟨s1, s2, s3, s4⟩, _, hst⟩ := hA3 d'
  obtain ⟨g5, w5, es, hgo, rfl, hes, hsp⟩ := goes_elim hst
  obtain rfl : es = #[] := Array.eq_empty_iff_forall_not_mem.2 hes
  generalize w3.at d' = w4 at *
  obtain ⟨gs5, t5, hrunT, hB5, hsz5⟩ := hB4.own (sl := sl5) hgo (by simp) (by simp)
  refine Pt.Reach.of hr4 (Pt.Reach.step (hturn.trans hrunT) ?_)
  have ht5 : t5 = #[] := by
    have h1 := runT_crowd_go (P := Tryd.prog) (sl := sl5) (i := 0) hB4.zero (show stepG Tryd.prog (0 == 0) a3 w4 = _ from hgo)
    rw [h1] at hrunT
    have := congrArg Prod.snd hrunT
    simpa [MemOp.ofEvents] using this.symm
  subst ht5
  have hold5 : ∀ b, b < w4.heap.size → (w4.alloc (wgBlock 109 0 0)).heap[b]? = w4.heap[b]? := fun b hb => heap_alloc_old w4 _ hb
  have hsz : (w4.alloc (wgBlock 109 0 0)).heap.size = w4.heap.size + 1 := by simp
  have hwg : WgAt 109 w4.heap.size (w4.alloc (wgBlock 109 0 0)) 0 0 := heap_alloc_new w4 _
  have hSl : ∀ b, S1 b → b < w4.heap.size := hB4.low
  have l1 := hbn.lt
  have l2 := hbc.lt
  have l3 := hbo.lt
  have l4 := hpy.lt
  obtain ⟨Wg, hWg⟩ : ∃ Wg, w4.heap.size = Wg := ⟨_, rfl⟩
  rw [hWg] at hsz hwg hSl l1 l2 l3 l4
  generalize hw5 : w4.alloc (wgBlock 109 0 0) = w5 at *
  let c : Cst := { P := Tryd.prog, ty := 109, Wg := Wg, C := C, n := 2, L0 := gs5.size, B1 := w5.heap.size, S := S1, K := fun b => b = bn ∨ b = bc ∨ b = bo, Res := rowT 2, wB := w5, tB := (t4 ++ #[] : Trace).size }
  have hCs : Cs c 2 1 bn bc bo := ⟨rfl, rfl, rfl, by omega, fun b => Iff.rfl, rfl, Nat.le_trans hgl hpy.2⟩
  have hL : Lay c := by
    refine ⟨fun b hb => ?_, show C < w5.heap.size by omega, show Wg < w5.heap.size by omega, show C ≠ Wg by omega, show 2 < 2147483648 by omega⟩
    rcases hb with rfl | rfl | rfl
    · exact ⟨show b < w5.heap.size by omega, n1, show b ≠ Wg by omega, s1⟩
    · exact ⟨show b < w5.heap.size by omega, n2, show b ≠ Wg by omega, s2⟩
    · exact ⟨show b < w5.heap.size by omega, n3, show b ≠ Wg by omega, s3⟩
  have hFS : FS c 2 1 bn bc bo w5 ∧ WgLive c.ty c.Wg w5 := ⟨⟨(hold5 bc (by omega)).trans hbc.x, (hold5 bn (by omega)).trans hbn.x, (hold5 bo (by omega)).trans hbo.x, Nat.le_refl _⟩, 0, 0, hwg⟩
  have hspw := hsp c hCs hL hWg.symm hFS
  have hfresh : ∀ op ∈ (t4 ++ #[] : Trace), ∀ x, op.act.touch? = some x → ¬ InB (· = c.Wg) x.loc := fun op hop x hx h => by
    have h1 := hB4.seen op (by simpa using hop) x hx
    obtain ⟨b, hb, hbl⟩ := h.get
    have h2 : b < w4.heap.size := hbl _ h1
    have h3 : b = Wg := hb
    omega
  have hpay : PayAt c.C c.n w5 := ⟨nilC 2, (hold5 C (by omega)).trans hpy.1, by simp [nilC]; rfl⟩
  obtain ⟨μ, hI⟩ := phase_begin (c := c) (Anch := anch2 c bn bc bo tl (c' :: k')) (Ret := Ret c 2 (c' :: k')) sl5 (show 0 < 2 by omega) hB5 rfl rfl rfl rfl hL.W hfresh (fun b hb => ⟨fun (e : b = C) => s4 (e ▸ hb), fun e => (by have h1 := hSl b hb; have h2 : b = Wg := e; omega), fun hk => (hL.K b hk).2.2.2 hb⟩) (fun b hb => ⟨(hL.K b hb).1, (hL.K b hb).2.1, (hL.K b hb).2.2.1⟩) hL.C hL.CW hpay hwg hspw
  have hL0 : 1 ≤ gs5.size := (Array.getElem?_eq_some_iff.1 hB5.zero).1
  have hrunp := phase_run (c := c) (Ret := Ret c 2 (c' :: k')) ⟨fun i v M w w₁ h hr => hr.of h, hL0, show 2 < 2147483648 by omega⟩ (fun g w h => anch2_run tl (c' :: k') g w h) (anchor2 hCs hL tl (c' :: k')) hI
  refine Pt.Reach.bind hrunp ?_
  rintro m6 t6 ⟨gs6, a6, w6, sl6, q6, rfl, hD⟩
  obtain ⟨f6, hG6⟩ := hD.ret
  refine Pt.Reach.bind (goes_beside (c := c) (R := leaves C 2 (c' :: k')) (S' := fun b => S1 b ∨ b = Wg) (fun b hb hs => ?_) f6 sl6 hD.size hD.bes hG6) ?_
  · rcases hb with ⟨_, _, h3, h4⟩ | hb
    · exact hs.elim h4 h3
    · cases hb
  rintro m7 t7 ⟨gs7, a7, d7, q7, sl7, rfl, hB7, hR7⟩
  obtain ⟨N8, gs8, e8, e8', sl8, sl9, t8, q8, hr8, hturn8, hB8, _⟩ := own_turn _ gs7 a7 _ sl7 t7 q7 (Nat.le_refl _) hB7 (by obtain ⟨_, _, rfl, _⟩ := hR7; rfl)
  have hlv := leave_step (P := Tryd.prog) (w := (w6.at d7).at e8') Tryd.func34 hR7
  obtain ⟨gs9, t9, hrun9, hB9, _⟩ := hB8.own (sl := sl9) hlv (Nat.le_refl _) (by simp)
  obtain ⟨V, M, hV, hM⟩ := hD.rows
  have hrow : ∀ i, ∃ g cap, i < 2 → M i g ∧ V i = .slice (some ⟨g, 0, none⟩) 2 cap ∧ 2 ≤ cap ∧ cap ≤ maxLen ∧ w6.heap[g]? = some (.cells (zFull (Ghw.thr 2 (bitsOf i)) cap).toArray 3 (0, 0)) := fun i => by
    by_cases hi : i < 2
    · obtain ⟨g, cap, h⟩ := (hV i hi).2.1
      exact ⟨g, cap, fun _ => h⟩
    · exact ⟨0, 0, fun h => absurd h hi⟩
  obtain ⟨g, hg⟩ := Classical.axiomOfChoice hrow
  obtain ⟨cap, hgc⟩ := Classical.axiomOfChoice hg
  have hwC := hpy.2
  have hww := hk4.size
  have hSw : ∀ b, (S1 b ∨ b = Wg) → S b ∨ w.heap.size ≤ b := fun b hb => by
    rcases hb with hb | rfl
    · exact (hS1 b hb).imp id fun h => Nat.le_trans hk1.size h
    · exact .inr (by omega)
  have hkeep : ∀ b, b < w.heap.size → w6.heap[b]? = w.heap[b]? := fun b hb => (hD.keep b (show b < w5.heap.size by omega) (show b ≠ C by omega) (show b ≠ Wg by omega)).trans ((hold5 b (by omega)).trans (hk4.old b hb))
  have hD6 := hD.size
  obtain ⟨rows, hr1, hr2⟩ := hD.pay
  have hB1w : ∀ i, i < 2 → ∀ b, M i b → w5.heap.size ≤ b := fun i hi b hb => ((hV i hi).2.2 b hb).1
  refine Pt.Reach.of hr8 (Pt.Reach.step (hturn8.trans hrun9) ⟨0, _, _, rfl, gs9, _, sl9, q8, _, C, g, cap, rfl, hB9, hSw, ⟨hkeep, Nat.le_trans (show w.heap.size ≤ w5.heap.size by omega) hD6, ?_, ?_, ?_⟩, ⟨⟨rows, hr1, hr2, fun i hi => ?_⟩, hwC, fun h => ?_, fun i hi => ?_, fun i j hi hj hne e => ?_⟩⟩)
  · exact hD.tape.trans (by rw [show c.wB = w5 from rfl, ← hw5]; exact hk4.tape)
  · exact hD.os.trans (by rw [show c.wB = w5 from rfl, ← hw5]; exact hk4.os)
  · exact hD.output.trans (by rw [show c.wB = w5 from rfl, ← hw5]; exact hk4.output)
  · have h1 := (hV i hi).1
    have h2 := (hgc i hi).2.1
    rw [← h2]
    have h3 : w6.cell? ⟨C, i, none⟩ = some (V i) := h1
    have hr1' : w6.heap[C]? = some (.cells rows 22) := hr1
    simpa [World.cell?, hr1'] using h3
  · rcases h with h | h
    · exact s4 h
    · omega
  · obtain ⟨k1, _, k2, k3, k4⟩ := hgc i hi
    have k5 := hB1w i hi _ k1
    exact ⟨k2, k3, k4, by omega, by omega, fun h => by rcases h with h | h; · have := hSl _ h; omega
                                                       · omega⟩
  · have k1 := (hgc i hi).1
    have k2 := (hgc j hj).1
    rw [e] at k1
    exact hM i j hi hj hne _ k1 k2
end Go.Proofs.YtnW
