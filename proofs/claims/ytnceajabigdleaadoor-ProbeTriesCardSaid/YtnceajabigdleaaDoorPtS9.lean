/- sync.WaitGroup's Wait among goroutines that make memory; the way on, beside goroutines that only leave. No condition; any program that holds the library. -/
import Derived.Test.YtnceajabigdleaaDoorPtS8
namespace Go.Pt
open Go Go.Conc Go.RowKit Go.Conc.Lib Go.ConcR.Gen Go.ConcN.Gen
open Go.ConcN hiding EvL Inv Fin
open Go.ConcR (KK wgBlock WgAt stA smA rd wr Payload Aside2 DC0)
variable {L : WgLink}
structure Cst.DR (c : Cst) (w w' : World) (es : Array Event) : Prop where
  same : w' = w
  ev : ∀ e ∈ es, (∀ x, (MemAct.ofEvent e).touch? = some x → InB (c.See none) x.loc) ∧ e.loc ≠ .mark .disable ∧ e.loc ≠ .mark .enable
theorem dr_none {c : Cst} {w : World} {es : Array Event} (h : ∀ e ∈ es, False) : c.DR w w es := ⟨rfl, fun e he => (h e he).elim⟩
theorem goes_beside {c : Cst} {R : Goroutine → World → Prop} {S' : Nat → Prop} (hS : ∀ b, c.See none b → ¬ S' b) : ∀ (m : Nat) {gs : Array Goroutine} {a : Goroutine} {w : World} {t : Trace} {q : Nat → Nat} (sl : Option (Nat × Nat)), c.B1 ≤ w.heap.size → Bes c.P S' gs a w t q → Goes c.P true (c.RS none) c.DR R m a w →
    Reach c.P (fun m' t' => ∃ gs' a' d q' sl', m' = crowd gs' (w.at d) sl' ∧ Bes c.P S' gs' a' (w.at d) t' q' ∧ R a' (w.at d)) (crowd gs w sl) t := by
  intro m
  induction m with
  | zero =>
    intro gs a w t q sl hB1 hB hG
    exact ⟨0, _, t, rfl, gs, a, w.drawn, q, sl, rfl, hB, hG w (.refl w)⟩
  | succ m ih =>
    intro gs a w t q sl hB1 hB hG
    rcases hG with hstop | ⟨hrun, hstep⟩
    · exact ⟨0, _, t, rfl, gs, a, w.drawn, q, sl, rfl, hB, hstop w (.refl w)⟩
    · obtain ⟨N, gs1, d, d', sl1, sl2, t1, q1, hr, hturn, hB2, _⟩ := own_turn _ gs a w sl t q (Nat.le_refl _) hB hrun
      refine Reach.of hr ?_
      have hs := hstep (w.at d') ⟨rfl, rfl, rfl, Nat.le_refl _, fun _ _ => rfl, id⟩
      cases hgo : stepG c.P true a (w.at d') with
      | go a' w' es =>
        rw [hgo, goes_go] at hs
        obtain ⟨⟨rfl, hev⟩, hG'⟩ := hs
        obtain ⟨gs2, t2, hrunT, hB3, _⟩ := hB2.own (sl := sl2) hgo (Nat.le_refl _) (fun e he => ⟨fun x hx => (by
          have h1 := (hev e he).1 x hx
          obtain ⟨b, hb, hbl⟩ := h1.get
          refine ⟨fun hs => hS b hb (hbl _ hs), h1.mono fun b hb => ?_⟩
          rcases hb with hb | hb
          · exact Nat.lt_of_lt_of_le hb.1 hB1
          · cases hb), (hev e he).2⟩)
        refine Reach.step (hturn.trans hrunT) ?_
        obtain ⟨N2, m', t', h1, gs', a2, d2, q', sl', h2, h3, h4⟩ := ih (w := w.at d') sl2 hB1 hB3 hG'
        exact ⟨N2, m', t', h1, gs', a2, d2, q', sl', h2, h3, h4⟩
      | _ => rw [hgo] at hs; exact hs.elim
def Cst.AnchW (c : Cst) (L : WgLink) (F : World → Prop) (b : Frame) (cs : List Frame) (g : Goroutine) (w : World) : Prop :=
  ∃ T : Array Value, g = G ((base L.wait).at ⟨T, []⟩ [.code (L7 L), .inLoop (L7 L), .inBlock 0]) (b :: cs) ∧ T.size = 84 ∧ T[0]? = some (.pointer (some ⟨c.Wg, 0, none⟩)) ∧ F w ∧ WgLive c.ty c.Wg w
section
variable {c : Cst} {F : World → Prop} {R : Goroutine → World → Prop} {b₀ : Frame} {a₀ : Act} {ops₀ : Array Oper} {i₀ : Nat} {rest₀ : List Nat} {k₀ : List Item} {cs : List Frame} {mT : Nat}
set_option maxRecDepth 100000 in
theorem wait_start (H : WgLib c.P L) (hF2 : ∀ w w', c.RS none w w' → F w → F w') {Anch : Goroutine → World → Prop} (hA : ∀ g w, c.AnchW L F (b₀.at a₀ (.inRegion ops₀ (i₀ :: rest₀) :: k₀)) cs g w → Anch g w) (w : World) (hF : F w ∧ WgLive c.ty c.Wg w) :
    Goes c.P true (c.RS none) (c.DS none) (c.AtM (Go.ConcR.mk .disable) (c.Seg none Anch)) 8 (G ((base L.wait).at ⟨#[.pointer (some ⟨c.Wg, 0, none⟩)] ++ Array.replicate 83 undef, []⟩ [.code (body_wait L)]) (b₀.at a₀ (.inRegion ops₀ (i₀ :: rest₀) :: k₀) :: cs)) w := by
  lib_facts
  simp only [body_wait, waitFn, Option.getD_some]
  (refine Goes.step rfl (fun _ h₁ => ?_); replace hF := (z_rely hF2) hF h₁; clear h₁; rw [stepG_seq]; simp only [goes_go]; refine ⟨by ((first | refine ds_none ?_ | refine dr_none ?_ | u_none); intro e he; simp at he), ?_⟩)
  (refine Goes.step rfl (fun _ h₁ => ?_); replace hF := (z_rely hF2) hF h₁; clear h₁; rw [stepG_cond (t := true) rfl]; simp only [goes_go, ↓reduceIte]; refine ⟨by ((first | refine ds_none ?_ | refine dr_none ?_ | u_none); intro e he; simp at he), ?_⟩)
  (refine Goes.step rfl (fun _ h₁ => ?_); replace hF := (z_rely hF2) hF h₁; clear h₁; rw [stepG_region]; simp only [goes_go, List.size_toArray, List.length_cons, List.length_nil, Nat.zero_add, List.range, List.range.loop]; refine ⟨by ((first | refine ds_none ?_ | refine dr_none ?_ | u_none); intro e he; simp at he), ?_⟩)
  refine Goes.stop (fun w₁ h₁ => ?_)
  replace hF := z_rely hF2 hF h₁
  clear h₁
  refine ⟨rfl, _, stepG_mark0 .disable (by simp) rfl rfl (by k_ne) rfl H.f_disable (x_disable_n L) (x_disable_b L) (x_disable_x L) (x_disable_f L), 3, ?_⟩
  walk_nrm
  (refine Goes.step rfl (fun _ h₁ => ?_); replace hF := (z_rely hF2) hF h₁; clear h₁; rw [stepG_region_end]; simp only [goes_go]; refine ⟨by ((first | refine ds_none ?_ | refine dr_none ?_ | u_none); intro e he; simp at he), ?_⟩)
  (refine Goes.step rfl (fun _ h₁ => ?_); replace hF := (z_rely hF2) hF h₁; clear h₁; rw [stepG_block]; simp only [goes_go]; refine ⟨by ((first | refine ds_none ?_ | refine dr_none ?_ | u_none); intro e he; simp at he), ?_⟩)
  (refine Goes.step rfl (fun _ h₁ => ?_); replace hF := (z_rely hF2) hF h₁; clear h₁; rw [stepG_loop]; simp only [goes_go]; refine ⟨by ((first | refine ds_none ?_ | refine dr_none ?_ | u_none); intro e he; simp at he), ?_⟩)
  exact Goes.stop (fun w₂ h₂ => hA _ _ ⟨_, rfl, by simp, by simp, z_rely hF2 hF h₂⟩)
set_option maxRecDepth 100000 in
set_option maxHeartbeats 8000000 in
theorem wait_round [Payload] (H : WgLib c.P L) (hF2 : ∀ w w', c.RS none w w' → F w → F w')
    (hT : ∀ w, F w → WgLive c.ty c.Wg w → Goes c.P true (c.RS none) c.DR R mT (G (b₀.at (a₀.put ((ops₀[i₀]?).bind (·.dst)) (.tuple #[])) (.inRegion ops₀ rest₀ :: k₀)) cs) w)
    (g : Goroutine) (w : World) (h : c.AnchW L F (b₀.at a₀ (.inRegion ops₀ (i₀ :: rest₀) :: k₀)) cs g w) :
    c.Seg none (c.W1 (c.AnchW L F (b₀.at a₀ (.inRegion ops₀ (i₀ :: rest₀) :: k₀)) cs) (fun g w => ∃ m, Goes c.P true (c.RS none) c.DR R m g w)) g w := by
  lib_facts
  obtain ⟨T, rfl, hT84, t0, hF⟩ := h
  obtain ⟨v0, v1, v2, v3, v4, v5, v6, v7, v8, v9, v10, v11, v12, v13, v14, v15, v16, v17, v18, v19, v20, v21, v22, v23, v24, v25, v26, v27, v28, v29, v30, v31, v32, v33, v34, v35, v36, v37, v38, v39, v40, v41, v42, v43, v44, v45, v46, v47, v48, v49, v50, v51, v52, v53, v54, v55, v56, v57, v58, v59, v60, v61, v62, v63, v64, v65, v66, v67, v68, v69, v70, v71, v72, v73, v74, v75, v76, v77, v78, v79, v80, v81, v82, v83, rfl⟩ := array84 T hT84
  simp only [List.getElem?_toArray, List.getElem?_cons_zero, Option.some.injEq] at t0
  subst t0
  refine ⟨40, ?_⟩
  simp only [L7, body_wait, waitFn, Option.getD_some]
  (refine Goes.step rfl (fun _ h₁ => ?_); replace hF := (z_rely hF2) hF h₁; clear h₁; rw [stepG_block]; simp only [goes_go]; refine ⟨by ((first | refine ds_none ?_ | refine dr_none ?_ | u_none); intro e he; simp at he), ?_⟩)
  (refine Goes.step rfl (fun _ h₁ => ?_); replace hF := (z_rely hF2) hF h₁; clear h₁; rw [stepG_seq]; simp only [goes_go]; refine ⟨by ((first | refine ds_none ?_ | refine dr_none ?_ | u_none); intro e he; simp at he), ?_⟩)
  (refine Goes.step rfl (fun _ h₁ => ?_); replace hF := (z_rely hF2) hF h₁; clear h₁; rw [stepG_region]; simp only [goes_go, List.size_toArray, List.length_cons, List.length_nil, Nat.reduceAdd, Nat.zero_add, List.range, List.range.loop]; refine ⟨by ((first | refine ds_none ?_ | refine dr_none ?_ | u_none); intro e he; simp at he), ?_⟩)
  (refine Goes.step rfl (fun _ h₁ => ?_); replace hF := (z_rely hF2) hF h₁; clear h₁; refine goes_oper_k rfl rfl (by k_ne) (fun K hK => ?_); go_simp; refine hK _ _ ⟨by ((first | refine ds_none ?_ | refine dr_none ?_ | u_none); intro e he; have hm := mem_listed he; simp [go_sem, *] at hm), ?_⟩; clear hK K; try w_num)
  (refine Goes.step rfl (fun _ h₁ => ?_); replace hF := (z_rely hF2) hF h₁; clear h₁; refine goes_oper_k rfl rfl (by k_ne) (fun K hK => ?_); go_simp; refine hK _ _ ⟨by ((first | refine ds_none ?_ | refine dr_none ?_ | u_none); intro e he; have hm := mem_listed he; simp [go_sem, *] at hm), ?_⟩; clear hK K; try w_num)
  (refine Goes.step rfl (fun _ h₁ => ?_); replace hF := (z_rely hF2) hF h₁; clear h₁; refine goes_oper_k rfl rfl (by k_ne) (fun K hK => ?_); go_simp; refine hK _ _ ⟨by ((first | refine ds_none ?_ | refine dr_none ?_ | u_none); intro e he; have hm := mem_listed he; simp [go_sem, *] at hm), ?_⟩; clear hK K; try w_num)
  (refine Goes.step rfl (fun _ h₁ => ?_); replace hF := (z_rely hF2) hF h₁; clear h₁; refine goes_call rfl rfl (by k_ne) rfl H.f_uLoad (nm_uLoad L) rfl ⟨by ((first | refine ds_none ?_ | refine dr_none ?_ | u_none); intro e he; simp at he), ?_⟩; walk_nrmf uLoadFn)
  (refine Goes.step rfl (fun _ h₁ => ?_); replace hF := (z_rely hF2) hF h₁; clear h₁; rw [stepG_seq]; simp only [goes_go]; refine ⟨by ((first | refine ds_none ?_ | refine dr_none ?_ | u_none); intro e he; simp at he), ?_⟩)
  (refine Goes.step rfl (fun _ h₁ => ?_); replace hF := (z_rely hF2) hF h₁; clear h₁; rw [stepG_region]; simp only [goes_go, List.size_toArray, List.length_cons, List.length_nil, Nat.zero_add, List.range, List.range.loop]; refine ⟨by ((first | refine ds_none ?_ | refine dr_none ?_ | u_none); intro e he; simp at he), ?_⟩)
  (refine Goes.step rfl (fun _ h₁ => ?_); replace hF := (z_rely hF2) hF h₁; clear h₁; refine goes_oper_k rfl rfl (by k_ne) (fun K hK => ?_); go_simp; refine hK _ _ ⟨by ((first | refine ds_none ?_ | refine dr_none ?_ | u_none); intro e he; have hm := mem_listed he; simp [go_sem, *] at hm), ?_⟩; clear hK K; try w_num)
  (refine Goes.step rfl (fun _ h₁ => ?_); replace hF := (z_rely hF2) hF h₁; clear h₁; rw [stepG_region_end]; simp only [goes_go]; refine ⟨by ((first | refine ds_none ?_ | refine dr_none ?_ | u_none); intro e he; simp at he), ?_⟩)
  (refine Goes.step rfl (fun _ h₁ => ?_); replace hF := (z_rely hF2) hF h₁; clear h₁; rw [stepG_seq]; simp only [goes_go]; refine ⟨by ((first | refine ds_none ?_ | refine dr_none ?_ | u_none); intro e he; simp at he), ?_⟩)
  (refine Goes.step rfl (fun _ h₁ => ?_); replace hF := (z_rely hF2) hF h₁; clear h₁; rw [stepG_region]; simp only [goes_go, List.size_toArray, List.length_cons, List.length_nil, Nat.reduceAdd, Nat.zero_add, List.range, List.range.loop]; refine ⟨by ((first | refine ds_none ?_ | refine dr_none ?_ | u_none); intro e he; simp at he), ?_⟩)
  (refine Goes.step rfl (fun _ h₁ => ?_); replace hF := (z_rely hF2) hF h₁; clear h₁; refine goes_oper_k rfl rfl (by k_ne) (fun K hK => ?_); go_simp; refine hK _ _ ⟨by ((first | refine ds_none ?_ | refine dr_none ?_ | u_none); intro e he; have hm := mem_listed he; simp [go_sem, *] at hm), ?_⟩; clear hK K; try w_num)
  (refine Goes.step rfl (fun _ h₁ => ?_); replace hF := (z_rely hF2) hF h₁; clear h₁; refine goes_oper_k rfl rfl (by k_ne) (fun K hK => ?_); go_simp; refine hK _ _ ⟨by ((first | refine ds_none ?_ | refine dr_none ?_ | u_none); intro e he; have hm := mem_listed he; simp [go_sem, *] at hm), ?_⟩; clear hK K; try w_num)
  (refine Goes.step rfl (fun _ h₁ => ?_); replace hF := (z_rely hF2) hF h₁; clear h₁; refine goes_oper_k rfl rfl (by k_ne) (fun K hK => ?_); go_simp; refine hK _ _ ⟨by ((first | refine ds_none ?_ | refine dr_none ?_ | u_none); intro e he; have hm := mem_listed he; simp [go_sem, *] at hm), ?_⟩; clear hK K; try w_num)
  refine Goes.stop (fun w₁ h₁ => ?_)
  replace hF := z_rely hF2 hF h₁
  clear h₁
  refine ⟨rfl, fun v hv hw => ?_⟩
  rcases Nat.eq_zero_or_pos v with rfl | hvp
  · replace hw : WgAt c.ty c.Wg w₁ 0 0 := by simpa using hw
    refine ⟨_, stepG_load_atomic (v := 0) rfl rfl (by k_ne) rfl H.f_loadU64 (x_loadU64_n L) (x_loadU64_b L) (x_loadU64_x L) .u64 (x_loadU64_f L) rfl hw.cellSt, fun _ => ⟨60, ?_⟩, fun h => absurd rfl h⟩
    clear hw
    walk_nrm
    (refine Goes.step rfl (fun _ h₁ => ?_); replace hF := (z_rely hF2) hF h₁; clear h₁; refine goes_oper_k rfl rfl (by k_ne) (fun K hK => ?_); go_simp; refine hK _ _ ⟨by ((first | refine ds_none ?_ | refine dr_none ?_ | u_none); intro e he; have hm := mem_listed he; simp [go_sem, *] at hm), ?_⟩; clear hK K; try w_num)
    (refine Goes.step rfl (fun _ h₁ => ?_); replace hF := (z_rely hF2) hF h₁; clear h₁; rw [stepG_region_end]; simp only [goes_go]; refine ⟨by ((first | refine ds_none ?_ | refine dr_none ?_ | u_none); intro e he; simp at he), ?_⟩)
    (refine Goes.step rfl (fun _ h₁ => ?_); replace hF := (z_rely hF2) hF h₁; clear h₁; rw [stepG_ret']; simp only [goes_go]; refine ⟨by ((first | refine ds_none ?_ | refine dr_none ?_ | u_none); intro e he; simp at he), ?_⟩)
    (refine Goes.step rfl (fun _ h₁ => ?_); replace hF := (z_rely hF2) hF h₁; clear h₁; refine goes_leave1 rfl rfl H.f_uLoad rfl ⟨by ((first | refine ds_none ?_ | refine dr_none ?_ | u_none); intro e he; simp at he), ?_⟩; walk_nrm)
    (refine Goes.step rfl (fun _ h₁ => ?_); replace hF := (z_rely hF2) hF h₁; clear h₁; refine goes_oper_k rfl rfl (by k_ne) (fun K hK => ?_); go_simp; refine hK _ _ ⟨by ((first | refine ds_none ?_ | refine dr_none ?_ | u_none); intro e he; have hm := mem_listed he; simp [go_sem, *] at hm), ?_⟩; clear hK K; try w_num)
    (refine Goes.step rfl (fun _ h₁ => ?_); replace hF := (z_rely hF2) hF h₁; clear h₁; rw [stepG_region_end]; simp only [goes_go]; refine ⟨by ((first | refine ds_none ?_ | refine dr_none ?_ | u_none); intro e he; simp at he), ?_⟩)
    (refine Goes.step rfl (fun _ h₁ => ?_); replace hF := (z_rely hF2) hF h₁; clear h₁; rw [stepG_seq]; simp only [goes_go]; refine ⟨by ((first | refine ds_none ?_ | refine dr_none ?_ | u_none); intro e he; simp at he), ?_⟩)
    (refine Goes.step rfl (fun _ h₁ => ?_); replace hF := (z_rely hF2) hF h₁; clear h₁; rw [stepG_region]; simp only [goes_go, List.size_toArray, List.length_cons, List.length_nil, Nat.reduceAdd, Nat.zero_add, List.range, List.range.loop]; refine ⟨by ((first | refine ds_none ?_ | refine dr_none ?_ | u_none); intro e he; simp at he), ?_⟩)
    (refine Goes.step rfl (fun _ h₁ => ?_); replace hF := (z_rely hF2) hF h₁; clear h₁; refine goes_oper_k rfl rfl (by k_ne) (fun K hK => ?_); go_simp; refine hK _ _ ⟨by ((first | refine ds_none ?_ | refine dr_none ?_ | u_none); intro e he; have hm := mem_listed he; simp [go_sem, *] at hm), ?_⟩; clear hK K; try w_num)
    (refine Goes.step rfl (fun _ h₁ => ?_); replace hF := (z_rely hF2) hF h₁; clear h₁; refine goes_oper_k rfl rfl (by k_ne) (fun K hK => ?_); go_simp; refine hK _ _ ⟨by ((first | refine ds_none ?_ | refine dr_none ?_ | u_none); intro e he; have hm := mem_listed he; simp [go_sem, *] at hm), ?_⟩; clear hK K; try w_num)
    (refine Goes.step rfl (fun _ h₁ => ?_); replace hF := (z_rely hF2) hF h₁; clear h₁; refine goes_oper_k rfl rfl (by k_ne) (fun K hK => ?_); go_simp; refine hK _ _ ⟨by ((first | refine ds_none ?_ | refine dr_none ?_ | u_none); intro e he; have hm := mem_listed he; simp [go_sem, *] at hm), ?_⟩; clear hK K; try w_num)
    (refine Goes.step rfl (fun _ h₁ => ?_); replace hF := (z_rely hF2) hF h₁; clear h₁; refine goes_oper_k rfl rfl (by k_ne) (fun K hK => ?_); go_simp; refine hK _ _ ⟨by ((first | refine ds_none ?_ | refine dr_none ?_ | u_none); intro e he; have hm := mem_listed he; simp [go_sem, *] at hm), ?_⟩; clear hK K; try w_num)
    (refine Goes.step rfl (fun _ h₁ => ?_); replace hF := (z_rely hF2) hF h₁; clear h₁; rw [stepG_region_end]; simp only [goes_go]; refine ⟨by ((first | refine ds_none ?_ | refine dr_none ?_ | u_none); intro e he; simp at he), ?_⟩)
    (refine Goes.step rfl (fun _ h₁ => ?_); replace hF := (z_rely hF2) hF h₁; clear h₁; rw [stepG_seq]; simp only [goes_go]; refine ⟨by ((first | refine ds_none ?_ | refine dr_none ?_ | u_none); intro e he; simp at he), ?_⟩)
    (refine Goes.step rfl (fun _ h₁ => ?_); replace hF := (z_rely hF2) hF h₁; clear h₁; rw [stepG_region]; simp only [goes_go, List.size_toArray, List.length_cons, List.length_nil, Nat.reduceAdd, Nat.zero_add, List.range, List.range.loop]; refine ⟨by ((first | refine ds_none ?_ | refine dr_none ?_ | u_none); intro e he; simp at he), ?_⟩)
    (refine Goes.step rfl (fun _ h₁ => ?_); replace hF := (z_rely hF2) hF h₁; clear h₁; refine goes_oper_k rfl rfl (by k_ne) (fun K hK => ?_); go_simp; refine hK _ _ ⟨by ((first | refine ds_none ?_ | refine dr_none ?_ | u_none); intro e he; have hm := mem_listed he; simp [go_sem, *] at hm), ?_⟩; clear hK K; try w_num)
    (refine Goes.step rfl (fun _ h₁ => ?_); replace hF := (z_rely hF2) hF h₁; clear h₁; refine goes_oper_k rfl rfl (by k_ne) (fun K hK => ?_); go_simp; refine hK _ _ ⟨by ((first | refine ds_none ?_ | refine dr_none ?_ | u_none); intro e he; have hm := mem_listed he; simp [go_sem, *] at hm), ?_⟩; clear hK K; try w_num)
    (refine Goes.step rfl (fun _ h₁ => ?_); replace hF := (z_rely hF2) hF h₁; clear h₁; refine goes_oper_k rfl rfl (by k_ne) (fun K hK => ?_); go_simp; refine hK _ _ ⟨by ((first | refine ds_none ?_ | refine dr_none ?_ | u_none); intro e he; have hm := mem_listed he; simp [go_sem, *] at hm), ?_⟩; clear hK K; try w_num)
    (refine Goes.step rfl (fun _ h₁ => ?_); replace hF := (z_rely hF2) hF h₁; clear h₁; refine goes_oper_k rfl rfl (by k_ne) (fun K hK => ?_); go_simp; refine hK _ _ ⟨by ((first | refine ds_none ?_ | refine dr_none ?_ | u_none); intro e he; have hm := mem_listed he; simp [go_sem, *] at hm), ?_⟩; clear hK K; try w_num)
    (refine Goes.step rfl (fun _ h₁ => ?_); replace hF := (z_rely hF2) hF h₁; clear h₁; rw [stepG_region_end]; simp only [goes_go]; refine ⟨by ((first | refine ds_none ?_ | refine dr_none ?_ | u_none); intro e he; simp at he), ?_⟩)
    (refine Goes.step rfl (fun _ h₁ => ?_); replace hF := (z_rely hF2) hF h₁; clear h₁; rw [stepG_seq]; simp only [goes_go]; refine ⟨by ((first | refine ds_none ?_ | refine dr_none ?_ | u_none); intro e he; simp at he), ?_⟩)
    (refine Goes.step rfl (fun _ h₁ => ?_); replace hF := (z_rely hF2) hF h₁; clear h₁; rw [stepG_seq]; simp only [goes_go]; refine ⟨by ((first | refine ds_none ?_ | refine dr_none ?_ | u_none); intro e he; simp at he), ?_⟩)
    (refine Goes.step rfl (fun _ h₁ => ?_); replace hF := (z_rely hF2) hF h₁; clear h₁; rw [stepG_region]; simp only [goes_go, List.size_toArray, List.length_cons, List.length_nil, Nat.reduceAdd, Nat.zero_add, List.range, List.range.loop]; refine ⟨by ((first | refine ds_none ?_ | refine dr_none ?_ | u_none); intro e he; simp at he), ?_⟩)
    (refine Goes.step rfl (fun _ h₁ => ?_); replace hF := (z_rely hF2) hF h₁; clear h₁; refine goes_oper_k rfl rfl (by k_ne) (fun K hK => ?_); go_simp; refine hK _ _ ⟨by ((first | refine ds_none ?_ | refine dr_none ?_ | u_none); intro e he; have hm := mem_listed he; simp [go_sem, *] at hm), ?_⟩; clear hK K; try w_num)
    (refine Goes.step rfl (fun _ h₁ => ?_); replace hF := (z_rely hF2) hF h₁; clear h₁; refine goes_oper_k rfl rfl (by k_ne) (fun K hK => ?_); go_simp; refine hK _ _ ⟨by ((first | refine ds_none ?_ | refine dr_none ?_ | u_none); intro e he; have hm := mem_listed he; simp [go_sem, *] at hm), ?_⟩; clear hK K; try w_num)
    (refine Goes.step rfl (fun _ h₁ => ?_); replace hF := (z_rely hF2) hF h₁; clear h₁; rw [stepG_region_end]; simp only [goes_go]; refine ⟨by ((first | refine ds_none ?_ | refine dr_none ?_ | u_none); intro e he; simp at he), ?_⟩)
    (refine Goes.step rfl (fun _ h₁ => ?_); replace hF := (z_rely hF2) hF h₁; clear h₁; rw [stepG_cond (t := true) (by first | rfl | (simp [Act.eval]; omega))]; simp only [goes_go, ↓reduceIte]; refine ⟨by ((first | refine ds_none ?_ | refine dr_none ?_ | u_none); intro e he; simp at he), ?_⟩)
    (refine Goes.step rfl (fun _ h₁ => ?_); replace hF := (z_rely hF2) hF h₁; clear h₁; rw [stepG_seq]; simp only [goes_go]; refine ⟨by ((first | refine ds_none ?_ | refine dr_none ?_ | u_none); intro e he; simp at he), ?_⟩)
    (refine Goes.step rfl (fun _ h₁ => ?_); replace hF := (z_rely hF2) hF h₁; clear h₁; rw [stepG_cond (t := true) (by first | rfl | (simp [Act.eval]; omega))]; simp only [goes_go, ↓reduceIte]; refine ⟨by ((first | refine ds_none ?_ | refine dr_none ?_ | u_none); intro e he; simp at he), ?_⟩)
    (refine Goes.step rfl (fun _ h₁ => ?_); replace hF := (z_rely hF2) hF h₁; clear h₁; rw [stepG_seq]; simp only [goes_go]; refine ⟨by ((first | refine ds_none ?_ | refine dr_none ?_ | u_none); intro e he; simp at he), ?_⟩)
    (refine Goes.step rfl (fun _ h₁ => ?_); replace hF := (z_rely hF2) hF h₁; clear h₁; rw [stepG_region]; simp only [goes_go, List.size_toArray, List.length_cons, List.length_nil, Nat.zero_add, List.range, List.range.loop]; refine ⟨by ((first | refine ds_none ?_ | refine dr_none ?_ | u_none); intro e he; simp at he), ?_⟩)
    (refine Goes.stop (fun w₁ h₁ => ?_); replace hF := (z_rely hF2) hF h₁; clear h₁)
    refine ⟨rfl, _, stepG_mark0 .enable (by simp) rfl rfl (by k_ne) rfl H.f_enable (x_enable_n L) (x_enable_b L) (x_enable_x L) (x_enable_f L), 12, ?_⟩
    walk_nrm
    (refine Goes.step rfl (fun _ h₁ => ?_); replace hF := (z_rely hF2) hF h₁; clear h₁; rw [stepG_region_end]; simp only [goes_go]; refine ⟨by ((first | refine ds_none ?_ | refine dr_none ?_ | u_none); intro e he; simp at he), ?_⟩)
    (refine Goes.step rfl (fun _ h₁ => ?_); replace hF := (z_rely hF2) hF h₁; clear h₁; rw [stepG_region]; simp only [goes_go, List.size_toArray, List.length_cons, List.length_nil, Nat.reduceAdd, Nat.zero_add, List.range, List.range.loop]; refine ⟨by ((first | refine ds_none ?_ | refine dr_none ?_ | u_none); intro e he; simp at he), ?_⟩)
    (refine Goes.step rfl (fun _ h₁ => ?_); replace hF := (z_rely hF2) hF h₁; clear h₁; refine goes_oper_k rfl rfl (by k_ne) (fun K hK => ?_); go_simp; refine hK _ _ ⟨by ((first | refine ds_none ?_ | refine dr_none ?_ | u_none); intro e he; have hm := mem_listed he; simp [go_sem, *] at hm), ?_⟩; clear hK K; try w_num)
    (refine Goes.step rfl (fun _ h₁ => ?_); replace hF := (z_rely hF2) hF h₁; clear h₁; refine goes_oper_k rfl rfl (by k_ne) (fun Kx hKx => ?_); have hcv := run_convert_to_unsafe (P := c.P) H.underlying_tWgP H.underlying_tUP H.room_tWg (WgLive.cell0 hF.2).choose_spec; have hce := fun es => events_convert_to_unsafe (P := c.P) H.underlying_tWgP H.underlying_tUP H.room_tWg (WgLive.cell0 hF.2).choose_spec es; go_simp; refine hKx _ _ ⟨by ((first | refine ds_none ?_ | refine dr_none ?_ | u_none); intro ex hex; have hmx := mem_listed hex; simp [go_sem, hce] at hmx), ?_⟩; clear hKx Kx hcv hce)
    (refine Goes.stop (fun w₁ h₁ => ?_); replace hF := (z_rely hF2) hF h₁; clear h₁)
    refine ⟨rfl, _, stepG_markAt .acquire (by simp) rfl rfl (by k_ne) rfl H.f_acquire (x_acquire_n L) (x_acquire_b L) (x_acquire_x L) (x_acquire_f L) (by simp [Act.eval, stA]), mT + 20, ?_⟩
    walk_nrm
    (refine Goes.step rfl (fun _ h₁ => ?_); replace hF := (z_rely hF2) hF h₁; clear h₁; rw [stepG_region_end]; simp only [goes_go]; refine ⟨by ((first | refine ds_none ?_ | refine dr_none ?_ | u_none); intro e he; simp at he), ?_⟩)
    (refine Goes.step rfl (fun _ h₁ => ?_); replace hF := (z_rely hF2) hF h₁; clear h₁; rw [stepG_seq]; simp only [goes_go]; refine ⟨by ((first | refine ds_none ?_ | refine dr_none ?_ | u_none); intro e he; simp at he), ?_⟩)
    (refine Goes.step rfl (fun _ h₁ => ?_); replace hF := (z_rely hF2) hF h₁; clear h₁; rw [stepG_seq]; simp only [goes_go]; refine ⟨by ((first | refine ds_none ?_ | refine dr_none ?_ | u_none); intro e he; simp at he), ?_⟩)
    (refine Goes.step rfl (fun _ h₁ => ?_); replace hF := (z_rely hF2) hF h₁; clear h₁; rw [stepG_region]; simp only [goes_go, List.size_toArray, List.length_cons, List.length_nil, Nat.reduceAdd, Nat.zero_add, List.range, List.range.loop]; refine ⟨by ((first | refine ds_none ?_ | refine dr_none ?_ | u_none); intro e he; simp at he), ?_⟩)
    (refine Goes.step rfl (fun _ h₁ => ?_); replace hF := (z_rely hF2) hF h₁; clear h₁; refine goes_oper_k rfl rfl (by k_ne) (fun K hK => ?_); go_simp; refine hK _ _ ⟨by ((first | refine ds_none ?_ | refine dr_none ?_ | u_none); intro e he; have hm := mem_listed he; simp [go_sem, *] at hm), ?_⟩; clear hK K; try w_num)
    (refine Goes.step rfl (fun _ h₁ => ?_); replace hF := (z_rely hF2) hF h₁; clear h₁; refine goes_oper_k rfl rfl (by k_ne) (fun K hK => ?_); go_simp; refine hK _ _ ⟨by ((first | refine ds_none ?_ | refine dr_none ?_ | u_none); intro e he; have hm := mem_listed he; simp [go_sem, *] at hm), ?_⟩; clear hK K; try w_num)
    (refine Goes.step rfl (fun _ h₁ => ?_); replace hF := (z_rely hF2) hF h₁; clear h₁; refine goes_oper_k rfl rfl (by k_ne) (fun K hK => ?_); go_simp; refine hK _ _ ⟨by ((first | refine ds_none ?_ | refine dr_none ?_ | u_none); intro e he; have hm := mem_listed he; simp [go_sem, *] at hm), ?_⟩; clear hK K; try w_num)
    (refine Goes.step rfl (fun _ h₁ => ?_); replace hF := (z_rely hF2) hF h₁; clear h₁; refine goes_oper_k rfl rfl (by k_ne) (fun K hK => ?_); go_simp; refine hK _ _ ⟨by ((first | refine ds_none ?_ | refine dr_none ?_ | u_none); intro e he; have hm := mem_listed he; simp [go_sem, *] at hm), ?_⟩; clear hK K; try w_num)
    (refine Goes.step rfl (fun _ h₁ => ?_); replace hF := (z_rely hF2) hF h₁; clear h₁; refine goes_oper_k rfl rfl (by k_ne) (fun K hK => ?_); go_simp; refine hK _ _ ⟨by ((first | refine ds_none ?_ | refine dr_none ?_ | u_none); intro e he; have hm := mem_listed he; simp [go_sem, *] at hm), ?_⟩; clear hK K; try w_num)
    (refine Goes.step rfl (fun _ h₁ => ?_); replace hF := (z_rely hF2) hF h₁; clear h₁; refine goes_oper_k rfl rfl (by k_ne) (fun K hK => ?_); go_simp; refine hK _ _ ⟨by ((first | refine ds_none ?_ | refine dr_none ?_ | u_none); intro e he; have hm := mem_listed he; simp [go_sem, *] at hm), ?_⟩; clear hK K; try w_num)
    (refine Goes.step rfl (fun _ h₁ => ?_); replace hF := (z_rely hF2) hF h₁; clear h₁; refine goes_oper_k rfl rfl (by k_ne) (fun K hK => ?_); go_simp; refine hK _ _ ⟨by ((first | refine ds_none ?_ | refine dr_none ?_ | u_none); intro e he; have hm := mem_listed he; simp [go_sem, *] at hm), ?_⟩; clear hK K; try w_num)
    (refine Goes.step rfl (fun _ h₁ => ?_); replace hF := (z_rely hF2) hF h₁; clear h₁; refine goes_oper_k rfl rfl (by k_ne) (fun K hK => ?_); go_simp; refine hK _ _ ⟨by ((first | refine ds_none ?_ | refine dr_none ?_ | u_none); intro e he; have hm := mem_listed he; simp [go_sem, *] at hm), ?_⟩; clear hK K; try w_num)
    (refine Goes.step rfl (fun _ h₁ => ?_); replace hF := (z_rely hF2) hF h₁; clear h₁; rw [stepG_unwanted rfl rfl]; simp only [goes_go]; refine ⟨by ((first | refine ds_none ?_ | refine dr_none ?_ | u_none); intro e he; simp at he), ?_⟩; walk_nrm)
    (refine Goes.step rfl (fun _ h₁ => ?_); replace hF := (z_rely hF2) hF h₁; clear h₁; rw [stepG_unwanted rfl rfl]; simp only [goes_go]; refine ⟨by ((first | refine ds_none ?_ | refine dr_none ?_ | u_none); intro e he; simp at he), ?_⟩; walk_nrm)
    (refine Goes.step rfl (fun _ h₁ => ?_); replace hF := (z_rely hF2) hF h₁; clear h₁; refine goes_oper_k rfl rfl (by k_ne) (fun K hK => ?_); go_simp; refine hK _ _ ⟨by ((first | refine ds_none ?_ | refine dr_none ?_ | u_none); intro e he; have hm := mem_listed he; simp [go_sem, *] at hm), ?_⟩; clear hK K; try w_num)
    (refine Goes.step rfl (fun _ h₁ => ?_); replace hF := (z_rely hF2) hF h₁; clear h₁; rw [stepG_region_end]; simp only [goes_go]; refine ⟨by ((first | refine ds_none ?_ | refine dr_none ?_ | u_none); intro e he; simp at he), ?_⟩)
    (refine Goes.step rfl (fun _ h₁ => ?_); replace hF := (z_rely hF2) hF h₁; clear h₁; rw [stepG_cond (t := false) (by first | rfl | (simp [Act.eval]; omega))]; simp only [goes_go, Bool.false_eq_true, ↓reduceIte]; refine ⟨by ((first | refine ds_none ?_ | refine dr_none ?_ | u_none); intro e he; simp at he), ?_⟩)
    (refine Goes.step rfl (fun _ h₁ => ?_); replace hF := (z_rely hF2) hF h₁; clear h₁; rw [stepG_skip]; simp only [goes_go]; refine ⟨by ((first | refine ds_none ?_ | refine dr_none ?_ | u_none); intro e he; simp at he), ?_⟩)
    (refine Goes.step rfl (fun _ h₁ => ?_); replace hF := (z_rely hF2) hF h₁; clear h₁; rw [stepG_ret']; simp only [goes_go]; refine ⟨by ((first | refine ds_none ?_ | refine dr_none ?_ | u_none); intro e he; simp at he), ?_⟩)
    (refine Goes.step rfl (fun _ h₁ => ?_); replace hF := (z_rely hF2) hF h₁; clear h₁; refine goes_leave0 rfl rfl H.f_wait rfl ⟨by ((first | refine ds_none ?_ | refine dr_none ?_ | u_none); intro e he; simp at he), ?_⟩; walk_nrm)
    exact hT _ hF.1 hF.2
  · obtain ⟨S, hS⟩ : ∃ S : Int, (v : Int) * KK = S := ⟨_, rfl⟩
    have a1 : S / 4294967296 = (v : Int) := by rw [← hS]; simp only [KK]; omega
    have b1 : bits .and .u64 S 2147483648 = 0 := by rw [← hS]; have := st_flag v 0 (by omega) (by omega); simpa [KK] using this
    have b2 : bits .and .u64 S 2147483647 = 0 := by rw [← hS]; have := st_waiters v 0 (by omega) (by omega); simpa [KK] using this
    have c1 : IntKind.i32.wrap (v : Int) = (v : Int) := by rw [IntKind.wrap_i32]; omega
    have w1 : IntKind.u64.wrap (S + 1) = S + 1 := by rw [IntKind.wrap_u64, ← hS]; simp only [KK]; omega
    have q3 : decide ((v : Int) < 0) = false := decide_eq_false (by omega)
    have q4 : decide (0 < (v : Int)) = true := decide_eq_true (by omega)
    have q5 : ((v : Int) == 0) = false := by simp; omega
    have q6 : decide ((v : Int) = 0) = false := decide_eq_false (by omega)
    rw [hS] at hw
    refine ⟨_, stepG_load_atomic (v := S) rfl rfl (by k_ne) rfl H.f_loadU64 (x_loadU64_n L) (x_loadU64_b L) (x_loadU64_x L) .u64 (x_loadU64_f L) rfl hw.cellSt, fun h0 => absurd h0 (by omega), fun _ => ⟨90, ?_⟩⟩
    clear hw
    walk_nrm
    (refine Goes.step rfl (fun _ h₁ => ?_); replace hF := (z_rely hF2) hF h₁; clear h₁; refine goes_oper_k rfl rfl (by k_ne) (fun K hK => ?_); go_simp; refine hK _ _ ⟨by ((first | refine ds_none ?_ | refine dr_none ?_ | u_none); intro e he; have hm := mem_listed he; simp [go_sem, *] at hm), ?_⟩; clear hK K; try w_num)
    (refine Goes.step rfl (fun _ h₁ => ?_); replace hF := (z_rely hF2) hF h₁; clear h₁; rw [stepG_region_end]; simp only [goes_go]; refine ⟨by ((first | refine ds_none ?_ | refine dr_none ?_ | u_none); intro e he; simp at he), ?_⟩)
    (refine Goes.step rfl (fun _ h₁ => ?_); replace hF := (z_rely hF2) hF h₁; clear h₁; rw [stepG_ret']; simp only [goes_go]; refine ⟨by ((first | refine ds_none ?_ | refine dr_none ?_ | u_none); intro e he; simp at he), ?_⟩)
    (refine Goes.step rfl (fun _ h₁ => ?_); replace hF := (z_rely hF2) hF h₁; clear h₁; refine goes_leave1 rfl rfl H.f_uLoad rfl ⟨by ((first | refine ds_none ?_ | refine dr_none ?_ | u_none); intro e he; simp at he), ?_⟩; walk_nrm)
    (refine Goes.step rfl (fun _ h₁ => ?_); replace hF := (z_rely hF2) hF h₁; clear h₁; refine goes_oper_k rfl rfl (by k_ne) (fun K hK => ?_); go_simp; refine hK _ _ ⟨by ((first | refine ds_none ?_ | refine dr_none ?_ | u_none); intro e he; have hm := mem_listed he; simp [go_sem, *] at hm), ?_⟩; clear hK K; try w_num)
    (refine Goes.step rfl (fun _ h₁ => ?_); replace hF := (z_rely hF2) hF h₁; clear h₁; rw [stepG_region_end]; simp only [goes_go]; refine ⟨by ((first | refine ds_none ?_ | refine dr_none ?_ | u_none); intro e he; simp at he), ?_⟩)
    (refine Goes.step rfl (fun _ h₁ => ?_); replace hF := (z_rely hF2) hF h₁; clear h₁; rw [stepG_seq]; simp only [goes_go]; refine ⟨by ((first | refine ds_none ?_ | refine dr_none ?_ | u_none); intro e he; simp at he), ?_⟩)
    (refine Goes.step rfl (fun _ h₁ => ?_); replace hF := (z_rely hF2) hF h₁; clear h₁; rw [stepG_region]; simp only [goes_go, List.size_toArray, List.length_cons, List.length_nil, Nat.reduceAdd, Nat.zero_add, List.range, List.range.loop]; refine ⟨by ((first | refine ds_none ?_ | refine dr_none ?_ | u_none); intro e he; simp at he), ?_⟩)
    (refine Goes.step rfl (fun _ h₁ => ?_); replace hF := (z_rely hF2) hF h₁; clear h₁; refine goes_oper_k rfl rfl (by k_ne) (fun K hK => ?_); go_simp; refine hK _ _ ⟨by ((first | refine ds_none ?_ | refine dr_none ?_ | u_none); intro e he; have hm := mem_listed he; simp [go_sem, *] at hm), ?_⟩; clear hK K; try w_num)
    (refine Goes.step rfl (fun _ h₁ => ?_); replace hF := (z_rely hF2) hF h₁; clear h₁; refine goes_oper_k rfl rfl (by k_ne) (fun K hK => ?_); go_simp; refine hK _ _ ⟨by ((first | refine ds_none ?_ | refine dr_none ?_ | u_none); intro e he; have hm := mem_listed he; simp [go_sem, *] at hm), ?_⟩; clear hK K; try w_num)
    (refine Goes.step rfl (fun _ h₁ => ?_); replace hF := (z_rely hF2) hF h₁; clear h₁; refine goes_oper_k rfl rfl (by k_ne) (fun K hK => ?_); go_simp; refine hK _ _ ⟨by ((first | refine ds_none ?_ | refine dr_none ?_ | u_none); intro e he; have hm := mem_listed he; simp [go_sem, *] at hm), ?_⟩; clear hK K; try w_num)
    (refine Goes.step rfl (fun _ h₁ => ?_); replace hF := (z_rely hF2) hF h₁; clear h₁; refine goes_oper_k rfl rfl (by k_ne) (fun K hK => ?_); go_simp; refine hK _ _ ⟨by ((first | refine ds_none ?_ | refine dr_none ?_ | u_none); intro e he; have hm := mem_listed he; simp [go_sem, *] at hm), ?_⟩; clear hK K; try w_num)
    (refine Goes.step rfl (fun _ h₁ => ?_); replace hF := (z_rely hF2) hF h₁; clear h₁; rw [stepG_region_end]; simp only [goes_go]; refine ⟨by ((first | refine ds_none ?_ | refine dr_none ?_ | u_none); intro e he; simp at he), ?_⟩)
    (refine Goes.step rfl (fun _ h₁ => ?_); replace hF := (z_rely hF2) hF h₁; clear h₁; rw [stepG_seq]; simp only [goes_go]; refine ⟨by ((first | refine ds_none ?_ | refine dr_none ?_ | u_none); intro e he; simp at he), ?_⟩)
    (refine Goes.step rfl (fun _ h₁ => ?_); replace hF := (z_rely hF2) hF h₁; clear h₁; rw [stepG_region]; simp only [goes_go, List.size_toArray, List.length_cons, List.length_nil, Nat.reduceAdd, Nat.zero_add, List.range, List.range.loop]; refine ⟨by ((first | refine ds_none ?_ | refine dr_none ?_ | u_none); intro e he; simp at he), ?_⟩)
    (refine Goes.step rfl (fun _ h₁ => ?_); replace hF := (z_rely hF2) hF h₁; clear h₁; refine goes_oper_k rfl rfl (by k_ne) (fun K hK => ?_); go_simp; refine hK _ _ ⟨by ((first | refine ds_none ?_ | refine dr_none ?_ | u_none); intro e he; have hm := mem_listed he; simp [go_sem, *] at hm), ?_⟩; clear hK K; try w_num)
    (refine Goes.step rfl (fun _ h₁ => ?_); replace hF := (z_rely hF2) hF h₁; clear h₁; refine goes_oper_k rfl rfl (by k_ne) (fun K hK => ?_); go_simp; refine hK _ _ ⟨by ((first | refine ds_none ?_ | refine dr_none ?_ | u_none); intro e he; have hm := mem_listed he; simp [go_sem, *] at hm), ?_⟩; clear hK K; try w_num)
    (refine Goes.step rfl (fun _ h₁ => ?_); replace hF := (z_rely hF2) hF h₁; clear h₁; refine goes_oper_k rfl rfl (by k_ne) (fun K hK => ?_); go_simp; refine hK _ _ ⟨by ((first | refine ds_none ?_ | refine dr_none ?_ | u_none); intro e he; have hm := mem_listed he; simp [go_sem, *] at hm), ?_⟩; clear hK K; try w_num)
    (refine Goes.step rfl (fun _ h₁ => ?_); replace hF := (z_rely hF2) hF h₁; clear h₁; refine goes_oper_k rfl rfl (by k_ne) (fun K hK => ?_); go_simp; refine hK _ _ ⟨by ((first | refine ds_none ?_ | refine dr_none ?_ | u_none); intro e he; have hm := mem_listed he; simp [go_sem, *] at hm), ?_⟩; clear hK K; try w_num)
    (refine Goes.step rfl (fun _ h₁ => ?_); replace hF := (z_rely hF2) hF h₁; clear h₁; rw [stepG_region_end]; simp only [goes_go]; refine ⟨by ((first | refine ds_none ?_ | refine dr_none ?_ | u_none); intro e he; simp at he), ?_⟩)
    (refine Goes.step rfl (fun _ h₁ => ?_); replace hF := (z_rely hF2) hF h₁; clear h₁; rw [stepG_seq]; simp only [goes_go]; refine ⟨by ((first | refine ds_none ?_ | refine dr_none ?_ | u_none); intro e he; simp at he), ?_⟩)
    (refine Goes.step rfl (fun _ h₁ => ?_); replace hF := (z_rely hF2) hF h₁; clear h₁; rw [stepG_seq]; simp only [goes_go]; refine ⟨by ((first | refine ds_none ?_ | refine dr_none ?_ | u_none); intro e he; simp at he), ?_⟩)
    (refine Goes.step rfl (fun _ h₁ => ?_); replace hF := (z_rely hF2) hF h₁; clear h₁; rw [stepG_region]; simp only [goes_go, List.size_toArray, List.length_cons, List.length_nil, Nat.reduceAdd, Nat.zero_add, List.range, List.range.loop]; refine ⟨by ((first | refine ds_none ?_ | refine dr_none ?_ | u_none); intro e he; simp at he), ?_⟩)
    (refine Goes.step rfl (fun _ h₁ => ?_); replace hF := (z_rely hF2) hF h₁; clear h₁; refine goes_oper_k rfl rfl (by k_ne) (fun K hK => ?_); go_simp; refine hK _ _ ⟨by ((first | refine ds_none ?_ | refine dr_none ?_ | u_none); intro e he; have hm := mem_listed he; simp [go_sem, *] at hm), ?_⟩; clear hK K; try w_num)
    (refine Goes.step rfl (fun _ h₁ => ?_); replace hF := (z_rely hF2) hF h₁; clear h₁; refine goes_oper_k rfl rfl (by k_ne) (fun K hK => ?_); go_simp; refine hK _ _ ⟨by ((first | refine ds_none ?_ | refine dr_none ?_ | u_none); intro e he; have hm := mem_listed he; simp [go_sem, *] at hm), ?_⟩; clear hK K; try w_num)
    (refine Goes.step rfl (fun _ h₁ => ?_); replace hF := (z_rely hF2) hF h₁; clear h₁; rw [stepG_region_end]; simp only [goes_go]; refine ⟨by ((first | refine ds_none ?_ | refine dr_none ?_ | u_none); intro e he; simp at he), ?_⟩)
    (refine Goes.step rfl (fun _ h₁ => ?_); replace hF := (z_rely hF2) hF h₁; clear h₁; rw [stepG_cond (t := false) (by first | rfl | (simp [Act.eval]; omega))]; simp only [goes_go, Bool.false_eq_true, ↓reduceIte]; refine ⟨by ((first | refine ds_none ?_ | refine dr_none ?_ | u_none); intro e he; simp at he), ?_⟩)
    (refine Goes.step rfl (fun _ h₁ => ?_); replace hF := (z_rely hF2) hF h₁; clear h₁; rw [stepG_skip]; simp only [goes_go]; refine ⟨by ((first | refine ds_none ?_ | refine dr_none ?_ | u_none); intro e he; simp at he), ?_⟩)
    (refine Goes.step rfl (fun _ h₁ => ?_); replace hF := (z_rely hF2) hF h₁; clear h₁; rw [stepG_seq]; simp only [goes_go]; refine ⟨by ((first | refine ds_none ?_ | refine dr_none ?_ | u_none); intro e he; simp at he), ?_⟩)
    (refine Goes.step rfl (fun _ h₁ => ?_); replace hF := (z_rely hF2) hF h₁; clear h₁; rw [stepG_region]; simp only [goes_go, List.size_toArray, List.length_cons, List.length_nil, Nat.reduceAdd, Nat.zero_add, List.range, List.range.loop]; refine ⟨by ((first | refine ds_none ?_ | refine dr_none ?_ | u_none); intro e he; simp at he), ?_⟩)
    (refine Goes.step rfl (fun _ h₁ => ?_); replace hF := (z_rely hF2) hF h₁; clear h₁; refine goes_oper_k rfl rfl (by k_ne) (fun K hK => ?_); go_simp; refine hK _ _ ⟨by ((first | refine ds_none ?_ | refine dr_none ?_ | u_none); intro e he; have hm := mem_listed he; simp [go_sem, *] at hm), ?_⟩; clear hK K; try w_num)
    (refine Goes.step rfl (fun _ h₁ => ?_); replace hF := (z_rely hF2) hF h₁; clear h₁; refine goes_oper_k rfl rfl (by k_ne) (fun K hK => ?_); go_simp; refine hK _ _ ⟨by ((first | refine ds_none ?_ | refine dr_none ?_ | u_none); intro e he; have hm := mem_listed he; simp [go_sem, *] at hm), ?_⟩; clear hK K; try w_num)
    (refine Goes.step rfl (fun _ h₁ => ?_); replace hF := (z_rely hF2) hF h₁; clear h₁; refine goes_oper_k rfl rfl (by k_ne) (fun K hK => ?_); go_simp; refine hK _ _ ⟨by ((first | refine ds_none ?_ | refine dr_none ?_ | u_none); intro e he; have hm := mem_listed he; simp [go_sem, *] at hm), ?_⟩; clear hK K; try w_num)
    (refine Goes.step rfl (fun _ h₁ => ?_); replace hF := (z_rely hF2) hF h₁; clear h₁; refine goes_oper_k rfl rfl (by k_ne) (fun K hK => ?_); go_simp; refine hK _ _ ⟨by ((first | refine ds_none ?_ | refine dr_none ?_ | u_none); intro e he; have hm := mem_listed he; simp [go_sem, *] at hm), ?_⟩; clear hK K; try w_num)
    (refine Goes.step rfl (fun _ h₁ => ?_); replace hF := (z_rely hF2) hF h₁; clear h₁; refine goes_oper_k rfl rfl (by k_ne) (fun K hK => ?_); go_simp; refine hK _ _ ⟨by ((first | refine ds_none ?_ | refine dr_none ?_ | u_none); intro e he; have hm := mem_listed he; simp [go_sem, *] at hm), ?_⟩; clear hK K; try w_num)
    (refine Goes.step rfl (fun _ h₁ => ?_); replace hF := (z_rely hF2) hF h₁; clear h₁; refine goes_oper_k rfl rfl (by k_ne) (fun K hK => ?_); go_simp; refine hK _ _ ⟨by ((first | refine ds_none ?_ | refine dr_none ?_ | u_none); intro e he; have hm := mem_listed he; simp [go_sem, *] at hm), ?_⟩; clear hK K; try w_num)
    (refine Goes.step rfl (fun _ h₁ => ?_); replace hF := (z_rely hF2) hF h₁; clear h₁; refine goes_call rfl rfl (by k_ne) rfl H.f_uCas (nm_uCas L) rfl ⟨by ((first | refine ds_none ?_ | refine dr_none ?_ | u_none); intro e he; simp at he), ?_⟩; walk_nrmf uCasFn)
    (refine Goes.step rfl (fun _ h₁ => ?_); replace hF := (z_rely hF2) hF h₁; clear h₁; rw [stepG_seq]; simp only [goes_go]; refine ⟨by ((first | refine ds_none ?_ | refine dr_none ?_ | u_none); intro e he; simp at he), ?_⟩)
    (refine Goes.step rfl (fun _ h₁ => ?_); replace hF := (z_rely hF2) hF h₁; clear h₁; rw [stepG_region]; simp only [goes_go, List.size_toArray, List.length_cons, List.length_nil, Nat.zero_add, List.range, List.range.loop]; refine ⟨by ((first | refine ds_none ?_ | refine dr_none ?_ | u_none); intro e he; simp at he), ?_⟩)
    (refine Goes.step rfl (fun _ h₁ => ?_); replace hF := (z_rely hF2) hF h₁; clear h₁; refine goes_oper_k rfl rfl (by k_ne) (fun K hK => ?_); go_simp; refine hK _ _ ⟨by ((first | refine ds_none ?_ | refine dr_none ?_ | u_none); intro e he; have hm := mem_listed he; simp [go_sem, *] at hm), ?_⟩; clear hK K; try w_num)
    (refine Goes.step rfl (fun _ h₁ => ?_); replace hF := (z_rely hF2) hF h₁; clear h₁; rw [stepG_region_end]; simp only [goes_go]; refine ⟨by ((first | refine ds_none ?_ | refine dr_none ?_ | u_none); intro e he; simp at he), ?_⟩)
    (refine Goes.step rfl (fun _ h₁ => ?_); replace hF := (z_rely hF2) hF h₁; clear h₁; rw [stepG_seq]; simp only [goes_go]; refine ⟨by ((first | refine ds_none ?_ | refine dr_none ?_ | u_none); intro e he; simp at he), ?_⟩)
    (refine Goes.step rfl (fun _ h₁ => ?_); replace hF := (z_rely hF2) hF h₁; clear h₁; rw [stepG_region]; simp only [goes_go, List.size_toArray, List.length_cons, List.length_nil, Nat.reduceAdd, Nat.zero_add, List.range, List.range.loop]; refine ⟨by ((first | refine ds_none ?_ | refine dr_none ?_ | u_none); intro e he; simp at he), ?_⟩)
    (refine Goes.step rfl (fun _ h₁ => ?_); replace hF := (z_rely hF2) hF h₁; clear h₁; refine goes_oper_k rfl rfl (by k_ne) (fun K hK => ?_); go_simp; refine hK _ _ ⟨by ((first | refine ds_none ?_ | refine dr_none ?_ | u_none); intro e he; have hm := mem_listed he; simp [go_sem, *] at hm), ?_⟩; clear hK K; try w_num)
    (refine Goes.step rfl (fun _ h₁ => ?_); replace hF := (z_rely hF2) hF h₁; clear h₁; refine goes_oper_k rfl rfl (by k_ne) (fun K hK => ?_); go_simp; refine hK _ _ ⟨by ((first | refine ds_none ?_ | refine dr_none ?_ | u_none); intro e he; have hm := mem_listed he; simp [go_sem, *] at hm), ?_⟩; clear hK K; try w_num)
    (refine Goes.step rfl (fun _ h₁ => ?_); replace hF := (z_rely hF2) hF h₁; clear h₁; refine goes_oper_k rfl rfl (by k_ne) (fun K hK => ?_); go_simp; refine hK _ _ ⟨by ((first | refine ds_none ?_ | refine dr_none ?_ | u_none); intro e he; have hm := mem_listed he; simp [go_sem, *] at hm), ?_⟩; clear hK K; try w_num)
    (refine Goes.step rfl (fun _ h₁ => ?_); replace hF := (z_rely hF2) hF h₁; clear h₁; refine goes_oper_k rfl rfl (by k_ne) (fun K hK => ?_); go_simp; refine hK _ _ ⟨by ((first | refine ds_none ?_ | refine dr_none ?_ | u_none); intro e he; have hm := mem_listed he; simp [go_sem, *] at hm), ?_⟩; clear hK K; try w_num)
    (refine Goes.step rfl (fun _ h₁ => ?_); replace hF := (z_rely hF2) hF h₁; clear h₁; refine goes_oper_k rfl rfl (by k_ne) (fun K hK => ?_); go_simp; refine hK _ _ ⟨by ((first | refine ds_none ?_ | refine dr_none ?_ | u_none); intro e he; have hm := mem_listed he; simp [go_sem, *] at hm), ?_⟩; clear hK K; try w_num)
    refine Goes.stop (fun w₂ h₂ => ?_)
    replace hF := z_rely hF2 hF h₂
    clear h₂
    refine ⟨rfl, fun v' hv' hw => ⟨fun e => ?_, fun e => ?_⟩⟩
    · subst e
      rw [hS] at hw ⊢
      refine ⟨_, (stepG_cas_hit (v := S) (n := S + 1) rfl rfl (by k_ne) rfl H.f_casU64 (x_casU64_n L) (x_casU64_b L) (x_casU64_x L) .u64 (x_casU64_f L) rfl rfl rfl hw.cellSt (hw.thaw 0)).trans (by rfl), 90, ?_⟩
      replace hF : F (w₂.setCell (stA c.Wg) (.int .u64 (S + 1))) ∧ WgLive c.ty c.Wg (w₂.setCell (stA c.Wg) (.int .u64 (S + 1))) := ⟨hF2 _ _ (.of_wg (aside_setCell w₂ (stA c.Wg) _) ⟨_, _, hw.setSt _⟩ (by simp)) hF.1, ⟨_, _, hw.setSt _⟩⟩
      clear hw
      walk_nrm
      (refine Goes.step rfl (fun _ h₁ => ?_); replace hF := (z_rely hF2) hF h₁; clear h₁; refine goes_oper_k rfl rfl (by k_ne) (fun K hK => ?_); go_simp; refine hK _ _ ⟨by ((first | refine ds_none ?_ | refine dr_none ?_ | u_none); intro e he; have hm := mem_listed he; simp [go_sem, *] at hm), ?_⟩; clear hK K; try w_num)
      (refine Goes.step rfl (fun _ h₁ => ?_); replace hF := (z_rely hF2) hF h₁; clear h₁; rw [stepG_region_end]; simp only [goes_go]; refine ⟨by ((first | refine ds_none ?_ | refine dr_none ?_ | u_none); intro e he; simp at he), ?_⟩)
      (refine Goes.step rfl (fun _ h₁ => ?_); replace hF := (z_rely hF2) hF h₁; clear h₁; rw [stepG_ret']; simp only [goes_go]; refine ⟨by ((first | refine ds_none ?_ | refine dr_none ?_ | u_none); intro e he; simp at he), ?_⟩)
      (refine Goes.step rfl (fun _ h₁ => ?_); replace hF := (z_rely hF2) hF h₁; clear h₁; refine goes_leave1 rfl rfl H.f_uCas rfl ⟨by ((first | refine ds_none ?_ | refine dr_none ?_ | u_none); intro e he; simp at he), ?_⟩; walk_nrm)
      (refine Goes.step rfl (fun _ h₁ => ?_); replace hF := (z_rely hF2) hF h₁; clear h₁; rw [stepG_region_end]; simp only [goes_go]; refine ⟨by ((first | refine ds_none ?_ | refine dr_none ?_ | u_none); intro e he; simp at he), ?_⟩)
      (refine Goes.step rfl (fun _ h₁ => ?_); replace hF := (z_rely hF2) hF h₁; clear h₁; rw [stepG_cond (t := true) (by first | rfl | (simp [Act.eval]; omega))]; simp only [goes_go, ↓reduceIte]; refine ⟨by ((first | refine ds_none ?_ | refine dr_none ?_ | u_none); intro e he; simp at he), ?_⟩)
      (refine Goes.step rfl (fun _ h₁ => ?_); replace hF := (z_rely hF2) hF h₁; clear h₁; rw [stepG_seq]; simp only [goes_go]; refine ⟨by ((first | refine ds_none ?_ | refine dr_none ?_ | u_none); intro e he; simp at he), ?_⟩)
      (refine Goes.step rfl (fun _ h₁ => ?_); replace hF := (z_rely hF2) hF h₁; clear h₁; rw [stepG_seq]; simp only [goes_go]; refine ⟨by ((first | refine ds_none ?_ | refine dr_none ?_ | u_none); intro e he; simp at he), ?_⟩)
      (refine Goes.step rfl (fun _ h₁ => ?_); replace hF := (z_rely hF2) hF h₁; clear h₁; rw [stepG_region]; simp only [goes_go, List.size_toArray, List.length_cons, List.length_nil, Nat.reduceAdd, Nat.zero_add, List.range, List.range.loop]; refine ⟨by ((first | refine ds_none ?_ | refine dr_none ?_ | u_none); intro e he; simp at he), ?_⟩)
      (refine Goes.step rfl (fun _ h₁ => ?_); replace hF := (z_rely hF2) hF h₁; clear h₁; refine goes_oper_k rfl rfl (by k_ne) (fun K hK => ?_); go_simp; refine hK _ _ ⟨by ((first | refine ds_none ?_ | refine dr_none ?_ | u_none); intro e he; have hm := mem_listed he; simp [go_sem, *] at hm), ?_⟩; clear hK K; try w_num)
      (refine Goes.step rfl (fun _ h₁ => ?_); replace hF := (z_rely hF2) hF h₁; clear h₁; refine goes_oper_k rfl rfl (by k_ne) (fun K hK => ?_); go_simp; refine hK _ _ ⟨by ((first | refine ds_none ?_ | refine dr_none ?_ | u_none); intro e he; have hm := mem_listed he; simp [go_sem, *] at hm), ?_⟩; clear hK K; try w_num)
      (refine Goes.step rfl (fun _ h₁ => ?_); replace hF := (z_rely hF2) hF h₁; clear h₁; refine goes_oper_k rfl rfl (by k_ne) (fun K hK => ?_); go_simp; refine hK _ _ ⟨by ((first | refine ds_none ?_ | refine dr_none ?_ | u_none); intro e he; have hm := mem_listed he; simp [go_sem, *] at hm), ?_⟩; clear hK K; try w_num)
      (refine Goes.step rfl (fun _ h₁ => ?_); replace hF := (z_rely hF2) hF h₁; clear h₁; refine goes_oper_k rfl rfl (by k_ne) (fun K hK => ?_); go_simp; refine hK _ _ ⟨by ((first | refine ds_none ?_ | refine dr_none ?_ | u_none); intro e he; have hm := mem_listed he; simp [go_sem, *] at hm), ?_⟩; clear hK K; try w_num)
      (refine Goes.step rfl (fun _ h₁ => ?_); replace hF := (z_rely hF2) hF h₁; clear h₁; rw [stepG_region_end]; simp only [goes_go]; refine ⟨by ((first | refine ds_none ?_ | refine dr_none ?_ | u_none); intro e he; simp at he), ?_⟩)
      (refine Goes.step rfl (fun _ h₁ => ?_); replace hF := (z_rely hF2) hF h₁; clear h₁; rw [stepG_cond (t := true) (by first | rfl | (simp [Act.eval]; omega))]; simp only [goes_go, ↓reduceIte]; refine ⟨by ((first | refine ds_none ?_ | refine dr_none ?_ | u_none); intro e he; simp at he), ?_⟩)
      (refine Goes.step rfl (fun _ h₁ => ?_); replace hF := (z_rely hF2) hF h₁; clear h₁; rw [stepG_region]; simp only [goes_go, List.size_toArray, List.length_cons, List.length_nil, Nat.reduceAdd, Nat.zero_add, List.range, List.range.loop]; refine ⟨by ((first | refine ds_none ?_ | refine dr_none ?_ | u_none); intro e he; simp at he), ?_⟩)
      (refine Goes.step rfl (fun _ h₁ => ?_); replace hF := (z_rely hF2) hF h₁; clear h₁; refine goes_oper_k rfl rfl (by k_ne) (fun K hK => ?_); go_simp; refine hK _ _ ⟨by ((first | refine ds_none ?_ | refine dr_none ?_ | u_none); intro e he; have hm := mem_listed he; simp [go_sem, *] at hm), ?_⟩; clear hK K; try w_num)
      (refine Goes.step rfl (fun _ h₁ => ?_); replace hF := (z_rely hF2) hF h₁; clear h₁; refine goes_oper_k rfl rfl (by k_ne) (fun K hK => ?_); go_simp; refine hK _ _ ⟨by ((first | refine ds_none ?_ | refine dr_none ?_ | u_none); intro e he; have hm := mem_listed he; simp [go_sem, *] at hm), ?_⟩; clear hK K; try w_num)
      (refine Goes.step rfl (fun _ h₁ => ?_); replace hF := (z_rely hF2) hF h₁; clear h₁; refine goes_oper_k rfl rfl (by k_ne) (fun K hK => ?_); go_simp; refine hK _ _ ⟨by ((first | refine ds_none ?_ | refine dr_none ?_ | u_none); intro e he; have hm := mem_listed he; simp [go_sem, *] at hm), ?_⟩; clear hK K; try w_num)
      (refine Goes.step rfl (fun _ h₁ => ?_); replace hF := (z_rely hF2) hF h₁; clear h₁; refine goes_oper_k rfl rfl (by k_ne) (fun Kx hKx => ?_); have hcv := run_convert_to_unsafe (P := c.P) H.underlying_tPU32 H.underlying_tUP H.room_tU32 (WgLive.cell1 hF.2).choose_spec; have hce := fun es => events_convert_to_unsafe (P := c.P) H.underlying_tPU32 H.underlying_tUP H.room_tU32 (WgLive.cell1 hF.2).choose_spec es; go_simp; refine hKx _ _ ⟨by ((first | refine ds_none ?_ | refine dr_none ?_ | u_none); intro ex hex; have hmx := mem_listed hex; simp [go_sem, hce] at hmx), ?_⟩; clear hKx Kx hcv hce)
      (refine Goes.step rfl (fun _ h₁ => ?_); replace hF := (z_rely hF2) hF h₁; clear h₁; (first | rw [stepG_markAt .read (by simp) rfl rfl (by k_ne) rfl H.f_raceRead (x_raceRead_n L) (x_raceRead_b L) (x_raceRead_x L) (x_raceRead_f L) (ad := ⟨_, 1, none⟩) (by simp [Act.eval] <;> rfl)] | rw [stepG_markAt .write (by simp) rfl rfl (by k_ne) rfl H.f_raceWrite (x_raceWrite_n L) (x_raceWrite_b L) (x_raceWrite_x L) (x_raceWrite_f L) (ad := ⟨_, 1, none⟩) (by simp [Act.eval] <;> rfl)]); simp only [goes_go]; refine ⟨⟨rfl, rfl, rfl, rfl, fun _ _ => rfl, fun ex hex => by (rw [Array.mem_singleton] at hex; subst hex; first | exact evS_read _ rfl | exact evS_write _ rfl)⟩, ?_⟩; walk_nrm)
      (refine Goes.step rfl (fun _ h₁ => ?_); replace hF := (z_rely hF2) hF h₁; clear h₁; rw [stepG_region_end]; simp only [goes_go]; refine ⟨by ((first | refine ds_none ?_ | refine dr_none ?_ | u_none); intro e he; simp at he), ?_⟩)
      (refine Goes.step rfl (fun _ h₁ => ?_); replace hF := (z_rely hF2) hF h₁; clear h₁; rw [stepG_seq]; simp only [goes_go]; refine ⟨by ((first | refine ds_none ?_ | refine dr_none ?_ | u_none); intro e he; simp at he), ?_⟩)
      (refine Goes.step rfl (fun _ h₁ => ?_); replace hF := (z_rely hF2) hF h₁; clear h₁; rw [stepG_region]; simp only [goes_go, List.size_toArray, List.length_cons, List.length_nil, Nat.zero_add, List.range, List.range.loop]; refine ⟨by ((first | refine ds_none ?_ | refine dr_none ?_ | u_none); intro e he; simp at he), ?_⟩)
      (refine Goes.step rfl (fun _ h₁ => ?_); replace hF := (z_rely hF2) hF h₁; clear h₁; refine goes_oper_k rfl rfl (by k_ne) (fun K hK => ?_); go_simp; refine hK _ _ ⟨by ((first | refine ds_none ?_ | refine dr_none ?_ | u_none); intro e he; have hm := mem_listed he; simp [go_sem, *] at hm), ?_⟩; clear hK K; try w_num)
      (refine Goes.step rfl (fun _ h₁ => ?_); replace hF := (z_rely hF2) hF h₁; clear h₁; rw [stepG_region_end]; simp only [goes_go]; refine ⟨by ((first | refine ds_none ?_ | refine dr_none ?_ | u_none); intro e he; simp at he), ?_⟩)
      (refine Goes.step rfl (fun _ h₁ => ?_); replace hF := (z_rely hF2) hF h₁; clear h₁; rw [stepG_seq]; simp only [goes_go]; refine ⟨by ((first | refine ds_none ?_ | refine dr_none ?_ | u_none); intro e he; simp at he), ?_⟩)
      (refine Goes.step rfl (fun _ h₁ => ?_); replace hF := (z_rely hF2) hF h₁; clear h₁; rw [stepG_seq]; simp only [goes_go]; refine ⟨by ((first | refine ds_none ?_ | refine dr_none ?_ | u_none); intro e he; simp at he), ?_⟩)
      (refine Goes.step rfl (fun _ h₁ => ?_); replace hF := (z_rely hF2) hF h₁; clear h₁; rw [stepG_region]; simp only [goes_go, List.size_toArray, List.length_cons, List.length_nil, Nat.reduceAdd, Nat.zero_add, List.range, List.range.loop]; refine ⟨by ((first | refine ds_none ?_ | refine dr_none ?_ | u_none); intro e he; simp at he), ?_⟩)
      (refine Goes.step rfl (fun _ h₁ => ?_); replace hF := (z_rely hF2) hF h₁; clear h₁; refine goes_oper_k rfl rfl (by k_ne) (fun K hK => ?_); go_simp; refine hK _ _ ⟨by ((first | refine ds_none ?_ | refine dr_none ?_ | u_none); intro e he; have hm := mem_listed he; simp [go_sem, *] at hm), ?_⟩; clear hK K; try w_num)
      (refine Goes.step rfl (fun _ h₁ => ?_); replace hF := (z_rely hF2) hF h₁; clear h₁; refine goes_oper_k rfl rfl (by k_ne) (fun K hK => ?_); go_simp; refine hK _ _ ⟨by ((first | refine ds_none ?_ | refine dr_none ?_ | u_none); intro e he; have hm := mem_listed he; simp [go_sem, *] at hm), ?_⟩; clear hK K; try w_num)
      (refine Goes.step rfl (fun _ h₁ => ?_); replace hF := (z_rely hF2) hF h₁; clear h₁; refine goes_oper_k rfl rfl (by k_ne) (fun K hK => ?_); go_simp; refine hK _ _ ⟨by ((first | refine ds_none ?_ | refine dr_none ?_ | u_none); intro e he; have hm := mem_listed he; simp [go_sem, *] at hm), ?_⟩; clear hK K; try w_num)
      (refine Goes.step rfl (fun _ h₁ => ?_); replace hF := (z_rely hF2) hF h₁; clear h₁; refine goes_oper_k rfl rfl (by k_ne) (fun K hK => ?_); go_simp; refine hK _ _ ⟨by ((first | refine ds_none ?_ | refine dr_none ?_ | u_none); intro e he; have hm := mem_listed he; simp [go_sem, *] at hm), ?_⟩; clear hK K; try w_num)
      (refine Goes.step rfl (fun _ h₁ => ?_); replace hF := (z_rely hF2) hF h₁; clear h₁; rw [stepG_unwanted rfl rfl]; simp only [goes_go]; refine ⟨by ((first | refine ds_none ?_ | refine dr_none ?_ | u_none); intro e he; simp at he), ?_⟩; walk_nrm)
      (refine Goes.step rfl (fun _ h₁ => ?_); replace hF := (z_rely hF2) hF h₁; clear h₁; refine goes_oper_k rfl rfl (by k_ne) (fun K hK => ?_); go_simp; refine hK _ _ ⟨by ((first | refine ds_none ?_ | refine dr_none ?_ | u_none); intro e he; have hm := mem_listed he; simp [go_sem, *] at hm), ?_⟩; clear hK K; try w_num)
      (refine Goes.step rfl (fun _ h₁ => ?_); replace hF := (z_rely hF2) hF h₁; clear h₁; rw [stepG_region_end]; simp only [goes_go]; refine ⟨by ((first | refine ds_none ?_ | refine dr_none ?_ | u_none); intro e he; simp at he), ?_⟩)
      (refine Goes.step rfl (fun _ h₁ => ?_); replace hF := (z_rely hF2) hF h₁; clear h₁; rw [stepG_cond (t := false) (by first | rfl | (simp [Act.eval]; omega))]; simp only [goes_go, Bool.false_eq_true, ↓reduceIte]; refine ⟨by ((first | refine ds_none ?_ | refine dr_none ?_ | u_none); intro e he; simp at he), ?_⟩)
      (refine Goes.step rfl (fun _ h₁ => ?_); replace hF := (z_rely hF2) hF h₁; clear h₁; rw [stepG_skip]; simp only [goes_go]; refine ⟨by ((first | refine ds_none ?_ | refine dr_none ?_ | u_none); intro e he; simp at he), ?_⟩)
      (refine Goes.step rfl (fun _ h₁ => ?_); replace hF := (z_rely hF2) hF h₁; clear h₁; rw [stepG_seq]; simp only [goes_go]; refine ⟨by ((first | refine ds_none ?_ | refine dr_none ?_ | u_none); intro e he; simp at he), ?_⟩)
      (refine Goes.step rfl (fun _ h₁ => ?_); replace hF := (z_rely hF2) hF h₁; clear h₁; rw [stepG_region]; simp only [goes_go, List.size_toArray, List.length_cons, List.length_nil, Nat.reduceAdd, Nat.zero_add, List.range, List.range.loop]; refine ⟨by ((first | refine ds_none ?_ | refine dr_none ?_ | u_none); intro e he; simp at he), ?_⟩)
      (refine Goes.step rfl (fun _ h₁ => ?_); replace hF := (z_rely hF2) hF h₁; clear h₁; refine goes_oper_k rfl rfl (by k_ne) (fun K hK => ?_); go_simp; refine hK _ _ ⟨by ((first | refine ds_none ?_ | refine dr_none ?_ | u_none); intro e he; have hm := mem_listed he; simp [go_sem, *] at hm), ?_⟩; clear hK K; try w_num)
      (refine Goes.step rfl (fun _ h₁ => ?_); replace hF := (z_rely hF2) hF h₁; clear h₁; refine goes_oper_k rfl rfl (by k_ne) (fun K hK => ?_); go_simp; refine hK _ _ ⟨by ((first | refine ds_none ?_ | refine dr_none ?_ | u_none); intro e he; have hm := mem_listed he; simp [go_sem, *] at hm), ?_⟩; clear hK K; try w_num)
      (refine Goes.step rfl (fun _ h₁ => ?_); replace hF := (z_rely hF2) hF h₁; clear h₁; refine goes_oper_k rfl rfl (by k_ne) (fun K hK => ?_); go_simp; refine hK _ _ ⟨by ((first | refine ds_none ?_ | refine dr_none ?_ | u_none); intro e he; have hm := mem_listed he; simp [go_sem, *] at hm), ?_⟩; clear hK K; try w_num)
      (refine Goes.step rfl (fun _ h₁ => ?_); replace hF := (z_rely hF2) hF h₁; clear h₁; refine goes_oper_k rfl rfl (by k_ne) (fun K hK => ?_); go_simp; refine hK _ _ ⟨by ((first | refine ds_none ?_ | refine dr_none ?_ | u_none); intro e he; have hm := mem_listed he; simp [go_sem, *] at hm), ?_⟩; clear hK K; try w_num)
      refine Goes.stop (fun w₃ h₃ => ?_)
      replace hF := z_rely hF2 hF h₃
      clear h₃
      refine ⟨rfl, rfl, fun ⟨st, hw⟩ => stepG_semacquire_wait rfl rfl rfl H.f_semacquire (x_semacquire_n L) (x_semacquire_b L) (x_semacquire_x L) (x_semacquire_f L) (by simp [Act.eval, smA]) hw.cellSm, fun hf => ?_⟩
      refine ⟨_, (stepG_semacquire (n := 1) rfl rfl (by k_ne) rfl H.f_semacquire (x_semacquire_n L) (x_semacquire_b L) (x_semacquire_x L) (x_semacquire_f L) (by simp [Act.eval, smA]) hf.cellSm (by k_ne) (hf.thaw 1)).trans (by rfl), 40, ?_⟩
      replace hF : F (w₃.setCell (smA c.Wg) (.int .u32 0)) ∧ WgLive c.ty c.Wg (w₃.setCell (smA c.Wg) (.int .u32 0)) := ⟨hF2 _ _ (.of_wg (aside_setCell w₃ (smA c.Wg) _) ⟨_, _, hf.setSm 0⟩ (by simp)) hF.1, ⟨_, _, hf.setSm 0⟩⟩
      clear hf
      walk_nrm
      (refine Goes.step rfl (fun _ h₁ => ?_); replace hF := (z_rely hF2) hF h₁; clear h₁; rw [stepG_region_end]; simp only [goes_go]; refine ⟨by ((first | refine ds_none ?_ | refine dr_none ?_ | u_none); intro e he; simp at he), ?_⟩)
      (refine Goes.step rfl (fun _ h₁ => ?_); replace hF := (z_rely hF2) hF h₁; clear h₁; rw [stepG_seq]; simp only [goes_go]; refine ⟨by ((first | refine ds_none ?_ | refine dr_none ?_ | u_none); intro e he; simp at he), ?_⟩)
      (refine Goes.step rfl (fun _ h₁ => ?_); replace hF := (z_rely hF2) hF h₁; clear h₁; rw [stepG_region]; simp only [goes_go, List.size_toArray, List.length_cons, List.length_nil, Nat.reduceAdd, Nat.zero_add, List.range, List.range.loop]; refine ⟨by ((first | refine ds_none ?_ | refine dr_none ?_ | u_none); intro e he; simp at he), ?_⟩)
      (refine Goes.step rfl (fun _ h₁ => ?_); replace hF := (z_rely hF2) hF h₁; clear h₁; refine goes_oper_k rfl rfl (by k_ne) (fun K hK => ?_); go_simp; refine hK _ _ ⟨by ((first | refine ds_none ?_ | refine dr_none ?_ | u_none); intro e he; have hm := mem_listed he; simp [go_sem, *] at hm), ?_⟩; clear hK K; try w_num)
      (refine Goes.step rfl (fun _ h₁ => ?_); replace hF := (z_rely hF2) hF h₁; clear h₁; refine goes_oper_k rfl rfl (by k_ne) (fun K hK => ?_); go_simp; refine hK _ _ ⟨by ((first | refine ds_none ?_ | refine dr_none ?_ | u_none); intro e he; have hm := mem_listed he; simp [go_sem, *] at hm), ?_⟩; clear hK K; try w_num)
      (refine Goes.step rfl (fun _ h₁ => ?_); replace hF := (z_rely hF2) hF h₁; clear h₁; refine goes_oper_k rfl rfl (by k_ne) (fun K hK => ?_); go_simp; refine hK _ _ ⟨by ((first | refine ds_none ?_ | refine dr_none ?_ | u_none); intro e he; have hm := mem_listed he; simp [go_sem, *] at hm), ?_⟩; clear hK K; try w_num)
      (refine Goes.step rfl (fun _ h₁ => ?_); replace hF := (z_rely hF2) hF h₁; clear h₁; refine goes_call rfl rfl (by k_ne) rfl H.f_uLoad (nm_uLoad L) rfl ⟨by ((first | refine ds_none ?_ | refine dr_none ?_ | u_none); intro e he; simp at he), ?_⟩; walk_nrmf uLoadFn)
      (refine Goes.step rfl (fun _ h₁ => ?_); replace hF := (z_rely hF2) hF h₁; clear h₁; rw [stepG_seq]; simp only [goes_go]; refine ⟨by ((first | refine ds_none ?_ | refine dr_none ?_ | u_none); intro e he; simp at he), ?_⟩)
      (refine Goes.step rfl (fun _ h₁ => ?_); replace hF := (z_rely hF2) hF h₁; clear h₁; rw [stepG_region]; simp only [goes_go, List.size_toArray, List.length_cons, List.length_nil, Nat.zero_add, List.range, List.range.loop]; refine ⟨by ((first | refine ds_none ?_ | refine dr_none ?_ | u_none); intro e he; simp at he), ?_⟩)
      (refine Goes.step rfl (fun _ h₁ => ?_); replace hF := (z_rely hF2) hF h₁; clear h₁; refine goes_oper_k rfl rfl (by k_ne) (fun K hK => ?_); go_simp; refine hK _ _ ⟨by ((first | refine ds_none ?_ | refine dr_none ?_ | u_none); intro e he; have hm := mem_listed he; simp [go_sem, *] at hm), ?_⟩; clear hK K; try w_num)
      (refine Goes.step rfl (fun _ h₁ => ?_); replace hF := (z_rely hF2) hF h₁; clear h₁; rw [stepG_region_end]; simp only [goes_go]; refine ⟨by ((first | refine ds_none ?_ | refine dr_none ?_ | u_none); intro e he; simp at he), ?_⟩)
      (refine Goes.step rfl (fun _ h₁ => ?_); replace hF := (z_rely hF2) hF h₁; clear h₁; rw [stepG_seq]; simp only [goes_go]; refine ⟨by ((first | refine ds_none ?_ | refine dr_none ?_ | u_none); intro e he; simp at he), ?_⟩)
      (refine Goes.step rfl (fun _ h₁ => ?_); replace hF := (z_rely hF2) hF h₁; clear h₁; rw [stepG_region]; simp only [goes_go, List.size_toArray, List.length_cons, List.length_nil, Nat.reduceAdd, Nat.zero_add, List.range, List.range.loop]; refine ⟨by ((first | refine ds_none ?_ | refine dr_none ?_ | u_none); intro e he; simp at he), ?_⟩)
      (refine Goes.step rfl (fun _ h₁ => ?_); replace hF := (z_rely hF2) hF h₁; clear h₁; refine goes_oper_k rfl rfl (by k_ne) (fun K hK => ?_); go_simp; refine hK _ _ ⟨by ((first | refine ds_none ?_ | refine dr_none ?_ | u_none); intro e he; have hm := mem_listed he; simp [go_sem, *] at hm), ?_⟩; clear hK K; try w_num)
      (refine Goes.step rfl (fun _ h₁ => ?_); replace hF := (z_rely hF2) hF h₁; clear h₁; refine goes_oper_k rfl rfl (by k_ne) (fun K hK => ?_); go_simp; refine hK _ _ ⟨by ((first | refine ds_none ?_ | refine dr_none ?_ | u_none); intro e he; have hm := mem_listed he; simp [go_sem, *] at hm), ?_⟩; clear hK K; try w_num)
      (refine Goes.step rfl (fun _ h₁ => ?_); replace hF := (z_rely hF2) hF h₁; clear h₁; refine goes_oper_k rfl rfl (by k_ne) (fun K hK => ?_); go_simp; refine hK _ _ ⟨by ((first | refine ds_none ?_ | refine dr_none ?_ | u_none); intro e he; have hm := mem_listed he; simp [go_sem, *] at hm), ?_⟩; clear hK K; try w_num)
      refine Goes.stop (fun w₄ h₄ => ?_)
      replace hF := z_rely hF2 hF h₄
      clear h₄
      refine ⟨rfl, fun hw => ⟨_, stepG_load_atomic (v := 0) rfl rfl (by k_ne) rfl H.f_loadU64 (x_loadU64_n L) (x_loadU64_b L) (x_loadU64_x L) .u64 (x_loadU64_f L) rfl hw.cellSt, 40, ?_⟩⟩
      clear hw
      walk_nrm
      (refine Goes.step rfl (fun _ h₁ => ?_); replace hF := (z_rely hF2) hF h₁; clear h₁; refine goes_oper_k rfl rfl (by k_ne) (fun K hK => ?_); go_simp; refine hK _ _ ⟨by ((first | refine ds_none ?_ | refine dr_none ?_ | u_none); intro e he; have hm := mem_listed he; simp [go_sem, *] at hm), ?_⟩; clear hK K; try w_num)
      (refine Goes.step rfl (fun _ h₁ => ?_); replace hF := (z_rely hF2) hF h₁; clear h₁; rw [stepG_region_end]; simp only [goes_go]; refine ⟨by ((first | refine ds_none ?_ | refine dr_none ?_ | u_none); intro e he; simp at he), ?_⟩)
      (refine Goes.step rfl (fun _ h₁ => ?_); replace hF := (z_rely hF2) hF h₁; clear h₁; rw [stepG_ret']; simp only [goes_go]; refine ⟨by ((first | refine ds_none ?_ | refine dr_none ?_ | u_none); intro e he; simp at he), ?_⟩)
      (refine Goes.step rfl (fun _ h₁ => ?_); replace hF := (z_rely hF2) hF h₁; clear h₁; refine goes_leave1 rfl rfl H.f_uLoad rfl ⟨by ((first | refine ds_none ?_ | refine dr_none ?_ | u_none); intro e he; simp at he), ?_⟩; walk_nrm)
      (refine Goes.step rfl (fun _ h₁ => ?_); replace hF := (z_rely hF2) hF h₁; clear h₁; refine goes_oper_k rfl rfl (by k_ne) (fun K hK => ?_); go_simp; refine hK _ _ ⟨by ((first | refine ds_none ?_ | refine dr_none ?_ | u_none); intro e he; have hm := mem_listed he; simp [go_sem, *] at hm), ?_⟩; clear hK K; try w_num)
      (refine Goes.step rfl (fun _ h₁ => ?_); replace hF := (z_rely hF2) hF h₁; clear h₁; refine goes_oper_k rfl rfl (by k_ne) (fun K hK => ?_); go_simp; refine hK _ _ ⟨by ((first | refine ds_none ?_ | refine dr_none ?_ | u_none); intro e he; have hm := mem_listed he; simp [go_sem, *] at hm), ?_⟩; clear hK K; try w_num)
      (refine Goes.step rfl (fun _ h₁ => ?_); replace hF := (z_rely hF2) hF h₁; clear h₁; rw [stepG_region_end]; simp only [goes_go]; refine ⟨by ((first | refine ds_none ?_ | refine dr_none ?_ | u_none); intro e he; simp at he), ?_⟩)
      (refine Goes.step rfl (fun _ h₁ => ?_); replace hF := (z_rely hF2) hF h₁; clear h₁; rw [stepG_seq]; simp only [goes_go]; refine ⟨by ((first | refine ds_none ?_ | refine dr_none ?_ | u_none); intro e he; simp at he), ?_⟩)
      (refine Goes.step rfl (fun _ h₁ => ?_); replace hF := (z_rely hF2) hF h₁; clear h₁; rw [stepG_cond (t := true) (by first | rfl | (simp [Act.eval]; omega))]; simp only [goes_go, ↓reduceIte]; refine ⟨by ((first | refine ds_none ?_ | refine dr_none ?_ | u_none); intro e he; simp at he), ?_⟩)
      (refine Goes.step rfl (fun _ h₁ => ?_); replace hF := (z_rely hF2) hF h₁; clear h₁; rw [stepG_seq]; simp only [goes_go]; refine ⟨by ((first | refine ds_none ?_ | refine dr_none ?_ | u_none); intro e he; simp at he), ?_⟩)
      (refine Goes.step rfl (fun _ h₁ => ?_); replace hF := (z_rely hF2) hF h₁; clear h₁; rw [stepG_region]; simp only [goes_go, List.size_toArray, List.length_cons, List.length_nil, Nat.zero_add, List.range, List.range.loop]; refine ⟨by ((first | refine ds_none ?_ | refine dr_none ?_ | u_none); intro e he; simp at he), ?_⟩)
      (refine Goes.stop (fun w₁ h₁ => ?_); replace hF := (z_rely hF2) hF h₁; clear h₁)
      refine ⟨rfl, _, stepG_mark0 .enable (by simp) rfl rfl (by k_ne) rfl H.f_enable (x_enable_n L) (x_enable_b L) (x_enable_x L) (x_enable_f L), 12, ?_⟩
      walk_nrm
      (refine Goes.step rfl (fun _ h₁ => ?_); replace hF := (z_rely hF2) hF h₁; clear h₁; rw [stepG_region_end]; simp only [goes_go]; refine ⟨by ((first | refine ds_none ?_ | refine dr_none ?_ | u_none); intro e he; simp at he), ?_⟩)
      (refine Goes.step rfl (fun _ h₁ => ?_); replace hF := (z_rely hF2) hF h₁; clear h₁; rw [stepG_region]; simp only [goes_go, List.size_toArray, List.length_cons, List.length_nil, Nat.reduceAdd, Nat.zero_add, List.range, List.range.loop]; refine ⟨by ((first | refine ds_none ?_ | refine dr_none ?_ | u_none); intro e he; simp at he), ?_⟩)
      (refine Goes.step rfl (fun _ h₁ => ?_); replace hF := (z_rely hF2) hF h₁; clear h₁; refine goes_oper_k rfl rfl (by k_ne) (fun K hK => ?_); go_simp; refine hK _ _ ⟨by ((first | refine ds_none ?_ | refine dr_none ?_ | u_none); intro e he; have hm := mem_listed he; simp [go_sem, *] at hm), ?_⟩; clear hK K; try w_num)
      (refine Goes.step rfl (fun _ h₁ => ?_); replace hF := (z_rely hF2) hF h₁; clear h₁; refine goes_oper_k rfl rfl (by k_ne) (fun Kx hKx => ?_); have hcv := run_convert_to_unsafe (P := c.P) H.underlying_tWgP H.underlying_tUP H.room_tWg (WgLive.cell0 hF.2).choose_spec; have hce := fun es => events_convert_to_unsafe (P := c.P) H.underlying_tWgP H.underlying_tUP H.room_tWg (WgLive.cell0 hF.2).choose_spec es; go_simp; refine hKx _ _ ⟨by ((first | refine ds_none ?_ | refine dr_none ?_ | u_none); intro ex hex; have hmx := mem_listed hex; simp [go_sem, hce] at hmx), ?_⟩; clear hKx Kx hcv hce)
      (refine Goes.stop (fun w₁ h₁ => ?_); replace hF := (z_rely hF2) hF h₁; clear h₁)
      refine ⟨rfl, _, stepG_markAt .acquire (by simp) rfl rfl (by k_ne) rfl H.f_acquire (x_acquire_n L) (x_acquire_b L) (x_acquire_x L) (x_acquire_f L) (by simp [Act.eval, stA]), mT + 10, ?_⟩
      walk_nrm
      (refine Goes.step rfl (fun _ h₁ => ?_); replace hF := (z_rely hF2) hF h₁; clear h₁; rw [stepG_region_end]; simp only [goes_go]; refine ⟨by ((first | refine ds_none ?_ | refine dr_none ?_ | u_none); intro e he; simp at he), ?_⟩)
      (refine Goes.step rfl (fun _ h₁ => ?_); replace hF := (z_rely hF2) hF h₁; clear h₁; rw [stepG_seq]; simp only [goes_go]; refine ⟨by ((first | refine ds_none ?_ | refine dr_none ?_ | u_none); intro e he; simp at he), ?_⟩)
      (refine Goes.step rfl (fun _ h₁ => ?_); replace hF := (z_rely hF2) hF h₁; clear h₁; rw [stepG_seq]; simp only [goes_go]; refine ⟨by ((first | refine ds_none ?_ | refine dr_none ?_ | u_none); intro e he; simp at he), ?_⟩)
      (refine Goes.step rfl (fun _ h₁ => ?_); replace hF := (z_rely hF2) hF h₁; clear h₁; rw [stepG_region]; simp only [goes_go, List.size_toArray, List.length_cons, List.length_nil, Nat.zero_add, List.range, List.range.loop]; refine ⟨by ((first | refine ds_none ?_ | refine dr_none ?_ | u_none); intro e he; simp at he), ?_⟩)
      (refine Goes.step rfl (fun _ h₁ => ?_); replace hF := (z_rely hF2) hF h₁; clear h₁; refine goes_oper_k rfl rfl (by k_ne) (fun K hK => ?_); go_simp; refine hK _ _ ⟨by ((first | refine ds_none ?_ | refine dr_none ?_ | u_none); intro e he; have hm := mem_listed he; simp [go_sem, *] at hm), ?_⟩; clear hK K; try w_num)
      (refine Goes.step rfl (fun _ h₁ => ?_); replace hF := (z_rely hF2) hF h₁; clear h₁; rw [stepG_region_end]; simp only [goes_go]; refine ⟨by ((first | refine ds_none ?_ | refine dr_none ?_ | u_none); intro e he; simp at he), ?_⟩)
      (refine Goes.step rfl (fun _ h₁ => ?_); replace hF := (z_rely hF2) hF h₁; clear h₁; rw [stepG_cond (t := false) (by first | rfl | (simp [Act.eval]; omega))]; simp only [goes_go, Bool.false_eq_true, ↓reduceIte]; refine ⟨by ((first | refine ds_none ?_ | refine dr_none ?_ | u_none); intro e he; simp at he), ?_⟩)
      (refine Goes.step rfl (fun _ h₁ => ?_); replace hF := (z_rely hF2) hF h₁; clear h₁; rw [stepG_skip]; simp only [goes_go]; refine ⟨by ((first | refine ds_none ?_ | refine dr_none ?_ | u_none); intro e he; simp at he), ?_⟩)
      (refine Goes.step rfl (fun _ h₁ => ?_); replace hF := (z_rely hF2) hF h₁; clear h₁; rw [stepG_ret']; simp only [goes_go]; refine ⟨by ((first | refine ds_none ?_ | refine dr_none ?_ | u_none); intro e he; simp at he), ?_⟩)
      (refine Goes.step rfl (fun _ h₁ => ?_); replace hF := (z_rely hF2) hF h₁; clear h₁; refine goes_leave0 rfl rfl H.f_wait rfl ⟨by ((first | refine ds_none ?_ | refine dr_none ?_ | u_none); intro e he; simp at he), ?_⟩; walk_nrm)
      exact hT _ hF.1 hF.2
    · refine ⟨_, stepG_cas_miss (v := (v' : Int) * KK) (old := S) (n := S + 1) rfl rfl (by k_ne) rfl H.f_casU64 (x_casU64_n L) (x_casU64_b L) (x_casU64_x L) .u64 (x_casU64_f L) rfl rfl rfl hw.cellSt (hw.thaw 0) (by rw [← hS]; simp only [KK]; omega), 20, ?_⟩
      clear hw
      walk_nrm
      (refine Goes.step rfl (fun _ h₁ => ?_); replace hF := (z_rely hF2) hF h₁; clear h₁; refine goes_oper_k rfl rfl (by k_ne) (fun K hK => ?_); go_simp; refine hK _ _ ⟨by ((first | refine ds_none ?_ | refine dr_none ?_ | u_none); intro e he; have hm := mem_listed he; simp [go_sem, *] at hm), ?_⟩; clear hK K; try w_num)
      (refine Goes.step rfl (fun _ h₁ => ?_); replace hF := (z_rely hF2) hF h₁; clear h₁; rw [stepG_region_end]; simp only [goes_go]; refine ⟨by ((first | refine ds_none ?_ | refine dr_none ?_ | u_none); intro e he; simp at he), ?_⟩)
      (refine Goes.step rfl (fun _ h₁ => ?_); replace hF := (z_rely hF2) hF h₁; clear h₁; rw [stepG_ret']; simp only [goes_go]; refine ⟨by ((first | refine ds_none ?_ | refine dr_none ?_ | u_none); intro e he; simp at he), ?_⟩)
      (refine Goes.step rfl (fun _ h₁ => ?_); replace hF := (z_rely hF2) hF h₁; clear h₁; refine goes_leave1 rfl rfl H.f_uCas rfl ⟨by ((first | refine ds_none ?_ | refine dr_none ?_ | u_none); intro e he; simp at he), ?_⟩; walk_nrm)
      (refine Goes.step rfl (fun _ h₁ => ?_); replace hF := (z_rely hF2) hF h₁; clear h₁; rw [stepG_region_end]; simp only [goes_go]; refine ⟨by ((first | refine ds_none ?_ | refine dr_none ?_ | u_none); intro e he; simp at he), ?_⟩)
      (refine Goes.step rfl (fun _ h₁ => ?_); replace hF := (z_rely hF2) hF h₁; clear h₁; rw [stepG_cond (t := false) (by first | rfl | (simp [Act.eval]; omega))]; simp only [goes_go, Bool.false_eq_true, ↓reduceIte]; refine ⟨by ((first | refine ds_none ?_ | refine dr_none ?_ | u_none); intro e he; simp at he), ?_⟩)
      (refine Goes.step rfl (fun _ h₁ => ?_); replace hF := (z_rely hF2) hF h₁; clear h₁; rw [stepG_skip]; simp only [goes_go]; refine ⟨by ((first | refine ds_none ?_ | refine dr_none ?_ | u_none); intro e he; simp at he), ?_⟩)
      (refine Goes.step rfl (fun _ h₁ => ?_); replace hF := (z_rely hF2) hF h₁; clear h₁; rw [stepG_inBlock]; simp only [goes_go]; refine ⟨by ((first | refine ds_none ?_ | refine dr_none ?_ | u_none); intro e he; simp at he), ?_⟩)
      (refine Goes.step rfl (fun _ h₁ => ?_); replace hF := (z_rely hF2) hF h₁; clear h₁; rw [stepG_inLoop]; simp only [goes_go]; refine ⟨by ((first | refine ds_none ?_ | refine dr_none ?_ | u_none); intro e he; simp at he), ?_⟩)
      refine Goes.stop (fun w₃ h₃ => ?_)
      replace hF := z_rely hF2 hF h₃
      exact ⟨_, rfl, by simp, by simp, hF⟩
end
open Go Go.Conc
open Go.ConcN hiding EvL Inv Fin
open Go.ConcR (KK wgBlock WgAt stA smA rd wr Payload Aside2 DC0)
theorem goes_mono {P : Program} {main : Bool} {R : World → World → Prop} {D : World → World → Array Event → Prop} {S S' : Goroutine → World → Prop} (h : ∀ g w, S g w → S' g w) : ∀ {m : Nat} {g : Goroutine} {w : World}, Goes P main R D S m g w → Goes P main R D S' m g w := by
  intro m
  induction m with
  | zero => exact fun {g w} hg w₁ hr => h _ _ (hg w₁ hr)
  | succ m ih =>
    intro g w hg
    rcases hg with hg | ⟨hs, hg⟩
    · exact .inl fun w₁ hr => h _ _ (hg w₁ hr)
    · refine .inr ⟨hs, fun w₁ hr => ?_⟩
      have := hg w₁ hr
      revert this
      cases stepG P main g w₁ <;> simp only [GStep.goes, imp_self]
      exact fun ⟨d, x⟩ => ⟨d, ih x⟩
section
variable {c : Cst} {cur : Option Nat} {A A' Ret : Goroutine → World → Prop} {g : Goroutine} {w : World}
theorem Cst.Seg.mono (h : ∀ g w, A g w → A' g w) (hg : c.Seg cur A g w) : c.Seg cur A' g w := hg.imp fun _ x => goes_mono h x
theorem Cst.W1.mono [Payload] (h : ∀ g w, A g w → A' g w) (hg : c.W1 A Ret g w) : c.W1 A' Ret g w := by
  refine ⟨hg.1, fun v hv hw => ?_⟩
  obtain ⟨g', h1, h2, h3⟩ := hg.2 v hv hw
  refine ⟨g', h1, h2, fun hne => (h3 hne).mono fun g w hg => ⟨hg.1, fun v hv hw => ?_⟩⟩
  obtain ⟨k1, k2⟩ := hg.2 v hv hw
  refine ⟨k1, fun hn => ?_⟩
  obtain ⟨g', k3, k4⟩ := k2 hn
  exact ⟨g', k3, k4.mono h⟩
end
def DB (S : Nat → Prop) (w w' : World) (es : Array Event) : Prop := w.heap.size ≤ w'.heap.size ∧ ∀ e ∈ es, EvO S w'.heap.size e
def RB (w w₁ : World) : Prop := ∃ d, w₁ = w.at d
theorem db_none {S : Nat → Prop} {w : World} {es : Array Event} (h : ∀ e ∈ es, False) : DB S w w es := ⟨Nat.le_refl _, fun e he => (h e he).elim⟩
theorem evO_cell {S : Nat → Prop} {k : Nat} {a : Addr} {b : Bool} (h1 : ¬ S a.block) (h2 : a.block < k) : EvO S k ⟨.cell a, b, false⟩ := by
  refine ⟨fun x hx => ?_, by simp, by simp⟩
  simp only [MemAct.ofEvent, MemAct.touch?, Option.some.injEq] at hx
  subst hx
  exact ⟨h1, h2⟩
theorem bes_goes {P : Program} {S : Nat → Prop} {R : Goroutine → World → Prop} : ∀ (m : Nat) {gs : Array Goroutine} {a : Goroutine} {w : World} {t : Trace} {q : Nat → Nat} (sl : Option (Nat × Nat)), Bes P S gs a w t q → Goes P true RB (DB S) R m a w →
    Reach P (fun m' t' => ∃ gs' a' w' q' sl', m' = crowd gs' w' sl' ∧ Bes P S gs' a' w' t' q' ∧ ∀ d, R a' (w'.at d)) (crowd gs w sl) t := by
  intro m
  induction m with
  | zero =>
    intro gs a w t q sl hB hG
    exact ⟨0, _, t, rfl, gs, a, w, q, sl, rfl, hB, fun d => hG _ ⟨d, rfl⟩⟩
  | succ m ih =>
    intro gs a w t q sl hB hG
    rcases hG with hstop | ⟨hrun, hstep⟩
    · exact ⟨0, _, t, rfl, gs, a, w, q, sl, rfl, hB, fun d => hstop _ ⟨d, rfl⟩⟩
    · obtain ⟨N, gs1, d, d', sl1, sl2, t1, q1, hr, hturn, hB2, _⟩ := own_turn _ gs a w sl t q (Nat.le_refl _) hB hrun
      refine Reach.of hr ?_
      obtain ⟨a', w', es, hgo, hD, hG'⟩ := goes_elim (hstep (w.at d') ⟨d', rfl⟩)
      obtain ⟨gs2, t2, hrunT, hB3, _⟩ := hB2.own (sl := sl2) hgo hD.1 hD.2
      exact Reach.step (hturn.trans hrunT) (ih sl2 hB3 hG')
theorem Reach.bind {P : Program} {Fin Fin' : Machine → Trace → Prop} {m : Machine} {t : Trace} (h : Reach P Fin m t) (h' : ∀ m t, Fin m t → Reach P Fin' m t) : Reach P Fin' m t := by
  obtain ⟨N, m', t', hr, hf⟩ := h
  exact Reach.of hr (h' m' t' hf)
end Go.Pt
