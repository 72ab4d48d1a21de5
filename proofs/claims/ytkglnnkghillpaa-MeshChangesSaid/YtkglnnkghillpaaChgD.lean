/- Layer 3: a list of items without one of them, of the reference. Condition: the items lie in memory. -/
import Derived.Test.YtkglnnkghillpaaChgC
namespace Go.Proofs.Ytkglnnkghillpaa
open Go Go.RowKit Amp Msh

theorem Its.take {w : World} {g o : Nat} {l : List It} (h : Its w (some ⟨g, o, none⟩) l) (j : Nat) : Its w (some ⟨g, o, none⟩) (l.take j) := by
  rcases h with rfl | ⟨b, off, e, hb, hc⟩
  · exact .inl (by simp)
  · refine .inr ⟨b, off, e, hb, fun i z hz => hc i z ?_⟩
    rw [List.getElem?_take] at hz
    split at hz
    · exact hz
    · cases hz
theorem Its.drop {w : World} {g o : Nat} {l : List It} (h : Its w (some ⟨g, 0, none⟩) l) (j : Nat) (ho : j < l.length → o = j * 4) : Its w (some ⟨g, o, none⟩) (l.drop j) := by
  by_cases hj : j < l.length
  case neg => exact .inl (List.drop_of_length_le (by omega))
  case pos =>
    obtain rfl := ho hj
    rcases h with rfl | ⟨b, off, e, hb, hc⟩
    · simp at hj
    · injection e with e
      injection e with e1 e2
      subst e1
      subst e2
      refine .inr ⟨g, j * 4, rfl, hb, fun i z hz => ?_⟩
      rw [List.getElem?_drop] at hz
      have := hc _ z hz
      rw [show 0 + (j + i) * 4 = j * 4 + i * 4 by omega] at this
      exact this
theorem run_append_its {w : World} (base : Nat) (a0 : Option Addr) (k0 : Nat) (xs : List It) (hown : OwnI w base a0 k0 xs) (ad : Addr) (n c : Nat) (l : List It) (hn : l.length = n) (hnews : Its w (some ad) l) (hmax : xs.length + l.length ≤ 100000) (hbase : base ≤ w.heap.size) (ty : TypeId) :
    ∃ v' w', (Builtin.append_ #[22, 22] ty #[.slice a0 xs.length k0, .slice (some ad) n c]).run Try.prog w = .ok v' w' ∧ NewI base (xs ++ l) v' w' ∧ w.grownBy w' (Value.slice a0 xs.length k0).ownBlock ∧ w.drawn ≤ w'.drawn := by
  subst hn
  obtain ⟨i0, hi, hz0, hz1, hz2⟩ := info_parts info_it
  obtain ⟨v', w', hr, ho, hg, _, hd⟩ := run_append_behind (P := Try.prog) w base 22 ty 51 i0 (.agg #[.int .i64 0, .int .i64 0, .int .i64 0, .string ⟨#[]⟩]) 4 40 Try.underlying22 hi hz0 hz1 hz2 rfl (by decide) _ _ (itsCells xs) hown ad l.length c (itsCells l) (itsCells_length l) (its_news hnews ad rfl) (fun u hu => itsCells_one hu) (by unfold maxLen; omega) (by omega) hbase
  obtain ⟨a2, k2, rfl⟩ := ownsRow_slice ho
  rw [show xs.length + l.length = (xs ++ l).length by simp] at ho hr
  rw [← itsCells_app] at ho
  exact ⟨_, w', hr, ⟨a2, k2, rfl, ho⟩, hg, hd⟩
/-- The worlds while a list without one item is made. -/
def ClsW (w : World) (L : Nat → Prop) (W : World) : Prop := Grew w W ∧ (¬ L 0 → W.heap.size = w.heap.size) ∧ (L 0 → ¬ L 4 → W.heap[w.heap.size]? = some (.cells #[] 51))
theorem ClsW.pure {w W : World} {L : Nat → Prop} {i : Nat} (h : ClsW w L W) (hi : i ≠ 0) : ClsW w (fun j => L j ∨ j = i) W :=
  ⟨h.1, fun hn => h.2.1 fun x => hn (.inl x), fun h0 hn => h.2.2 (h0.elim (fun x => x) fun e => absurd e.symm hi) fun x => hn (.inl x)⟩
theorem ownI_of {w : World} {base b : Nat} (h : w.heap[b]? = some (.cells #[] 51)) (hB : base ≤ b) : OwnI w base (some ⟨b, 0, none⟩) 0 [] :=
  ⟨rfl, .inr ⟨b, 0, #[], rfl, hB, h, Nat.le_refl _, by decide, rfl, rfl⟩⟩
theorem eraseIdx_eq {α : Type} (l : List α) (i : Nat) : l.eraseIdx i = l.take i ++ l.drop (i + 1) := List.eraseIdx_eq_take_drop_succ l i

set_option maxRecDepth 100000 in
set_option maxHeartbeats 1600000 in
theorem without_any (g k0 i : Nat) (l : List It) (w : World) (hl : l.length ≤ 5000) (hi : i < l.length) (hk : l.length ≤ k0) (hI : Its w (some ⟨g, 0, none⟩) l) :
    Calls Try.prog 82 #[.slice (some ⟨g, 0, none⟩) l.length k0, .int .i64 i] w fun e w' => (∃ a2 k2, e = .returned (.slice a2 (l.eraseIdx i).length k2) ∧ OwnI w' w.heap.size a2 k2 (l.eraseIdx i)) ∧ Grew w w' := by
  have HI := hid hI
  have hik : (i : Int) ≤ k0 := by omega
  have hil : (i : Int) + 1 ≤ l.length := by omega
  have hz : k0 ≠ 0 := by omega
  clear hI
  go_enter Try.func82, Try.ntmps82
  go_wp2_with fail
  refine R4.wp_region_slotsC 9 (fun ix vs W => match ix with | 0 => vs 0 = .slice (some ⟨w.heap.size, 0, none⟩) 0 0 | 1 => vs 1 = .slice (some ⟨g, 0, none⟩) l.length k0 | 2 => vs 2 = .int .i64 i | 3 => ∃ c : Nat, vs 3 = .slice (some ⟨g, 0, none⟩) i c | 4 => NewI w.heap.size (l.take i) (vs 4) W | 5 => vs 5 = .slice (some ⟨g, 0, none⟩) l.length k0 | 6 => vs 6 = .int .i64 i | 7 => vs 7 = .int .i64 ((i : Int) + 1) | 8 => ∃ o c : Nat, vs 8 = .slice (some ⟨g, o, none⟩) (l.length - (i + 1)) c ∧ (i + 1 < l.length → o = (i + 1) * 4) | _ => True) (fun L W => ClsW w L W) (by kernel_rfl) (by kernel_rfl) ?slst ?sldep ⟨(Grew.refl _).drew, fun _ => rfl, fun h => h.elim⟩ ?slop ?slq
  case slst =>
    intro ix vs W W' h hg
    match ix, h with
    | 0, h => exact h
    | 1, h => exact h
    | 2, h => exact h
    | 3, h => exact h
    | 4, h => exact NewI.grew h hg
    | 5, h => exact h
    | 6, h => exact h
    | 7, h => exact h
    | 8, h => exact h
    | _ + 9, _ => trivial
  case sldep =>
    intro ix o vs vs' W hix ho h hv hn
    match ix, hix, ho, h, hv with
    | 0, _, _, h, hv => exact Eq.trans hv h
    | 1, _, _, h, hv => exact Eq.trans hv h
    | 2, _, _, h, hv => exact Eq.trans hv h
    | 3, _, _, h, hv => show ∃ c : Nat, vs' 3 = .slice (some ⟨g, 0, none⟩) i c; rw [hv]; exact h
    | 4, _, _, h, hv => show NewI w.heap.size (l.take i) (vs' 4) W; rw [hv]; exact h
    | 5, _, _, h, hv => exact Eq.trans hv h
    | 6, _, _, h, hv => exact Eq.trans hv h
    | 7, _, _, h, hv => exact Eq.trans hv h
    | 8, _, _, h, hv => show ∃ o c : Nat, vs' 8 = .slice (some ⟨g, o, none⟩) (l.length - (i + 1)) c ∧ (i + 1 < l.length → o = (i + 1) * 4); rw [hv]; exact h
    | kx + 9, hix, _, _, _ => exact absurd hix (by omega)
  case slop =>
    intro ix o hix ho vs W L hg hL hn hall hdown
    match ix, hix, ho, hL with
    | 0, _, ho, hL =>
      obtain rfl := Option.some.inj ho
      change R4.Oper.slotAt _ _ { tmps := _, defers := _ } _ _
      -- hL
      have hs := hg.2.1 hL
      go_simp
      exact ⟨⟨hg.1.trans (by repeat (first | exact Grew.refl _ | refine Grew.drewN ?_ _ | refine Grew.grow ?_ _ | refine Grew.alloc ?_ _ | refine Grew.drew ?_)), fun hn => absurd (.inr rfl) hn, fun _ _ => by rw [← hs]; exact heap_new _ _⟩, by first | exact R4.upd_same _ _ _ | rw [R4.upd_same, hs], .inl (by repeat (first | exact Grew.refl _ | refine Grew.drewN ?_ _ | refine Grew.grow ?_ _ | refine Grew.alloc ?_ _ | refine Grew.drew ?_))⟩
    | 1, _, ho, _ =>
      obtain rfl := Option.some.inj ho
      change R4.Oper.slotAt _ _ { tmps := _, defers := _ } _ _
      go_simp
      exact ⟨ClsW.pure hg (by decide), R4.upd_same _ _ _, .inl (Grew.refl _)⟩
    | 2, _, ho, _ =>
      obtain rfl := Option.some.inj ho
      change R4.Oper.slotAt _ _ { tmps := _, defers := _ } _ _
      go_simp
      exact ⟨ClsW.pure hg (by decide), R4.upd_same _ _ _, .inl (Grew.refl _)⟩
    | 3, _, ho, _ =>
      obtain rfl := Option.some.inj ho
      have hn1 := (hn 1 (by decide)).2
      have hn2 := (hn 2 (by decide)).2
      try dsimp only at hn1 hn2
      change R4.Oper.slotAt _ _ (Act.put (Act.put _ (some 6) (vs 1)) (some 7) (vs 2)) _ _
      conv => arg 3; rw [hn1, hn2]
      clear hn1 hn2
      go_simp
      exact ⟨ClsW.pure hg (by decide), by rw [R4.upd_same]; exact ⟨_, rfl⟩, .inl (Grew.refl _)⟩
    | 4, _, ho, hL =>
      obtain rfl := Option.some.inj ho
      have hn0 := (hn 0 (by decide)).2
      have hn3 := (hn 3 (by decide)).2
      try dsimp only at hn0 hn3
      change R4.Oper.slotAt _ _ (Act.put (Act.put _ (some 5) (vs 0)) (some 8) (vs 3)) _ _
      conv => arg 3; rw [hn0]
      clear hn0
      -- hL
      obtain ⟨c3, e3⟩ := hn3
      conv => arg 3; rw [e3]
      clear e3
      have hb0 := hg.2.2 (hn 0 (by decide)).1 hL
      refine R4.slot_append (v := .slice (some ⟨w.heap.size, 0, none⟩) 0 0) (vx := .slice (some ⟨g, 0, none⟩) i c3) _ _ _ rfl rfl rfl ?_
      have ho := ownI_of (base := w.heap.size) hb0 (Nat.le_refl _)
      refine (run_append_its w.heap.size _ 0 [] ho ⟨g, 0, none⟩ i c3 (l.take i) (by rw [List.length_take]; omega) ((HI.out.grew hg.1).take i) (by rw [List.length_take, List.length_nil]; omega) hg.1.size _).imp fun v' h => h.imp fun W' h => ⟨h.1, ⟨Grew.by hg.1 h.2.2.1 h.2.2.2 (fun jj hjj => ownsRow_above ho jj hjj), fun hn0 => absurd (.inl (hn 0 (by decide)).1) hn0, fun _ hn4 => absurd (.inr rfl) hn4⟩, ?_, .inr fun jx hjx hLj => ?_⟩
      · show NewI _ _ (R4.upd vs 4 v' 4) W'
        rw [R4.upd_same]
        exact h.2.1
      · have hv := hall jx hjx hLj
        match jx, hjx, hv, hLj with
        | 0, _, hv, _ => exact hv
        | 1, _, hv, _ => exact hv
        | 2, _, hv, _ => exact hv
        | 3, _, hv, _ => exact hv
        | 4, _, hv, hLj => exact absurd hLj hL
        | 5, _, hv, _ => exact hv
        | 6, _, hv, _ => exact hv
        | 7, _, hv, _ => exact hv
        | 8, _, hv, _ => exact hv
        | kx + 9, hjx, _, _ => exact absurd hjx (by omega)
    | 5, _, ho, _ =>
      obtain rfl := Option.some.inj ho
      change R4.Oper.slotAt _ _ { tmps := _, defers := _ } _ _
      go_simp
      exact ⟨ClsW.pure hg (by decide), R4.upd_same _ _ _, .inl (Grew.refl _)⟩
    | 6, _, ho, _ =>
      obtain rfl := Option.some.inj ho
      change R4.Oper.slotAt _ _ { tmps := _, defers := _ } _ _
      go_simp
      exact ⟨ClsW.pure hg (by decide), R4.upd_same _ _ _, .inl (Grew.refl _)⟩
    | 7, _, ho, _ =>
      obtain rfl := Option.some.inj ho
      have hn6 := (hn 6 (by decide)).2
      try dsimp only at hn6
      change R4.Oper.slotAt _ _ (Act.put _ (some 11) (vs 6)) _ _
      conv => arg 3; rw [hn6]
      clear hn6
      have hw1 : IntKind.i64.wrap ((i : Int) + 1) = (i : Int) + 1 := by rw [IntKind.wrap_i64]; omega
      go_simp
      exact ⟨ClsW.pure hg (by decide), R4.upd_same _ _ _, .inl (Grew.refl _)⟩
    | 8, _, ho, _ =>
      obtain rfl := Option.some.inj ho
      have hn5 := (hn 5 (by decide)).2
      have hn7 := (hn 7 (by decide)).2
      try dsimp only at hn5 hn7
      change R4.Oper.slotAt _ _ (Act.put (Act.put _ (some 10) (vs 5)) (some 12) (vs 7)) _ _
      conv => arg 3; rw [hn5, hn7]
      clear hn5 hn7
      go_simp
      refine ⟨ClsW.pure hg (by decide), ?_, .inl (Grew.refl _)⟩
      rw [R4.upd_same]
      by_cases hk8 : k0 = i + 1
      · exact ⟨0, ⟨_, by rw [if_pos hk8]⟩, fun h => absurd h (by omega)⟩
      · exact ⟨(i + 1) * 4, ⟨_, by rw [if_neg hk8]⟩, fun _ => rfl⟩
    | kx + 9, hix, _, _ => exact absurd hix (by omega)
  case slq =>
    intro vs Wj hC hn
    have hn0 := hn 0 (by decide) (by decide)
    have hn1 := hn 1 (by decide) (by decide)
    have hn2 := hn 2 (by decide) (by decide)
    have hn3 := hn 3 (by decide) (by decide)
    have hn4 := hn 4 (by decide) (by decide)
    have hn5 := hn 5 (by decide) (by decide)
    have hn6 := hn 6 (by decide) (by decide)
    have hn7 := hn 7 (by decide) (by decide)
    have hn8 := hn 8 (by decide) (by decide)
    change wpList _ _ _ _ (Act.put (Act.put (Act.put (Act.put (Act.put (Act.put (Act.put (Act.put (Act.put _ (some 5) (vs 0)) (some 6) (vs 1)) (some 7) (vs 2)) (some 8) (vs 3)) (some 9) (vs 4)) (some 10) (vs 5)) (some 11) (vs 6)) (some 12) (vs 7)) (some 13) (vs 8)) _
    rw [hn0, hn1, hn2, hn5, hn6, hn7]
    clear hn hn0 hn1 hn2 hn5 hn6 hn7
    simp only [Act.put, List.setIfInBounds_toArray, List.set_cons_zero, List.set_cons_succ, List.drop_succ_cons, List.drop_zero]
    obtain ⟨a4, k4, e4, ho4⟩ := hn4
    obtain ⟨o8, c8, e8, ho8⟩ := hn8
    rw [e4, e8]
    have HO := hid ho4
    have HG := hid hC.1
    have HD := hid ((HI.out.grew hC.1).drop (i + 1) (o := o8) ho8)
    clear hC ho4 ho8 e4 e8 hn3
    obtain ⟨D, hD⟩ : ∃ D, l.drop (i + 1) = D := ⟨_, rfl⟩
    obtain ⟨T, hT⟩ : ∃ T, l.take i = T := ⟨_, rfl⟩
    have hDl : l.length - (i + 1) = D.length := by rw [← hD, List.length_drop]
    have hTl : T.length ≤ 5000 := by rw [← hT, List.length_take]; omega
    have hDl2 : D.length ≤ 5000 := by omega
    rw [hD] at HD
    rw [hT] at HO ⊢
    rw [hDl]
    have HE := hid (show l.eraseIdx i = T ++ D by rw [← hT, ← hD]; exact eraseIdx_eq l i)
    clear hD hT hDl
    go_wp2_with (at_builtin; go_loud (refine wpList_append_its rfl _ _ rfl w.heap.size a4 k4 T rfl HO.out (some ⟨g, o8, none⟩) c8 D rfl (fun e => by cases e) (its_news HD.out) ?hmx ?hbs ?_))
    case hmx => omega
    case hbs => exact HG.out.size
    · intro a5 k5 wB hownB hgrowB hdrB
      have HGB := hid (show Grew w wB from Grew.by (w' := _) HG.out hgrowB hdrB (fun jj hjj => ownsRow_above HO.out jj hjj))
      have HOB := hid hownB
      clear hgrowB hdrB hownB
      go_wp2_with fail
      exact bodyPost_ret (v := .slice a5 (T ++ D).length k5) (by simp [results, Try.results82, go_sem]) rfl ⟨⟨a5, k5, by rw [HE.out], by rw [HE.out]; exact HOB.out⟩, HGB.out⟩

end Go.Proofs.Ytkglnnkghillpaa
