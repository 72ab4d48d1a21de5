/- Layer 3: the guides of a flat item; whether an item is on a guide; whether two touch. Conditions: the first guide is from 1 to 6. -/
import Derived.Test.YtkglnnkghillpaaMshZs
import Derived.Test.YtkglnnkghillpaaMshC
import Derived.Test.YtkglnnkghillpaaMshLin

namespace Go.Proofs.Ytkglnnkghillpaa
open Go Go.RowKit Amp Msh

set_option maxHeartbeats 800000 in
theorem guides_one (k p n : Int) (s : ByteArray) (w : World) (hk : k = 1) :
    Calls Try.prog 59 #[.agg #[.int .i64 k, .int .i64 p, .int .i64 n, .string s]] w fun e w' => (∃ b, e = .returned (.slice (some ⟨b, 0, none⟩) 1 1) ∧ w.heap.size ≤ b ∧ b < w'.heap.size ∧ w'.cell? ⟨b, 0, none⟩ = some (.int .i64 p)) ∧ Grew w w' := by
  subst hk
  go_enter Try.func59, Try.ntmps59
  go_wp2_with fail
  go_ret
  exact ⟨⟨_, rfl, by simp [go_sem], by simp [go_sem], by simp [go_sem]⟩, (by repeat (first | exact Grew.refl _ | refine Grew.drewN ?_ _ | refine Grew.grow ?_ _ | refine Grew.alloc ?_ _ | refine Grew.drew ?_))⟩

set_option maxHeartbeats 800000 in
theorem guides_two (k p n : Int) (s : ByteArray) (w : World) (hk : ¬ k = 1) (h1 : 1 ≤ p) (h6 : p ≤ 6) :
    Calls Try.prog 59 #[.agg #[.int .i64 k, .int .i64 p, .int .i64 n, .string s]] w fun e w' => (∃ b, e = .returned (.slice (some ⟨b, 0, none⟩) 2 2) ∧ w.heap.size ≤ b ∧ b < w'.heap.size ∧ w'.cell? ⟨b, 0, none⟩ = some (.int .i64 p) ∧ w'.cell? ⟨b, 1, none⟩ = some (.int .i64 (p + 1))) ∧ Grew w w' := by
  have e1 : (k == 1) = false := by simpa using hk
  have hw : wrap64 (p + 1) = p + 1 := by unfold wrap64; omega
  clear hk
  go_enter Try.func59, Try.ntmps59
  go_wp2_with fail
  try rw [hw]
  go_ret
  exact ⟨⟨_, rfl, by simp [go_sem], by simp [go_sem], by simp [go_sem], by simp [go_sem]⟩, (by repeat (first | exact Grew.refl _ | refine Grew.drewN ?_ _ | refine Grew.grow ?_ _ | refine Grew.alloc ?_ _ | refine Grew.drew ?_))⟩

set_option maxHeartbeats 800000 in
theorem on_any (x : It) (q : Int) (w : World) (h1 : 1 ≤ x.pos) (h6 : x.pos ≤ 6) :
    Calls Try.prog 92 #[.agg #[.int .i64 x.kind, .int .i64 x.pos, .int .i64 x.n, .string x.name], .int .i64 q] w fun e w' => e = .returned (.bool (onB x q)) ∧ Grew w w' := by
  have HW := hid fun w => rwide_any x.kind x.pos x.n x.name w
  have hv := wid_cases x.kind x.n x.name
  unfold onB
  obtain ⟨V, hV⟩ : ∃ V, wid x.kind x.n x.name = V := ⟨_, rfl⟩
  rw [hV] at HW hv ⊢
  have hv1 : 0 ≤ V := by omega
  have hv2 : V ≤ 2 := by omega
  have hw : wrap64 (x.pos + V) = x.pos + V := by unfold wrap64; omega
  clear hV hv
  by_cases hp : x.pos ≤ q
  case neg =>
    rw [decide_eq_false hp]
    have e0 : decide (x.pos ≤ q) = false := decide_eq_false hp
    clear hp
    go_enter Try.func92, Try.ntmps92
    go_wp2_with fail
    refine wp_region_gentle_lit (by kernel_rfl) (by kernel_rfl) ?_
    repeat (first | go_big_quiet_skip | (go_big_quiet_want; go_big_quiet_op; first | go_big_quiet_on | (apply Exists.intro; refine ⟨fun qq => ?_, ?_⟩; (focus ((first | (go_at_call 96; refine Calls.gentle_of (HW.out _) ?_)); rintro _ ⟨g', n', rfl⟩; exact ⟨⟨qq.g ++ g', qq.n + n'⟩, by rw [World.grow_drewN, World.grow_grow, World.drewN_drewN]; repeat (first | rw [List.append_assoc] | rw [Nat.add_assoc])⟩)); go_big_quiet_on)))
    refine wpQuiet_nil ?_
    rintro _ ⟨gg, ng, rfl⟩
    go_wp2_with fail
    go_ret
    exact ⟨rfl, (by repeat (first | exact Grew.refl _ | refine Grew.drewN ?_ _ | refine Grew.grow ?_ _ | refine Grew.alloc ?_ _ | refine Grew.drew ?_))⟩
  case pos =>
    rw [decide_eq_true hp, Bool.true_and]
    go_enter Try.func92, Try.ntmps92
    go_wp2_with fail
    refine wp_region_gentle_lit (by kernel_rfl) (by kernel_rfl) ?_
    repeat (first | go_big_quiet_skip | (go_big_quiet_want; go_big_quiet_op; first | go_big_quiet_on | (apply Exists.intro; refine ⟨fun qq => ?_, ?_⟩; (focus ((first | (go_at_call 96; refine Calls.gentle_of (HW.out _) ?_)); rintro _ ⟨g', n', rfl⟩; exact ⟨⟨qq.g ++ g', qq.n + n'⟩, by rw [World.grow_drewN, World.grow_grow, World.drewN_drewN]; repeat (first | rw [List.append_assoc] | rw [Nat.add_assoc])⟩)); go_big_quiet_on)))
    refine wpQuiet_nil ?_
    rintro _ ⟨gg, ng, rfl⟩
    go_wp2_with fail
    go_ret
    exact ⟨rfl, (by repeat (first | exact Grew.refl _ | refine Grew.drewN ?_ _ | refine Grew.grow ?_ _ | refine Grew.alloc ?_ _ | refine Grew.drew ?_))⟩

theorem touchB_of {x y : It} {q : Int} (h1 : 1 ≤ q) (h6 : q ≤ 6) (hx : onB x q = true) (hy : onB y q = true) : touchB x y = true := by
  unfold touchB
  rw [List.any_eq_true]
  refine ⟨q, ?_, by rw [hx, hy]; rfl⟩
  simp only [List.mem_cons, List.not_mem_nil, or_false]
  omega
theorem touchB_not {x y : It} (h : ∀ q : Int, 1 ≤ q → q < 7 → (onB x q && onB y q) = false) : touchB x y = false := by
  unfold touchB
  rw [List.any_eq_false]
  intro q hq
  rw [h q (by simp only [List.mem_cons, List.not_mem_nil, or_false] at hq; omega) (by simp only [List.mem_cons, List.not_mem_nil, or_false] at hq; omega)]
  exact Bool.false_ne_true
set_option maxHeartbeats 1600000 in
theorem touch_any (x y : It) (w : World) (x1 : 1 ≤ x.pos) (x6 : x.pos ≤ 6) (y1 : 1 ≤ y.pos) (y6 : y.pos ≤ 6) :
    Calls Try.prog 60 #[.agg #[.int .i64 x.kind, .int .i64 x.pos, .int .i64 x.n, .string x.name], .agg #[.int .i64 y.kind, .int .i64 y.pos, .int .i64 y.n, .string y.name]] w fun e w' => e = .returned (.bool (touchB x y)) ∧ Grew w w' := by
  have HX := hid fun (q : Int) w => on_any x q w x1 x6
  have HY := hid fun (q : Int) w => on_any y q w y1 y6
  clear x1 x6 y1 y6
  go_enter Try.func60, Try.ntmps60
  go_wp2_with fail
  go_loopw [5] (fun v wr => ∃ q : Int, 1 ≤ q ∧ q ≤ 7 ∧ v = .int .i64 q ∧ Hid (∀ r : Int, 1 ≤ r → r < q → (onB x r && onB y r) = false) ∧ Grew ((w.alloc (.cells #[.int .i64 x.kind, .int .i64 x.pos, .int .i64 x.n, .string x.name] 51)).alloc (.cells #[.int .i64 y.kind, .int .i64 y.pos, .int .i64 y.n, .string y.name] 51)) wr) (fun v _ => (7 - intOf v).toNat)
  case atStart => exact ⟨1, by omega, by omega, rfl, fun r h1 h2 => absurd h2 (by omega), Grew.refl _⟩
  case round =>
    obtain ⟨q, hq1, hq7, rfl, hr, g, n', rfl⟩ := hrel
    by_cases hlt : q ≤ 6
    case neg =>
      obtain rfl : q = 7 := by omega
      go_wp2_with fail
      rw [touchB_not hr.out]
      go_ret
      exact ⟨rfl, (by repeat (first | exact Grew.refl _ | refine Grew.drewN ?_ _ | refine Grew.grow ?_ _ | refine Grew.alloc ?_ _ | refine Grew.drew ?_))⟩
    case pos =>
      cases ha : onB x q with
      | false =>
        have HA := hid (HX.out q)
        rw [ha] at HA
        have HNO := hid (show (onB x q && onB y q) = false by rw [ha]; rfl)
        clear ha
        go_wp2_with fail
        refine (HA.out _).mono ?_
        rintro e w' ⟨rfl, g1, m1, rfl⟩
        go_wp2_with fail
        go_roundw
        case rel => exact ⟨q + 1, by omega, by omega, by go_num, fun r h1 h2 => if h : r = q then by subst h; exact HNO.out else hr.out r h1 (by omega), (by repeat (first | exact Grew.refl _ | refine Grew.drewN ?_ _ | refine Grew.grow ?_ _ | refine Grew.alloc ?_ _ | refine Grew.drew ?_))⟩
        case measure => simp [intOf]; omega
      | true =>
        cases hb : onB y q with
        | false =>
          have HA := hid (HX.out q)
          rw [ha] at HA
          have HB := hid (HY.out q)
          rw [hb] at HB
          have HNO := hid (show (onB x q && onB y q) = false by rw [ha, hb]; rfl)
          clear ha hb
          go_wp2_with fail
          refine (HA.out _).mono ?_
          rintro e w' ⟨rfl, g1, m1, rfl⟩
          go_wp2_with fail
          refine (HB.out _).mono ?_
          rintro e w' ⟨rfl, g2, m2, rfl⟩
          go_wp2_with fail
          go_roundw
          case rel => exact ⟨q + 1, by omega, by omega, by go_num, fun r h1 h2 => if h : r = q then by subst h; exact HNO.out else hr.out r h1 (by omega), (by repeat (first | exact Grew.refl _ | refine Grew.drewN ?_ _ | refine Grew.grow ?_ _ | refine Grew.alloc ?_ _ | refine Grew.drew ?_))⟩
          case measure => simp [intOf]; omega
        | true =>
          have HA := hid (HX.out q)
          rw [ha] at HA
          have HB := hid (HY.out q)
          rw [hb] at HB
          have HT := hid (touchB_of hq1 hlt ha hb)
          clear ha hb
          go_wp2_with fail
          refine (HA.out _).mono ?_
          rintro e w' ⟨rfl, g1, m1, rfl⟩
          go_wp2_with fail
          refine (HB.out _).mono ?_
          rintro e w' ⟨rfl, g2, m2, rfl⟩
          go_wp2_with fail
          rw [HT.out]
          go_ret
          exact ⟨rfl, (by repeat (first | exact Grew.refl _ | refine Grew.drewN ?_ _ | refine Grew.grow ?_ _ | refine Grew.alloc ?_ _ | refine Grew.drew ?_))⟩

end Go.Proofs.Ytkglnnkghillpaa

/- Layer 3: the columns of flat items, of the reference. Condition: the items lie in memory. -/

namespace Go.Proofs.Ytkglnnkghillpaa
open Go Go.RowKit Amp Msh

set_option maxHeartbeats 800000 in
theorem rcols_bad (g : Int) (a0 : Option Addr) (cap : Nat) (its : List It) (w : World) (hl : its.length ≤ 9223372036854775807) (hc : Its w a0 its) (hk : ¬ chkIts g its = 0) :
    Calls Try.prog 26 #[.int .i64 g, .slice a0 its.length cap] w (ListZ (colE g its) w) := by
  have HK := hid fun w' (h : Grew w w') => asked_any g a0 cap its w' hl (hc.grew h)
  have HR : Hid (colE g its = ([], chkIts g its)) := hid (by unfold colE; rw [if_neg hk])
  obtain ⟨E, hE⟩ : ∃ E, chkIts g its = E := ⟨_, rfl⟩
  rw [hE] at HK HR hk
  have e1 : (E != 0) = true := by simpa using hk
  clear hc hk hE
  go_enter Try.func26, Try.ntmps26
  go_wp2_with fail
  refine (HK.out _ (by repeat (first | exact Grew.refl _ | refine Grew.drewN ?_ _ | refine Grew.grow ?_ _ | refine Grew.alloc ?_ _ | refine Grew.drew ?_))).mono ?_
  rintro e w' ⟨rfl, g1, m1, rfl⟩
  go_wp2_with fail
  exact bodyPost_ret (v := .tuple #[.slice none 0 0, .int .i64 E]) (by simp [results, Try.results26, go_sem]) rfl ⟨⟨none, 0, by rw [HR.out]; rfl, by rw [HR.out]; exact OwnZ.nil _ _⟩, (by repeat (first | exact Grew.refl _ | refine Grew.drewN ?_ _ | refine Grew.grow ?_ _ | refine Grew.alloc ?_ _ | refine Grew.drew ?_))⟩

set_option maxRecDepth 100000 in
set_option maxHeartbeats 4000000 in
theorem rcols_main (g : Int) (a0 : Option Addr) (cap : Nat) (its : List It) (w : World) (hl : its.length ≤ 9223372036854775807) (hc : Its w a0 its) (hcap : its.length ≤ cap) (hk : chkIts g its = 0) :
    Calls Try.prog 26 #[.int .i64 g, .slice a0 its.length cap] w (ListZ (colE g its) w) := by
  have HK := hid fun w' (h : Grew w w') => asked_any g a0 cap its w' hl (hc.grew h)
  rw [hk] at HK
  obtain ⟨q1, q2, q3, q4⟩ := chkIts_zero hk
  have HR : Hid (colE g its = (colL its, 0)) := hid (by unfold colE; rw [if_pos hk])
  have HC := hid hc
  have HOK := hid q4
  have HLEN := hid (And.intro q3 hcap)
  have HG6 := hid q2
  have hl5 : its.length ≤ 5000 := q3
  clear hc hl hcap hk q1 q2 q3 q4
  go_enter Try.func26, Try.ntmps26
  go_wp2_with fail
  refine (HK.out _ (by repeat (first | exact Grew.refl _ | refine Grew.drewN ?_ _ | refine Grew.grow ?_ _ | refine Grew.alloc ?_ _ | refine Grew.drew ?_))).mono ?_
  rintro e w' ⟨rfl, g1, m1, rfl⟩
  go_wp2_with fail
  go_loopw [7, 21] (fun c v wr => ∃ (i : Nat) (ac : Option Addr) (kc : Nat) (L : List Int), i ≤ its.length ∧ v = .int .i64 i ∧ c = .slice ac L.length kc ∧ Hid (L = colL (its.take i)) ∧ Hid (OwnZ wr w.heap.size ac kc L) ∧ Grew w wr) (fun _ v _ => its.length - (intOf v).toNat)
  case atStart => exact ⟨0, none, 0, [], Nat.zero_le _, rfl, rfl, rfl, OwnZ.nil _ _, (by repeat (first | exact Grew.refl _ | refine Grew.drewN ?_ _ | refine Grew.grow ?_ _ | refine Grew.alloc ?_ _ | refine Grew.drew ?_))⟩
  case round =>
    obtain ⟨i, ac, kc, L, hi, rfl, rfl, HL, HO, g2, m2, rfl⟩ := hrel
    by_cases hlt : i < its.length
    case neg =>
      obtain rfl : i = its.length := by omega
      have hL := HL.out
      rw [List.take_length] at hL
      subst hL
      go_wp2_with fail
      exact bodyPost_ret (v := .tuple #[.slice ac (colL its).length kc, .int .i64 0]) (by simp [results, Try.results26, go_sem]) rfl ⟨⟨ac, kc, by rw [HR.out], by rw [HR.out]; exact HO.out⟩, (by repeat (first | exact Grew.refl _ | refine Grew.drewN ?_ _ | refine Grew.grow ?_ _ | refine Grew.alloc ?_ _ | refine Grew.drew ?_))⟩
    case pos =>
      obtain ⟨x, hx⟩ : ∃ x, its[i]? = some x := ⟨its[i], List.getElem?_eq_getElem hlt⟩
      obtain ⟨b, off, rfl, hb, c0, c1, c2, c3⟩ := HC.out.cells hx
      have HP := hid (ok_pos (okIts_at hx HOK.out) HG6.out)
      have hcp : (i : Int) ≤ cap := by have := HLEN.out; omega
      have HX := hid hx
      have HLT := hid hlt
      have HLl := hid (show L.length = i by rw [HL.out, colL_length, List.length_take]; omega)
      have hb1 := fun m0 : Nat => Nat.lt_add_right m0 (hb)
      have hb2 := fun m0 m1 : Nat => Nat.lt_add_right m1 (hb1 m0)
      have hb3 := fun m0 m1 m2 : Nat => Nat.lt_add_right m2 (hb2 m0 m1)
      clear hx
      go_wp2_with fail
      obtain ⟨W1, hW1⟩ : ∃ W1, W1 = ((w.grow g2).alloc (.cells #[.int .i64 x.kind, .int .i64 x.pos, .int .i64 x.n, .string x.name] 51)).drewN m2 := ⟨_, rfl⟩
      obtain ⟨b9, hb9⟩ : ∃ b9, b9 = w.heap.size + g2.length := ⟨_, rfl⟩
      have hgw : Grew w W1 := by rw [hW1]; exact (by repeat (first | exact Grew.refl _ | refine Grew.drewN ?_ _ | refine Grew.grow ?_ _ | refine Grew.alloc ?_ _ | refine Grew.drew ?_))
      have ho1 : OwnZ W1 w.heap.size ac kc L := by rw [hW1]; exact OwnZ.grew (show OwnZ (w.grow g2) w.heap.size ac kc L from HO.out) (by repeat (first | exact Grew.refl _ | refine Grew.drewN ?_ _ | refine Grew.grow ?_ _ | refine Grew.alloc ?_ _ | refine Grew.drew ?_))
      have hk : W1.cell? ⟨b9, 0, none⟩ = some (.int .i64 x.kind) ∧ W1.cell? ⟨b9, 1, none⟩ = some (.int .i64 x.pos) ∧ W1.cell? ⟨b9, 2, none⟩ = some (.int .i64 x.n) ∧ W1.cell? ⟨b9, 3, none⟩ = some (.string x.name) ∧ b9 < W1.heap.size := by rw [hW1, hb9]; simp [go_sem]
      rw [← hW1, ← hb9]
      obtain ⟨k0, k1, k2, k3, z9⟩ := hk
      have HGW := hid hgw
      have HO := hid ho1
      have HI1 := hid (HC.out.grew hgw)
      clear hW1 hb9 hgw ho1 c0 c1 c2 c3 hb hb1 hb2 hb3
      have z91 := fun m0 : Nat => Nat.lt_add_right m0 (z9)
      have z92 := fun m0 m1 : Nat => Nat.lt_add_right m1 (z91 m0)
      have z93 := fun m0 m1 m2 : Nat => Nat.lt_add_right m2 (z92 m0 m1)
      go_loopw [10, 30] (fun m v wr => ∃ (k : Nat) (M : Int), k ≤ i ∧ v = .int .i64 k ∧ m = .int .i64 M ∧ Hid (M = colOf ((colP (its.take i)).take k) x) ∧ Grew W1 wr) (fun _ v _ => i - (intOf v).toNat)
      case atStart => exact ⟨0, 1, Nat.zero_le _, rfl, rfl, rfl, Grew.refl _⟩
      case round =>
        obtain ⟨k, M, hki, rfl, rfl, HM, g3, m3, rfl⟩ := hrel
        by_cases hkl : k < i
        case pos =>
          have hkn : k < its.length := by omega
          obtain ⟨y, hy⟩ : ∃ y, its[k]? = some y := ⟨its[k], List.getElem?_eq_getElem hkn⟩
          have hyt : (its.take i)[k]? = some y := by rw [List.getElem?_take_of_lt hkl]; exact hy
          have hkL : k < L.length := by rw [HLl.out]; exact hkl
          obtain ⟨c, hcL⟩ : ∃ c, L[k]? = some c := ⟨L[k], List.getElem?_eq_getElem hkL⟩
          have hcL2 : (colL (its.take i))[k]? = some c := by rw [← HL.out]; exact hcL
          have hcb := colL_bound hcL2
          have hcb2 : (its.take i).length ≤ 5000 := by rw [List.length_take]; omega
          have hc1 : 1 ≤ c := hcb.1
          have hc5 : c ≤ 5000 := by omega
          have hst := take_snoc (colP_at hyt hcL2)
          have HY := hid (ok_pos (okIts_at hy HOK.out) HG6.out)
          obtain ⟨b', off', hbb, hq, d0, d1, d2, d3⟩ := HI1.out.cells hy
          cases hbb
          obtain ⟨bo, oo, rfl, hbo, f0⟩ := HO.out.zs.cells hcL
          have HT := hid fun w' => touch_any x y w' HP.out.1 HP.out.2 HY.out.1 HY.out.2
          have HST := hid hst
          have HKK := hid (And.intro hkl hkn)
          have hw : wrap64 (c + 1) = c + 1 := by unfold wrap64; omega
          have hq1 := fun m0 : Nat => Nat.lt_add_right m0 (hq)
          have hq2 := fun m0 m1 : Nat => Nat.lt_add_right m1 (hq1 m0)
          have hq3 := fun m0 m1 m2 : Nat => Nat.lt_add_right m2 (hq2 m0 m1)
          have hbo1 := fun m0 : Nat => Nat.lt_add_right m0 (hbo)
          have hbo2 := fun m0 m1 : Nat => Nat.lt_add_right m1 (hbo1 m0)
          have hbo3 := fun m0 m1 m2 : Nat => Nat.lt_add_right m2 (hbo2 m0 m1)
          clear hy hyt hcL hcL2 hcb hcb2 hst hkn
          cases ht : touchB x y with
          | false =>
            have hT := HT.out
            simp only [ht] at hT
            have HT := hid hT
            have HN := hid (show colOf ((colP (its.take i)).take (k + 1)) x = M by rw [HST.out, colOf_snoc, if_neg (by rw [ht]; exact Bool.false_ne_true), HM.out])
            clear ht hT hw
            go_wp2_with fail
            refine (HT.out _).mono ?_
            rintro e w' ⟨rfl, g4, m4, rfl⟩
            go_wp2_with fail
            go_roundw
            case rel => exact ⟨k + 1, M, by omega, by go_num, rfl, HN.out.symm, (by repeat (first | exact Grew.refl _ | refine Grew.drewN ?_ _ | refine Grew.grow ?_ _ | refine Grew.alloc ?_ _ | refine Grew.drew ?_))⟩
            case measure => simp [intOf]; omega
          | true =>
            have hT := HT.out
            simp only [ht] at hT
            have HT := hid hT
            have HN := hid (show colOf ((colP (its.take i)).take (k + 1)) x = max M (c + 1) by rw [HST.out, colOf_snoc, if_pos ht, HM.out])
            clear ht hT
            go_wp2_with fail
            refine (HT.out _).mono ?_
            rintro e w' ⟨rfl, g4, m4, rfl⟩
            go_wp2_with fail
            go_roundw
            case rel => exact ⟨k + 1, max M (c + 1), by omega, by go_num, by congr 1; split <;> omega, HN.out.symm, (by repeat (first | exact Grew.refl _ | refine Grew.drewN ?_ _ | refine Grew.grow ?_ _ | refine Grew.alloc ?_ _ | refine Grew.drew ?_))⟩
            case measure => simp [intOf]; omega
        case neg =>
          obtain rfl : k = i := by omega
          have HN := hid (show L ++ [M] = colL (its.take (k + 1)) by
            have e : (colP (its.take k)).take k = colP (its.take k) := List.take_of_length_le (by rw [colP_length, List.length_take]; omega)
            rw [HL.out, HM.out, e, take_snoc HX.out, colL_snoc])
          clear hkl hki
          go_wp2_with (at_builtin; go_loud (refine wpList_append_z rfl _ _ rfl w.heap.size ac kc L rfl (HO.out.grew (by repeat (first | exact Grew.refl _ | refine Grew.drewN ?_ _ | refine Grew.grow ?_ _ | refine Grew.alloc ?_ _ | refine Grew.drew ?_))) _ 1 M rfl ?cz ?mx ?bs ?_))
          case cz => simp [go_sem]
          case mx => have := HLl.out; have := HLT.out; omega
          case bs => have := HGW.out.size; simp [go_sem]; omega
          · intro a4 k4 wB hownB hgrowB hdrB
            have hgB : Grew w wB := Grew.by (w' := _) (HGW.out.trans (by repeat (first | exact Grew.refl _ | refine Grew.drewN ?_ _ | refine Grew.grow ?_ _ | refine Grew.alloc ?_ _ | refine Grew.drew ?_))) hgrowB hdrB (fun jj hjj => ownsRow_above HO.out jj hjj)
            have HGB := hid hgB
            have HOB := hid hownB
            clear hgrowB hdrB hgB hownB
            go_wp2_with fail
            go_roundw
            case rel => exact ⟨k + 1, a4, k4, L ++ [M], by have := HLT.out; omega, by go_num, by simp, HN.out, HOB.out, HGB.out⟩
            case measure => have := HLT.out; simp [intOf]; omega
theorem rcols_any (g : Int) (a0 : Option Addr) (cap : Nat) (its : List It) (w : World) (hl : its.length ≤ 9223372036854775807) (hc : Its w a0 its) (hcap : its.length ≤ cap) :
    Calls Try.prog 26 #[.int .i64 g, .slice a0 its.length cap] w (ListZ (colE g its) w) := by
  by_cases hk : chkIts g its = 0
  · exact rcols_main g a0 cap its w hl hc hcap hk
  · exact rcols_bad g a0 cap its w hl hc hk

end Go.Proofs.Ytkglnnkghillpaa
