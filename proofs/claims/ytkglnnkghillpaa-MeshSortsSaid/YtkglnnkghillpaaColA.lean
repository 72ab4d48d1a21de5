/- Layer 3: the guides of a flat item; whether an item is on a guide; whether two touch. Conditions: the first guide is from 1 to 6. -/
import Derived.Test.YtkglnnkghillpaaMshZs
import Derived.Test.YtkglnnkghillpaaMshC
import Derived.Test.YtkglnnkghillpaaMshCol
namespace Go.Proofs.Ytkglnnkghillpaa
open Go Go.RowKit Amp Msh

set_option maxHeartbeats 800000 in
theorem guides_one (k p n : Int) (s : ByteArray) (w : World) (hk : k = 1) :
    Calls Try.prog 59 #[.agg #[.int .i64 k, .int .i64 p, .int .i64 n, .string s]] w fun e w' => (∃ b, e = .returned (.slice (some ⟨b, 0, none⟩) 1 1) ∧ w.heap.size ≤ b ∧ b < w'.heap.size ∧ w'.cell? ⟨b, 0, none⟩ = some (.int .i64 p)) ∧ Grew w w' := by
  subst hk
  go_enter Try.func59, Try.ntmps59
  go_wp2_with fail
  go_ret
  exact ⟨⟨_, rfl, by simp [go_sem], by simp [go_sem], by simp [go_sem]⟩, (by repeat (first | exact Grew.refl _ | refine Grew.drewN ?_ _ | refine Grew.grow ?_ _ | refine Grew.alloc ?_ _ | refine Grew.drew ?_))⟩

set_option maxHeartbeats 800000 in
theorem guides_two (k p n : Int) (s : ByteArray) (w : World) (hk : ¬ k = 1) (h1 : 1 ≤ p) (h6 : p ≤ 6) :
    Calls Try.prog 59 #[.agg #[.int .i64 k, .int .i64 p, .int .i64 n, .string s]] w fun e w' => (∃ b, e = .returned (.slice (some ⟨b, 0, none⟩) 2 2) ∧ w.heap.size ≤ b ∧ b < w'.heap.size ∧ w'.cell? ⟨b, 0, none⟩ = some (.int .i64 p) ∧ w'.cell? ⟨b, 1, none⟩ = some (.int .i64 (p + 1))) ∧ Grew w w' := by
  have e1 : (k == 1) = false := by simpa using hk
  have hw : wrap64 (p + 1) = p + 1 := by unfold wrap64; omega
  clear hk
  go_enter Try.func59, Try.ntmps59
  go_wp2_with fail
  try rw [hw]
  go_ret
  exact ⟨⟨_, rfl, by simp [go_sem], by simp [go_sem], by simp [go_sem], by simp [go_sem]⟩, (by repeat (first | exact Grew.refl _ | refine Grew.drewN ?_ _ | refine Grew.grow ?_ _ | refine Grew.alloc ?_ _ | refine Grew.drew ?_))⟩

set_option maxHeartbeats 800000 in
theorem on_any (x : It) (q : Int) (w : World) (h1 : 1 ≤ x.pos) (h6 : x.pos ≤ 6) :
    Calls Try.prog 92 #[.agg #[.int .i64 x.kind, .int .i64 x.pos, .int .i64 x.n, .string x.name], .int .i64 q] w fun e w' => e = .returned (.bool (onB x q)) ∧ Grew w w' := by
  have HW := hid fun w => rwide_any x.kind x.pos x.n x.name w
  have hv := wid_cases x.kind x.n x.name
  unfold onB
  obtain ⟨V, hV⟩ : ∃ V, wid x.kind x.n x.name = V := ⟨_, rfl⟩
  rw [hV] at HW hv ⊢
  have hv1 : 0 ≤ V := by omega
  have hv2 : V ≤ 2 := by omega
  have hw : wrap64 (x.pos + V) = x.pos + V := by unfold wrap64; omega
  clear hV hv
  by_cases hp : x.pos ≤ q
  case neg =>
    rw [decide_eq_false hp]
    have e0 : decide (x.pos ≤ q) = false := decide_eq_false hp
    clear hp
    go_enter Try.func92, Try.ntmps92
    go_wp2_with fail
    refine wp_region_gentle_lit (by kernel_rfl) (by kernel_rfl) ?_
    repeat (first | go_big_quiet_skip | (go_big_quiet_want; go_big_quiet_op; first | go_big_quiet_on | (apply Exists.intro; refine ⟨fun qq => ?_, ?_⟩; (focus ((first | (go_at_call 96; refine Calls.gentle_of (HW.out _) ?_)); rintro _ ⟨g', n', rfl⟩; exact ⟨⟨qq.g ++ g', qq.n + n'⟩, by rw [World.grow_drewN, World.grow_grow, World.drewN_drewN]; repeat (first | rw [List.append_assoc] | rw [Nat.add_assoc])⟩)); go_big_quiet_on)))
    refine wpQuiet_nil ?_
    rintro _ ⟨gg, ng, rfl⟩
    go_wp2_with fail
    go_ret
    exact ⟨rfl, (by repeat (first | exact Grew.refl _ | refine Grew.drewN ?_ _ | refine Grew.grow ?_ _ | refine Grew.alloc ?_ _ | refine Grew.drew ?_))⟩
  case pos =>
    rw [decide_eq_true hp, Bool.true_and]
    go_enter Try.func92, Try.ntmps92
    go_wp2_with fail
    refine wp_region_gentle_lit (by kernel_rfl) (by kernel_rfl) ?_
    repeat (first | go_big_quiet_skip | (go_big_quiet_want; go_big_quiet_op; first | go_big_quiet_on | (apply Exists.intro; refine ⟨fun qq => ?_, ?_⟩; (focus ((first | (go_at_call 96; refine Calls.gentle_of (HW.out _) ?_)); rintro _ ⟨g', n', rfl⟩; exact ⟨⟨qq.g ++ g', qq.n + n'⟩, by rw [World.grow_drewN, World.grow_grow, World.drewN_drewN]; repeat (first | rw [List.append_assoc] | rw [Nat.add_assoc])⟩)); go_big_quiet_on)))
    refine wpQuiet_nil ?_
    rintro _ ⟨gg, ng, rfl⟩
    go_wp2_with fail
    go_ret
    exact ⟨rfl, (by repeat (first | exact Grew.refl _ | refine Grew.drewN ?_ _ | refine Grew.grow ?_ _ | refine Grew.alloc ?_ _ | refine Grew.drew ?_))⟩

theorem touchB_of {x y : It} {q : Int} (h1 : 1 ≤ q) (h6 : q ≤ 6) (hx : onB x q = true) (hy : onB y q = true) : touchB x y = true := by
  unfold touchB
  rw [List.any_eq_true]
  refine ⟨q, ?_, by rw [hx, hy]; rfl⟩
  simp only [List.mem_cons, List.not_mem_nil, or_false]
  omega
theorem touchB_not {x y : It} (h : ∀ q : Int, 1 ≤ q → q < 7 → (onB x q && onB y q) = false) : touchB x y = false := by
  unfold touchB
  rw [List.any_eq_false]
  intro q hq
  rw [h q (by simp only [List.mem_cons, List.not_mem_nil, or_false] at hq; omega) (by simp only [List.mem_cons, List.not_mem_nil, or_false] at hq; omega)]
  exact Bool.false_ne_true
set_option maxHeartbeats 1600000 in
theorem touch_any (x y : It) (w : World) (x1 : 1 ≤ x.pos) (x6 : x.pos ≤ 6) (y1 : 1 ≤ y.pos) (y6 : y.pos ≤ 6) :
    Calls Try.prog 60 #[.agg #[.int .i64 x.kind, .int .i64 x.pos, .int .i64 x.n, .string x.name], .agg #[.int .i64 y.kind, .int .i64 y.pos, .int .i64 y.n, .string y.name]] w fun e w' => e = .returned (.bool (touchB x y)) ∧ Grew w w' := by
  have HX := hid fun (q : Int) w => on_any x q w x1 x6
  have HY := hid fun (q : Int) w => on_any y q w y1 y6
  clear x1 x6 y1 y6
  go_enter Try.func60, Try.ntmps60
  go_wp2_with fail
  go_loopw [5] (fun v wr => ∃ q : Int, 1 ≤ q ∧ q ≤ 7 ∧ v = .int .i64 q ∧ Hid (∀ r : Int, 1 ≤ r → r < q → (onB x r && onB y r) = false) ∧ Grew ((w.alloc (.cells #[.int .i64 x.kind, .int .i64 x.pos, .int .i64 x.n, .string x.name] 51)).alloc (.cells #[.int .i64 y.kind, .int .i64 y.pos, .int .i64 y.n, .string y.name] 51)) wr) (fun v _ => (7 - intOf v).toNat)
  case atStart => exact ⟨1, by omega, by omega, rfl, fun r h1 h2 => absurd h2 (by omega), Grew.refl _⟩
  case round =>
    obtain ⟨q, hq1, hq7, rfl, hr, g, n', rfl⟩ := hrel
    by_cases hlt : q ≤ 6
    case neg =>
      obtain rfl : q = 7 := by omega
      go_wp2_with fail
      rw [touchB_not hr.out]
      go_ret
      exact ⟨rfl, (by repeat (first | exact Grew.refl _ | refine Grew.drewN ?_ _ | refine Grew.grow ?_ _ | refine Grew.alloc ?_ _ | refine Grew.drew ?_))⟩
    case pos =>
      cases ha : onB x q with
      | false =>
        have HA := hid (HX.out q)
        rw [ha] at HA
        have HNO := hid (show (onB x q && onB y q) = false by rw [ha]; rfl)
        clear ha
        go_wp2_with fail
        refine (HA.out _).mono ?_
        rintro e w' ⟨rfl, g1, m1, rfl⟩
        go_wp2_with fail
        go_roundw
        case rel => exact ⟨q + 1, by omega, by omega, by go_num, fun r h1 h2 => if h : r = q then by subst h; exact HNO.out else hr.out r h1 (by omega), (by repeat (first | exact Grew.refl _ | refine Grew.drewN ?_ _ | refine Grew.grow ?_ _ | refine Grew.alloc ?_ _ | refine Grew.drew ?_))⟩
        case measure => simp [intOf]; omega
      | true =>
        cases hb : onB y q with
        | false =>
          have HA := hid (HX.out q)
          rw [ha] at HA
          have HB := hid (HY.out q)
          rw [hb] at HB
          have HNO := hid (show (onB x q && onB y q) = false by rw [ha, hb]; rfl)
          clear ha hb
          go_wp2_with fail
          refine (HA.out _).mono ?_
          rintro e w' ⟨rfl, g1, m1, rfl⟩
          go_wp2_with fail
          refine (HB.out _).mono ?_
          rintro e w' ⟨rfl, g2, m2, rfl⟩
          go_wp2_with fail
          go_roundw
          case rel => exact ⟨q + 1, by omega, by omega, by go_num, fun r h1 h2 => if h : r = q then by subst h; exact HNO.out else hr.out r h1 (by omega), (by repeat (first | exact Grew.refl _ | refine Grew.drewN ?_ _ | refine Grew.grow ?_ _ | refine Grew.alloc ?_ _ | refine Grew.drew ?_))⟩
          case measure => simp [intOf]; omega
        | true =>
          have HA := hid (HX.out q)
          rw [ha] at HA
          have HB := hid (HY.out q)
          rw [hb] at HB
          have HT := hid (touchB_of hq1 hlt ha hb)
          clear ha hb
          go_wp2_with fail
          refine (HA.out _).mono ?_
          rintro e w' ⟨rfl, g1, m1, rfl⟩
          go_wp2_with fail
          refine (HB.out _).mono ?_
          rintro e w' ⟨rfl, g2, m2, rfl⟩
          go_wp2_with fail
          rw [HT.out]
          go_ret
          exact ⟨rfl, (by repeat (first | exact Grew.refl _ | refine Grew.drewN ?_ _ | refine Grew.grow ?_ _ | refine Grew.alloc ?_ _ | refine Grew.drew ?_))⟩

end Go.Proofs.Ytkglnnkghillpaa
