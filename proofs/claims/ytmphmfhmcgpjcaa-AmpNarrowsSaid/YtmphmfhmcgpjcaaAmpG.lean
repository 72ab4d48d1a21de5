/- Conjugates and products of the program and of the reference. Conditions: elements in range. -/
import Derived.Test.YtmphmfhmcgpjcaaAmpF
import Derived.Test.YtmphmfhmcgpjcaaAmpPlainB
import Derived.Test.YtmphmfhmcgpjcaaRowAid
namespace Go.Proofs.Ytmphmfhmcgpjcaa
open Go Go.RowKit Amp

@[go_sem] theorem eq5_self (x : C4) (k : Int) : eq5 x k x k = true := eq5_iff.2 ⟨rfl, rfl⟩
@[go_sem] theorem eq4_self (x : C4) : eq4 x x = true := eq4_iff.2 rfl

set_option maxHeartbeats 800000 in
theorem aconj_any (x : C4) (k : Int) (w : World) (h : smallB x = true) :
    Calls Try.prog 58 #[.agg #[.int .i64 x.a, .int .i64 x.b, .int .i64 x.c, .int .i64 x.d, .int .i64 k]] w fun e w' => e = .returned (.agg #[.int .i64 (conjC x).a, .int .i64 (conjC x).b, .int .i64 (conjC x).c, .int .i64 (conjC x).d, .int .i64 k]) ∧ Grew w w' := by
  obtain ⟨⟨_, _⟩, ⟨_, _⟩, ⟨_, _⟩, ⟨_, _⟩⟩ := smallB_iff.1 h
  clear h
  go_enter Try.func58, Try.ntmps58
  go_wp2_with fail
  exact bodyPost_ret (v := .agg #[.int .i64 x.a, .int .i64 (-x.d), .int .i64 (-x.c), .int .i64 (-x.b), .int .i64 k]) (by simp [results, Try.results58, go_sem]) rfl ⟨rfl, (by repeat (first | exact Grew.refl _ | refine Grew.drewN ?_ _ | refine Grew.grow ?_ _ | refine Grew.alloc ?_ _ | refine Grew.drew ?_))⟩

set_option maxHeartbeats 800000 in
theorem rconj_any (x : C4) (w : World) (h : smallB x = true) :
    Calls Try.prog 59 #[.agg #[.int .i64 x.a, .int .i64 x.b, .int .i64 x.c, .int .i64 x.d]] w fun e w' => e = .returned (.agg #[.int .i64 (conjC x).a, .int .i64 (conjC x).b, .int .i64 (conjC x).c, .int .i64 (conjC x).d]) ∧ Grew w w' := by
  obtain ⟨⟨_, _⟩, ⟨_, _⟩, ⟨_, _⟩, ⟨_, _⟩⟩ := smallB_iff.1 h
  clear h
  go_enter Try.func59, Try.ntmps59
  go_wp2_with fail
  exact bodyPost_ret (v := .agg #[.int .i64 x.a, .int .i64 (-x.d), .int .i64 (-x.c), .int .i64 (-x.b)]) (by simp [results, Try.results59, go_sem]) rfl ⟨rfl, (by repeat (first | exact Grew.refl _ | refine Grew.drewN ?_ _ | refine Grew.grow ?_ _ | refine Grew.alloc ?_ _ | refine Grew.drew ?_))⟩

def realB (x : C4) : Bool := eq4 x (conjC x)
set_option maxHeartbeats 800000 in
theorem isReal_any (x : C4) (w : World) (h : smallB x = true) :
    Calls Try.prog 60 #[.agg #[.int .i64 x.a, .int .i64 x.b, .int .i64 x.c, .int .i64 x.d]] w fun e w' => e = .returned (.bool (realB x)) ∧ Grew w w' := by
  have hc := fun w => rconj_any x w h
  have HC := hid hc
  clear hc
  go_enter Try.func60, Try.ntmps60
  go_wp2_with fail
  refine wp_region_gentle_lit (by kernel_rfl) (by kernel_rfl) ?_
  repeat (first | go_big_quiet_skip | (go_big_quiet_want; go_big_quiet_op; first | go_big_quiet_on | (apply Exists.intro; refine ⟨fun qq => ?_, ?_⟩; (focus ((first | (go_at_call 59; refine Calls.gentle_of (HC.out _) ?_)); rintro _ ⟨g', n', rfl⟩; (first | exact gentle_fin_c _ _ _ _ _ | exact gentle_fin _ _ _ _ | exact gentle_fin_gc _ _ _ _ _ _ | exact gentle_fin_g _ _ _ _ _))); go_big_quiet_on)))
  refine wpQuiet_nil ?_
  rintro _ ⟨gg, ng, rfl⟩
  go_wp2_with fail
  go_ret
  exact ⟨rfl, (by repeat (first | exact Grew.refl _ | refine Grew.drewN ?_ _ | refine Grew.grow ?_ _ | refine Grew.alloc ?_ _ | refine Grew.drew ?_))⟩

set_option maxHeartbeats 4000000 in
theorem amul_any (x y : C4) (k j : Int) (w : World) (hx : smallB x = true) (hy : smallB y = true) (hk : 0 ≤ k ∧ k ≤ 40) (hj : 0 ≤ j ∧ j ≤ 40) :
    Calls Try.prog 56 #[.agg #[.int .i64 x.a, .int .i64 x.b, .int .i64 x.c, .int .i64 x.d, .int .i64 k], .agg #[.int .i64 y.a, .int .i64 y.b, .int .i64 y.c, .int .i64 y.d, .int .i64 j]] w fun e w' => e = .returned (.agg #[.int .i64 (mulC x y).a, .int .i64 (mulC x y).b, .int .i64 (mulC x y).c, .int .i64 (mulC x y).d, .int .i64 (k + j)]) ∧ Grew w w' := by
  obtain ⟨⟨_, _⟩, ⟨_, _⟩, ⟨_, _⟩, ⟨_, _⟩, ⟨_, _⟩, ⟨_, _⟩, ⟨_, _⟩, ⟨_, _⟩, ⟨_, _⟩, ⟨_, _⟩, ⟨_, _⟩, ⟨_, _⟩, ⟨_, _⟩, ⟨_, _⟩, ⟨_, _⟩, ⟨_, _⟩⟩ := prods hx hy
  obtain ⟨_, _⟩ := hk
  obtain ⟨_, _⟩ := hj
  clear hx hy
  go_enter Try.func56, Try.ntmps56
  go_wp2_with fail
  refine wp_loop_rounds 5 ?_
  iterate 4
    simp only [rounds_succ]
    go_wp2_with fail
    refine wp_loop_rounds 5 ?_
    iterate 5 (simp only [rounds_succ]; go_wp2_with fail)
  simp only [rounds_succ]
  go_wp2_with fail
  exact bodyPost_ret (v := .agg #[.int .i64 (x.a * y.a - x.b * y.d - x.c * y.c - x.d * y.b), .int .i64 (x.a * y.b + x.b * y.a - x.c * y.d - x.d * y.c), .int .i64 (x.a * y.c + x.b * y.b + x.c * y.a - x.d * y.d), .int .i64 (x.a * y.d + x.b * y.c + x.c * y.b + x.d * y.a), .int .i64 (k + j)]) (by simp [results, Try.results56, go_sem]) rfl ⟨rfl, (by repeat (first | exact Grew.refl _ | refine Grew.drewN ?_ _ | refine Grew.grow ?_ _ | refine Grew.alloc ?_ _ | refine Grew.drew ?_))⟩

end Go.Proofs.Ytmphmfhmcgpjcaa
