/- The law ProbeLeft, in main's ghost. Condition: the tests lie in memory. -/
import Derived.Test.YtnceajabigdleaaDoorPtQ96
import Derived.Test.YtnceajabigdleaaDoorPtQ8
import Derived.Test.YtnceajabigdleaaDoorPtQ5
namespace Go.Proofs.Qm
open Go Go.Pt Go.RowKit Prb
set_option maxRecDepth 100000 in
set_option maxHeartbeats 3200000 in
theorem probeLeft_walk (n : Int) (a : Option Addr) (cap : Nat) (l : List Tq) (w : World) (hl : l.length ≤ 9223372036854775807) (hc : TqAt w a l) (hD : DebAt w) :
    Calls prog 4 #[.int .i64 n, .slice a l.length cap] w fun e w' => e = .returned (.bool true) ∧ Below w.heap.size w w' := by
  obtain ⟨Rl, r, hRl, hA, hB⟩ := Left_both n a cap l w hl hc hD
  have HM := hid fun w' (hg : Grew w w') => many_any a cap l w' hl (hc.grew hg)
  have HA := hid fun w' (hg : Grew w w') => (hA w' hg.below).mono fun e w'' (h : ParP Rl r w' e w'') => (show ∃ (a : Option Addr) (cap : Nat), e = .returned (.tuple #[.slice a Rl.length cap, .int .i64 r]) ∧ NsA w'' a Rl ∧ Below w.heap.size w w'' from by obtain ⟨a, cap, h1, h2, h3⟩ := h; exact ⟨a, cap, h1, h2, hg.below.trans (h3.mono hg.size)⟩)
  have HB := hid fun w' (hg : Below w.heap.size w w') => (hB w' hg).mono fun e w'' (h : ParP Rl r w' e w'') => (show ∃ (a : Option Addr) (cap : Nat), e = .returned (.tuple #[.slice a Rl.length cap, .int .i64 r]) ∧ NsA w'' a Rl ∧ Below w'.heap.size w' w'' ∧ Below w.heap.size w w'' from by obtain ⟨a, cap, h1, h2, h3⟩ := h; exact ⟨a, cap, h1, h2, h3, hg.trans (h3.mono hg.size)⟩)
  have HW := hid fun w => awake_any w
  have HSM := hid fun a b ka kb w' (h1 : NsA w' a Rl) (h2 : NsA w' b Rl) => same_any a b ka kb Rl w' (by omega) h1 h2
  clear hA hB hc hD hRl
  cases hm : manyB l with
  | true =>
    rw [hm] at HM
    go_enter func4, ntmps4
    go_wp2_with fail
    refine (HM.out _ gw0).mono ?_
    rintro e w' ⟨rfl, g0, n0, rfl⟩
    go_wp2_with fail
    refine (HW.out _).mono ?_
    rintro e w' ⟨rfl, g1, n1, rfl⟩
    go_wp2_with fail
    exact bodyPost_ret (v := .bool true) (by simp [results, go_sem]) rfl ⟨rfl, Grew.below gw0⟩
  | false =>
  rw [hm] at HM
  go_enter func4, ntmps4
  go_wp2_with fail
  refine (HM.out _ gw0).mono ?_
  rintro e w' ⟨rfl, g0, n0, rfl⟩
  go_wp2_with fail
  refine (HA.out _ gw0).mono ?_
  rintro e w1 ⟨a1, k1, rfl, hN1, hB1⟩
  have HN1 := hid hN1
  have HB1 := hid hB1
  clear hN1 hB1
  go_wp2_with fail
  refine (HB.out _ HB1.out).mono ?_
  rintro e w2 ⟨a2, k2, rfl, hN2, hB2, hB3⟩
  have HN2 := hid hN2
  have HN3 := hid (HN1.out.below hB2)
  have HB3 := hid hB3
  clear hN2 hB2 hB3 HN1 HB1
  go_wp2_with fail
  refine (HSM.out _ _ _ _ _ HN3.out HN2.out).mono ?_
  rintro e w' ⟨rfl, g1, n1, rfl⟩
  go_wp2_with fail
  refine (HW.out _).mono ?_
  rintro e w' ⟨rfl, g2, n2, rfl⟩
  go_wp2_with fail
  exact bodyPost_ret (v := .bool true) (by simp [results, go_sem]) rfl ⟨rfl, below_grew HB3.out gw0 HB3.out.size⟩
end Go.Proofs.Qm
