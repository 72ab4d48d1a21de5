/- The law ProbeParts, in main's ghost. Condition: the numbers and the settings lie in memory. -/
import Derived.Test.YtnceajabigdleaaDoorPtQ8
import Derived.Test.YtnceajabigdleaaDoorPtQ5
namespace Go.Proofs.Qm
open Go Go.Pt Go.RowKit Prb
set_option maxRecDepth 100000 in
set_option maxHeartbeats 3200000 in
theorem probeParts_walk (n i : Int) (a : Option Addr) (cap : Nat) (l : List Int) (ta : Option Addr) (tlen tcap : Nat) (tl : List Bool) (w : World) (hl : l.length ≤ 9223372036854775807) (htl : tlen ≤ 9223372036854775807) (hc : NsA w a l) (ht : TurnAt w ta tlen tl) (hD : DebAt w) :
    Calls prog 3 #[.int .i64 n, .slice a l.length cap, .slice ta tlen tcap, .int .i64 i] w fun e w' => e = .returned (.bool true) ∧ Below w.heap.size w w' := by
  obtain ⟨Rl, r, hRl, hA, hB⟩ := Parts_both n i a cap l ta tlen tcap tl w hl htl hc ht hD
  have HA := hid fun w' (hg : Grew w w') => (hA w' hg.below).mono fun e w'' (h : ParP Rl r w' e w'') => (show ∃ (a : Option Addr) (cap : Nat), e = .returned (.tuple #[.slice a Rl.length cap, .int .i64 r]) ∧ NsA w'' a Rl ∧ Below w.heap.size w w'' from by obtain ⟨a, cap, h1, h2, h3⟩ := h; exact ⟨a, cap, h1, h2, hg.below.trans (h3.mono hg.size)⟩)
  have HB := hid fun w' (hg : Below w.heap.size w w') => (hB w' hg).mono fun e w'' (h : ParP Rl r w' e w'') => (show ∃ (a : Option Addr) (cap : Nat), e = .returned (.tuple #[.slice a Rl.length cap, .int .i64 r]) ∧ NsA w'' a Rl ∧ Below w'.heap.size w' w'' ∧ Below w.heap.size w w'' from by obtain ⟨a, cap, h1, h2, h3⟩ := h; exact ⟨a, cap, h1, h2, h3, hg.trans (h3.mono hg.size)⟩)
  have HW := hid fun w => awake_any w
  have HSM := hid fun a b ka kb w' (h1 : NsA w' a Rl) (h2 : NsA w' b Rl) => same_any a b ka kb Rl w' (by omega) h1 h2
  clear hA hB hc ht hD hRl
  by_cases h1 : 100 < l.length
  · go_enter func3, ntmps3
    go_wp2_with fail
    refine (HW.out _).mono ?_
    rintro e w' ⟨rfl, g1, n1, rfl⟩
    go_wp2_with fail
    exact bodyPost_ret (v := .bool true) (by simp [results, results3, go_sem]) rfl ⟨rfl, Grew.below gw0⟩
  by_cases h2 : 40 < tlen
  · go_enter func3, ntmps3
    go_wp2_with fail
    refine (HW.out _).mono ?_
    rintro e w' ⟨rfl, g1, n1, rfl⟩
    go_wp2_with fail
    exact bodyPost_ret (v := .bool true) (by simp [results, results3, go_sem]) rfl ⟨rfl, Grew.below gw0⟩
  go_enter func3, ntmps3
  go_wp2_with fail
  refine (HA.out _ gw0).mono ?_
  rintro e w1 ⟨a1, k1, rfl, hN1, hB1⟩
  have HN1 := hid hN1
  have HB1 := hid hB1
  clear hN1 hB1
  go_wp2_with fail
  refine (HB.out _ HB1.out).mono ?_
  rintro e w2 ⟨a2, k2, rfl, hN2, hB2, hB3⟩
  have HN2 := hid hN2
  have HN3 := hid (HN1.out.below hB2)
  have HB3 := hid hB3
  clear hN2 hB2 hB3 HN1 HB1
  go_wp2_with fail
  refine (HSM.out _ _ _ _ _ HN3.out HN2.out).mono ?_
  rintro e w' ⟨rfl, g1, n1, rfl⟩
  go_wp2_with fail
  refine (HW.out _).mono ?_
  rintro e w' ⟨rfl, g2, n2, rfl⟩
  go_wp2_with fail
  exact bodyPost_ret (v := .bool true) (by simp [results, results3, go_sem]) rfl ⟨rfl, below_grew HB3.out gw0 HB3.out.size⟩
end Go.Proofs.Qm
