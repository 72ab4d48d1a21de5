/- Layer 3: slices.Backward over items hands over the items from the last one on. Condition: the items lie in memory. -/
import Derived.Test.YtkglnnkghillpaaMshC
import Derived.Test.YtkglnnkghillpaaMshX
import Derived.Test.YtkglnnkghillpaaItsApp
import Derived.Test.YtkglnnkghillpaaMshInvP
import Derived.RangeFuncNested
import Derived.RangeFuncBox
import Derived.RangeFuncBound
import Derived.RangeFuncCalls
import Derived.RangeFuncLeaves
import Derived.WalkKit
import Derived.OwnWalkIn
import Derived.TacticsInMore
import Derived.LoopNIn
import Derived.LoopIn
import Derived.Shelf.Abstract
namespace Go.Proofs.Ytkglnnkghillpaa
open Go Go.RowKit Amp Msh

attribute [local go_sem] Oper.semAt_some
def encB (x : Int × It) : Array Value := #[.int .i64 x.1, .agg #[.int .i64 x.2.kind, .int .i64 x.2.pos, .int .i64 x.2.n, .string x.2.name]]
set_option maxHeartbeats 1000000 in
theorem backward_in (F : Fence) (n : Nat) (hF : F.fn 53) (hro : F.round = none) (a : Option Addr) (len cap : Nat) (w : World) :
    CallsIn F n Try.prog 53 #[.slice a len cap] w fun e w' => e = .returned (.func (.func 88) #[] #[.pointer (some ⟨w.heap.size, 0, none⟩)]) ∧ w' = w.alloc (.cells #[.slice a len cap] 22) := by
  refine callsIn_of_wp Try.func53 rfl hF ?_ hro
  simp only [Try.ntmps53, List.size_toArray, List.length_cons, List.length_nil, Nat.reduceAdd, Nat.reduceSub, Array.replicate_succ, Array.replicate_zero, List.push_toArray, List.append_toArray, List.nil_append, List.cons_append]
  gi_wp2
  go_ret
  exact ⟨rfl, rfl⟩
/-- What a round keeps: what lay ahead, and the box of the list. -/
def KpB (n₀ Bs : Nat) (W W' : World) : Prop := Below n₀ W W' ∧ W'.heap[Bs]? = W.heap[Bs]?
theorem KpB.trans {n₀ Bs : Nat} {A B C : World} (h : KpB n₀ Bs A B) (k : KpB n₀ Bs B C) : KpB n₀ Bs A C := ⟨h.1.trans k.1, k.2.trans h.2⟩
theorem KpB.put {n₀ Bs : Nat} {w : World} (hn : n₀ ≤ w.heap.size) (hB : Bs < w.heap.size) (W : World) (l : Nat) (o o' : Obj) (hl : w.heap.size ≤ l) (h : W.heap[l]? = some o) (hc : o.isCells = false) (hw : o.isWalk = false) : KpB n₀ Bs W (W.putObj l o') :=
  ⟨belowK_b hn W l o o' hl h hc hw, World.putObj_heap_other (by omega)⟩
theorem cell_of_block {W W' : World} {b i : Nat} (h : W'.heap[b]? = W.heap[b]?) : W'.cell? ⟨b, i, none⟩ = W.cell? ⟨b, i, none⟩ := by simp only [World.cell?, h]
set_option maxRecDepth 100000 in
set_option maxHeartbeats 2000000 in
theorem backward1_in (F : Fence) (n : Nat) (hF : F.fn 88) (hro : F.round = none) (hn : 1 ≤ n) (l Bs n₀ : Nat) (a0 : Option Addr) (cap : Nat) (its : List It) (hl : its.length ≤ 5000) (J Jx : List (Int × It) → World → Prop)
    (hY : ∀ pre x W, J pre W → pre.length < its.length → YieldAt F (n - 1) Try.prog l (encB x) W fun e W' =>
      (e = .returned (.bool true) ∧ J (pre ++ [x]) W' ∧ KpB n₀ Bs W W') ∨ (e = .returned (.bool false) ∧ Jx (pre ++ [x]) W'))
    (W : World) (hBs : W.cell? ⟨Bs, 0, none⟩ = some (.slice a0 its.length cap)) (hc : its = [] ∨ ∃ b off : Nat, a0 = some ⟨b, off, none⟩ ∧ b < n₀ ∧ ItsAt W b off its) (h0 : J [] W) :
    CallsIn F n Try.prog 88 #[.func (.yield l) #[] #[], .pointer (some ⟨Bs, 0, none⟩)] W fun e W' => (∃ v, e = .returned v) ∧
      ((∃ ys, ys = bk its its.length ∧ J ys W') ∨ (∃ pre, (∃ k, k ≤ its.length ∧ pre = bk its k) ∧ Jx pre W')) := by
  refine callsIn_of_wp Try.func88 rfl hF ?_ hro
  simp only [Try.ntmps88, List.size_toArray, List.length_cons, List.length_nil, Nat.reduceAdd, Nat.reduceSub, Array.replicate_succ, Array.replicate_zero, List.push_toArray, List.append_toArray, List.nil_append, List.cons_append]
  gi_wp2
  gi_loopw [3] (fun i wr => ∃ k : Nat, k ≤ its.length ∧ i = .int .i64 ((its.length : Int) - 1 - k) ∧ J (bk its k) wr ∧ KpB n₀ Bs W wr)
    (fun i _ => (intOf i + 1).toNat)
  case atStart => exact ⟨0, Nat.zero_le _, by simp, h0, Below.refl _ _, rfl⟩
  case round =>
    obtain ⟨k, hk, rfl, hJs, hnx⟩ := hrel
    have hBx := (cell_of_block (i := 0) hnx.2).trans hBs
    by_cases hlt : k < its.length
    · obtain ⟨j, hj⟩ : ∃ j : Nat, j + k + 1 = its.length := ⟨its.length - 1 - k, by omega⟩
      have hji : (its.length : Int) - 1 - k = j := by omega
      have hjl : j < its.length := by omega
      have hjn : its.length - 1 - k = j := by omega
      obtain ⟨z, hz⟩ : ∃ z, its[j]? = some z := ⟨its[j], List.getElem?_eq_getElem hjl⟩
      have hbk := bk_succ (l := its) (k := k) (z := z) (by rw [hjn]; exact hz)
      rw [hjn] at hbk
      obtain ⟨b, off, rfl, hb, hcs⟩ : ∃ b off : Nat, a0 = some ⟨b, off, none⟩ ∧ b < n₀ ∧ ItsAt W b off its := by
        rcases hc with rfl | h
        · simp at hz
        · exact h
      obtain ⟨c0, c1, c2, c3⟩ := hcs j z hz
      have c0 := (hnx.1.cell (p := ⟨b, _, none⟩) hb).trans c0
      have c1 := (hnx.1.cell (p := ⟨b, _, none⟩) hb).trans c1
      have c2 := (hnx.1.cell (p := ⟨b, _, none⟩) hb).trans c2
      have c3 := (hnx.1.cell (p := ⟨b, _, none⟩) hb).trans c3
      obtain ⟨fn, tmps, assign, body, hy, hR⟩ := hY _ ((j : Int), z) wr hJs (by rw [bk_length]; exact hlt)
      simp only [encB] at hy
      have HBK := hid hbk
      have HJ := hid (And.intro hj hji)
      have HL := hid hl
      have hp : 0 ≤ (j : Int) := by omega
      have HW := hid (show wrap64 ((j : Int) - 1) = j - 1 by unfold wrap64; omega)
      rw [hji]
      clear hbk hj hjn hcs hz hc hk hl hji hlt
      gi_wp2
      refine hR.mono ?_
      rintro e W3 (⟨rfl, hJ3, hk3⟩ | ⟨rfl, hJx3⟩)
      · gi_wp2
        go_roundw
        case rel => exact ⟨k + 1, by have := HJ.out; omega, by have := HJ.out; rw [HW.out]; congr 1; omega, by rw [HBK.out]; exact hJ3, hnx.trans hk3⟩
        case measure => simp only [intOf]; rw [HW.out]; omega
      · gi_wp2
        refine bodyPost_ret (results_none rfl _ _ _) rfl ?_
        exact ⟨⟨_, rfl⟩, .inr ⟨_, ⟨k + 1, by have := HJ.out; omega, HBK.out.symm⟩, hJx3⟩⟩
    · obtain rfl : k = its.length := by omega
      rw [show (its.length : Int) - 1 - its.length = -1 by omega]
      gi_wp2
      go_end0
      exact ⟨⟨_, rfl⟩, .inl ⟨_, rfl, hJs⟩⟩
theorem backward_stops (F : Fence) (n : Nat) (hF : F.fn 88) (hro : F.round = none) (hn : 1 ≤ n) (Bs n₀ : Nat) (a0 : Option Addr) (cap : Nat) (its : List It) (hl : its.length ≤ 5000) (w : World) (hBs : Bs < w.heap.size) (hn₀ : n₀ ≤ w.heap.size)
    (hx : w.cell? ⟨Bs, 0, none⟩ = some (.slice a0 its.length cap)) (hc : its = [] ∨ ∃ b off : Nat, a0 = some ⟨b, off, none⟩ ∧ b < n₀ ∧ ItsAt w b off its) :
    SeqStopsK F n Try.prog 88 #[.pointer (some ⟨Bs, 0, none⟩)] encB (KpB n₀ Bs) (fun ys => ys = bk its its.length) (fun _ => True) its.length w := fun l J Jx W hW _ _ hY h0 => by
  refine (backward1_in F n hF hro hn l Bs n₀ a0 cap its hl J Jx hY W ((hW.cell (p := ⟨Bs, 0, none⟩) hBs).trans hx) ?_ h0).mono ?_
  · rcases hc with h | ⟨b, off, rfl, hb, hcs⟩
    · exact .inl h
    · refine .inr ⟨b, off, rfl, hb, fun i z hz => ?_⟩
      obtain ⟨c0, c1, c2, c3⟩ := hcs i z hz
      have hb' : b < w.heap.size := by omega
      exact ⟨(hW.cell (p := ⟨b, _, none⟩) hb').trans c0, (hW.cell (p := ⟨b, _, none⟩) hb').trans c1, (hW.cell (p := ⟨b, _, none⟩) hb').trans c2, (hW.cell (p := ⟨b, _, none⟩) hb').trans c3⟩
  · rintro e W' ⟨he, ⟨ys, rfl, hj⟩ | ⟨pre, _, hj⟩⟩
    · exact ⟨he, .inl ⟨_, rfl, hj⟩⟩
    · exact ⟨he, .inr ⟨_, trivial, hj⟩⟩

end Go.Proofs.Ytkglnnkghillpaa
