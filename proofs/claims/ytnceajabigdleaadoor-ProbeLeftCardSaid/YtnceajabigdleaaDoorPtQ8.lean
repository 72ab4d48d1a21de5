/- Layer 9, in main's ghost: how the states of a set answer: the program. Condition: the table and the settings lie in memory. -/
import Derived.Test.YtnceajabigdleaaDoorPtQ7
import Derived.Test.YtnceajabigdleaaDoorPtQ6
import Derived.Test.YtnceajabigdleaaDoorPtH4
import Derived.RangeFuncKeeps
import Derived.Shelf.Abstract
namespace Go.Proofs.Qm
open Go Go.Pt Go.RowKit Prb
attribute [local go_sem] Oper.semAt_some
theorem all_any (s : Int) (w : World) : Calls prog 44 #[.int .u64 s] w fun e w' => e = .returned (.func (.func 71) #[] #[.pointer (some ⟨w.heap.size, 0, none⟩)]) ∧ w' = w.alloc (.cells #[.int .u64 s] 69) := by
  go_enter func44, ntmps44
  go_wp2_with fail
  exact bodyPost_ret (v := .func (.func 71) #[] #[.pointer (some ⟨w.heap.size, 0, none⟩)]) (by simp [results, go_sem]) rfl ⟨rfl, rfl⟩
theorem al_new {w : World} {o : Obj} {k : Nat} (h : k = w.heap.size) : (w.alloc o).heap[k]? = some o := by subst h; exact World.alloc_heap_new w o
theorem al_old {w : World} {o : Obj} {k : Nat} (h : k < w.heap.size) : (w.alloc o).heap[k]? = w.heap[k]? := Below.heap_alloc _ _ _ h
def Row (w : World) (b : Nat) (cs : List Int) : Prop := w.heap[b]? = some (.cells (zCells cs).toArray 3 (0, 0))
theorem Row.at {w : World} {b : Nat} {cs : List Int} (h : Row w b cs) {j : Nat} {c : Int} (hc : cs[j]? = some c) : w.cell? ⟨b, j, none⟩ = some (.int .i64 c) ∧ w.frozen? ⟨b, j, none⟩ = false := by
  unfold Row at h
  refine ⟨?_, by simp [World.frozen?, h]⟩
  simp only [World.cell?, h]
  have := zCells_at hc
  simpa using this
theorem Row.put {w : World} {b : Nat} {cs : List Int} (h : Row w b cs) (j : Nat) (c : Int) : Row (w.setCell ⟨b, j, none⟩ (.int .i64 c)) b (cs.set j c) := by
  unfold Row at *
  unfold World.setCell
  rw [Array.getElem?_modify, if_pos rfl, h]
  simp [zCells, List.map_set]
theorem Row.lt {w : World} {b : Nat} {cs : List Int} (h : Row w b cs) : b < w.heap.size := (Array.getElem?_eq_some_iff.1 h).1
structure PartI (W1 : World) (bO bS m : Nat) (f : Nat → Nat) (pre : List Nat) (W : World) : Prop where
  low : Below 0 W1 W
  kept : ∀ k, k < W1.heap.size → k ≠ bO → k ≠ bS → W.heap[k]? = W1.heap[k]?
  own : Row W bO (cntL m f pre)
theorem PartI.step {W1 W V : World} {bO bS m : Nat} {f : Nat → Nat} {pre : List Nat} {x : Nat} {c : Int} (h : PartI W1 bO bS m f pre W) (hO : bO < W1.heap.size) (hne : bO ≠ bS) (h0 : bO ≠ 0) (hS : bS < W1.heap.size) (hc : (cntL m f pre).getD (f x) 0 = c)
    (hg : Grew (W.setCell ⟨bO, f x, none⟩ (.int .i64 (c + 1))) V) : KeepsFrom W1.heap.size W V ∧ (∀ b ∈ [bS, 0], V.heap[b]? = W.heap[b]?) ∧ PartI W1 bO bS m f (pre ++ [x]) V := by
  have hs := (grownBy_set W bO (f x) (.int .i64 (c + 1))).size
  have key : ∀ k, k < W.heap.size → k ≠ bO → V.heap[k]? = W.heap[k]? := fun k hk hkO => (hg.block k (Nat.lt_of_lt_of_le hk hs)).trans (heap_setCell_ne W hkO _ _)
  have hsz := h.low.size
  refine ⟨⟨Nat.le_trans hs hg.size, fun k o hk ho _ => (key k (Array.getElem?_eq_some_iff.1 ho).1 (by omega)).trans ho⟩, fun b hb => ?_, ⟨?_, fun k h1 h2 h3 => (key k (by omega) h2).trans (h.kept k h1 h2 h3), ?_⟩⟩
  · rcases List.mem_cons.1 hb with rfl | hb
    · exact key _ (by omega) (fun e => hne e.symm)
    · obtain rfl := List.mem_singleton.1 hb
      exact key 0 (by omega) (fun e => h0 e.symm)
  · exact below_grew (below_set h.low (Nat.zero_le _)) hg (Nat.zero_le _)
  · rw [cntL_snoc]
    unfold bump
    rw [hc]
    exact (hg.block bO (Nat.lt_of_lt_of_le h.own.lt hs)).trans (h.own.put (f x) (c + 1))
theorem Tab.below {w w' : World} {n N C : Nat} (h : Tab w n N C) (hg : Below w.heap.size w w') : Tab w' n N C := by
  have key : ∀ b i : Nat, b < w.heap.size → w'.cell? ⟨b, i, none⟩ = w.cell? ⟨b, i, none⟩ := fun b i hb => by simp only [World.cell?, hg.block b hb]
  refine ⟨Nat.lt_of_lt_of_le h.lt hg.size, fun k hk => ?_⟩
  obtain ⟨g, cp, h1, h2, h3⟩ := h.row k hk
  exact ⟨g, cp, Nat.lt_of_lt_of_le h1 hg.size, (key _ _ h.lt).trans h2, fun j z hj hz => (key _ _ h1).trans (h3 j z hj hz)⟩
theorem PartI.start {w W1 W : World} {bO bS m : Nat} {f : Nat → Nat} {pre : List Nat} (h : PartI W1 bO bS m f pre W) (hg : Grew w W1) (h1 : w.heap.size ≤ bO) (h2 : w.heap.size ≤ bS) : Below w.heap.size w W := by
  have e := hg.below
  have l := h.low
  exact ⟨l.os.trans e.os, l.tape.trans e.tape, l.output.trans e.output, Nat.le_trans e.size l.size, fun k hk => (h.kept k (Nat.lt_of_lt_of_le hk hg.size) (by omega) (by omega)).trans (hg.block k hk)⟩
open Go Go.Pt Go.RowKit Prb
theorem cntZ_ne {n : Int} (h : cntZ n ≠ 0) : n = 2 ∨ n = 4 := by
  unfold cntZ at h
  split at h
  · exact .inl (by assumption)
  · split at h
    · exact .inr (by assumption)
    · exact absurd rfl h
def ParP (Rl : List Int) (r : Int) (w : World) (e : Ending) (w' : World) : Prop := ∃ (a : Option Addr) (cap : Nat), e = .returned (.tuple #[.slice a Rl.length cap, .int .i64 r]) ∧ NsA w' a Rl ∧ Below w.heap.size w w'
open Go Go.Pt Go.RowKit Prb
theorem ownZ_nsA {w : World} {base k0 : Nat} {a0 : Option Addr} {l : List Int} (h : OwnZ w base a0 k0 l) : NsA w a0 l := by
  rcases h.here with rfl | ⟨g, rfl, _, hlt, hc⟩
  · intro i x hx; cases hx
  · exact fun i x hx => ⟨g, 0, rfl, hlt, by rw [Nat.zero_add]; exact hc i x hx⟩
open Go Go.Pt Go.RowKit Prb
set_option maxHeartbeats 3200000 in
theorem same_any (a b : Option Addr) (ka kb : Nat) (l : List Int) (w : World) (hl : l.length ≤ 9223372036854775807) (ha : NsA w a l) (hb : NsA w b l) :
    Calls prog 12 #[.slice a l.length ka, .slice b l.length kb] w fun e w' => e = .returned (.bool true) ∧ Grew w w' := by
  have HA := hid ha
  have HB := hid hb
  clear ha hb
  go_enter func12, ntmps12
  go_wp2_with fail
  go_loopw [13] (fun v wr => ∃ i : Nat, i ≤ l.length ∧ v = .int .i64 i ∧ Grew w wr) (fun v _ => l.length - (intOf v).toNat)
  case atStart => exact ⟨0, Nat.zero_le _, rfl, Grew.refl _⟩
  case round =>
    obtain ⟨i, hi, rfl, g, k, rfl⟩ := hrel
    by_cases hlt : i < l.length
    · obtain ⟨x, hx⟩ : ∃ x, l[i]? = some x := ⟨l[i], List.getElem?_eq_getElem hlt⟩
      obtain ⟨p, o, rfl, hp, c0⟩ := HA.out i x hx
      obtain ⟨q, u, rfl, hq, c1⟩ := HB.out i x hx
      have e0 : (x != x) = false := by simp
      have p1 := fun m0 : Nat => Nat.lt_add_right m0 hp
      have q1 := fun m0 : Nat => Nat.lt_add_right m0 hq
      clear hx
      go_wp2_with fail
      go_region
      go_wp2_with fail
      go_roundw
      case rel => exact ⟨i + 1, by omega, by go_num, gw0⟩
      case measure => simp [intOf]; omega
    · obtain rfl : i = l.length := by omega
      go_wp2_with fail
      exact bodyPost_ret (v := .bool true) (by simp [results, go_sem]) rfl ⟨rfl, gw0⟩
end Go.Proofs.Qm
