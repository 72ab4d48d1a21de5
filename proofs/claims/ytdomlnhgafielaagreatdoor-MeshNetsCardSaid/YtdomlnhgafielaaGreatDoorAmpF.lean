/- The program's valid, over a list of numbers that lies in memory. Condition: the list lies there. -/
import Derived.Test.YtdomlnhgafielaaGreatDoorAmpC
import Derived.Test.YtdomlnhgafielaaGreatDoorHouseB
import Derived.Test.YtdomlnhgafielaaGreatDoorAmpPlain
import Derived.Test.YtdomlnhgafielaaGreatDoorRowAid
namespace Go.Proofs.YtdomlnhgafielaaGreatDoor
open Go Go.RowKit Amp

def allV (l : List Num) : Bool := l.all fun z => validB z.x z.k
/-- The numbers of a list lie one behind the other. -/
def NumsAt (w : World) (b off : Nat) (l : List Num) : Prop := ∀ i z, l[i]? = some z → (w.cell? ⟨b, off + i * 5, none⟩ = some (.int .i64 z.x.a) ∧ w.cell? ⟨b, off + i * 5 + 1, none⟩ = some (.int .i64 z.x.b) ∧ w.cell? ⟨b, off + i * 5 + 2, none⟩ = some (.int .i64 z.x.c) ∧ w.cell? ⟨b, off + i * 5 + 3, none⟩ = some (.int .i64 z.x.d) ∧ w.cell? ⟨b, off + i * 5 + 4, none⟩ = some (.int .i64 z.k))

theorem allV_take {l : List Num} {i : Nat} {z : Num} (h : l[i]? = some z) : allV (l.take (i + 1)) = (allV (l.take i) && validB z.x z.k) := by
  unfold allV
  rw [List.take_add_one, h]
  simp
theorem allV_cut {l : List Num} {i : Nat} {z : Num} (h : l[i]? = some z) (hz : validB z.x z.k = false) : allV l = false := by
  unfold allV
  rw [List.all_eq_false]
  exact ⟨z, List.mem_of_getElem? h, by simp [hz]⟩

set_option maxHeartbeats 800000 in
theorem valid_any (b off cap : Nat) (l : List Num) (w : World) (hb : b < w.heap.size) (hl : l.length ≤ 1000000000000000) (hc : NumsAt w b off l) :
    Calls Tryz.prog 116 #[.slice (some ⟨b, off, none⟩) l.length cap] w fun e w' => e = .returned (.bool (allV l)) ∧ Grew w w' := by
  have HC := hid hc
  clear hc
  go_enter Tryz.func116, Tryz.ntmps116
  go_wp2_with fail
  go_loopw [7] (fun n wr => ∃ i : Nat, i ≤ l.length ∧ n = .int .i64 i ∧ Hid (allV (l.take i) = true) ∧ Grew w wr) (fun n _ => l.length - (intOf n).toNat)
  case atStart => exact ⟨0, Nat.zero_le _, rfl, rfl, Grew.refl _⟩
  case round =>
    obtain ⟨i, hi, rfl, hp, g, n, rfl⟩ := hrel
    by_cases hlt : i < l.length
    · obtain ⟨z, hz⟩ : ∃ z, l[i]? = some z := ⟨l[i], List.getElem?_eq_getElem hlt⟩
      obtain ⟨c0, c1, c2, c3, c4⟩ := HC.out i z hz
      have Hz := hid hz
      clear hz
      go_wp2_with fail
      refine (aValid_any z.x z.k _).mono ?_
      rintro e w' ⟨rfl, g1, n1, rfl⟩
      by_cases hv : validB z.x z.k = true
      · rw [hv]
        have Hv := hid hv
        clear hv
        go_wp2_with fail
        go_roundw
        case rel => exact ⟨i + 1, by omega, by go_num, by unfold Hid; rw [allV_take Hz.out, hp.out, Hv.out]; rfl, (by repeat (first | exact Grew.refl _ | refine Grew.drewN ?_ _ | refine Grew.grow ?_ _ | refine Grew.alloc ?_ _ | refine Grew.drew ?_))⟩
        case measure => simp [intOf]; omega
      · have Hv : Hid (allV l = false) := allV_cut Hz.out (by simpa using hv)
        rw [show validB z.x z.k = false from by simpa using hv]
        clear hv
        go_wp2_with fail
        go_ret
        exact ⟨by rw [Hv.out]; rfl, (by repeat (first | exact Grew.refl _ | refine Grew.drewN ?_ _ | refine Grew.grow ?_ _ | refine Grew.alloc ?_ _ | refine Grew.drew ?_))⟩
    · obtain rfl : i = l.length := by omega
      have hp' : Hid (allV l = true) := by have := hp.out; rw [List.take_length] at this; exact this
      clear hp
      go_wp2_with fail
      go_ret
      exact ⟨by rw [hp'.out]; rfl, (by repeat (first | exact Grew.refl _ | refine Grew.drewN ?_ _ | refine Grew.grow ?_ _ | refine Grew.alloc ?_ _ | refine Grew.drew ?_))⟩

theorem valid2_any (x y : C4) (k j : Int) (b : Nat) (w : World) (T : Nat) (fr : Nat × Nat) (h : w.heap[b]? = some (.cells #[.int .i64 x.a, .int .i64 x.b, .int .i64 x.c, .int .i64 x.d, .int .i64 k, .int .i64 y.a, .int .i64 y.b, .int .i64 y.c, .int .i64 y.d, .int .i64 j] T fr)) :
    Calls Tryz.prog 116 #[.slice (some ⟨b, 0, none⟩) 2 2] w fun e w' => e = .returned (.bool (validB x k && validB y j)) ∧ Grew w w' := by
  have hb : b < w.heap.size := by
    rcases Nat.lt_or_ge b w.heap.size with h' | h'
    · exact h'
    · rw [Array.getElem?_eq_none h'] at h; cases h
  have := valid_any b 0 2 [⟨x, k⟩, ⟨y, j⟩] w hb (by simp) (by
    intro i z hz
    have hi : i < 2 := (List.getElem?_eq_some_iff.1 hz).1
    have hi' : i = 0 ∨ i = 1 := by omega
    rcases hi' with rfl | rfl
    · obtain rfl := Option.some.inj hz
      simp [World.cell?, h]
    · obtain rfl := Option.some.inj hz
      simp [World.cell?, h])
  simpa [allV] using this

end Go.Proofs.YtdomlnhgafielaaGreatDoor

/- Conjugates and products of the program and of the reference. Conditions: elements in range. -/

namespace Go.Proofs.YtdomlnhgafielaaGreatDoor
open Go Go.RowKit Amp

@[go_sem] theorem eq5_self (x : C4) (k : Int) : eq5 x k x k = true := eq5_iff.2 ⟨rfl, rfl⟩
@[go_sem] theorem eq4_self (x : C4) : eq4 x x = true := eq4_iff.2 rfl

def realB (x : C4) : Bool := eq4 x (conjC x)
set_option maxHeartbeats 4000000 in
theorem amul_any (x y : C4) (k j : Int) (w : World) (hx : smallB x = true) (hy : smallB y = true) (hk : 0 ≤ k ∧ k ≤ 40) (hj : 0 ≤ j ∧ j ≤ 40) :
    Calls Tryz.prog 117 #[.agg #[.int .i64 x.a, .int .i64 x.b, .int .i64 x.c, .int .i64 x.d, .int .i64 k], .agg #[.int .i64 y.a, .int .i64 y.b, .int .i64 y.c, .int .i64 y.d, .int .i64 j]] w fun e w' => e = .returned (.agg #[.int .i64 (mulC x y).a, .int .i64 (mulC x y).b, .int .i64 (mulC x y).c, .int .i64 (mulC x y).d, .int .i64 (k + j)]) ∧ Grew w w' := by
  obtain ⟨⟨_, _⟩, ⟨_, _⟩, ⟨_, _⟩, ⟨_, _⟩, ⟨_, _⟩, ⟨_, _⟩, ⟨_, _⟩, ⟨_, _⟩, ⟨_, _⟩, ⟨_, _⟩, ⟨_, _⟩, ⟨_, _⟩, ⟨_, _⟩, ⟨_, _⟩, ⟨_, _⟩, ⟨_, _⟩⟩ := prods hx hy
  obtain ⟨_, _⟩ := hk
  obtain ⟨_, _⟩ := hj
  clear hx hy
  go_enter Tryz.func117, Tryz.ntmps117
  go_wp2_with fail
  refine wp_loop_rounds 5 ?_
  iterate 4
    simp only [rounds_succ]
    go_wp2_with fail
    refine wp_loop_rounds 5 ?_
    iterate 5 (simp only [rounds_succ]; go_wp2_with fail)
  simp only [rounds_succ]
  go_wp2_with fail
  exact bodyPost_ret (v := .agg #[.int .i64 (x.a * y.a - x.b * y.d - x.c * y.c - x.d * y.b), .int .i64 (x.a * y.b + x.b * y.a - x.c * y.d - x.d * y.c), .int .i64 (x.a * y.c + x.b * y.b + x.c * y.a - x.d * y.d), .int .i64 (x.a * y.d + x.b * y.c + x.c * y.b + x.d * y.a), .int .i64 (k + j)]) (by simp [results, Tryz.results117, go_sem]) rfl ⟨rfl, (by repeat (first | exact Grew.refl _ | refine Grew.drewN ?_ _ | refine Grew.grow ?_ _ | refine Grew.alloc ?_ _ | refine Grew.drew ?_))⟩

end Go.Proofs.YtdomlnhgafielaaGreatDoor

/- The reference's product. Condition: elements in range. -/

namespace Go.Proofs.YtdomlnhgafielaaGreatDoor
open Go Go.RowKit Amp

end Go.Proofs.YtdomlnhgafielaaGreatDoor
