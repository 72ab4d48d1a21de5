/- Layer 3: the place of the last item on a guide, of the reference. Condition: the items lie in memory and begin on guides from 1 to 6. -/
import Derived.Test.YtkglnnkghillpaaChgA
import Derived.Test.YtkglnnkghillpaaMshTidy
import Derived.Test.YtkglnnkghillpaaTidG
namespace Go.Proofs.Ytkglnnkghillpaa
open Go Go.RowKit Amp Msh

theorem lastIx_snoc {α : Type} {p : α → Bool} (A : List α) (y : α) : lastIx p (A ++ [y]) = if p y = true then some A.length else lastIx p A := by
  by_cases hy : p y = true
  · rw [if_pos hy]
    exact lastIx_of hy (fun z hz => absurd hz List.not_mem_nil) A
  · rw [if_neg hy]
    have key : ∀ A : List α, lastIx p (A ++ [y]) = lastIx p A := by
      intro A
      induction A with
      | nil => simp [lastIx, hy]
      | cons a t ih =>
        show lastIx p (a :: (t ++ [y])) = lastIx p (a :: t)
        simp only [lastIx, ih]
    exact key A
def lastI (l : List It) (q : Int) : Int := match lastIx (fun y => onB y q) l with | some k => k | none => -1
theorem lastI_none {l : List It} {q : Int} (h : lastIx (fun y => onB y q) l = none) : lastI l q = -1 := by unfold lastI; rw [h]
theorem lastI_some {l : List It} {q : Int} {k : Nat} (h : lastIx (fun y => onB y q) l = some k) : lastI l q = k := by unfold lastI; rw [h]
theorem lastI_iff {l : List It} {q : Int} {k : Nat} : lastI l q = k ↔ lastIx (fun y => onB y q) l = some k := by
  unfold lastI
  cases lastIx (fun y => onB y q) l with
  | none => simp
  | some j => simp; omega

set_option maxHeartbeats 800000 in
theorem last_any (a0 : Option Addr) (k0 : Nat) (l : List It) (q : Int) (w : World) (hl : l.length ≤ 5000) (hI : Its w a0 l) (hp : ∀ y ∈ l, 1 ≤ y.pos ∧ y.pos ≤ 6) :
    Calls Try.prog 81 #[.slice a0 l.length k0, .int .i64 q] w fun e w' => e = .returned (.int .i64 (lastI l q)) ∧ Grew w w' := by
  have HI := hid hI
  have HP := hid hp
  obtain ⟨R, hR⟩ : ∃ R, lastI l q = R := ⟨_, rfl⟩
  have HR := hid hR
  rw [hR]
  clear hI hp hR
  go_enter Try.func81, Try.ntmps81
  go_wp2_with fail
  go_loopw [5] (fun v wr => ∃ j : Nat, j ≤ l.length ∧ v = .int .i64 ((j : Int) - 1) ∧ Hid (lastIx (fun y => onB y q) l = lastIx (fun y => onB y q) (l.take j)) ∧ Grew w wr) (fun v _ => (intOf v + 1).toNat)
  case atStart => exact ⟨l.length, Nat.le_refl _, rfl, by show _ = _; rw [List.take_length], (by repeat (first | exact Grew.refl _ | refine Grew.drewN ?_ _ | refine Grew.grow ?_ _ | refine Grew.alloc ?_ _ | refine Grew.drew ?_))⟩
  case round =>
    obtain ⟨j, hj, rfl, HL, hg⟩ := hrel
    cases j with
    | zero =>
      have hl0 := HL.out
      rw [List.take_zero] at hl0
      have hr : R = -1 := by rw [← HR.out]; exact lastI_none hl0
      clear hl0
      go_wp2_with fail
      go_ret
      exact ⟨by rw [hr]; rfl, hg.trans (by repeat (first | exact Grew.refl _ | refine Grew.drewN ?_ _ | refine Grew.grow ?_ _ | refine Grew.alloc ?_ _ | refine Grew.drew ?_))⟩
    | succ j =>
      rw [show (((j + 1 : Nat) : Int)) - 1 = (j : Int) by omega]
      have hlt : j < l.length := hj
      obtain ⟨y, hy⟩ : ∃ y, l[j]? = some y := ⟨l[j], List.getElem?_eq_getElem hlt⟩
      obtain ⟨b, off, rfl, hb, c0, c1, c2, c3⟩ := (HI.out.grew hg).cells hy
      have hpy := HP.out y (List.mem_of_getElem? hy)
      have HON := hid fun w' => on_any y q w' hpy.1 hpy.2
      have HL1 := hid (show lastIx (fun y => onB y q) l = if onB y q = true then some j else lastIx (fun y => onB y q) (l.take j) by
        rw [HL.out, take_snocI hy, lastIx_snoc, List.length_take, Nat.min_eq_left (Nat.le_of_lt hlt)])
      have HG := hid hg
      have hb1 := fun m0 : Nat => Nat.lt_add_right m0 (hb)
      have hb2 := fun m0 m1 : Nat => Nat.lt_add_right m1 (hb1 m0)
      have hb3 := fun m0 m1 m2 : Nat => Nat.lt_add_right m2 (hb2 m0 m1)
      clear hy hpy HL hg
      cases hon : onB y q with
      | true =>
        rw [hon] at HON HL1
        have hr : R = j := by rw [← HR.out]; exact lastI_some (by rw [HL1.out, if_pos rfl])
        clear hon HL1
        go_wp2_with fail
        refine (HON.out _).mono ?_
        rintro e w' ⟨rfl, g2, m2, rfl⟩
        go_wp2_with fail
        go_ret
        exact ⟨by rw [hr]; rfl, HG.out.trans (by repeat (first | exact Grew.refl _ | refine Grew.drewN ?_ _ | refine Grew.grow ?_ _ | refine Grew.alloc ?_ _ | refine Grew.drew ?_))⟩
      | false =>
        rw [hon] at HON HL1
        clear hon
        go_wp2_with fail
        refine (HON.out _).mono ?_
        rintro e w' ⟨rfl, g2, m2, rfl⟩
        go_wp2_with fail
        go_roundw
        case rel => exact ⟨j, by omega, rfl, by rw [HL1.out, if_neg Bool.false_ne_true]; rfl, HG.out.trans (by repeat (first | exact Grew.refl _ | refine Grew.drewN ?_ _ | refine Grew.grow ?_ _ | refine Grew.alloc ?_ _ | refine Grew.drew ?_))⟩
        case measure => simp [intOf]

end Go.Proofs.Ytkglnnkghillpaa
