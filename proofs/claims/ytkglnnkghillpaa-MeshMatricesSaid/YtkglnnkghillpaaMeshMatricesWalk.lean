/- The law MeshMatrices returns true. Condition: the netlist lies in memory. -/
import Derived.Test.YtkglnnkghillpaaNetG
import Derived.Test.YtkglnnkghillpaaNetI
import Derived.Test.YtkglnnkghillpaaMshR
namespace Go.Proofs.Ytkglnnkghillpaa
open Go Go.RowKit Amp Msh

set_option maxHeartbeats 800000 in
theorem busy_any (a0 : Option Addr) (cap : Nat) (L : List Cl) (w : World) (hl : L.length ≤ 9223372036854775807) (hN : Net w a0 L) :
    Calls Try.prog 22 #[.slice a0 L.length cap] w fun e w' => (∃ v : Bool, e = .returned (.bool v)) ∧ Grew w w' := by
  have HN := hid hN
  clear hN
  go_enter Try.func22, Try.ntmps22
  go_wp2_with fail
  go_loopw [3, 8] (fun t v wr => ∃ (i : Nat) (S : Int), i ≤ L.length ∧ v = .int .i64 i ∧ t = .int .i64 S ∧ Grew w wr) (fun _ v _ => L.length - (intOf v).toNat)
  case atStart => exact ⟨0, 0, Nat.zero_le _, rfl, rfl, (by repeat (first | exact Grew.refl _ | refine Grew.drewN ?_ _ | refine Grew.grow ?_ _ | refine Grew.alloc ?_ _ | refine Grew.drew ?_))⟩
  case round =>
    obtain ⟨i, S, hi, rfl, rfl, hg⟩ := hrel
    by_cases hlt : i < L.length
    case neg =>
      obtain rfl : i = L.length := by omega
      have HG := hid hg
      clear hg
      go_wp2_with fail
      go_ret
      exact ⟨⟨_, rfl⟩, HG.out.trans (by repeat (first | exact Grew.refl _ | refine Grew.drewN ?_ _ | refine Grew.grow ?_ _ | refine Grew.alloc ?_ _ | refine Grew.drew ?_))⟩
    case pos =>
      obtain ⟨c, hc⟩ : ∃ c, L[i]? = some c := ⟨L[i], List.getElem?_eq_getElem hlt⟩
      obtain ⟨b, off, rfl, hb, c0, c1, a2, k2, c2, _⟩ := (HN.out.grew hg).cells hc
      have HG := hid hg
      have hb1 := fun m0 : Nat => Nat.lt_add_right m0 (hb)
      have hb2 := fun m0 m1 : Nat => Nat.lt_add_right m1 (hb1 m0)
      have hb3 := fun m0 m1 m2 : Nat => Nat.lt_add_right m2 (hb2 m0 m1)
      clear hc hg
      go_wp2_with fail
      go_roundw
      case rel => exact ⟨i + 1, _, by omega, by go_num, rfl, HG.out.trans (by repeat (first | exact Grew.refl _ | refine Grew.drewN ?_ _ | refine Grew.grow ?_ _ | refine Grew.alloc ?_ _ | refine Grew.drew ?_))⟩
      case measure => simp [intOf]; omega
theorem netM_len : ∀ (T C : List Cl) (Ms : List (List Num)), (∀ M ∈ Ms, M.length ≤ 36) → (∀ c ∈ T, 1 ≤ c.gd ∧ c.gd ≤ 6) → ∀ M ∈ (netM C Ms T).1, M.length ≤ 36
  | [], C, Ms, h, _, M, hM => h M hM
  | c :: t, C, Ms, h, hg, M, hM => by
    unfold netM at hM
    have hc := hg c List.mem_cons_self
    split at hM
    · rename_i h0
      refine netM_len t _ _ (fun N hN => ?_) (fun d hd => hg d (List.mem_cons_of_mem _ hd)) M hM
      rcases List.mem_append.1 hN with hN | hN
      · exact h N hN
      · rw [List.mem_singleton] at hN
        subst hN
        have h1 := (itsE_shape (E := envF C Ms) (n := c.gd.toNat) c.items (idN c.gd.toNat) (idN_valid _) (idN_length _) h0).2
        rw [h1]
        exact Nat.mul_le_mul (show c.gd.toNat ≤ 6 by omega) (show c.gd.toNat ≤ 6 by omega)
    · cases hM
theorem matNet_len (L : List Cl) : (matNet L).2.1.length ≤ 36 := by
  unfold matNet
  by_cases hv : vnet L = true
  · rw [if_pos hv]
    by_cases h0 : (netM [] [] L).2 = 0
    · rw [if_pos h0]
      show ((netM [] [] L).1.getLast?.getD []).length ≤ 36
      cases hm : (netM [] [] L).1.getLast? with
      | none => simp
      | some M =>
        have h1 := List.mem_of_getLast? hm
        exact netM_len L [] [] (fun M h => absurd h List.not_mem_nil) (fun c hc => by
          obtain ⟨i, hi⟩ := List.getElem?_of_mem hc
          exact (vcell_iff.1 ((vnet_all hv).2 i c hi)).2.2.1) M h1
    · rw [if_neg h0]
      simp
  · rw [if_neg hv]
    simp

set_option maxRecDepth 100000 in
set_option maxHeartbeats 4000000 in
theorem matrices_any (a0 : Option Addr) (cap : Nat) (L : List Cl) (w : World) (hl : L.length ≤ 9223372036854775807) (hN : Net w a0 L) (hk : CsOk L) (hcap : L.length ≤ cap) :
    Calls Try.prog 5 #[.slice a0 L.length cap] w fun e w' => e = .returned (.bool true) ∧ Grew w w' := by
  have HBZ := hid fun w' (hg : Grew w w') => busy_any a0 cap L w' hl (hN.grew hg)
  have H1 := hid fun w' (hg : Grew w w') => matrixP_any a0 cap L w' hl (hN.grew hg) hk
  have H2 := hid fun w' (hg : Grew w w') => rmatrixP_any a0 cap L w' hl (hN.grew hg) hk hcap
  have hln := matNet_len L
  obtain ⟨⟨N, l, E⟩, hR⟩ : ∃ R, matNet L = R := ⟨_, rfl⟩
  rw [hR] at H1 H2 hln
  dsimp only at hln
  clear hN hk hR hl hcap
  go_enter Try.func5, Try.ntmps5
  go_wp2_with fail
  refine (HBZ.out _ (by repeat (first | exact Grew.refl _ | refine Grew.drewN ?_ _ | refine Grew.grow ?_ _ | refine Grew.alloc ?_ _ | refine Grew.drew ?_))).mono ?_
  rintro e W1 ⟨⟨v, rfl⟩, hg1⟩
  have HG := hid (Grew.trans (a := w) (by repeat (first | exact Grew.refl _ | refine Grew.drewN ?_ _ | refine Grew.grow ?_ _ | refine Grew.alloc ?_ _ | refine Grew.drew ?_)) hg1)
  clear hg1 HBZ
  cases v with
  | true =>
    go_wp2_with fail
    refine (awake_any _).mono ?_
    rintro e w' ⟨rfl, ga, na, rfl⟩
    go_wp2_with fail
    go_ret
    exact ⟨rfl, HG.out.trans (by repeat (first | exact Grew.refl _ | refine Grew.drewN ?_ _ | refine Grew.grow ?_ _ | refine Grew.alloc ?_ _ | refine Grew.drew ?_))⟩
  | false =>
    go_wp2_with fail
    refine (H1.out _ (HG.out.trans (by repeat (first | exact Grew.refl _ | refine Grew.drewN ?_ _ | refine Grew.grow ?_ _ | refine Grew.alloc ?_ _ | refine Grew.drew ?_)))).mono ?_
    rintro e W2 ⟨⟨am, km, rfl, hA⟩, hg2⟩
    dsimp only at hA ⊢
    have hg2 : Grew W1 W2 := Grew.trans (by repeat (first | exact Grew.refl _ | refine Grew.drewN ?_ _ | refine Grew.grow ?_ _ | refine Grew.alloc ?_ _ | refine Grew.drew ?_)) hg2
    have HA := hid hA
    have HG := hid (HG.out.trans hg2)
    clear hA hg2 H1
    go_wp2_with fail
    refine (H2.out _ (HG.out.trans (by repeat (first | exact Grew.refl _ | refine Grew.drewN ?_ _ | refine Grew.grow ?_ _ | refine Grew.alloc ?_ _ | refine Grew.drew ?_)))).mono ?_
    rintro e W3 ⟨⟨bm, kb, rfl, hB⟩, hg3⟩
    dsimp only at hB ⊢
    obtain ⟨b3, hb3⟩ : ∃ b3, b3 = W2.heap.size := ⟨_, rfl⟩
    rw [← hb3]
    have h3 : W3.heap[b3]? = some (.cells #[.int .i64 N, .slice am l.length km] 28) := by rw [hb3]; exact (hg3.block _ (by simp)).trans (blk_new rfl)
    have hg3 : Grew W2 W3 := Grew.trans (by repeat (first | exact Grew.refl _ | refine Grew.drewN ?_ _ | refine Grew.grow ?_ _ | refine Grew.alloc ?_ _ | refine Grew.drew ?_)) hg3
    have y0 : W3.cell? ⟨b3, 0, none⟩ = some (.int .i64 N) := by simp [World.cell?, h3]
    have y1 : W3.cell? ⟨b3, 1, none⟩ = some (.slice am l.length km) := by simp [World.cell?, h3]
    have z3 := (Array.getElem?_eq_some_iff.1 h3).1
    have HSM := hid fun w' (hg : Grew W3 w') => sameMatrix_same N am bm km kb l w' (by omega) ((HA.out.grew hg3).grew hg) (hB.grew hg)
    have HG := hid (HG.out.trans hg3)
    have z31 := fun m0 : Nat => Nat.lt_add_right m0 (z3)
    have z32 := fun m0 m1 : Nat => Nat.lt_add_right m1 (z31 m0)
    have z33 := fun m0 m1 m2 : Nat => Nat.lt_add_right m2 (z32 m0 m1)
    clear hb3 h3 hg3 hB H2
    go_wp2_with fail
    refine (HSM.out _ (by repeat (first | exact Grew.refl _ | refine Grew.drewN ?_ _ | refine Grew.grow ?_ _ | refine Grew.alloc ?_ _ | refine Grew.drew ?_))).mono ?_
    rintro e w' ⟨rfl, g4, n4, rfl⟩
    go_wp2_with fail
    refine (awake_any _).mono ?_
    rintro e w' ⟨rfl, ga, na, rfl⟩
    go_wp2_with fail
    go_ret
    exact ⟨rfl, HG.out.trans (by repeat (first | exact Grew.refl _ | refine Grew.drewN ?_ _ | refine Grew.grow ?_ _ | refine Grew.alloc ?_ _ | refine Grew.drew ?_))⟩
theorem meshMatrices_walk (a0 : Option Addr) (len cap : Nat) (w : World) (h : ∃ L : List Cl, len = L.length ∧ L.length ≤ 9223372036854775807 ∧ Net w a0 L ∧ CsOk L ∧ L.length ≤ cap) :
    Calls Try.prog 5 #[.slice a0 len cap] w fun e w' => e = .returned (.bool true) ∧ Grew w w' := by
  obtain ⟨L, rfl, h1, h2, h3, h4⟩ := h
  exact matrices_any a0 cap L w h1 h2 h3 h4

end Go.Proofs.Ytkglnnkghillpaa
