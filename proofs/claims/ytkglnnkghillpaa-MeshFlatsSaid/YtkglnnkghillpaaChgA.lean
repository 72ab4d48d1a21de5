/- Layer 3: the inverse of a list of items, of the reference. Condition: the items lie in memory. -/
import Derived.Test.YtkglnnkghillpaaMshInv

namespace Go.Proofs.Ytkglnnkghillpaa
open Go Go.RowKit Amp Msh

/-- A list of items of the call's own, or an error. -/
def ListI (R : List It × Int) (w : World) (e : Ending) (w' : World) : Prop := (∃ (a2 : Option Addr) (k2 : Nat), e = .returned (.tuple #[.slice a2 R.1.length k2, .int .i64 R.2]) ∧ OwnI w' w.heap.size a2 k2 R.1) ∧ Grew w w'
theorem cells_newI (W : World) (b : Nat) (hb : b = W.heap.size) (cs : Array Value) (t : TypeId) (l : List It) (hc : cs.toList = itsCells l) : ∀ ad, some (⟨b, 0, none⟩ : Addr) = some ad → ∀ j u, (itsCells l)[j]? = some u → (W.alloc (.cells cs t)).cell? (ad.add j) = some u := by
  intro ad e j u hj
  cases e
  rw [← hc] at hj
  exact cells_new W b hb cs t j u hj
set_option maxHeartbeats 800000 in
theorem rinv_bad (g : Int) (a0 : Option Addr) (cap : Nat) (its : List It) (w : World) (hl : its.length ≤ 9223372036854775807) (hc : Its w a0 its) (hk : ¬ chkIts g its = 0) :
    Calls Try.prog 44 #[.int .i64 g, .slice a0 its.length cap] w (ListI (invE g its) w) := by
  have HK := hid fun w' (h : Grew w w') => asked_any g a0 cap its w' hl (hc.grew h)
  have HR : Hid (invE g its = ([], chkIts g its)) := hid (by unfold invE; rw [if_neg hk])
  obtain ⟨E, hE⟩ : ∃ E, chkIts g its = E := ⟨_, rfl⟩
  rw [hE] at HK HR hk
  have e1 : (E != 0) = true := by simpa using hk
  clear hc hk hE
  go_enter Try.func44, Try.ntmps44
  go_wp2_with fail
  refine (HK.out _ (by repeat (first | exact Grew.refl _ | refine Grew.drewN ?_ _ | refine Grew.grow ?_ _ | refine Grew.alloc ?_ _ | refine Grew.drew ?_))).mono ?_
  rintro e w' ⟨rfl, g1, m1, rfl⟩
  go_wp2_with fail
  exact bodyPost_ret (v := .tuple #[.slice none 0 0, .int .i64 E]) (by simp [results, Try.results44, go_sem]) rfl ⟨⟨none, 0, by rw [HR.out]; rfl, by rw [HR.out]; exact OwnI.nil _ _⟩, (by repeat (first | exact Grew.refl _ | refine Grew.drewN ?_ _ | refine Grew.grow ?_ _ | refine Grew.alloc ?_ _ | refine Grew.drew ?_))⟩

set_option maxRecDepth 100000 in
set_option maxHeartbeats 4000000 in
theorem rinv_main (g : Int) (a0 : Option Addr) (cap : Nat) (its : List It) (w : World) (hl : its.length ≤ 9223372036854775807) (hc : Its w a0 its) (hk : chkIts g its = 0) :
    Calls Try.prog 44 #[.int .i64 g, .slice a0 its.length cap] w (ListI (invE g its) w) := by
  have HK := hid fun w' (h : Grew w w') => asked_any g a0 cap its w' hl (hc.grew h)
  rw [hk] at HK
  obtain ⟨q1, q2, q3, q4⟩ := chkIts_zero hk
  have HR : Hid (invE g its = if (invL its).length ≤ 5000 then (invL its, 0) else ([], 4)) := hid (by unfold invE; rw [if_pos hk])
  have HC := hid hc
  have hl5 : its.length ≤ 5000 := q3
  clear hc hl hk q1 q2 q3 q4
  go_enter Try.func44, Try.ntmps44
  go_wp2_with fail
  refine (HK.out _ (by repeat (first | exact Grew.refl _ | refine Grew.drewN ?_ _ | refine Grew.grow ?_ _ | refine Grew.alloc ?_ _ | refine Grew.drew ?_))).mono ?_
  rintro e w' ⟨rfl, g1, m1, rfl⟩
  go_wp2_with fail
  go_loopw [7, 8] (fun c v wr => ∃ (k : Nat) (ac : Option Addr) (kc : Nat) (L : List It), k ≤ its.length ∧ v = .int .i64 ((its.length : Int) - 1 - k) ∧ c = .slice ac L.length kc ∧ Hid (L = outB (bk its k)) ∧ Hid (OwnI wr w.heap.size ac kc L) ∧ Grew w wr) (fun _ v _ => (intOf v + 1).toNat)
  case atStart => exact ⟨0, none, 0, [], Nat.zero_le _, by simp, rfl, rfl, OwnI.nil _ _, (by repeat (first | exact Grew.refl _ | refine Grew.drewN ?_ _ | refine Grew.grow ?_ _ | refine Grew.alloc ?_ _ | refine Grew.drew ?_))⟩
  case round =>
    obtain ⟨k, ac, kc, L, hk, rfl, rfl, HL, HO, hg⟩ := hrel
    by_cases hlt : k < its.length
    case neg =>
      obtain rfl : k = its.length := by omega
      obtain ⟨LL, hLL⟩ : ∃ l, invL its = l := ⟨_, rfl⟩
      rw [hLL] at HR
      have hL := HL.out
      rw [outB_bk, hLL] at hL
      subst hL
      have HGR := hid hg
      rw [show (its.length : Int) - 1 - its.length = -1 by omega]
      by_cases h5 : L.length ≤ 5000
      case pos =>
        have e5 : decide ((5000 : Int) < L.length) = false := decide_eq_false (by omega)
        have HR := hid (HR.out.trans (if_pos h5))
        clear h5 hg
        go_wp2_with fail
        exact bodyPost_ret (v := .tuple #[.slice ac L.length kc, .int .i64 0]) (by simp [results, Try.results44, go_sem]) rfl ⟨⟨ac, kc, by rw [HR.out], by rw [HR.out]; exact HO.out⟩, HGR.out⟩
      case neg =>
        have e5 : decide ((5000 : Int) < L.length) = true := decide_eq_true (by omega)
        have HR := hid (HR.out.trans (if_neg h5))
        clear h5 hg
        go_wp2_with fail
        exact bodyPost_ret (v := .tuple #[.slice none 0 0, .int .i64 4]) (by simp [results, Try.results44, go_sem]) rfl ⟨⟨none, 0, by rw [HR.out]; rfl, by rw [HR.out]; exact OwnI.nil _ _⟩, HGR.out⟩
    case pos =>
      obtain ⟨j, hj⟩ : ∃ j : Nat, j + k + 1 = its.length := ⟨its.length - 1 - k, by omega⟩
      have hji : (its.length : Int) - 1 - k = j := by omega
      have hjl : j < its.length := by omega
      have hjn : its.length - 1 - k = j := by omega
      obtain ⟨z, hz⟩ : ∃ z, its[j]? = some z := ⟨its[j], List.getElem?_eq_getElem hjl⟩
      have hbk := bk_succ (l := its) (k := k) (z := z) (by rw [hjn]; exact hz)
      rw [hjn] at hbk
      obtain ⟨b, off, rfl, hb, c0, c1, c2, c3⟩ := (HC.out.grew hg).cells hz
      have HBK := hid hbk
      have HJ := hid (And.intro hj hlt)
      have HGR := hid hg
      have hp : 0 ≤ (j : Int) := by omega
      have HLL := hid (show L.length ≤ 15000 by have := outB_length (bk its k); rw [bk_length] at this; rw [HL.out]; omega)
      have hsz := hg.size
      rw [hji]
      have hb1 := fun m0 : Nat => Nat.lt_add_right m0 (hb)
      have hb2 := fun m0 m1 : Nat => Nat.lt_add_right m1 (hb1 m0)
      have hb3 := fun m0 m1 m2 : Nat => Nat.lt_add_right m2 (hb2 m0 m1)
      clear hbk hj hjn hz hk hji hlt hg
      by_cases hz1 : z.kind = 1
      case pos =>
        have e1 : (z.kind == 1) = true := by simpa using hz1
        have HINV := hid (show invItem ((j : Int), z).2 = [⟨z.kind, z.pos, wrap64 (8 - z.n), z.name⟩] by unfold invItem; rw [if_pos hz1])
        clear hz1
        go_wp2_with (at_builtin; go_loud (refine wpList_append_its rfl _ _ rfl w.heap.size ac kc L rfl (HO.out.grew (by repeat (first | exact Grew.refl _ | refine Grew.drewN ?_ _ | refine Grew.grow ?_ _ | refine Grew.alloc ?_ _ | refine Grew.drew ?_))) _ 1 [(⟨z.kind, z.pos, wrap64 (8 - z.n), z.name⟩ : It)] rfl (fun e => by cases e) (cells_newI _ _ (by simp [go_sem]) #[.int .i64 z.kind, .int .i64 z.pos, .int .i64 (wrap64 (8 - z.n)), .string z.name] _ [(⟨z.kind, z.pos, wrap64 (8 - z.n), z.name⟩ : It)] rfl) ?hmx ?hbs ?_))
        case hmx => have := HLL.out; simp; omega
        case hbs => (try simp [go_sem]); omega
        · intro a4 k4 wB hownB hgrowB hdrB
          have HGB := hid (show Grew w wB from Grew.by (w' := _) (HGR.out.trans (by repeat (first | exact Grew.refl _ | refine Grew.drewN ?_ _ | refine Grew.grow ?_ _ | refine Grew.alloc ?_ _ | refine Grew.drew ?_))) hgrowB hdrB (fun jj hjj => ownsRow_above HO.out jj hjj))
          have HOB := hid hownB
          clear hgrowB hdrB hownB
          go_wp2_with fail
          go_roundw
          case rel => exact ⟨k + 1, a4, k4, L ++ [(⟨z.kind, z.pos, wrap64 (8 - z.n), z.name⟩ : It)], by have := HJ.out; omega, by have := HJ.out; congr 1; omega, by simp, by rw [HBK.out, outB_snoc, HINV.out, ← HL.out]; rfl, HOB.out, HGB.out⟩
          case measure => have := HJ.out; simp only [intOf]; omega
      case neg =>
        have e1 : (z.kind == 1) = false := by simpa using hz1
        by_cases hz2 : z.kind = 2
        case pos =>
          have e2 : (z.kind == 2) = true := by simpa using hz2
          have HINV := hid (show invItem ((j : Int), z).2 = [halfOf z, z, halfOf z] by unfold invItem; rw [if_neg hz1, if_pos hz2])
          clear hz1 hz2
          go_wp2_with (at_builtin; go_loud (refine wpList_append_its rfl _ _ rfl w.heap.size ac kc L rfl (HO.out.grew (by repeat (first | exact Grew.refl _ | refine Grew.drewN ?_ _ | refine Grew.grow ?_ _ | refine Grew.alloc ?_ _ | refine Grew.drew ?_))) _ 3 [halfOf z, z, halfOf z] rfl (fun e => by cases e) (cells_newI _ _ (by simp [go_sem]) #[.int .i64 1, .int .i64 z.pos, .int .i64 4, .string ⟨#[]⟩, .int .i64 z.kind, .int .i64 z.pos, .int .i64 z.n, .string z.name, .int .i64 1, .int .i64 z.pos, .int .i64 4, .string ⟨#[]⟩] _ [halfOf z, z, halfOf z] rfl) ?hmx ?hbs ?_))
          case hmx => have := HLL.out; simp; omega
          case hbs => (try simp [go_sem]); omega
          · intro a4 k4 wB hownB hgrowB hdrB
            have HGB := hid (show Grew w wB from Grew.by (w' := _) (HGR.out.trans (by repeat (first | exact Grew.refl _ | refine Grew.drewN ?_ _ | refine Grew.grow ?_ _ | refine Grew.alloc ?_ _ | refine Grew.drew ?_))) hgrowB hdrB (fun jj hjj => ownsRow_above HO.out jj hjj))
            have HOB := hid hownB
            clear hgrowB hdrB hownB
            go_wp2_with fail
            go_roundw
            case rel => exact ⟨k + 1, a4, k4, L ++ [halfOf z, z, halfOf z], by have := HJ.out; omega, by have := HJ.out; congr 1; omega, by simp, by rw [HBK.out, outB_snoc, HINV.out, ← HL.out]; rfl, HOB.out, HGB.out⟩
            case measure => have := HJ.out; simp only [intOf]; omega
        case neg =>
          have e2 : (z.kind == 2) = false := by simpa using hz2
          have HINV := hid (show invItem ((j : Int), z).2 = [z] by unfold invItem; rw [if_neg hz1, if_neg hz2])
          clear hz1 hz2
          go_wp2_with (at_builtin; go_loud (refine wpList_append_its rfl _ _ rfl w.heap.size ac kc L rfl (HO.out.grew (by repeat (first | exact Grew.refl _ | refine Grew.drewN ?_ _ | refine Grew.grow ?_ _ | refine Grew.alloc ?_ _ | refine Grew.drew ?_))) _ 1 [z] rfl (fun e => by cases e) (cells_newI _ _ (by simp [go_sem]) #[.int .i64 z.kind, .int .i64 z.pos, .int .i64 z.n, .string z.name] _ [z] rfl) ?hmx ?hbs ?_))
          case hmx => have := HLL.out; simp; omega
          case hbs => (try simp [go_sem]); omega
          · intro a4 k4 wB hownB hgrowB hdrB
            have HGB := hid (show Grew w wB from Grew.by (w' := _) (HGR.out.trans (by repeat (first | exact Grew.refl _ | refine Grew.drewN ?_ _ | refine Grew.grow ?_ _ | refine Grew.alloc ?_ _ | refine Grew.drew ?_))) hgrowB hdrB (fun jj hjj => ownsRow_above HO.out jj hjj))
            have HOB := hid hownB
            clear hgrowB hdrB hownB
            go_wp2_with fail
            go_roundw
            case rel => exact ⟨k + 1, a4, k4, L ++ [z], by have := HJ.out; omega, by have := HJ.out; congr 1; omega, by simp, by rw [HBK.out, outB_snoc, HINV.out, ← HL.out]; rfl, HOB.out, HGB.out⟩
            case measure => have := HJ.out; simp only [intOf]; omega
theorem rinv_any (g : Int) (a0 : Option Addr) (cap : Nat) (its : List It) (w : World) (hl : its.length ≤ 9223372036854775807) (hc : Its w a0 its) :
    Calls Try.prog 44 #[.int .i64 g, .slice a0 its.length cap] w (ListI (invE g its) w) := by
  by_cases hk : chkIts g its = 0
  · exact rinv_main g a0 cap its w hl hc hk
  · exact rinv_bad g a0 cap its w hl hc hk

end Go.Proofs.Ytkglnnkghillpaa

/- Layer 3: a copy of a list of items; the items moved. Condition: the items lie in memory. -/

namespace Go.Proofs.Ytkglnnkghillpaa
open Go Go.RowKit Amp Msh

theorem run_eql_its_nil (a : Option Addr) (n c : Nat) (w : World) : (binOp .eql 22 (.slice a n c) (.slice none 0 0)).run Try.prog w = .ok (.bool a.isNone) w := run_eql_slice_nil w 22 51 a n c Try.underlying22
attribute [local go_sem high] run_eql_its_nil
def ItL (l : List It) (w : World) (e : Ending) (w' : World) : Prop := (∃ (a2 : Option Addr) (k2 : Nat), e = .returned (.slice a2 l.length k2) ∧ OwnI w' w.heap.size a2 k2 l) ∧ Grew w w'
def mvI (d : Int) (x : It) : It := ⟨x.kind, wrap64 (x.pos + d), x.n, x.name⟩
/-- The items of which the first k are moved. -/
def mvL (d : Int) (l : List It) (k : Nat) : List It := (l.take k).map (mvI d) ++ l.drop k
theorem take_snocI {l : List It} {i : Nat} {x : It} (h : l[i]? = some x) : l.take (i + 1) = l.take i ++ [x] := by rw [List.take_add_one, h]; rfl
theorem mvL_length (d : Int) (l : List It) (k : Nat) : (mvL d l k).length = l.length := by
  simp [mvL]; omega
theorem mvL_zero (d : Int) (l : List It) : mvL d l 0 = l := by simp [mvL]
theorem mvL_all (d : Int) (l : List It) : mvL d l l.length = l.map (mvI d) := by simp [mvL]
theorem mvL_at {d : Int} {l : List It} {k : Nat} {x : It} (h : l[k]? = some x) : (mvL d l k)[k]? = some x ∧ mvL d l (k + 1) = (mvL d l k).set k (mvI d x) := by
  obtain ⟨hk, rfl⟩ := List.getElem?_eq_some_iff.1 h
  unfold mvL
  refine ⟨?_, ?_⟩
  · rw [List.getElem?_append_right (by simp; omega)]
    simp
    rw [Nat.min_eq_left (by omega)]
    simp
  · apply List.ext_getElem?
    intro i
    rw [List.getElem?_set]
    by_cases hi : k = i
    · subst hi
      rw [if_pos rfl, if_pos (by simp; omega), List.getElem?_append_left (by simp; omega)]
      simp
      exact ⟨_, h, rfl⟩
    · rw [if_neg hi]
      rcases Nat.lt_or_ge i k with hlt | hge
      · rw [List.getElem?_append_left (by simp; omega), List.getElem?_append_left (by simp; omega)]
        simp [show i < k by omega, show i < k + 1 by omega]
      · rw [List.getElem?_append_right (by simp; omega), List.getElem?_append_right (by simp; omega)]
        simp
        congr 1
        omega
theorem itsCells_set : ∀ (l : List It) (i : Nat) (x : It) (p : Int), l[i]? = some x → itsCells (l.set i ⟨x.kind, p, x.n, x.name⟩) = (itsCells l).set (i * 4 + 1) (.int .i64 p)
  | [], i, x, p, h => by simp at h
  | y :: t, 0, x, p, h => by
    simp at h
    subst h
    rfl
  | y :: t, i + 1, x, p, h => by
    simp at h
    have ih := itsCells_set t i x p h
    show itCells y ++ itsCells (t.set i _) = (itCells y ++ itsCells t).set ((i + 1) * 4 + 1) _
    rw [ih, List.set_append_right _ _ (by simp [itCells]; omega)]
    congr 2
    simp [itCells]
    omega
theorem OwnI.setPos {w : World} {base g k0 : Nat} {l : List It} (h : OwnI w base (some ⟨g, 0, none⟩) k0 l) {i : Nat} {x : It} (hx : l[i]? = some x) (p : Int) : OwnI (w.setCell ⟨g, i * 4 + 1, none⟩ (.int .i64 p)) base (some ⟨g, 0, none⟩) k0 (l.set i ⟨x.kind, p, x.n, x.name⟩) := by
  have h1 := (World.ownsRow.stored h (i * 4 + 1) (.int .i64 p)).1
  unfold OwnI
  rw [List.length_set, itsCells_set l i x p hx]
  exact h1
theorem OwnI.here {w : World} {base k0 : Nat} {a0 : Option Addr} {l : List It} (h : OwnI w base a0 k0 l) (hl : l ≠ []) : ∃ g, a0 = some ⟨g, 0, none⟩ ∧ base ≤ g ∧ g < w.heap.size ∧ ∀ j, w.frozen? ⟨g, j, none⟩ = false := by
  rcases h.2 with ⟨_, h2⟩ | ⟨g, cap, cur, h1, h2, h3, h4⟩
  · exact absurd (List.eq_nil_of_length_eq_zero h2) hl
  · injection h1 with e1 e2 e3
    subst e1
    subst e3
    exact ⟨g, rfl, h2, (Array.getElem?_eq_some_iff.1 h3).1, fun j => World.ownsRow.frozenAt h j⟩

set_option maxRecDepth 100000 in
set_option maxHeartbeats 800000 in
theorem cloneI_any (a0 : Option Addr) (cap : Nat) (its : List It) (w : World) (hl : its.length ≤ 5000) (hc : Its w a0 its) (no0 : a0 = none → its.length = 0 ∧ cap = 0) :
    Calls Try.prog 83 #[.slice a0 its.length cap] w (ItL its w) := by
  cases a0 with
  | none =>
    obtain ⟨h1, rfl⟩ := no0 rfl
    obtain rfl := List.eq_nil_of_length_eq_zero h1
    clear no0 hc hl h1
    show Calls _ _ #[.slice none 0 0] _ _
    go_enter Try.func83, Try.ntmps83
    go_wp2_with fail
    go_ret
    exact ⟨⟨none, 0, rfl, OwnI.nil _ _⟩, (by repeat (first | exact Grew.refl _ | refine Grew.drewN ?_ _ | refine Grew.grow ?_ _ | refine Grew.alloc ?_ _ | refine Grew.drew ?_))⟩
  | some ad =>
    have HN := hid fun w' (hg : Grew w w') => its_news (hc.grew hg)
    clear hc no0
    go_enter Try.func83, Try.ntmps83
    go_wp2_with (at_builtin; go_loud (refine wpList_append_its rfl _ _ rfl w.heap.size _ _ [] rfl ?hown (some ad) cap its rfl (fun e => by cases e) (HN.out _ (by repeat (first | exact Grew.refl _ | refine Grew.drewN ?_ _ | refine Grew.grow ?_ _ | refine Grew.alloc ?_ _ | refine Grew.drew ?_))) ?hmx ?hbs ?_))
    case hown => exact ownI_empty rfl (Nat.le_refl _)
    case hmx => simp; omega
    case hbs => simp
    · intro a3 k3 wA hownA hgrowA hdrA
      have hgA : Grew w wA := Grew.by (w' := _) (by repeat (first | exact Grew.refl _ | refine Grew.drewN ?_ _ | refine Grew.grow ?_ _ | refine Grew.alloc ?_ _ | refine Grew.drew ?_)) hgrowA hdrA (fun jj hjj => by simp [Value.ownBlock] at hjj; omega)
      have HGA := hid hgA
      have HOA := hid hownA
      clear hgrowA hdrA hgA hownA
      go_wp2_with fail
      go_ret
      exact ⟨⟨a3, k3, rfl, HOA.out⟩, HGA.out⟩

/-- The items moved, or the error. -/
def mvE (g : Int) (l : List It) (d m : Int) : List It × Int := if chkIts g l = 0 then (if (-6 ≤ d ∧ d ≤ 6) ∧ vldIts m (l.map (mvI d)) = true then (l.map (mvI d), 0) else ([], 2)) else ([], chkIts g l)

set_option maxHeartbeats 800000 in
theorem moved_bad (g : Int) (a0 : Option Addr) (cap : Nat) (its : List It) (d m : Int) (w : World) (hl : its.length ≤ 9223372036854775807) (hc : Its w a0 its) (hk : ¬ chkIts g its = 0) :
    Calls Try.prog 46 #[.int .i64 g, .slice a0 its.length cap, .int .i64 d, .int .i64 m] w (ListI (mvE g its d m) w) := by
  have HK := hid fun w' (h : Grew w w') => check_any g a0 cap its w' hl (hc.grew h)
  have HR : Hid (mvE g its d m = ([], chkIts g its)) := hid (by unfold mvE; rw [if_neg hk])
  obtain ⟨E, hE⟩ : ∃ E, chkIts g its = E := ⟨_, rfl⟩
  rw [hE] at HK HR hk
  have e1 : (E != 0) = true := by simpa using hk
  clear hc hk hE
  go_enter Try.func46, Try.ntmps46
  go_wp2_with fail
  refine (HK.out _ (by repeat (first | exact Grew.refl _ | refine Grew.drewN ?_ _ | refine Grew.grow ?_ _ | refine Grew.alloc ?_ _ | refine Grew.drew ?_))).mono ?_
  rintro e w' ⟨rfl, g1, m1, rfl⟩
  go_wp2_with fail
  exact bodyPost_ret (v := .tuple #[.slice none 0 0, .int .i64 E]) (by simp [results, Try.results46, go_sem]) rfl ⟨⟨none, 0, by rw [HR.out]; rfl, by rw [HR.out]; exact OwnI.nil _ _⟩, (by repeat (first | exact Grew.refl _ | refine Grew.drewN ?_ _ | refine Grew.grow ?_ _ | refine Grew.alloc ?_ _ | refine Grew.drew ?_))⟩

set_option maxHeartbeats 800000 in
theorem rmoved_bad (g : Int) (a0 : Option Addr) (cap : Nat) (its : List It) (d m : Int) (w : World) (hl : its.length ≤ 9223372036854775807) (hc : Its w a0 its) (hk : ¬ chkIts g its = 0) :
    Calls Try.prog 47 #[.int .i64 g, .slice a0 its.length cap, .int .i64 d, .int .i64 m] w (ListI (mvE g its d m) w) := by
  have HK := hid fun w' (h : Grew w w') => asked_any g a0 cap its w' hl (hc.grew h)
  have HR : Hid (mvE g its d m = ([], chkIts g its)) := hid (by unfold mvE; rw [if_neg hk])
  obtain ⟨E, hE⟩ : ∃ E, chkIts g its = E := ⟨_, rfl⟩
  rw [hE] at HK HR hk
  have e1 : (E != 0) = true := by simpa using hk
  clear hc hk hE
  go_enter Try.func47, Try.ntmps47
  go_wp2_with fail
  refine (HK.out _ (by repeat (first | exact Grew.refl _ | refine Grew.drewN ?_ _ | refine Grew.grow ?_ _ | refine Grew.alloc ?_ _ | refine Grew.drew ?_))).mono ?_
  rintro e w' ⟨rfl, g1, m1, rfl⟩
  go_wp2_with fail
  exact bodyPost_ret (v := .tuple #[.slice none 0 0, .int .i64 E]) (by simp [results, Try.results47, go_sem]) rfl ⟨⟨none, 0, by rw [HR.out]; rfl, by rw [HR.out]; exact OwnI.nil _ _⟩, (by repeat (first | exact Grew.refl _ | refine Grew.drewN ?_ _ | refine Grew.grow ?_ _ | refine Grew.alloc ?_ _ | refine Grew.drew ?_))⟩

set_option maxRecDepth 100000 in
set_option maxHeartbeats 1600000 in
theorem moved_main (g : Int) (a0 : Option Addr) (cap : Nat) (its : List It) (d m : Int) (w : World) (hl : its.length ≤ 9223372036854775807) (hc : Its w a0 its) (no0 : a0 = none → its.length = 0 ∧ cap = 0) (hk : chkIts g its = 0) :
    Calls Try.prog 46 #[.int .i64 g, .slice a0 its.length cap, .int .i64 d, .int .i64 m] w (ListI (mvE g its d m) w) := by
  have HK := hid fun w' (h : Grew w w') => check_any g a0 cap its w' hl (hc.grew h)
  rw [hk] at HK
  obtain ⟨q1, q2, q3, q4⟩ := chkIts_zero hk
  have HCL := hid fun w' (h : Grew w w') => cloneI_any a0 cap its w' q3 (hc.grew h) no0
  have HR : Hid (mvE g its d m = if (-6 ≤ d ∧ d ≤ 6) ∧ vldIts m (its.map (mvI d)) = true then (its.map (mvI d), 0) else ([], 2)) := hid (by unfold mvE; rw [if_pos hk])
  have hl5 : its.length ≤ 5000 := q3
  clear hc hl hk q1 q2 q3 q4 no0
  go_enter Try.func46, Try.ntmps46
  go_wp2_with fail
  refine (HK.out _ (by repeat (first | exact Grew.refl _ | refine Grew.drewN ?_ _ | refine Grew.grow ?_ _ | refine Grew.alloc ?_ _ | refine Grew.drew ?_))).mono ?_
  rintro e W1 ⟨rfl, hg1⟩
  have HG := hid (Grew.trans (a := w) (by repeat (first | exact Grew.refl _ | refine Grew.drewN ?_ _ | refine Grew.grow ?_ _ | refine Grew.alloc ?_ _ | refine Grew.drew ?_)) hg1)
  clear hg1
  go_wp2_with fail
  refine (HCL.out _ HG.out).mono ?_
  rintro e W2 ⟨⟨a2, k2, rfl, hown⟩, hg2⟩
  have HB1 := hid HG.out.size
  have HG := hid (HG.out.trans hg2)
  obtain ⟨B0, hB0⟩ : ∃ B, W1.heap.size = B := ⟨_, rfl⟩
  rw [hB0] at hown HB1
  have HOW := hid hown
  clear hown hg2 HK HCL hB0
  go_wp2_with fail
  go_loopw [23] (fun v wr => ∃ i : Nat, i ≤ its.length ∧ v = .int .i64 i ∧ Hid (OwnI wr B0 a2 k2 (mvL d its i)) ∧ Grew w wr) (fun v _ => its.length - (intOf v).toNat)
  case atStart => exact ⟨0, Nat.zero_le _, rfl, by rw [mvL_zero]; exact HOW.out, HG.out⟩
  case round =>
    obtain ⟨i, hi, rfl, HO, hg⟩ := hrel
    by_cases hlt : i < its.length
    case pos =>
      obtain ⟨z, hz⟩ : ∃ z, its[i]? = some z := ⟨its[i], List.getElem?_eq_getElem hlt⟩
      obtain ⟨hm1, hm2⟩ := mvL_at (d := d) hz
      have hne : mvL d its i ≠ [] := by intro e; rw [e] at hm1; simp at hm1
      obtain ⟨bo, rfl, hbo, hol, hfo⟩ := HO.out.here hne
      obtain ⟨b', off', hbb, hb', c0, c1, c2, c3⟩ := (OwnI.its HO.out).cells hm1
      cases hbb
      simp only [Nat.zero_add] at c0 c1 c2 c3
      have HST := hid (HO.out.setPos hm1 (wrap64 (z.pos + d)))
      have HM2 := hid hm2
      have HGR := hid (And.intro hg (Nat.le_trans HB1.out hbo))
      have hol1 := fun m0 : Nat => Nat.lt_add_right m0 (hol)
      have hol2 := fun m0 m1 : Nat => Nat.lt_add_right m1 (hol1 m0)
      have hol3 := fun m0 m1 m2 : Nat => Nat.lt_add_right m2 (hol2 m0 m1)
      clear hz hm1 hm2 hne hg hb' hbo
      go_wp2_with fail
      go_roundw
      case rel => exact ⟨i + 1, by omega, by go_num, by rw [HM2.out]; exact HST.out, HGR.out.1.set HGR.out.2 _ _⟩
      case measure => simp [intOf]; omega
    case neg =>
      obtain rfl : i = its.length := by omega
      have ho := HO.out
      rw [mvL_all] at ho
      obtain ⟨ML, hML⟩ : ∃ l, its.map (mvI d) = l := ⟨_, rfl⟩
      have hMl : ML.length = its.length := by rw [← hML]; simp
      rw [hML] at ho HR
      have HOM := hid ho
      have HV := hid fun w' (hg2 : Grew wr w') => vldI_any m a2 k2 ML w' (by omega) ((OwnI.its ho).grew hg2)
      rw [hMl] at HV
      have HBT := hid fun w => mbtw_any (-6) d 6 w
      have HGR := hid hg
      have HML := hid hMl
      clear hML ho hg hMl
      by_cases hd : -6 ≤ d ∧ d ≤ 6
      case neg =>
        have HR := hid (HR.out.trans (if_neg fun h => hd h.1))
        have hbt := HBT.out
        rw [decide_eq_false hd] at hbt
        have HBT := hid hbt
        clear hbt hd
        go_wp2_with fail
        refine (HBT.out _).mono ?_
        rintro e w' ⟨rfl, g3, m3, rfl⟩
        go_wp2_with fail
        exact bodyPost_ret (v := .tuple #[.slice none 0 0, .int .i64 2]) (by simp [results, Try.results46, go_sem]) rfl ⟨⟨none, 0, by rw [HR.out]; rfl, by rw [HR.out]; exact OwnI.nil _ _⟩, HGR.out.trans (by repeat (first | exact Grew.refl _ | refine Grew.drewN ?_ _ | refine Grew.grow ?_ _ | refine Grew.alloc ?_ _ | refine Grew.drew ?_))⟩
      case pos =>
        have hbt := HBT.out
        rw [decide_eq_true hd] at hbt
        have HBT := hid hbt
        cases hv : vldIts m ML with
        | false =>
          have HR := hid (HR.out.trans (if_neg fun h => by rw [hv] at h; exact Bool.false_ne_true h.2))
          rw [hv] at HV
          clear hbt hd hv
          go_wp2_with fail
          refine (HBT.out _).mono ?_
          rintro e w' ⟨rfl, g3, m3, rfl⟩
          go_wp2_with fail
          refine (HV.out _ (by repeat (first | exact Grew.refl _ | refine Grew.drewN ?_ _ | refine Grew.grow ?_ _ | refine Grew.alloc ?_ _ | refine Grew.drew ?_))).mono ?_
          rintro e w' ⟨rfl, g4, m4, rfl⟩
          go_wp2_with fail
          exact bodyPost_ret (v := .tuple #[.slice none 0 0, .int .i64 2]) (by simp [results, Try.results46, go_sem]) rfl ⟨⟨none, 0, by rw [HR.out]; rfl, by rw [HR.out]; exact OwnI.nil _ _⟩, HGR.out.trans (by repeat (first | exact Grew.refl _ | refine Grew.drewN ?_ _ | refine Grew.grow ?_ _ | refine Grew.alloc ?_ _ | refine Grew.drew ?_))⟩
        | true =>
          have HR := hid (HR.out.trans (if_pos ⟨hd, hv⟩))
          rw [hv] at HV
          clear hbt hd hv
          go_wp2_with fail
          refine (HBT.out _).mono ?_
          rintro e w' ⟨rfl, g3, m3, rfl⟩
          go_wp2_with fail
          refine (HV.out _ (by repeat (first | exact Grew.refl _ | refine Grew.drewN ?_ _ | refine Grew.grow ?_ _ | refine Grew.alloc ?_ _ | refine Grew.drew ?_))).mono ?_
          rintro e w' ⟨rfl, g4, m4, rfl⟩
          go_wp2_with fail
          exact bodyPost_ret (v := .tuple #[.slice a2 its.length k2, .int .i64 0]) (by simp [results, Try.results46, go_sem]) rfl ⟨⟨a2, k2, by rw [HR.out]; dsimp only; rw [HML.out], by rw [HR.out]; exact World.ownsRow.mono (HOM.out.grew (by repeat (first | exact Grew.refl _ | refine Grew.drewN ?_ _ | refine Grew.grow ?_ _ | refine Grew.alloc ?_ _ | refine Grew.drew ?_))) HB1.out⟩, HGR.out.trans (by repeat (first | exact Grew.refl _ | refine Grew.drewN ?_ _ | refine Grew.grow ?_ _ | refine Grew.alloc ?_ _ | refine Grew.drew ?_))⟩

theorem moved_any (g : Int) (a0 : Option Addr) (cap : Nat) (its : List It) (d m : Int) (w : World) (hl : its.length ≤ 9223372036854775807) (hc : Its w a0 its) (no0 : a0 = none → its.length = 0 ∧ cap = 0) :
    Calls Try.prog 46 #[.int .i64 g, .slice a0 its.length cap, .int .i64 d, .int .i64 m] w (ListI (mvE g its d m) w) := by
  by_cases hk : chkIts g its = 0
  · exact moved_main g a0 cap its d m w hl hc no0 hk
  · exact moved_bad g a0 cap its d m w hl hc hk

set_option maxRecDepth 100000 in
set_option maxHeartbeats 1600000 in
theorem rmoved_main (g : Int) (a0 : Option Addr) (cap : Nat) (its : List It) (d m : Int) (w : World) (hl : its.length ≤ 9223372036854775807) (hc : Its w a0 its) (hk : chkIts g its = 0) :
    Calls Try.prog 47 #[.int .i64 g, .slice a0 its.length cap, .int .i64 d, .int .i64 m] w (ListI (mvE g its d m) w) := by
  have HK := hid fun w' (h : Grew w w') => asked_any g a0 cap its w' hl (hc.grew h)
  rw [hk] at HK
  obtain ⟨q1, q2, q3, q4⟩ := chkIts_zero hk
  have HR : Hid (mvE g its d m = if (-6 ≤ d ∧ d ≤ 6) ∧ vldIts m (its.map (mvI d)) = true then (its.map (mvI d), 0) else ([], 2)) := hid (by unfold mvE; rw [if_pos hk])
  have hl5 : its.length ≤ 5000 := q3
  have HC := hid hc
  have hvm : vldIts m (its.map (mvI d)) = true → 1 ≤ m ∧ m ≤ 6 := fun h => by
    unfold vldIts at h
    simp only [Bool.and_eq_true, decide_eq_true_eq] at h
    exact h.1.1
  clear hc hl hk q1 q2 q3 q4
  by_cases hin : -6 ≤ d ∧ d ≤ 6 ∧ 1 ≤ m ∧ m ≤ 6
  case neg =>
    have HR := hid (HR.out.trans (if_neg fun h => hin ⟨h.1.1, h.1.2, hvm h.2⟩))
    clear hvm
    by_cases x1 : d < -6
    case pos =>
        have f0 : decide ((d : Int) < -6) = true := decide_eq_true (by omega)
        clear x1 hin
        go_enter Try.func47, Try.ntmps47
        go_wp2_with fail
        refine (HK.out _ (by repeat (first | exact Grew.refl _ | refine Grew.drewN ?_ _ | refine Grew.grow ?_ _ | refine Grew.alloc ?_ _ | refine Grew.drew ?_))).mono ?_
        rintro e w' ⟨rfl, g1, m1, rfl⟩
        go_wp2_with fail
        exact bodyPost_ret (v := .tuple #[.slice none 0 0, .int .i64 2]) (by simp [results, Try.results47, go_sem]) rfl ⟨⟨none, 0, by rw [HR.out]; rfl, by rw [HR.out]; exact OwnI.nil _ _⟩, (by repeat (first | exact Grew.refl _ | refine Grew.drewN ?_ _ | refine Grew.grow ?_ _ | refine Grew.alloc ?_ _ | refine Grew.drew ?_))⟩
    by_cases x2 : 6 < d
    case pos =>
        have f0 : decide ((d : Int) < -6) = false := decide_eq_false (by omega)
        have f1 : decide ((6 : Int) < d) = true := decide_eq_true (by omega)
        clear x1 x2 hin
        go_enter Try.func47, Try.ntmps47
        go_wp2_with fail
        refine (HK.out _ (by repeat (first | exact Grew.refl _ | refine Grew.drewN ?_ _ | refine Grew.grow ?_ _ | refine Grew.alloc ?_ _ | refine Grew.drew ?_))).mono ?_
        rintro e w' ⟨rfl, g1, m1, rfl⟩
        go_wp2_with fail
        exact bodyPost_ret (v := .tuple #[.slice none 0 0, .int .i64 2]) (by simp [results, Try.results47, go_sem]) rfl ⟨⟨none, 0, by rw [HR.out]; rfl, by rw [HR.out]; exact OwnI.nil _ _⟩, (by repeat (first | exact Grew.refl _ | refine Grew.drewN ?_ _ | refine Grew.grow ?_ _ | refine Grew.alloc ?_ _ | refine Grew.drew ?_))⟩
    by_cases x3 : m < 1
    case pos =>
        have f0 : decide ((d : Int) < -6) = false := decide_eq_false (by omega)
        have f1 : decide ((6 : Int) < d) = false := decide_eq_false (by omega)
        have f2 : decide ((m : Int) < 1) = true := decide_eq_true (by omega)
        clear x1 x2 x3 hin
        go_enter Try.func47, Try.ntmps47
        go_wp2_with fail
        refine (HK.out _ (by repeat (first | exact Grew.refl _ | refine Grew.drewN ?_ _ | refine Grew.grow ?_ _ | refine Grew.alloc ?_ _ | refine Grew.drew ?_))).mono ?_
        rintro e w' ⟨rfl, g1, m1, rfl⟩
        go_wp2_with fail
        exact bodyPost_ret (v := .tuple #[.slice none 0 0, .int .i64 2]) (by simp [results, Try.results47, go_sem]) rfl ⟨⟨none, 0, by rw [HR.out]; rfl, by rw [HR.out]; exact OwnI.nil _ _⟩, (by repeat (first | exact Grew.refl _ | refine Grew.drewN ?_ _ | refine Grew.grow ?_ _ | refine Grew.alloc ?_ _ | refine Grew.drew ?_))⟩
    case neg =>
        have f0 : decide ((d : Int) < -6) = false := decide_eq_false (by omega)
        have f1 : decide ((6 : Int) < d) = false := decide_eq_false (by omega)
        have f2 : decide ((m : Int) < 1) = false := decide_eq_false (by omega)
        have f3 : decide ((6 : Int) < m) = true := decide_eq_true (by omega)
        clear x1 x2 x3 hin
        go_enter Try.func47, Try.ntmps47
        go_wp2_with fail
        refine (HK.out _ (by repeat (first | exact Grew.refl _ | refine Grew.drewN ?_ _ | refine Grew.grow ?_ _ | refine Grew.alloc ?_ _ | refine Grew.drew ?_))).mono ?_
        rintro e w' ⟨rfl, g1, m1, rfl⟩
        go_wp2_with fail
        exact bodyPost_ret (v := .tuple #[.slice none 0 0, .int .i64 2]) (by simp [results, Try.results47, go_sem]) rfl ⟨⟨none, 0, by rw [HR.out]; rfl, by rw [HR.out]; exact OwnI.nil _ _⟩, (by repeat (first | exact Grew.refl _ | refine Grew.drewN ?_ _ | refine Grew.grow ?_ _ | refine Grew.alloc ?_ _ | refine Grew.drew ?_))⟩
  case pos =>
    obtain ⟨i1, i2, i3, i4⟩ := hin
    have f0 : decide ((d : Int) < -6) = false := decide_eq_false (by omega)
    have f1 : decide ((6 : Int) < d) = false := decide_eq_false (by omega)
    have f2 : decide ((m : Int) < 1) = false := decide_eq_false (by omega)
    have f3 : decide ((6 : Int) < m) = false := decide_eq_false (by omega)
    have HD := hid (And.intro i1 i2)
    clear hvm i1 i2 i3 i4
    go_enter Try.func47, Try.ntmps47
    go_wp2_with fail
    refine (HK.out _ (by repeat (first | exact Grew.refl _ | refine Grew.drewN ?_ _ | refine Grew.grow ?_ _ | refine Grew.alloc ?_ _ | refine Grew.drew ?_))).mono ?_
    rintro e W1 ⟨rfl, hg1⟩
    have HG := hid (Grew.trans (a := w) (by repeat (first | exact Grew.refl _ | refine Grew.drewN ?_ _ | refine Grew.grow ?_ _ | refine Grew.alloc ?_ _ | refine Grew.drew ?_)) hg1)
    clear hg1 HK
    go_wp2_with fail
    go_loopw [11, 36] (fun c v wr => ∃ (i : Nat) (ac : Option Addr) (kc : Nat) (L : List It), i ≤ its.length ∧ v = .int .i64 i ∧ c = .slice ac L.length kc ∧ Hid (L = (its.take i).map (mvI d)) ∧ Hid (OwnI wr w.heap.size ac kc L) ∧ Grew w wr) (fun _ v _ => its.length - (intOf v).toNat)
    case atStart => exact ⟨0, none, 0, [], Nat.zero_le _, rfl, rfl, rfl, OwnI.nil _ _, HG.out⟩
    case round =>
      obtain ⟨i, ac, kc, L, hi, rfl, rfl, HL, HO, hg⟩ := hrel
      by_cases hlt : i < its.length
      case pos =>
        obtain ⟨z, hz⟩ : ∃ z, its[i]? = some z := ⟨its[i], List.getElem?_eq_getElem hlt⟩
        obtain ⟨b, off, rfl, hb, c0, c1, c2, c3⟩ := (HC.out.grew hg).cells hz
        have HN := hid (show L ++ [(⟨z.kind, wrap64 (z.pos + d), z.n, z.name⟩ : It)] = (its.take (i + 1)).map (mvI d) by rw [take_snocI hz, List.map_append, HL.out]; rfl)
        have HLL := hid (show L.length ≤ 5000 by rw [HL.out, List.length_map, List.length_take]; omega)
        have HGR := hid hg
        have hsz := hg.size
        have hb1 := fun m0 : Nat => Nat.lt_add_right m0 (hb)
        have hb2 := fun m0 m1 : Nat => Nat.lt_add_right m1 (hb1 m0)
        have hb3 := fun m0 m1 m2 : Nat => Nat.lt_add_right m2 (hb2 m0 m1)
        clear hz hg
        go_wp2_with (at_builtin; go_loud (refine wpList_append_its rfl _ _ rfl w.heap.size ac kc L rfl (HO.out.grew (by repeat (first | exact Grew.refl _ | refine Grew.drewN ?_ _ | refine Grew.grow ?_ _ | refine Grew.alloc ?_ _ | refine Grew.drew ?_))) _ 1 [(⟨z.kind, wrap64 (z.pos + d), z.n, z.name⟩ : It)] rfl (fun e => by cases e) (cells_newI _ _ (by simp [go_sem]) #[.int .i64 z.kind, .int .i64 (wrap64 (z.pos + d)), .int .i64 z.n, .string z.name] _ [(⟨z.kind, wrap64 (z.pos + d), z.n, z.name⟩ : It)] rfl) ?hmx ?hbs ?_))
        case hmx => have := HLL.out; simp; omega
        case hbs => (try simp [go_sem]); omega
        · intro a4 k4 wB hownB hgrowB hdrB
          have HGB := hid (show Grew w wB from Grew.by (w' := _) (HGR.out.trans (by repeat (first | exact Grew.refl _ | refine Grew.drewN ?_ _ | refine Grew.grow ?_ _ | refine Grew.alloc ?_ _ | refine Grew.drew ?_))) hgrowB hdrB (fun jj hjj => ownsRow_above HO.out jj hjj))
          have HOB := hid hownB
          clear hgrowB hdrB hownB
          go_wp2_with fail
          go_roundw
          case rel => exact ⟨i + 1, a4, k4, L ++ [(⟨z.kind, wrap64 (z.pos + d), z.n, z.name⟩ : It)], by omega, by go_num, by simp, HN.out, HOB.out, HGB.out⟩
          case measure => simp [intOf]; omega
      case neg =>
        obtain rfl : i = its.length := by omega
        have hL := HL.out
        rw [List.take_length] at hL
        have hLl : L.length ≤ 5000 := by rw [hL, List.length_map]; omega
        rw [← hL] at HR
        have HV := hid fun w' (hg2 : Grew wr w') => rvldI_any m ac kc L w' (by omega) ((OwnI.its HO.out).grew hg2)
        have HGR := hid hg
        clear hL hg hLl
        cases hv : vldIts m L with
        | false =>
          have HR := hid (HR.out.trans (if_neg fun h => by rw [hv] at h; exact Bool.false_ne_true h.2))
          rw [hv] at HV
          clear hv
          go_wp2_with fail
          refine (HV.out _ (by repeat (first | exact Grew.refl _ | refine Grew.drewN ?_ _ | refine Grew.grow ?_ _ | refine Grew.alloc ?_ _ | refine Grew.drew ?_))).mono ?_
          rintro e w' ⟨rfl, g4, m4, rfl⟩
          go_wp2_with fail
          exact bodyPost_ret (v := .tuple #[.slice none 0 0, .int .i64 2]) (by simp [results, Try.results47, go_sem]) rfl ⟨⟨none, 0, by rw [HR.out]; rfl, by rw [HR.out]; exact OwnI.nil _ _⟩, HGR.out.trans (by repeat (first | exact Grew.refl _ | refine Grew.drewN ?_ _ | refine Grew.grow ?_ _ | refine Grew.alloc ?_ _ | refine Grew.drew ?_))⟩
        | true =>
          have HR := hid (HR.out.trans (if_pos ⟨HD.out, hv⟩))
          rw [hv] at HV
          clear hv
          go_wp2_with fail
          refine (HV.out _ (by repeat (first | exact Grew.refl _ | refine Grew.drewN ?_ _ | refine Grew.grow ?_ _ | refine Grew.alloc ?_ _ | refine Grew.drew ?_))).mono ?_
          rintro e w' ⟨rfl, g4, m4, rfl⟩
          go_wp2_with fail
          exact bodyPost_ret (v := .tuple #[.slice ac L.length kc, .int .i64 0]) (by simp [results, Try.results47, go_sem]) rfl ⟨⟨ac, kc, by rw [HR.out], by rw [HR.out]; exact HO.out.grew (by repeat (first | exact Grew.refl _ | refine Grew.drewN ?_ _ | refine Grew.grow ?_ _ | refine Grew.alloc ?_ _ | refine Grew.drew ?_))⟩, HGR.out.trans (by repeat (first | exact Grew.refl _ | refine Grew.drewN ?_ _ | refine Grew.grow ?_ _ | refine Grew.alloc ?_ _ | refine Grew.drew ?_))⟩
theorem rmoved_any (g : Int) (a0 : Option Addr) (cap : Nat) (its : List It) (d m : Int) (w : World) (hl : its.length ≤ 9223372036854775807) (hc : Its w a0 its) :
    Calls Try.prog 47 #[.int .i64 g, .slice a0 its.length cap, .int .i64 d, .int .i64 m] w (ListI (mvE g its d m) w) := by
  by_cases hk : chkIts g its = 0
  · exact rmoved_main g a0 cap its d m w hl hc hk
  · exact rmoved_bad g a0 cap its d m w hl hc hk

end Go.Proofs.Ytkglnnkghillpaa
