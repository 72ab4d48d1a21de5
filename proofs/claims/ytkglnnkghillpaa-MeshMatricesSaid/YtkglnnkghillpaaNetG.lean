/- Layer 3: the matrix of the circuit of a netlist: the program. Condition: the netlist lies in memory. -/
import Derived.Test.YtkglnnkghillpaaNetF
import Derived.Test.YtkglnnkghillpaaNetC
import Derived.Test.YtkglnnkghillpaaMshX
import Derived.Carry
namespace Go.Proofs.Ytkglnnkghillpaa
open Go Go.RowKit Amp Msh

theorem MapV.isMap {w : World} {b n : Nat} {f : ByteArray → Option Value} (h : MapV w b n f) : ∃ es clock, w.heap[b]? = some (.map es clock) := by
  obtain ⟨D, ⟨es, clock, hb, _⟩, _⟩ := h
  exact ⟨es, clock, hb⟩
/-- Numbers do not lie in a map. -/
theorem Nms.byMap {W w : World} {b : Nat} {a0 : Option Addr} {l : List Num} (h : Nms W a0 l) (ht : Turned W w b) (hb : ∃ es clock, W.heap[b]? = some (.map es clock)) : Nms w a0 l :=
  h.al (b := b) (fun b1 o1 e hl e2 => by
    subst e
    subst e2
    obtain ⟨z, hz⟩ : ∃ z, l[0]? = some z := ⟨l[0]'(List.length_pos_iff.2 hl), List.getElem?_eq_getElem (List.length_pos_iff.2 hl)⟩
    obtain ⟨b2, o2, h1, _, c0, _⟩ := h.cells hz
    injection h1 with h1
    injection h1 with h2 h3
    subst h2
    obtain ⟨es, clock, hb⟩ := hb
    simp [World.cell?, hb] at c0) (fun k hk hks => ht.block hks hk) ht.size
theorem MapM.turned {W w : World} {b bm n : Nat} {E : Env} {x : Int} {a : Option Addr} {p q : Nat} {T : TypeId} (h : MapM W bm n E) (ht : Turned W w b) (hb : W.heap[b]? = some (.cells #[.int .i64 x, .slice a p q] T)) : MapM w bm n E := by
  obtain ⟨f, h1, h2⟩ := h
  have hne : bm ≠ b := by
    rintro rfl
    obtain ⟨es, clock, h3⟩ := h1.isMap
    rw [h3] at hb
    simp at hb
  refine ⟨f, h1.kept ht.grown (fun e => hne (Option.some.inj e)), fun s => ?_⟩
  rcases h2 s with h3 | ⟨m, lm, a, k, h3, h4, h5⟩
  · exact .inl h3
  · exact .inr ⟨m, lm, a, k, h3, h4, h5.turned ht hb⟩
/-- What the last cell so far has. -/
def LastOk (L : List Cl) (i : Nat) (Ms : List (List Num)) (N : Int) (l : List Num) : Prop := (i = 0 ∧ N = 0 ∧ l = []) ∨ ∃ (j : Nat) (c : Cl), i = j + 1 ∧ L[j]? = some c ∧ Ms.getLast? = some l ∧ N = c.gd
/-- While the matrices of the cells are made. -/
structure MatSt (w : World) (L : List Cl) (b2 bm b5 i : Nat) (Ms : List (List Num)) (W : World) : Prop where
  grew : Grew w W
  zero : W.heap[b2]? = some (.cells #[.int .i64 0, .slice none 0 0] 28)
  map : MapM W bm i (envF (L.take i) Ms)
  cur : ∃ (N : Int) (l : List Num) (a : Option Addr) (k : Nat), W.heap[b5]? = some (.cells #[.int .i64 N, .slice a l.length k] 28) ∧ Nms W a l ∧ LastOk L i Ms N l
theorem MatSt.grow {w : World} {L : List Cl} {b2 bm b5 i : Nat} {Ms : List (List Num)} {W W' : World} (h : MatSt w L b2 bm b5 i Ms W) (g : Grew W W') : MatSt w L b2 bm b5 i Ms W' := by
  obtain ⟨N, l, a, k, h1, h2, h3⟩ := h.cur
  exact ⟨h.grew.trans g, (g.block b2 (Array.getElem?_eq_some_iff.1 h.zero).1).trans h.zero, h.map.grew g, N, l, a, k, (g.block b5 (Array.getElem?_eq_some_iff.1 h1).1).trans h1, h2.grew g, h3⟩
theorem MapM.put {w w' : World} {b n m : Nat} {E : Env} {f : ByteArray → Option Value} {q : ByteArray} {lm : List Num} {a : Option Addr} {k : Nat} (h1 : MapV w b n f) (h2 : ∀ s : ByteArray, (E s = none ∧ f s = none) ∨ ∃ (m : Nat) (lm : List Num) (a : Option Addr) (k : Nat), E s = some (m, lm) ∧ f s = some (.agg #[.int .i64 m, .slice a lm.length k]) ∧ Nms w a lm)
    (hM : MapV w' b (n + 1) (fun s => if s = q then some (.agg #[.int .i64 m, .slice a lm.length k]) else f s)) (ht : Turned w w' b) (hN : Nms w a lm) {E' : Env} (hE : ∀ s, E' s = if s = q then some (m, lm) else E s) : MapM w' b (n + 1) E' := by
  refine ⟨_, hM, fun s => ?_⟩
  rw [hE]
  by_cases hs : s = q
  · rw [if_pos hs]
    exact .inr ⟨m, lm, a, k, rfl, by rw [if_pos hs], hN.byMap ht h1.isMap⟩
  · rw [if_neg hs]
    rcases h2 s with ⟨h3, h4⟩ | ⟨m', lm', a', k', h3, h4, h5⟩
    · exact .inl ⟨h3, by rw [if_neg hs]; exact h4⟩
    · exact .inr ⟨m', lm', a', k', h3, by rw [if_neg hs]; exact h4, h5.byMap ht h1.isMap⟩
/-- What a function answers that makes the matrix of a netlist. -/
def MadeNet (R : Int × List Num × Int) (w : World) (e : Ending) (w' : World) : Prop :=
  (∃ (a0 : Option Addr) (k0 : Nat), e = .returned (.tuple #[.agg #[.int .i64 R.1, .slice a0 R.2.1.length k0], .int .i64 R.2.2]) ∧ Nms w' a0 R.2.1) ∧ Grew w w'
theorem itsE_shape {E : Env} {n : Nat} : ∀ (its : List It) (l : List Num), VldL l → l.length = n * n → (itsE E n its l).2 = 0 → VldL (itsE E n its l).1 ∧ (itsE E n its l).1.length = n * n
  | [], l, h1, h2, _ => ⟨h1, h2⟩
  | x :: t, l, h1, h2, h3 => by
    unfold itsE at h3 ⊢
    by_cases he : (stepE E n x l).2 = 0
    · rw [if_pos he] at h3 ⊢
      have hl : (stepE E n x l).1.length = n * n := matR_length he
      exact itsE_shape t _ (mulM_valid _ _ _) hl h3
    · rw [if_neg he] at h3
      exact absurd h3 he
theorem itsE_bad {E : Env} {n : Nat} : ∀ (its : List It) (l : List Num), (itsE E n its l).2 ≠ 0 → (itsE E n its l).1 = []
  | [], l, h => absurd rfl h
  | x :: t, l, h => by
    unfold itsE at h ⊢
    by_cases he : (stepE E n x l).2 = 0
    · rw [if_pos he] at h ⊢
      exact itsE_bad t _ h
    · rw [if_neg he]

set_option maxRecDepth 100000 in
set_option maxHeartbeats 4000000 in
theorem matrix_bad (a0 : Option Addr) (cap : Nat) (L : List Cl) (w : World) (hl : L.length ≤ 9223372036854775807) (hN : Net w a0 L) (hk : CsOk L) (hv : vnet L = false) :
    Calls Try.prog 23 #[.slice a0 L.length cap] w (MadeNet (0, [], 30) w) := by
  have HVN := hid fun w' (hg : Grew w w') => vnetP_any a0 cap L w' hl (hN.grew hg) hk
  rw [hv] at HVN
  clear hN hk hv hl
  go_enter Try.func23, Try.ntmps23
  go_wp2_with fail
  refine (HVN.out _ (by repeat (first | exact Grew.refl _ | refine Grew.drewN ?_ _ | refine Grew.grow ?_ _ | refine Grew.alloc ?_ _ | refine Grew.drew ?_))).mono ?_
  rintro e w' ⟨rfl, g1, n1, rfl⟩
  go_wp2_with fail
  exact bodyPost_ret (v := .tuple #[.agg #[.int .i64 0, .slice none 0 0], .int .i64 30]) (by simp [results, Try.results23, go_sem]) rfl ⟨⟨none, 0, rfl, .inl rfl⟩, (by repeat (first | exact Grew.refl _ | exact HG.out | refine Grew.drewN ?_ _ | refine Grew.grow ?_ _ | refine Grew.alloc ?_ _ | refine Grew.drew ?_ | refine Grew.set ?_ (Nat.le_refl _) _ _ | refine Grew.set ?_ (by omega) _ _))⟩

set_option maxRecDepth 100000 in
set_option maxHeartbeats 4000000 in
theorem matrix_main (a0 : Option Addr) (cap : Nat) (L : List Cl) (w : World) (hl : L.length ≤ 9223372036854775807) (hN : Net w a0 L) (hk : CsOk L) (hv : vnet L = true) :
    Calls Try.prog 23 #[.slice a0 L.length cap] w (MadeNet (if (netM [] [] L).2 = 0 then ((L.getLast?.map Cl.gd).getD 0, (netM [] [] L).1.getLast?.getD [], 0) else (0, [], (netM [] [] L).2)) w) := by
  have HVN := hid fun w' (hg : Grew w w') => vnetP_any a0 cap L w' hl (hN.grew hg) hk
  rw [hv] at HVN
  have HN := hid hN
  have HK := hid hk
  have HALL := hid (vnet_all hv)
  obtain ⟨R, hR⟩ : ∃ R, netM [] [] L = R := ⟨_, rfl⟩
  have HR := hid hR
  rw [hR]
  obtain ⟨X, hX⟩ : ∃ X : Int × List Num × Int, (if R.2 = 0 then ((L.getLast?.map Cl.gd).getD 0, R.1.getLast?.getD [], 0) else (0, [], R.2)) = X := ⟨_, rfl⟩
  rw [hX]
  have HX := hid hX
  have hl20 : L.length ≤ 20 := HALL.out.1.2
  have hmm := @run_makeMap Try.prog
  clear hN hk hv hR hX
  go_enter Try.func23, Try.ntmps23
  go_wp2_with fail
  refine (HVN.out _ (by repeat (first | exact Grew.refl _ | refine Grew.drewN ?_ _ | refine Grew.grow ?_ _ | refine Grew.alloc ?_ _ | refine Grew.drew ?_))).mono ?_
  rintro e W1 ⟨rfl, hg1⟩
  obtain ⟨b2, hb2⟩ : ∃ b2, b2 = w.heap.size := ⟨_, rfl⟩
  have hz2 : W1.heap[b2]? = some (.cells #[.int .i64 0, .slice none 0 0] 28) := by
    rw [hb2]
    refine (hg1.block _ (by simp)).trans ?_
    show (w.heap.push _)[w.heap.size]? = _
    simp
  have hgw : Grew w W1 := Grew.trans (by repeat (first | exact Grew.refl _ | refine Grew.drewN ?_ _ | refine Grew.grow ?_ _ | refine Grew.alloc ?_ _ | refine Grew.drew ?_)) hg1
  have hbB : w.heap.size ≤ b2 := by omega
  rw [← hb2]
  have HZ2 := hid hz2
  have HGW := hid hgw
  clear hg1 hb2 hz2 hgw HVN
  go_wp2_with fail
  obtain ⟨bm, hbm⟩ : ∃ b, b = W1.heap.size := ⟨_, rfl⟩
  obtain ⟨W2, hW2⟩ : ∃ W2, W2 = (W1.alloc (.map #[] 0)).alloc (.cells #[.int .i64 0, .slice none 0 0] 28) := ⟨_, rfl⟩
  obtain ⟨b5, hb5⟩ : ∃ b, b = W1.heap.size + 1 := ⟨_, rfl⟩
  have hst : MatSt w L b2 bm b5 0 [] W2 := by
    have hm0 : MapV (W1.alloc (.map #[] 0)) bm 0 fun _ => none := MapV.made hbm
    have g12 : Grew W1 W2 := by rw [hW2]; exact (by repeat (first | exact Grew.refl _ | refine Grew.drewN ?_ _ | refine Grew.grow ?_ _ | refine Grew.alloc ?_ _ | refine Grew.drew ?_))
    refine ⟨HGW.out.trans g12, (g12.block b2 (Array.getElem?_eq_some_iff.1 HZ2.out).1).trans HZ2.out, ⟨_, by rw [hW2]; exact hm0.grew (by repeat (first | exact Grew.refl _ | refine Grew.drewN ?_ _ | refine Grew.grow ?_ _ | refine Grew.alloc ?_ _ | refine Grew.drew ?_)), fun s => .inl ⟨by rw [List.take_zero]; rfl, rfl⟩⟩, 0, [], none, 0, ?_, .inl rfl, .inl ⟨rfl, rfl, rfl⟩⟩
    rw [hW2, hb5]
    exact blk_new (by simp [go_sem])
  have hB5 : w.heap.size ≤ b5 := by have := HGW.out.size; omega
  have hBm : w.heap.size ≤ bm := by have := HGW.out.size; omega
  have hb25 : b2 ≠ b5 := by have := (Array.getElem?_eq_some_iff.1 HZ2.out).1; omega
  have hb2m : b2 ≠ bm := by have := (Array.getElem?_eq_some_iff.1 HZ2.out).1; omega
  have hb5m : b5 ≠ bm := by omega
  rw [← hW2, ← hb5, ← hbm]
  have HST := hid hst
  have HBB := hid (And.intro hbB (And.intro hB5 (And.intro hBm (And.intro hb25 (And.intro hb2m hb5m)))))
  clear hst hW2 hbm hb5 hbB hB5 hBm hb25 hb2m hb5m HZ2 HGW
  go_loopw [16] (fun v wr => ∃ (i : Nat) (Ms : List (List Num)), i ≤ L.length ∧ v = .int .i64 i ∧ Hid (R = netM (L.take i) Ms (L.drop i)) ∧ Hid (MsOk (L.take i) Ms) ∧ Hid (MatSt w L b2 bm b5 i Ms wr)) (fun v _ => L.length - (intOf v).toNat)
  case atStart => exact ⟨0, [], Nat.zero_le _, rfl, HR.out.symm, ⟨rfl, fun j c M h => by simp at h⟩, HST.out⟩
  case round =>
    obtain ⟨i, Ms, hi, rfl, HV, HOK, HS⟩ := hrel
    by_cases hlt : i < L.length
    case neg =>
      obtain rfl : i = L.length := by omega
      have hv := HV.out
      rw [List.drop_length] at hv
      obtain ⟨N, l, a, k, h5, hNl, hla⟩ := HS.out.cur
      have hRR : X = (N, l, 0) := by
        rw [← HX.out, hv]
        show (if (0 : Int) = 0 then ((L.getLast?.map Cl.gd).getD 0, Ms.getLast?.getD [], 0) else _) = _
        rw [if_pos rfl]
        rcases hla with ⟨h1, _⟩ | ⟨j, c, h1, h2, h3, h4⟩
        · have := HALL.out.1.1; omega
        · rw [h3, List.getLast?_eq_getElem?, h1, Nat.add_sub_cancel, h2, h4]
          rfl
      have h2 := HS.out.zero
      have z5 := (Array.getElem?_eq_some_iff.1 h5).1
      have z2 := (Array.getElem?_eq_some_iff.1 h2).1
      have y0 : wr.cell? ⟨b5, 0, none⟩ = some (.int .i64 N) := by simp [World.cell?, h5]
      have y1 : wr.cell? ⟨b5, 1, none⟩ = some (.slice a l.length k) := by simp [World.cell?, h5]
      have x0 : wr.cell? ⟨b2, 0, none⟩ = some (.int .i64 0) := by simp [World.cell?, h2]
      have x1 : wr.cell? ⟨b2, 1, none⟩ = some (.slice none 0 0) := by simp [World.cell?, h2]
      have f0 : wr.frozen? ⟨b2, 0, none⟩ = false := by simp [World.frozen?, h2]
      have f1 : wr.frozen? ⟨b2, 1, none⟩ = false := by simp [World.frozen?, h2]
      have HNL := hid (And.intro h2 hNl)
      have HRR := hid hRR
      have HG := hid HS.out.grew
      have z51 := fun m0 : Nat => Nat.lt_add_right m0 (z5)
      have z52 := fun m0 m1 : Nat => Nat.lt_add_right m1 (z51 m0)
      have z53 := fun m0 m1 m2 : Nat => Nat.lt_add_right m2 (z52 m0 m1)
      have z21 := fun m0 : Nat => Nat.lt_add_right m0 (z2)
      have z22 := fun m0 m1 : Nat => Nat.lt_add_right m1 (z21 m0)
      have z23 := fun m0 m1 m2 : Nat => Nat.lt_add_right m2 (z22 m0 m1)
      clear hv h5 hNl hla hRR h2 HS HV HOK
      go_wp2_with fail
      have hts : Turned wr ((wr.setCell ⟨b2, 0, none⟩ (.int .i64 N)).setCell ⟨b2, 1, none⟩ (.slice a l.length k)) b2 := ((Turned.refl _ _).set _ _).set _ _
      exact bodyPost_ret (v := .tuple #[.agg #[.int .i64 N, .slice a l.length k], .int .i64 0]) (by simp [results, Try.results23, go_sem, x0, x1]) rfl ⟨⟨a, k, by rw [HRR.out], by rw [HRR.out]; exact HNL.out.2.turned hts HNL.out.1⟩, hts.toGrew HG.out HBB.out.1⟩
    case pos =>
      obtain ⟨c, hc⟩ : ∃ c, L[i]? = some c := ⟨L[i], List.getElem?_eq_getElem hlt⟩
      obtain ⟨b, off, rfl, hb, c0, c1, a2, k2, c2, hits⟩ := (HN.out.grew HS.out.grew).cells hc
      obtain ⟨k3, k4, k5⟩ := HK.out.at hc
      obtain ⟨v1, v2, v3, v4, v5⟩ := vcell_iff.1 (HALL.out.2 i c hc)
      have hv := HV.out
      rw [netM_step hc] at hv
      obtain ⟨n, hn⟩ : ∃ n : Nat, c.gd = n := ⟨c.gd.toNat, by omega⟩
      rw [hn, Int.toNat_natCast] at hv
      rw [hn] at c1 v5
      have n1 : 1 ≤ n := by omega
      have n2 : n ≤ 6 := by omega
      have hE := envOk HOK.out
      have HMD := hid fun w' (hg : Grew wr w') => made_env (envF (L.take i) Ms) (gdF (L.take i)) bm i n a2 k2 c.items w' n1 n2 (by omega) (hits.grew hg) v5 hE (HS.out.map.grew hg) k5
      obtain ⟨⟨Ml, Ee⟩, hM⟩ : ∃ p, itsE (envF (L.take i) Ms) n c.items (idN n) = p := ⟨_, rfl⟩
      have hsh := @itsE_shape (envF (L.take i) Ms) n c.items (idN n) (idN_valid n) (idN_length n)
      rw [hM] at hv HMD hsh
      obtain ⟨n5, hn5⟩ : ∃ n, c.items.length = n := ⟨_, rfl⟩
      obtain ⟨q, hq⟩ : ∃ q, c.name = q := ⟨_, rfl⟩
      rw [hn5] at HMD c2
      rw [hq] at c0 k3
      obtain ⟨N, l, a, k, h5, hNl, hla⟩ := HS.out.cur
      have h2 := HS.out.zero
      have z5 := (Array.getElem?_eq_some_iff.1 h5).1
      have z2 := (Array.getElem?_eq_some_iff.1 h2).1
      have HH5 := hid h5
      have HH2 := hid h2
      have HC := hid (And.intro hc (And.intro hq (And.intro hn (And.intro v1 (And.intro v2 v3)))))
      have HVV := hid hv
      have HSH := hid hsh
      have hb1 := fun m0 : Nat => Nat.lt_add_right m0 (hb)
      have hb2 := fun m0 m1 : Nat => Nat.lt_add_right m1 (hb1 m0)
      have hb3 := fun m0 m1 m2 : Nat => Nat.lt_add_right m2 (hb2 m0 m1)
      have z51 := fun m0 : Nat => Nat.lt_add_right m0 (z5)
      have z52 := fun m0 m1 : Nat => Nat.lt_add_right m1 (z51 m0)
      have z53 := fun m0 m1 m2 : Nat => Nat.lt_add_right m2 (z52 m0 m1)
      have z21 := fun m0 : Nat => Nat.lt_add_right m0 (z2)
      have z22 := fun m0 m1 : Nat => Nat.lt_add_right m1 (z21 m0)
      have z23 := fun m0 m1 m2 : Nat => Nat.lt_add_right m2 (z22 m0 m1)
      clear hc hits hv hE hM hsh hn5 hq hn v1 v2 v3 v4 v5 k4 k5 hNl hla HV h5 h2
      go_wp2_with fail
      refine (HMD.out _ (by repeat (first | exact Grew.refl _ | refine Grew.drewN ?_ _ | refine Grew.grow ?_ _ | refine Grew.alloc ?_ _ | refine Grew.drew ?_))).mono ?_
      rintro e W6 ⟨⟨am, km, rfl, hNm⟩, hg6⟩
      dsimp only at hNm ⊢
      have h7 : W6.heap[wr.heap.size]? = some (.cells #[.string q, .int .i64 n, .slice a2 n5 k2] 74) := (hg6.block _ (by simp)).trans (blk_new rfl)
      have y7 : W6.cell? ⟨wr.heap.size, 0, none⟩ = some (.string q) := by simp [World.cell?, h7]
      have z7 := (Array.getElem?_eq_some_iff.1 h7).1
      have hg6 : Grew wr W6 := Grew.trans (by repeat (first | exact Grew.refl _ | refine Grew.drewN ?_ _ | refine Grew.grow ?_ _ | refine Grew.alloc ?_ _ | refine Grew.drew ?_)) hg6
      have h5 := (hg6.block b5 z5).trans HH5.out
      have h2 := (hg6.block b2 z2).trans HH2.out
      have z5 := (Array.getElem?_eq_some_iff.1 h5).1
      have z2 := (Array.getElem?_eq_some_iff.1 h2).1
      obtain ⟨b7, hb7⟩ : ∃ b7, b7 = wr.heap.size := ⟨_, rfl⟩
      rw [← hb7] at y7 z7 ⊢
      have y0 : W6.cell? ⟨b5, 0, none⟩ = some (.int .i64 N) := by simp [World.cell?, h5]
      have y1 : W6.cell? ⟨b5, 1, none⟩ = some (.slice a l.length k) := by simp [World.cell?, h5]
      have p0 : W6.frozen? ⟨b5, 0, none⟩ = false := by simp [World.frozen?, h5]
      have p1 : W6.frozen? ⟨b5, 1, none⟩ = false := by simp [World.frozen?, h5]
      have x0 : W6.cell? ⟨b2, 0, none⟩ = some (.int .i64 0) := by simp [World.cell?, h2]
      have x1 : W6.cell? ⟨b2, 1, none⟩ = some (.slice none 0 0) := by simp [World.cell?, h2]
      have f0 : W6.frozen? ⟨b2, 0, none⟩ = false := by simp [World.frozen?, h2]
      have f1 : W6.frozen? ⟨b2, 1, none⟩ = false := by simp [World.frozen?, h2]
      have hb57 : b7 ≠ b5 := by
        have := (Array.getElem?_eq_some_iff.1 HH5.out).1
        omega
      have hne25 : b2 ≠ b5 := HBB.out.2.2.2.1
      have HG6 := hid (HS.out.grew.trans hg6)
      have HH5 := hid h5
      have HH2 := hid h2
      have HNM := hid hNm
      have HMM := hid (HS.out.map.grew hg6)
      clear h7 hg6 h5 h2 hNm hb7 HS HMD c0 c1 c2 hb hb1 hb2 hb3 z51 z52 z53 z21 z22 z23
      by_cases he : Ee = 0
      case neg =>
        have e1 : (Ee != 0) = true := by simpa using he
        have hRR := HVV.out
        rw [show (if (Ml, Ee).2 = 0 then netM (L.take (i + 1)) (Ms ++ [(Ml, Ee).1]) (L.drop (i + 1)) else ([], (Ml, Ee).2)) = ([], Ee) from if_neg he] at hRR
        have HRR := hid (show X = ((0 : Int), ([] : List Num), Ee) by rw [← HX.out, hRR]; exact if_neg he)
        obtain ⟨N6, hN6⟩ : ∃ N6, rowsOf n Ee = N6 := ⟨_, rfl⟩
        rw [hN6]
        clear he hRR HVV hN6
        go_wp2_with fail
        exact bodyPost_ret (v := .tuple #[.agg #[.int .i64 0, .slice none 0 0], .int .i64 Ee]) (by simp [results, Try.results23, go_sem, x0, x1]) rfl ⟨⟨none, 0, by rw [HRR.out]; rfl, by rw [HRR.out]; exact .inl rfl⟩, (((HG6.out.set HBB.out.2.1 _ _).set HBB.out.2.1 _ _).set HBB.out.1 _ _).set HBB.out.1 _ _⟩
      case pos =>
        subst he
        have hR2 := HVV.out
        rw [show (if (Ml, (0 : Int)).2 = 0 then netM (L.take (i + 1)) (Ms ++ [(Ml, (0 : Int)).1]) (L.drop (i + 1)) else ([], (Ml, (0 : Int)).2)) = netM (L.take (i + 1)) (Ms ++ [Ml]) (L.drop (i + 1)) from if_pos rfl] at hR2
        have HR2 := hid hR2
        rw [show rowsOf n 0 = (n : Int) by rw [rowsOf, if_pos rfl]]
        have hts : Turned W6 ((W6.setCell ⟨b5, 0, none⟩ (.int .i64 n)).setCell ⟨b5, 1, none⟩ (.slice am Ml.length km)) b5 := ((Turned.refl _ _).set _ _).set _ _
        have hs5 := R4.set2 HH5.out (.int .i64 n) (.slice am Ml.length km)
        have hN8 := HNM.out.turned hts HH5.out
        obtain ⟨f, hf1, hf2⟩ := HMM.out.turned hts HH5.out
        have HTS := hid hts
        have HS5 := hid hs5
        have HN8 := hid hN8
        have HF1 := hid hf1
        have HF2 := hid hf2
        clear hR2 hts hs5 hN8 hf1 hf2 HVV HMM HNM
        go_wp2_with (at_mapUpdate; go_loud (refine wpList_mapUpdate_v rfl _ _ _ 75 rfl Try.underlying75 bm i f rfl HF1.out ?hmx q k3 (.agg #[.int .i64 n, .slice am Ml.length km]) rfl rfl ?_))
        case hmx => unfold maxLen; omega
        · intro wB hMB hgB hdB
          have htB : Turned ((W6.setCell ⟨b5, 0, none⟩ (.int .i64 n)).setCell ⟨b5, 1, none⟩ (.slice am Ml.length km)) wB bm := ⟨hgB, hdB⟩
          have hgw : Grew w wB := htB.toGrew (HTS.out.toGrew HG6.out HBB.out.2.1) HBB.out.2.2.1
          obtain ⟨hc, hq, hn, v1, v2, v3⟩ := HC.out
          have hlen : (L.take i).length = Ms.length := HOK.out.1
          have htk : L.take (i + 1) = L.take i ++ [c] := by rw [List.take_add_one, hc]; rfl
          have hmap : MapM wB bm (i + 1) (envF (L.take (i + 1)) (Ms ++ [Ml])) := MapM.put HF1.out HF2.out hMB htB HN8.out (fun s => by
            rw [htk, envF_snoc hlen v2 s, hq, hn, Int.toNat_natCast])
          have hz := (Array.getElem?_eq_some_iff.1 HH2.out).1
          have hz2 : wB.heap[b2]? = some (.cells #[.int .i64 0, .slice none 0 0] 28) := by
            rw [htB.block (k := b2) (Nat.lt_of_lt_of_le hz HTS.out.size) HBB.out.2.2.2.2.1, HTS.out.block hz hne25]
            exact HH2.out
          have h5B : wB.heap[b5]? = some (.cells #[.int .i64 n, .slice am Ml.length km] 28) := by
            rw [htB.block (k := b5) (Array.getElem?_eq_some_iff.1 HS5.out.1).1 HBB.out.2.2.2.2.2]
            exact HS5.out.1
          have hst : MatSt w L b2 bm b5 (i + 1) (Ms ++ [Ml]) wB := ⟨hgw, hz2, hmap, n, Ml, am, km, h5B, HN8.out.byMap htB HF1.out.isMap, .inr ⟨i, c, rfl, hc, by simp, hn.symm⟩⟩
          have HST := hid hst
          have HOK2 := hid (show MsOk (L.take (i + 1)) (Ms ++ [Ml]) by
            rw [htk]
            have h := HSH.out trivial
            exact HOK.out.snoc v3 h.1 (by rw [hn, Int.toNat_natCast]; exact h.2) v1)
          clear hMB hgB hdB htB hgw hc hq hn v1 v2 v3 hlen htk hmap hz hz2 h5B hst
          go_wp2_with fail
          go_roundw
          case rel => exact ⟨i + 1, Ms ++ [Ml], by omega, by go_num, HR2.out, HOK2.out, HST.out.grow (by repeat (first | exact Grew.refl _ | refine Grew.drewN ?_ _ | refine Grew.grow ?_ _ | refine Grew.alloc ?_ _ | refine Grew.drew ?_))⟩
          case measure => simp [intOf]; omega
theorem matrixP_any (a0 : Option Addr) (cap : Nat) (L : List Cl) (w : World) (hl : L.length ≤ 9223372036854775807) (hN : Net w a0 L) (hk : CsOk L) :
    Calls Try.prog 23 #[.slice a0 L.length cap] w (MadeNet (matNet L) w) := by
  unfold matNet
  by_cases hv : vnet L = true
  · rw [if_pos hv]
    exact matrix_main a0 cap L w hl hN hk hv
  · rw [if_neg hv]
    exact matrix_bad a0 cap L w hl hN hk (by simpa using hv)

end Go.Proofs.Ytkglnnkghillpaa
