/- Layer 3: the matrix of the circuit of a netlist: the reference. Condition: the netlist lies in memory. -/
import Derived.Test.YtkglnnkghillpaaNetH
import Derived.Test.YtkglnnkghillpaaNetE
namespace Go.Proofs.Ytkglnnkghillpaa
open Go Go.RowKit Amp Msh

theorem NmsK.byOwn {W W' : World} {base : Nat} {a a0 : Option Addr} {k : Nat} {V : List MV} {l : List Num} (h : NmsK W a0 l) (hown : OwnMs W base a k V) (g : W.grownBy W' (Value.slice a V.length k).ownBlock) (hd : W.drawn ≤ W'.drawn) : NmsK W' a0 l := by
  rcases hown.2 with ⟨h1, _⟩ | ⟨b, cap, cur, h1, _, h3, _⟩
  · rw [h1] at g
    exact h.grew (Grew.by (Grew.refl W) g hd (fun j hj => by simp [Value.ownBlock] at hj))
  · rw [h1] at g
    exact h.turned (b := b) ⟨g, hd⟩ h3 (by decide)
theorem MsIn.byOwn {W W' : World} {base : Nat} {a : Option Addr} {k : Nat} {V U : List MV} {C : List Cl} {Ms : List (List Num)} (h : MsIn W U C Ms) (hown : OwnMs W base a k V) (g : W.grownBy W' (Value.slice a V.length k).ownBlock) (hd : W.drawn ≤ W'.drawn) : MsIn W' U C Ms :=
  ⟨h.1, fun j m M c h1 h2 h3 => by
    obtain ⟨e1, e2, e3⟩ := h.2 j m M c h1 h2 h3
    exact ⟨e1, e2, e3.byOwn hown g hd⟩⟩
theorem nmO_app {q : ByteArray} : ∀ (A B : List Cl) (o : Nat) (c : Cl), A.find? (hasN q) = some c → nmO q o (A ++ B) = nmO q o A
  | [], B, o, c, h => by simp at h
  | d :: t, B, o, c, h => by
    rw [List.find?_cons] at h
    show (if hasN q d = true then (o : Int) else nmO q (o + 1) (t ++ B)) = if hasN q d = true then (o : Int) else nmO q (o + 1) t
    by_cases hd : hasN q d = true
    · rw [if_pos hd, if_pos hd]
    · rw [if_neg hd, if_neg hd]
      rw [show hasN q d = false by simpa using hd] at h
      exact nmO_app t B (o + 1) c h
theorem env_at {q : ByteArray} {m : Nat} {lm : List Num} : ∀ {C : List Cl} {Ms : List (List Num)} (o : Nat), C.length = Ms.length → envF C Ms q = some (m, lm) → ∃ (j : Nat) (c : Cl), nmO q o C = ((o + j : Nat) : Int) ∧ C[j]? = some c ∧ Ms[j]? = some lm ∧ c.gd.toNat = m ∧ C.find? (hasN q) ≠ none
  | [], [], o, _, h => by cases h
  | c :: C, M :: Ms, o, hl, h => by
    have h' : (if c.name = q then some (c.gd.toNat, M) else envF C Ms q) = some (m, lm) := h
    show ∃ (j : Nat) (d : Cl), (if hasN q c = true then (o : Int) else nmO q (o + 1) C) = ((o + j : Nat) : Int) ∧ _ ∧ _ ∧ _ ∧ _
    rw [List.find?_cons]
    by_cases hc : c.name = q
    · rw [if_pos hc] at h'
      have e := Option.some.inj h'
      rw [show hasN q c = true by unfold hasN; exact decide_eq_true hc, if_pos rfl]
      refine ⟨0, c, rfl, rfl, ?_, congrArg Prod.fst e, by simp⟩
      show some M = some lm
      rw [show M = lm from congrArg Prod.snd e]
    · rw [if_neg hc] at h'
      rw [show hasN q c = false by unfold hasN; exact decide_eq_false hc, if_neg Bool.false_ne_true]
      obtain ⟨j, d, h1, h2, h3, h4, h5⟩ := env_at (o + 1) (by simpa using hl) h'
      exact ⟨j + 1, d, by rw [h1]; congr 1; omega, by simpa using h2, by simpa using h3, h4, h5⟩
/-- While the matrices of the cells are made (the reference). -/
structure MxSt (w : World) (b2 : Nat) (a : Option Addr) (k : Nat) (V : List MV) (C : List Cl) (Ms : List (List Num)) (W : World) : Prop where
  grew : Grew w W
  zero : W.heap[b2]? = some (.cells #[.int .i64 0, .slice none 0 0] 28)
  own : OwnMs W (b2 + 1) a k V
  ins : MsIn W V C Ms
theorem MxSt.grow {w : World} {b2 : Nat} {a : Option Addr} {k : Nat} {V : List MV} {C : List Cl} {Ms : List (List Num)} {W W' : World} (h : MxSt w b2 a k V C Ms W) (g : Grew W W') : MxSt w b2 a k V C Ms W' :=
  ⟨h.grew.trans g, (g.block b2 (Array.getElem?_eq_some_iff.1 h.zero).1).trans h.zero, h.own.grew g, h.ins.grew g⟩

set_option maxRecDepth 100000 in
set_option maxHeartbeats 4000000 in
theorem rmatrix_bad (a0 : Option Addr) (cap : Nat) (L : List Cl) (w : World) (hl : L.length ≤ 9223372036854775807) (hN : Net w a0 L) (hk : CsOk L) (hcap : L.length ≤ cap) (hv : vnet L = false) :
    Calls Try.prog 24 #[.slice a0 L.length cap] w (MadeNet (0, [], 30) w) := by
  have HVN := hid fun w' (hg : Grew w w') => rvnet_any a0 cap L w' hl (hN.grew hg) hk hcap
  rw [hv] at HVN
  clear hN hk hv hl hcap
  go_enter Try.func24, Try.ntmps24
  go_wp2_with fail
  refine (HVN.out _ (by repeat (first | exact Grew.refl _ | refine Grew.drewN ?_ _ | refine Grew.grow ?_ _ | refine Grew.alloc ?_ _ | refine Grew.drew ?_))).mono ?_
  rintro e w' ⟨rfl, g1, n1, rfl⟩
  go_wp2_with fail
  exact bodyPost_ret (v := .tuple #[.agg #[.int .i64 0, .slice none 0 0], .int .i64 30]) (by simp [results, Try.results24, go_sem]) rfl ⟨⟨none, 0, rfl, .inl rfl⟩, (by repeat (first | exact Grew.refl _ | exact HG.out | refine Grew.drewN ?_ _ | refine Grew.grow ?_ _ | refine Grew.alloc ?_ _ | refine Grew.drew ?_ | refine Grew.set ?_ (Nat.le_refl _) _ _ | refine Grew.set ?_ (by omega) _ _))⟩

set_option maxRecDepth 100000 in
set_option maxHeartbeats 8000000 in
theorem rmatrix_main (a0 : Option Addr) (cap : Nat) (L : List Cl) (w : World) (hl : L.length ≤ 9223372036854775807) (hN : Net w a0 L) (hk : CsOk L) (hcap : L.length ≤ cap) (hv : vnet L = true) :
    Calls Try.prog 24 #[.slice a0 L.length cap] w (MadeNet (if (netM [] [] L).2 = 0 then ((L.getLast?.map Cl.gd).getD 0, (netM [] [] L).1.getLast?.getD [], 0) else (0, [], (netM [] [] L).2)) w) := by
  have HVN := hid fun w' (hg : Grew w w') => rvnet_any a0 cap L w' hl (hN.grew hg) hk hcap
  rw [hv] at HVN
  have HNET := hid hN
  have HK := hid hk
  have HALL := hid (vnet_all hv)
  obtain ⟨R, hR⟩ : ∃ R, netM [] [] L = R := ⟨_, rfl⟩
  have HR := hid hR
  rw [hR]
  obtain ⟨X, hX⟩ : ∃ X : Int × List Num × Int, (if R.2 = 0 then ((L.getLast?.map Cl.gd).getD 0, R.1.getLast?.getD [], 0) else (0, [], R.2)) = X := ⟨_, rfl⟩
  rw [hX]
  have HX := hid hX
  have hl20 : L.length ≤ 20 := HALL.out.1.2
  clear hN hk hv hR hX hl hcap
  go_enter Try.func24, Try.ntmps24
  go_wp2_with fail
  refine (HVN.out _ (by repeat (first | exact Grew.refl _ | refine Grew.drewN ?_ _ | refine Grew.grow ?_ _ | refine Grew.alloc ?_ _ | refine Grew.drew ?_))).mono ?_
  rintro e W1 ⟨rfl, hg1⟩
  obtain ⟨b2, hb2⟩ : ∃ b2, b2 = w.heap.size := ⟨_, rfl⟩
  have hz2 : W1.heap[b2]? = some (.cells #[.int .i64 0, .slice none 0 0] 28) := by
    rw [hb2]
    exact (hg1.block _ (by simp)).trans (blk_new rfl)
  have hgw : Grew w W1 := Grew.trans (by repeat (first | exact Grew.refl _ | refine Grew.drewN ?_ _ | refine Grew.grow ?_ _ | refine Grew.alloc ?_ _ | refine Grew.drew ?_)) hg1
  have hbB : w.heap.size ≤ b2 := by omega
  rw [← hb2]
  have HST0 := hid (show MxSt w b2 none 0 [] (L.take 0) [] W1 from ⟨hgw, hz2, OwnMs.nil _ _, rfl, fun j m M c h => by simp at h⟩)
  have HBW := hid hbB
  clear hg1 hb2 hz2 hgw HVN hbB
  go_wp2_with fail
  go_loopw [4, 19] (fun t v wr => ∃ (i : Nat) (a : Option Addr) (k : Nat) (V : List MV) (Ms : List (List Num)), i ≤ L.length ∧ v = .int .i64 i ∧ t = .slice a V.length k ∧ Hid (R = netM (L.take i) Ms (L.drop i)) ∧ Hid (MsOk (L.take i) Ms) ∧ Hid (MxSt w b2 a k V (L.take i) Ms wr)) (fun _ v _ => L.length - (intOf v).toNat)
  case atStart => exact ⟨0, none, 0, [], [], Nat.zero_le _, rfl, rfl, HR.out.symm, ⟨rfl, fun j c M h => by simp at h⟩, HST0.out.grow (by repeat (first | exact Grew.refl _ | refine Grew.drewN ?_ _ | refine Grew.grow ?_ _ | refine Grew.alloc ?_ _ | refine Grew.drew ?_))⟩
  case round =>
    obtain ⟨i, a, k, V, Ms, hi, rfl, rfl, HV, HOK, HSt⟩ := hrel
    by_cases hlt : i < L.length
    case neg =>
      obtain rfl : i = L.length := by omega
      have hv := HV.out
      rw [List.drop_length] at hv
      have hlV : V.length = L.length := by
        have h1 := HSt.out.ins.1
        have h2 := HOK.out.1
        rw [List.take_length] at h2
        omega
      have hL1 := HALL.out.1.1
      obtain ⟨j, hj⟩ : ∃ j, V.length = j + 1 := ⟨V.length - 1, by omega⟩
      obtain ⟨mv, hmv⟩ : ∃ m, V[j]? = some m := ⟨V[j]'(by omega), List.getElem?_eq_getElem (by omega)⟩
      obtain ⟨c, hc⟩ : ∃ c, L[j]? = some c := ⟨L[j]'(by omega), List.getElem?_eq_getElem (by omega)⟩
      have hMl : Ms.length = j + 1 := by have := HSt.out.ins.1; omega
      obtain ⟨M, hM⟩ : ∃ M, Ms[j]? = some M := ⟨Ms[j]'(by omega), List.getElem?_eq_getElem (by omega)⟩
      obtain ⟨e1, e2, e3⟩ := HSt.out.ins.2 j mv M c hmv hM (by rw [List.take_length]; exact hc)
      have hRR : X = (mv.N, M, 0) := by
        rw [← HX.out, hv]
        show (if (0 : Int) = 0 then ((L.getLast?.map Cl.gd).getD 0, Ms.getLast?.getD [], 0) else _) = _
        rw [if_pos rfl, List.getLast?_eq_getElem?, List.getLast?_eq_getElem?, show L.length - 1 = j by omega, hc, hMl, Nat.add_sub_cancel, hM, e1]
        rfl
      obtain ⟨g, rfl, zg, cg0, cg1⟩ := HSt.out.own.cells hmv
      have h2 := HSt.out.zero
      have z2 := (Array.getElem?_eq_some_iff.1 h2).1
      have x0 : wr.cell? ⟨b2, 0, none⟩ = some (.int .i64 0) := by simp [World.cell?, h2]
      have x1 : wr.cell? ⟨b2, 1, none⟩ = some (.slice none 0 0) := by simp [World.cell?, h2]
      have f0 : wr.frozen? ⟨b2, 0, none⟩ = false := by simp [World.frozen?, h2]
      have f1 : wr.frozen? ⟨b2, 1, none⟩ = false := by simp [World.frozen?, h2]
      have HNL := hid (And.intro h2 e3)
      have HE2 := hid e2
      have HRR := hid hRR
      have HG := hid HSt.out.grew
      have hj19 : j ≤ 19 := by omega
      have zg1 := fun m0 : Nat => Nat.lt_add_right m0 (zg)
      have zg2 := fun m0 m1 : Nat => Nat.lt_add_right m1 (zg1 m0)
      have zg3 := fun m0 m1 m2 : Nat => Nat.lt_add_right m2 (zg2 m0 m1)
      have z21 := fun m0 : Nat => Nat.lt_add_right m0 (z2)
      have z22 := fun m0 m1 : Nat => Nat.lt_add_right m1 (z21 m0)
      have z23 := fun m0 m1 m2 : Nat => Nat.lt_add_right m2 (z22 m0 m1)
      rw [hj]
      clear hv hlV hL1 hmv hc hMl hM e1 e2 e3 hRR h2 HSt HV HOK hj
      go_wp2_with fail
      have hts : Turned wr ((wr.setCell ⟨b2, 0, none⟩ (.int .i64 mv.N)).setCell ⟨b2, 1, none⟩ (.slice mv.a mv.len mv.k)) b2 := ((Turned.refl _ _).set _ _).set _ _
      exact bodyPost_ret (v := .tuple #[.agg #[.int .i64 mv.N, .slice mv.a mv.len mv.k], .int .i64 0]) (by simp [results, Try.results24, go_sem, x0, x1]) rfl ⟨⟨mv.a, mv.k, by rw [HRR.out, HE2.out], by rw [HRR.out]; exact (HNL.out.2.turned hts HNL.out.1 (by decide)).1⟩, hts.toGrew HG.out HBW.out⟩
    case pos =>
      obtain ⟨c, hc⟩ : ∃ c, L[i]? = some c := ⟨L[i], List.getElem?_eq_getElem hlt⟩
      obtain ⟨b, off, rfl, hb, c0, c1, a2, k2, c2, hits⟩ := (HNET.out.grew HSt.out.grew).cells hc
      obtain ⟨k3, k4, k5⟩ := HK.out.at hc
      obtain ⟨v1, v2, v3, v4, v5⟩ := vcell_iff.1 (HALL.out.2 i c hc)
      have hv := HV.out
      rw [netM_step hc] at hv
      obtain ⟨n, hn⟩ : ∃ n : Nat, c.gd = n := ⟨c.gd.toNat, by omega⟩
      rw [hn, Int.toNat_natCast] at hv
      rw [hn] at c1 v5
      have n1 : 1 ≤ n := by omega
      have n2 : n ≤ 6 := by omega
      have HENV := hid (envOk HOK.out)
      obtain ⟨E, hE⟩ : ∃ E, envF (L.take i) Ms = E := ⟨_, rfl⟩
      rw [hE] at hv HENV
      obtain ⟨Fn, hFn⟩ : ∃ F, gdF (L.take i) = F := ⟨_, rfl⟩
      rw [hFn] at HENV v5
      obtain ⟨RI, hRI⟩ : ∃ p, itsE E n c.items (idN n) = p := ⟨_, rfl⟩
      have hsh := @itsE_shape E n c.items (idN n) (idN_valid n) (idN_length n)
      rw [hRI] at hv hsh
      obtain ⟨its, hits0⟩ : ∃ l, c.items = l := ⟨_, rfl⟩
      obtain ⟨q0, hq⟩ : ∃ q, c.name = q := ⟨_, rfl⟩
      rw [hits0] at c2 hits k4 k5 v4 v5 hRI
      rw [hq] at c0 k3
      have HBADX := hid fun (re : Int) (h : RI = ([], re)) (hne : ¬ re = 0) => (show X = (0, [], re) by
        rw [← HX.out, hv, h, if_neg hne]
        exact if_neg hne)
      have HI := hid fun w => rIdentity_any n w n1 n2
      have HC := hid (And.intro hc (And.intro hn (And.intro v1 (And.intro v2 v3))))
      have HVV := hid hv
      have HSH := hid hsh
      have HIT := hid hits
      have HOKI := hid v5
      have HSZ := hid k5
      have HRI := hid hRI
      have HEE := hid hE
      have hits200 : its.length ≤ 200 := v4
      have hb1 := fun m0 : Nat => Nat.lt_add_right m0 (hb)
      have hb2 := fun m0 m1 : Nat => Nat.lt_add_right m1 (hb1 m0)
      have hb3 := fun m0 m1 m2 : Nat => Nat.lt_add_right m2 (hb2 m0 m1)
      clear hc hits hv hE hRI hsh hits0 hq hn v1 v2 v3 v4 v5 k4 k5 HV hFn
      obtain ⟨wR, hwR⟩ : ∃ wR, wR = wr := ⟨_, rfl⟩
      subst wr
      go_wp2_with fail
      refine (HI.out _).mono ?_
      rintro e W6 ⟨⟨a1, k1, rfl, ho⟩, hg6⟩
      obtain ⟨l0, hl0⟩ : ∃ l0, idN n = l0 := ⟨_, rfl⟩
      rw [hl0] at ho ⊢
      have HL0 := hid hl0
      have h6 : W6.heap[wR.heap.size]? = some (.cells #[.string q0, .int .i64 n, .slice a2 its.length k2] 74) := (hg6.block _ (by simp)).trans (blk_new rfl)
      have hg6 : Grew wR W6 := Grew.trans (by repeat (first | exact Grew.refl _ | refine Grew.drewN ?_ _ | refine Grew.grow ?_ _ | refine Grew.alloc ?_ _ | refine Grew.drew ?_)) hg6
      obtain ⟨b6, hb6⟩ : ∃ b6, b6 = wR.heap.size := ⟨_, rfl⟩
      rw [← hb6] at h6 ⊢
      have z6 := (Array.getElem?_eq_some_iff.1 h6).1
      have y6 : W6.cell? ⟨b6, 2, none⟩ = some (.slice a2 its.length k2) := by simp [World.cell?, h6]
      have HO1 := hid ho.nmsK
      have HG6 := hid hg6
      have HH6 := hid h6
      have HB6 := hid hb6
      have HS6 := hid hg6.size
      have z61 := fun m0 : Nat => Nat.lt_add_right m0 (z6)
      have z62 := fun m0 m1 : Nat => Nat.lt_add_right m1 (z61 m0)
      have z63 := fun m0 m1 m2 : Nat => Nat.lt_add_right m2 (z62 m0 m1)
      clear ho hg6 h6 hl0 hb6 c0 c1 c2 hb hb1 hb2 hb3
      go_wp2_with fail
      obtain ⟨W7, hW7⟩ : ∃ W7, W7 = W6.alloc (.cells #[.int .i64 n, .slice a1 l0.length k1] 28) := ⟨_, rfl⟩
      obtain ⟨b7, hb7⟩ : ∃ b7, b7 = W6.heap.size := ⟨_, rfl⟩
      have hg7 : Grew W6 W7 := by rw [hW7]; exact (by repeat (first | exact Grew.refl _ | refine Grew.drewN ?_ _ | refine Grew.grow ?_ _ | refine Grew.alloc ?_ _ | refine Grew.drew ?_))
      have h7 : W7.heap[b7]? = some (.cells #[.int .i64 n, .slice a1 l0.length k1] 28) := by rw [hW7, hb7]; exact blk_new rfl
      rw [← hW7, ← hb7]
      have hb67 : b6 ≠ b7 := by omega
      have hbR : wR.heap.size ≤ b7 := by have := HS6.out; omega
      have HM7 := hid (show MatBK b7 n l0 W7 from ⟨a1, k1, h7, HO1.out.grew hg7⟩)
      have HGR7 := hid (HG6.out.trans hg7)
      have HH6 := hid ((hg7.block b6 z6).trans HH6.out)
      have HB67 := hid (And.intro hb67 hbR)
      clear hW7 hb7 hg7 h7 hb67 hbR HG6 HO1 z6 z61 z62 z63 y6
      go_loopw [29] (fun v wr2 => ∃ (q : Nat) (l : List Num), q ≤ its.length ∧ v = .int .i64 q ∧ Hid (itsE E n (its.drop q) l = RI ∧ l.length = n * n ∧ VldL l) ∧ Turned W7 wr2 b7 ∧ MatBK b7 n l wr2) (fun v _ => its.length - (intOf v).toNat)
      case atStart => exact ⟨0, l0, Nat.zero_le _, rfl, hid ⟨by rw [← HL0.out]; exact HRI.out, by rw [← HL0.out]; exact idN_length n, by rw [← HL0.out]; exact idN_valid n⟩, Turned.refl _ _, HM7.out⟩
      case round =>
        obtain ⟨q, l, hq, rfl, HS, hT, ao, ko, hBo, hNo⟩ := hrel
        obtain ⟨wr2, hwr2⟩ : ∃ wr2, wr2 = wr := ⟨_, rfl⟩
        subst wr
        have hgR : Grew wR wr2 := hT.toGrew HGR7.out HB67.out.2
        have HT := hid hT
        have HBo := hid hBo
        have HNo := hid hNo
        have HGR := hid hgR
        have HGW2 := hid (HSt.out.grew.trans hgR)
        have HB2 := hid (HSt.out.grow hgR).zero
        have HZ2 := hid (Array.getElem?_eq_some_iff.1 HB2.out).1
        have h6 := (hT.block (k := b6) (Array.getElem?_eq_some_iff.1 HH6.out).1 HB67.out.1).trans HH6.out
        have HZ6 := hid (Array.getElem?_eq_some_iff.1 h6).1
        have HY6 := hid (show wr2.cell? ⟨b6, 1, none⟩ = some (.int .i64 n) by simp [World.cell?, h6])
        have HZ7 := hid (Array.getElem?_eq_some_iff.1 hBo).1
        clear hT hBo hNo hgR h6
        by_cases hltq : q < its.length
        case neg =>
          obtain rfl : q = its.length := by omega
          have hs := HS.out.1
          rw [List.drop_length, itsE] at hs
          have HRI2 := hid hs.symm
          have c70 : wr2.cell? ⟨b7, 0, none⟩ = some (.int .i64 n) := by simp [World.cell?, HBo.out]
          have c71 : wr2.cell? ⟨b7, 1, none⟩ = some (.slice ao l.length ko) := by simp [World.cell?, HBo.out]
          have z7 := HZ7.out
          have HOW := hid (HSt.out.own.grew HGR.out)
          have hVl : V.length ≤ 20 := by
            have h1 := HSt.out.ins.1
            have h2 := HOK.out.1
            rw [List.length_take] at h2
            omega
          have z71 := fun m0 : Nat => Nat.lt_add_right m0 (z7)
          have z72 := fun m0 m1 : Nat => Nat.lt_add_right m1 (z71 m0)
          have z73 := fun m0 m1 m2 : Nat => Nat.lt_add_right m2 (z72 m0 m1)
          clear hs
          go_wp2_with (at_builtin; go_loud (refine wpList_append_mv rfl _ _ rfl (b2 + 1) a k V rfl (HOW.out.grew (by repeat (first | exact Grew.refl _ | refine Grew.drewN ?_ _ | refine Grew.grow ?_ _ | refine Grew.alloc ?_ _ | refine Grew.drew ?_))) _ 1 ⟨n, ao, l.length, ko⟩ rfl (blk_new rfl) ?hmx ?hbs ?_))
          case hmx => omega
          case hbs => have := HZ2.out; simp; omega
          · intro a4 k4 wB hownB hgrowB hdrB
            have hownA := HOW.out.grew (w' := wr2.alloc (.cells #[.int .i64 n, .slice ao l.length ko] 28)) (by repeat (first | exact Grew.refl _ | refine Grew.drewN ?_ _ | refine Grew.grow ?_ _ | refine Grew.alloc ?_ _ | refine Grew.drew ?_))
            have hgB : Grew w wB := Grew.by (w' := _) (HGW2.out.trans (by repeat (first | exact Grew.refl _ | refine Grew.drewN ?_ _ | refine Grew.grow ?_ _ | refine Grew.alloc ?_ _ | refine Grew.drew ?_))) hgrowB hdrB (fun jj hjj => by have := ownsRow_above hownA jj hjj; have := HBW.out; omega)
            obtain ⟨hc, hn, v1, v2, v3⟩ := HC.out
            have htk : L.take (i + 1) = L.take i ++ [c] := by rw [List.take_add_one, hc]; rfl
            have hlen : (L.take i).length = Ms.length := HOK.out.1
            have hz2 : wB.heap[b2]? = some (.cells #[.int .i64 0, .slice none 0 0] 28) := by
              have hgal : Grew wr2 (wr2.alloc (.cells #[.int .i64 n, .slice ao l.length ko] 28)) := (by repeat (first | exact Grew.refl _ | refine Grew.drewN ?_ _ | refine Grew.grow ?_ _ | refine Grew.alloc ?_ _ | refine Grew.drew ?_))
              have hb2a := (hgal.block b2 HZ2.out).trans HB2.out
              exact (hgrowB.block b2 (Array.getElem?_eq_some_iff.1 hb2a).1 (fun e => by have := ownsRow_above hownA b2 e.symm; omega)).trans hb2a
            have hins : MsIn wB (V ++ [⟨n, ao, l.length, ko⟩]) (L.take (i + 1)) (Ms ++ [l]) := by
              rw [htk]
              exact ((HSt.out.ins.grew (HGR.out.trans (by repeat (first | exact Grew.refl _ | refine Grew.drewN ?_ _ | refine Grew.grow ?_ _ | refine Grew.alloc ?_ _ | refine Grew.drew ?_)))).byOwn hownA hgrowB hdrB).snoc hlen hn.symm rfl ((HNo.out.grew (by repeat (first | exact Grew.refl _ | refine Grew.drewN ?_ _ | refine Grew.grow ?_ _ | refine Grew.alloc ?_ _ | refine Grew.drew ?_))).byOwn hownA hgrowB hdrB)
            have hR2 : R = netM (L.take (i + 1)) (Ms ++ [l]) (L.drop (i + 1)) := by
              rw [HVV.out, HRI2.out]
              exact if_pos rfl
            have hok2 : MsOk (L.take (i + 1)) (Ms ++ [l]) := by
              rw [htk]
              exact HOK.out.snoc v3 HS.out.2.2 (by rw [hn, Int.toNat_natCast]; exact HS.out.2.1) v1
            have HST2 := hid (show MxSt w b2 a4 k4 (V ++ [⟨n, ao, l.length, ko⟩]) (L.take (i + 1)) (Ms ++ [l]) wB from ⟨hgB, hz2, hownB, hins⟩)
            have HR2 := hid hR2
            have HOK2 := hid hok2
            clear hownA hgB hc hn v1 v2 v3 htk hlen hz2 hins hR2 hok2 hownB hgrowB hdrB
            go_wp2_with fail
            go_roundw
            case rel => exact ⟨i + 1, a4, k4, V ++ [(⟨n, ao, l.length, ko⟩ : MV)], Ms ++ [l], by omega, by go_num, by simp, HR2.out, HOK2.out, HST2.out⟩
            case measure => simp [intOf]; omega
        case pos =>
          obtain ⟨x, hx⟩ : ∃ x, its[q]? = some x := ⟨its[q], List.getElem?_eq_getElem hltq⟩
          obtain ⟨bi, oi, rfl, hbi, c0, c1, c2, c3⟩ := (HIT.out.grew HGR.out).cells hx
          have Hx := hid hx
          obtain ⟨⟨m, lm⟩, hml⟩ : ∃ p, itemM E x = p := ⟨_, rfl⟩
          obtain ⟨hio1, hio2, hio3⟩ := item_ok HENV.out (okEs_at hx HOKI.out) hml
          have HOK2 := hid hio1
          have HLM := hid hio2
          have HML := hid hml
          have z6 := HZ6.out
          have z7 := HZ7.out
          have hbi1 := fun m0 : Nat => Nat.lt_add_right m0 (hbi)
          have hbi2 := fun m0 m1 : Nat => Nat.lt_add_right m1 (hbi1 m0)
          have hbi3 := fun m0 m1 m2 : Nat => Nat.lt_add_right m2 (hbi2 m0 m1)
          have z61 := fun m0 : Nat => Nat.lt_add_right m0 (z6)
          have z62 := fun m0 m1 : Nat => Nat.lt_add_right m1 (z61 m0)
          have z63 := fun m0 m1 m2 : Nat => Nat.lt_add_right m2 (z62 m0 m1)
          have z71 := fun m0 : Nat => Nat.lt_add_right m0 (z7)
          have z72 := fun m0 m1 : Nat => Nat.lt_add_right m1 (z71 m0)
          have z73 := fun m0 m1 m2 : Nat => Nat.lt_add_right m2 (z72 m0 m1)
          clear hx hio1 hio2 hml
          rcases hio3 with ⟨hx4, hxe⟩ | ⟨hx4, hxe, hwid, hmo, hlmo⟩
          · obtain ⟨j, c', hj1, hj2, hj3, hj4, hj5⟩ := env_at (q := x.name) (m := m) (lm := lm) 0 HOK.out.1 (by rw [HEE.out]; exact hxe)
            obtain ⟨cf, hcf⟩ : ∃ cf, (L.take i).find? (hasN x.name) = some cf := by
              cases hcf : (L.take i).find? (hasN x.name) with
              | none => exact absurd hcf hj5
              | some cf => exact ⟨cf, rfl⟩
            have hnm : nmO x.name 0 L = j := by
              have h1 := nmO_app (L.take i) (L.drop i) 0 cf hcf
              rw [List.take_append_drop] at h1
              rw [h1, hj1, Nat.zero_add]
            have HNAM := hid fun w' (hg : Grew wr2 w') => named_any (some ⟨b, off, none⟩) cap L x.name w' (by omega) (HNET.out.grew (HGW2.out.trans hg))
            rw [hnm] at HNAM
            have hjV : j < V.length := by
              have h1 := HSt.out.ins.1
              have h2 := (List.getElem?_eq_some_iff.1 hj3).1
              omega
            obtain ⟨mv, hmv⟩ : ∃ mv, V[j]? = some mv := ⟨V[j], List.getElem?_eq_getElem hjV⟩
            obtain ⟨e1, e2, e3⟩ := HSt.out.ins.2 j mv lm c' hmv hj3 hj2
            have g1 := (HOK.out.2 j c' lm hj2 hj3).1
            have hN : mv.N = (m : Int) := by rw [e1, ← hj4]; omega
            obtain ⟨g, rfl, zg, cg0, cg1⟩ := (HSt.out.own.grew HGR.out).cells hmv
            rw [hN] at cg0
            rw [e2] at cg1
            have HNMV := hid (e3.grew HGR.out)
            have hjV2 : (j : Int) < V.length := by omega
            rw [hx4] at c0
            have zg1 := fun m0 : Nat => Nat.lt_add_right m0 (zg)
            have zg2 := fun m0 m1 : Nat => Nat.lt_add_right m1 (zg1 m0)
            have zg3 := fun m0 m1 m2 : Nat => Nat.lt_add_right m2 (zg2 m0 m1)
            clear hj1 hj2 hj3 hj4 hj5 hcf hnm hmv e1 e2 e3 g1 hN hxe hjV
            go_wp2_with fail
            refine (of_cell _ _ _ _).mono ?_
            rintro e W8 ⟨⟨ac, kc, rfl, _⟩, hg8⟩
            obtain ⟨lc, hlc⟩ : ∃ lc, (ownM 1 x.n).length = lc := ⟨_, rfl⟩
            rw [hlc]
            clear hlc
            have h9 : W8.heap[wr2.heap.size]? = some (.cells #[.int .i64 4, .int .i64 x.pos, .int .i64 x.n, .string x.name] 51) := (hg8.block _ (by simp)).trans (blk_new rfl)
            have hg8 : Grew wr2 W8 := Grew.trans (by repeat (first | exact Grew.refl _ | refine Grew.drewN ?_ _ | refine Grew.grow ?_ _ | refine Grew.alloc ?_ _ | refine Grew.drew ?_)) hg8
            obtain ⟨b9, hb9⟩ : ∃ b9, b9 = wr2.heap.size := ⟨_, rfl⟩
            rw [← hb9] at h9 ⊢
            have z9 := (Array.getElem?_eq_some_iff.1 h9).1
            have k0 : W8.cell? ⟨b9, 0, none⟩ = some (.int .i64 4) := by simp [World.cell?, h9]
            have k3' : W8.cell? ⟨b9, 3, none⟩ = some (.string x.name) := by simp [World.cell?, h9]
            have HH9 := hid h9
            have HG8 := hid hg8
            have z91 := fun m0 : Nat => Nat.lt_add_right m0 (z9)
            have z92 := fun m0 m1 : Nat => Nat.lt_add_right m1 (z91 m0)
            have z93 := fun m0 m1 m2 : Nat => Nat.lt_add_right m2 (z92 m0 m1)
            clear hb9 h9 hg8 c0 c1 c2 c3 hbi hbi1 hbi2 hbi3 z6 z61 z62 z63 z7 z71 z72 z73
            go_wp2_with fail
            refine (HNAM.out _ (HG8.out.trans (by repeat (first | exact Grew.refl _ | refine Grew.drewN ?_ _ | refine Grew.grow ?_ _ | refine Grew.alloc ?_ _ | refine Grew.drew ?_)))).mono ?_
            rintro e W9 ⟨rfl, hg9⟩
            have h10 : W9.heap[W8.heap.size]? = some (.cells #[.int .i64 1, .slice ac lc kc] 28) := (hg9.block _ (by simp)).trans (blk_new rfl)
            have hg9 : Grew W8 W9 := Grew.trans (by repeat (first | exact Grew.refl _ | refine Grew.drewN ?_ _ | refine Grew.grow ?_ _ | refine Grew.alloc ?_ _ | refine Grew.drew ?_)) hg9
            obtain ⟨b10, hb10⟩ : ∃ b10, b10 = W8.heap.size := ⟨_, rfl⟩
            rw [← hb10] at h10 ⊢
            have z10 := (Array.getElem?_eq_some_iff.1 h10).1
            have u0 : W9.cell? ⟨b10, 0, none⟩ = some (.int .i64 1) := by simp [World.cell?, h10]
            have u1 : W9.cell? ⟨b10, 1, none⟩ = some (.slice ac lc kc) := by simp [World.cell?, h10]
            have p0 : W9.frozen? ⟨b10, 0, none⟩ = false := by simp [World.frozen?, h10]
            have p1 : W9.frozen? ⟨b10, 1, none⟩ = false := by simp [World.frozen?, h10]
            have hgX : Grew wr2 W9 := HG8.out.trans hg9
            have cg0 := (hgX.cell (i := j * 2) zg).trans cg0
            have cg1 := (hgX.cell (i := j * 2 + 1) zg).trans cg1
            have zg := Nat.lt_of_lt_of_le zg hgX.size
            have HB10 := hid (show wr2.heap.size ≤ b10 by rw [hb10]; exact HG8.out.size)
            have HNE9 := hid (show b9 ≠ b10 by omega)
            have HH9 := hid ((hg9.block b9 z9).trans HH9.out)
            have HH10 := hid h10
            have HGX := hid hgX
            clear hb10 h10 hg9 hgX k0 k3' z9 z91 z92 z93 zg1 zg2 zg3
            have zg1 := fun m0 : Nat => Nat.lt_add_right m0 (zg)
            have zg2 := fun m0 m1 : Nat => Nat.lt_add_right m1 (zg1 m0)
            have zg3 := fun m0 m1 m2 : Nat => Nat.lt_add_right m2 (zg2 m0 m1)
            have z101 := fun m0 : Nat => Nat.lt_add_right m0 (z10)
            have z102 := fun m0 m1 : Nat => Nat.lt_add_right m1 (z101 m0)
            have z103 := fun m0 m1 m2 : Nat => Nat.lt_add_right m2 (z102 m0 m1)
            go_wp2_with fail
            obtain ⟨W0, hW0⟩ : ∃ W0, W0 = (W9.setCell ⟨b10, 0, none⟩ (.int .i64 m)).setCell ⟨b10, 1, none⟩ (.slice mv.a lm.length mv.k) := ⟨_, rfl⟩
            obtain ⟨s1, s2⟩ := R4.set2 HH10.out (.int .i64 m) (.slice mv.a lm.length mv.k)
            have hts : Turned W9 ((W9.setCell ⟨b10, 0, none⟩ (.int .i64 m)).setCell ⟨b10, 1, none⟩ (.slice mv.a lm.length mv.k)) b10 := ((Turned.refl _ _).set _ _).set _ _
            have hg0 := hts.toGrew HGX.out HB10.out
            have h9 := (s2 b9 HNE9.out).trans HH9.out
            have hnm := (HNMV.out.grew HGX.out).turned hts HH10.out (by decide)
            rw [← hW0] at s1 hg0 h9 hnm ⊢
            have HG0 := hid hg0
            have z9 := (Array.getElem?_eq_some_iff.1 h9).1
            have z10 := (Array.getElem?_eq_some_iff.1 s1).1
            have y9 : W0.cell? ⟨b9, 1, none⟩ = some (.int .i64 x.pos) := by simp [World.cell?, h9]
            have d0 : W0.cell? ⟨b10, 0, none⟩ = some (.int .i64 m) := by simp [World.cell?, s1]
            have d1 : W0.cell? ⟨b10, 1, none⟩ = some (.slice mv.a lm.length mv.k) := by simp [World.cell?, s1]
            have HNMm := hid hnm
            clear hW0 s1 s2 hts hg0 h9 hnm u0 u1 p0 p1 z101 z102 z103 cg0 cg1 zg zg1 zg2 zg3
            obtain ⟨hp1, hp2, hp3⟩ := HOK2.out
            obtain ⟨hlmV, hlmL⟩ := HLM.out
            obtain ⟨lp, hlp⟩ : ∃ lp, placeN n x.pos.toNat m lm = lp := ⟨_, rfl⟩
            have hlpL : lp.length = n * n := by rw [← hlp]; exact placeL_length _ _ _ _ _
            have HP := hid fun am km W (hN : Nms W am lm) => (show Calls Try.prog 58 #[.int .i64 n, .int .i64 x.pos, .agg #[.int .i64 m, .slice am lm.length km]] W (MatP n lp W) from by
              have h := placeIn_any n x.pos.toNat m am km lm W n1 n2 hp3 (by omega) (by omega) hlmL hN
              rw [Int.toNat_of_nonneg (by omega), hlp] at h
              exact h)
            obtain ⟨⟨rl, re⟩, hr⟩ : ∃ r, mulM n lp l = r := ⟨_, rfl⟩
            obtain ⟨hs1, hs2, hs3⟩ := HS.out
            have HM := hid fun a2 k2 W (hA : Nms W a2 lp) (hB : Nms W ao l) => times_any n a2 ao k2 ko lp l W n2 hlpL hs2 hA hB
            rw [hr] at HM
            have HSTEP : Hid (stepE E n x l = (rl, re)) := hid (by unfold stepE; rw [HML.out]; dsimp only; rw [hlp]; exact hr)
            have HVL : Hid (VldL rl ∧ (re = 0 → rl.length = n * n)) := hid (by
              have h1 := mulM_valid n lp l
              have h2 := @matR_length n (fun i k => rowN (prow lp l n i k))
              have h3 : matR n (fun i k => rowN (prow lp l n i k)) = (rl, re) := hr
              rw [h3] at h2
              rw [hr] at h1
              exact ⟨h1, h2⟩)
            obtain ⟨N, hN⟩ : ∃ N, rowsOf n re = N := ⟨_, rfl⟩
            have HN := hid hN
            have HS1 := hid hs1
            clear hp1 hp2 hp3 hlmV hlmL hlp hlpL hr hs1 hs2 hs3 hN
            have z6 := Nat.lt_of_lt_of_le HZ6.out HG0.out.size
            have z7 := Nat.lt_of_lt_of_le HZ7.out HG0.out.size
            have y6 : W0.cell? ⟨b6, 1, none⟩ = some (.int .i64 n) := (HG0.out.cell HZ6.out 1).trans HY6.out
            have c70 : W0.cell? ⟨b7, 0, none⟩ = some (.int .i64 n) := (HG0.out.cell HZ7.out 0).trans (by simp [World.cell?, HBo.out])
            have c71 : W0.cell? ⟨b7, 1, none⟩ = some (.slice ao l.length ko) := (HG0.out.cell HZ7.out 1).trans (by simp [World.cell?, HBo.out])
            have HNo := hid (HNo.out.grew HG0.out)
            have z61 := fun m0 : Nat => Nat.lt_add_right m0 (z6)
            have z62 := fun m0 m1 : Nat => Nat.lt_add_right m1 (z61 m0)
            have z63 := fun m0 m1 m2 : Nat => Nat.lt_add_right m2 (z62 m0 m1)
            have z71 := fun m0 : Nat => Nat.lt_add_right m0 (z7)
            have z72 := fun m0 m1 : Nat => Nat.lt_add_right m1 (z71 m0)
            have z73 := fun m0 m1 m2 : Nat => Nat.lt_add_right m2 (z72 m0 m1)
            have z91 := fun m0 : Nat => Nat.lt_add_right m0 (z9)
            have z92 := fun m0 m1 : Nat => Nat.lt_add_right m1 (z91 m0)
            have z93 := fun m0 m1 m2 : Nat => Nat.lt_add_right m2 (z92 m0 m1)
            have z101 := fun m0 : Nat => Nat.lt_add_right m0 (z10)
            have z102 := fun m0 m1 : Nat => Nat.lt_add_right m1 (z101 m0)
            have z103 := fun m0 m1 m2 : Nat => Nat.lt_add_right m2 (z102 m0 m1)
            refine R4.wp_region_slots 13 (fun ix vs W => match ix with | 0 => vs 0 = .pointer (some ⟨b6, 1, none⟩) | 1 => vs 1 = .int .i64 n | 2 => vs 2 = .pointer (some ⟨b9, 1, none⟩) | 3 => vs 3 = .int .i64 x.pos | 4 => vs 4 = .agg #[.int .i64 m, .slice mv.a lm.length mv.k] | 5 => MatVK (vs 5) W n lp | 6 => vs 6 = .agg #[.int .i64 n, .slice ao l.length ko] | 7 => MatEK (vs 7) W N (rl, re) | 8 => MatEK (vs 8) W N (rl, re) | 9 => MatVK (vs 9) W N rl | 10 => vs 10 = .int .i64 re | 11 => NewMat W0.heap.size (vs 11) W | 12 => HasMatK (vs 11) N rl W | _ => True) (by kernel_rfl) (by kernel_rfl) ?slst ?sldep ?slop ?slq
            case slst =>
              intro ix vs W W' h hg
              match ix, h with
              | 0, h => exact h
              | 1, h => exact h
              | 2, h => exact h
              | 3, h => exact h
              | 4, h => exact h
              | 5, h => exact MatVK.grew h hg
              | 6, h => exact h
              | 7, h => exact MatEK.grew h hg
              | 8, h => exact MatEK.grew h hg
              | 9, h => exact MatVK.grew h hg
              | 10, h => exact h
              | 11, h => exact NewMat.grew h hg
              | 12, h => exact HasMatK.grew h hg
              | _ + 13, _ => trivial
            case sldep =>
              intro ix o vs vs' W hix ho h hv hn
              match ix, hix, ho, h, hv with
              | 0, _, _, h, hv => exact Eq.trans hv h
              | 1, _, _, h, hv => exact Eq.trans hv h
              | 2, _, _, h, hv => exact Eq.trans hv h
              | 3, _, _, h, hv => exact Eq.trans hv h
              | 4, _, _, h, hv => exact Eq.trans hv h
              | 5, _, _, h, hv => show MatVK (vs' 5) W n lp; rw [hv]; exact h
              | 6, _, _, h, hv => exact Eq.trans hv h
              | 7, _, _, h, hv => show MatEK (vs' 7) W N (rl, re); rw [hv]; exact h
              | 8, _, _, h, hv => show MatEK (vs' 8) W N (rl, re); rw [hv]; exact h
              | 9, _, _, h, hv => show MatVK (vs' 9) W N rl; rw [hv]; exact h
              | 10, _, _, h, hv => exact Eq.trans hv h
              | 11, _, _, h, hv => show NewMat W0.heap.size (vs' 11) W; rw [hv]; exact h
              | 12, _, ho, h, hv => obtain rfl := Option.some.inj ho; show HasMatK (vs' 11) _ _ _; rw [hn 11 (by decide)]; exact h
              | kx + 13, hix, _, _, _ => exact absurd hix (by omega)
            case slop =>
              intro ix o hix ho vs W L hg hL hn hall
              match ix, hix, ho, hL with
              | 0, _, ho, _ =>
                obtain rfl := Option.some.inj ho
                change R4.Oper.slotAt _ _ { tmps := _, defers := _ } _ _
                obtain ⟨gq, nq, rfl⟩ := hg
                go_simp
                exact ⟨R4.upd_same _ _ _, .inl (Grew.refl _)⟩
              | 1, _, ho, _ =>
                obtain rfl := Option.some.inj ho
                have hn0 := (hn 0 (by decide)).2
                try dsimp only at hn0
                change R4.Oper.slotAt _ _ (Act.put _ (some 46) (vs 0)) _ _
                conv => arg 3; rw [hn0]
                clear hn0
                obtain ⟨gq, nq, rfl⟩ := hg
                go_simp
                exact ⟨R4.upd_same _ _ _, .inl (Grew.refl _)⟩
              | 2, _, ho, _ =>
                obtain rfl := Option.some.inj ho
                change R4.Oper.slotAt _ _ { tmps := _, defers := _ } _ _
                obtain ⟨gq, nq, rfl⟩ := hg
                go_simp
                exact ⟨R4.upd_same _ _ _, .inl (Grew.refl _)⟩
              | 3, _, ho, _ =>
                obtain rfl := Option.some.inj ho
                have hn2 := (hn 2 (by decide)).2
                try dsimp only at hn2
                change R4.Oper.slotAt _ _ (Act.put _ (some 48) (vs 2)) _ _
                conv => arg 3; rw [hn2]
                clear hn2
                obtain ⟨gq, nq, rfl⟩ := hg
                go_simp
                exact ⟨R4.upd_same _ _ _, .inl (Grew.refl _)⟩
              | 4, _, ho, _ =>
                obtain rfl := Option.some.inj ho
                change R4.Oper.slotAt _ _ { tmps := _, defers := _ } _ _
                obtain ⟨gq, nq, rfl⟩ := hg
                go_simp
                exact ⟨R4.upd_same _ _ _, .inl (Grew.refl _)⟩
              | 5, _, ho, _ =>
                obtain rfl := Option.some.inj ho
                have hn1 := (hn 1 (by decide)).2
                have hn3 := (hn 3 (by decide)).2
                have hn4 := (hn 4 (by decide)).2
                try dsimp only at hn1 hn3 hn4
                change R4.Oper.slotAt _ _ (Act.put (Act.put (Act.put _ (some 47) (vs 1)) (some 49) (vs 3)) (some 50) (vs 4)) _ _
                conv => arg 3; rw [hn1, hn3, hn4]
                clear hn1 hn3 hn4
                obtain ⟨gq, nq, rfl⟩ := hg
                go_simp
                refine (HP.out mv.a mv.k _ (HNMm.out.1.grew (by repeat (first | exact Grew.refl _ | refine Grew.drewN ?_ _ | refine Grew.grow ?_ _ | refine Grew.alloc ?_ _ | refine Grew.drew ?_)))).mono ?_
                rintro e w' ⟨⟨a3, k3, rfl, ho⟩, gr⟩
                exact ⟨_, rfl, by rw [R4.upd_same]; exact ⟨a3, k3, rfl, ho.nmsK⟩, .inl gr⟩
              | 6, _, ho, _ =>
                obtain rfl := Option.some.inj ho
                change R4.Oper.slotAt _ _ { tmps := _, defers := _ } _ _
                obtain ⟨gq, nq, rfl⟩ := hg
                go_simp
                exact ⟨R4.upd_same _ _ _, .inl (Grew.refl _)⟩
              | 7, _, ho, _ =>
                obtain rfl := Option.some.inj ho
                have hn5 := (hn 5 (by decide)).2
                have hn6 := (hn 6 (by decide)).2
                try dsimp only at hn5 hn6
                change R4.Oper.slotAt _ _ (Act.put (Act.put _ (some 51) (vs 5)) (some 52) (vs 6)) _ _
                conv => arg 3; rw [hn6]
                clear hn6
                obtain ⟨gq, nq, rfl⟩ := hg
                obtain ⟨a2', k2', e2, h2⟩ := hn5
                conv => arg 3; rw [e2]
                clear e2
                go_simp
                refine (HM.out a2' k2' _ h2.1 (HNo.out.1.grew (by repeat (first | exact Grew.refl _ | refine Grew.drewN ?_ _ | refine Grew.grow ?_ _ | refine Grew.alloc ?_ _ | refine Grew.drew ?_)))).mono ?_
                rintro e w' ⟨⟨a3, k3, rfl, ho⟩, gr⟩
                exact ⟨_, rfl, by rw [R4.upd_same]; exact ⟨a3, k3, by rw [← HN.out], ho.nmsK⟩, .inl gr⟩
              | 8, _, ho, _ =>
                obtain rfl := Option.some.inj ho
                have hn7 := (hn 7 (by decide)).2
                try dsimp only at hn7
                change R4.Oper.slotAt _ _ (Act.put _ (some 53) (vs 7)) _ _
                obtain ⟨gq, nq, rfl⟩ := hg
                obtain ⟨a2', k2', e2, h2⟩ := hn7
                conv => arg 3; rw [e2]
                clear e2
                go_simp
                exact ⟨by rw [R4.upd_same]; exact ⟨a2', k2', rfl, h2⟩, .inl (Grew.refl _)⟩
              | 9, _, ho, _ =>
                obtain rfl := Option.some.inj ho
                have hn8 := (hn 8 (by decide)).2
                try dsimp only at hn8
                change R4.Oper.slotAt _ _ (Act.put _ (some 45) (vs 8)) _ _
                obtain ⟨gq, nq, rfl⟩ := hg
                obtain ⟨a2', k2', e2, h2⟩ := hn8
                conv => arg 3; rw [e2]
                clear e2
                go_simp
                exact ⟨by rw [R4.upd_same]; exact ⟨a2', k2', rfl, h2⟩, .inl (Grew.refl _)⟩
              | 10, _, ho, _ =>
                obtain rfl := Option.some.inj ho
                have hn8 := (hn 8 (by decide)).2
                try dsimp only at hn8
                change R4.Oper.slotAt _ _ (Act.put _ (some 45) (vs 8)) _ _
                obtain ⟨gq, nq, rfl⟩ := hg
                obtain ⟨a2', k2', e2, h2⟩ := hn8
                conv => arg 3; rw [e2]
                clear e2
                go_simp
                exact ⟨R4.upd_same _ _ _, .inl (Grew.refl _)⟩
              | 11, _, ho, _ =>
                obtain rfl := Option.some.inj ho
                change R4.Oper.slotAt _ _ { tmps := _, defers := _ } _ _
                have hs := hg.size
                go_simp
                exact ⟨by rw [R4.upd_same]; exact NewMat.fresh rfl (by omega), .inl ((Grew.refl _).alloc _)⟩
              | 12, _, ho, hL =>
                obtain rfl := Option.some.inj ho
                have hn11 := (hn 11 (by decide)).2
                have hn9 := (hn 9 (by decide)).2
                try dsimp only at hn11 hn9
                change R4.Oper.slotAt _ _ (Act.put (Act.put _ (some 11) (vs 11)) (some 54) (vs 9)) _ _
                -- hL
                obtain ⟨a2', k2', e2, h2⟩ := hn9
                obtain ⟨b', x', a', p', q', e3, hB, hq⟩ := hn11
                conv => arg 3; rw [e2, e3]
                have E2 := hid e2
                have E3 := hid e3
                clear e2 e3
                have ca : W.cell? ⟨b', 0, none⟩ = some (.int .i64 x') := by simp [World.cell?, hq]
                have cb : W.cell? ⟨b', 1, none⟩ = some (.slice a' p' q') := by simp [World.cell?, hq]
                have fa : W.frozen? ⟨b', 0, none⟩ = false := by simp [World.frozen?, hq]
                have fb : W.frozen? ⟨b', 1, none⟩ = false := by simp [World.frozen?, hq]
                go_simp
                obtain ⟨s1, s2⟩ := R4.set2 hq (.int .i64 N) (.slice a2' rl.length k2')
                have ht : Turned W ((W.setCell ⟨b', 0, none⟩ (.int .i64 N)).setCell ⟨b', 1, none⟩ (.slice a2' rl.length k2')) b' := ((Turned.refl _ _).set _ _).set _ _
                exact ⟨by rw [R4.upd_other _ _ (by decide)]; exact ⟨b', E3.out, a2', k2', s1, h2.turned ht hq (by decide)⟩, .inr ⟨ht.toGrew hg hB, fun jx hjx hLj => by
                  have hv := hall jx hjx hLj
                  match jx, hjx, hv, hLj with
                  | 0, _, hv, _ => exact hv
                  | 1, _, hv, _ => exact hv
                  | 2, _, hv, _ => exact hv
                  | 3, _, hv, _ => exact hv
                  | 4, _, hv, _ => exact hv
                  | 5, _, hv, _ => exact MatVK.turned hv ht hq
                  | 6, _, hv, _ => exact hv
                  | 7, _, hv, _ => exact MatEK.turned hv ht hq
                  | 8, _, hv, _ => exact MatEK.turned hv ht hq
                  | 9, _, hv, _ => exact MatVK.turned hv ht hq
                  | 10, _, hv, _ => exact hv
                  | 11, _, hv, _ => exact NewMat.turned hv ht s1
                  | 12, _, hv, hLj => exact absurd hLj hL
                  | kx + 13, hjx, _, _ => exact absurd hjx (by omega)⟩⟩
              | kx + 13, hix, _, _ => exact absurd hix (by omega)
            case slq =>
              intro vs W2 hg hn
              have hn10 : vs 10 = .int .i64 re := hn 10 (by decide) (by decide)
              obtain ⟨b', x', a', p', q', e3, hB', _⟩ : NewMat W0.heap.size (vs 11) W2 := hn 11 (by decide) (by decide)
              obtain ⟨b11, e4, a9, k9, hb9, hN9⟩ : HasMatK (vs 11) N rl W2 := hn 12 (by decide) (by decide)
              have e5 : b' = b11 := by
                rw [e3] at e4
                injection e4 with h
                injection h with h
                injection h
              subst e5
              have hgw : Grew wr2 W2 := HG0.out.trans hg
              have cA : W2.cell? ⟨b', 0, none⟩ = some (.int .i64 N) := by simp [World.cell?, hb9]
              have cB : W2.cell? ⟨b', 1, none⟩ = some (.slice a9 rl.length k9) := by simp [World.cell?, hb9]
              have hlt' : b' < W2.heap.size := (Array.getElem?_eq_some_iff.1 hb9).1
              have hfb := (hgw.block b7 HZ7.out).trans HBo.out
              have hbA : W2.cell? ⟨b7, 0, none⟩ = some (.int .i64 n) := by simp [World.cell?, hfb]
              have hbB : W2.cell? ⟨b7, 1, none⟩ = some (.slice ao l.length ko) := by simp [World.cell?, hfb]
              have hfA : W2.frozen? ⟨b7, 0, none⟩ = false := by simp [World.frozen?, hfb]
              have hfB : W2.frozen? ⟨b7, 1, none⟩ = false := by simp [World.frozen?, hfb]
              have h0b := (hgw.block _ HZ2.out).trans HB2.out
              have yA : W2.cell? ⟨b2, 0, none⟩ = some (.int .i64 0) := by simp [World.cell?, h0b]
              have yB : W2.cell? ⟨b2, 1, none⟩ = some (.slice none 0 0) := by simp [World.cell?, h0b]
              have yC : W2.frozen? ⟨b2, 0, none⟩ = false := by simp [World.frozen?, h0b]
              have yD : W2.frozen? ⟨b2, 1, none⟩ = false := by simp [World.frozen?, h0b]
              have HT2 : Hid (Turned W7 W2 b7) := HT.out.grew hgw
              have HG2 : Hid (Grew w W2) := HGW2.out.trans hgw
              have HFB := hid hfb
              have HN9 := hid hN9
              change wpList _ _ _ _ (Act.put (Act.put (Act.put (Act.put (Act.put (Act.put (Act.put (Act.put (Act.put (Act.put (Act.put (Act.put (Act.put _ (some 46) (vs 0)) (some 47) (vs 1)) (some 48) (vs 2)) (some 49) (vs 3)) (some 50) (vs 4)) (some 51) (vs 5)) (some 52) (vs 6)) (some 53) (vs 7)) (some 45) (vs 8)) (some 54) (vs 9)) (some 55) (vs 10)) (some 11) (vs 11)) none (vs 12)) _
              simp only [Act.put, List.setIfInBounds_toArray, List.set_cons_zero, List.set_cons_succ, List.drop_succ_cons, List.drop_zero, hn10, e3]
              clear hn hb9 hN9 hg hgw hfb h0b hB' e3 e4 hn10
              clear z6 z61 z62 z63 z7 z71 z72 z73 z9 z91 z92 z93 z10 z101 z102 z103 c70 c71 y6 y9 d0 d1
              by_cases hre : re = 0
              · have HRE := hid hre
                rw [hre]
                clear hre
                have HNn : Hid (N = n) := hid (by rw [← HN.out, rowsOf, if_pos HRE.out])
                go_wp2_with fail
                go_roundw
                case rel =>
                  refine ⟨q + 1, rl, by omega, by go_num, hid ⟨?_, HVL.out.2 HRE.out, HVL.out.1⟩, (HT2.out.set _ _).set _ _, ?_⟩
                  · have h1 := itsE_step (l := l) Hx.out (by rw [HSTEP.out]; exact HRE.out)
                    rw [HSTEP.out] at h1
                    rw [← HS1.out]; exact h1.symm
                  · obtain ⟨s1, s2⟩ := R4.set2 HFB.out (.int .i64 N) (.slice a9 rl.length k9)
                    refine ⟨a9, k9, by rw [← HNn.out]; exact s1, ?_⟩
                    exact HN9.out.turned (((Turned.refl _ _).set _ _).set _ _) HFB.out (by decide)
                case measure => simp [intOf]; omega
              · have HRE := hid hre
                have e1 : (re != 0) = true := by simpa using hre
                clear hre
                have HRI := hid (show RI = ([], re) by
                  have h1 := itsE_stop (l := l) Hx.out (by rw [HSTEP.out]; exact HRE.out)
                  rw [HSTEP.out] at h1
                  rw [← HS1.out]; exact h1)
                have HRR := hid (HBADX.out re HRI.out HRE.out)
                go_wp2_with fail
                exact bodyPost_ret (v := .tuple #[.agg #[.int .i64 0, .slice none 0 0], .int .i64 re]) (by simp [results, Try.results24, go_sem, yA, yB]) rfl ⟨⟨none, 0, by rw [HRR.out]; rfl, by rw [HRR.out]; exact .inl rfl⟩, ((HG2.out.set HBW.out _ _).set HBW.out _ _)⟩
          · have e4 : (x.kind == 4) = false := by simpa using hx4
            clear hx4 hxe
            go_wp2_with fail
            refine (of_any x _ hwid).mono ?_
            rintro e W8 ⟨⟨am, km, rfl, hom⟩, hg8⟩
            rw [hlmo] at hom ⊢
            rw [hmo]
            have h9 : W8.heap[wr2.heap.size]? = some (.cells #[.int .i64 x.kind, .int .i64 x.pos, .int .i64 x.n, .string x.name] 51) := (hg8.block _ (by simp)).trans (blk_new rfl)
            have hg8 : Grew wr2 W8 := Grew.trans (by repeat (first | exact Grew.refl _ | refine Grew.drewN ?_ _ | refine Grew.grow ?_ _ | refine Grew.alloc ?_ _ | refine Grew.drew ?_)) hg8
            obtain ⟨b9, hb9⟩ : ∃ b9, b9 = wr2.heap.size := ⟨_, rfl⟩
            rw [← hb9] at h9 ⊢
            have z9 := (Array.getElem?_eq_some_iff.1 h9).1
            have k0 : W8.cell? ⟨b9, 0, none⟩ = some (.int .i64 x.kind) := by simp [World.cell?, h9]
            have HH9 := hid h9
            have HG8 := hid hg8
            have HOM := hid hom.nmsK
            have z91 := fun m0 : Nat => Nat.lt_add_right m0 (z9)
            have z92 := fun m0 m1 : Nat => Nat.lt_add_right m1 (z91 m0)
            have z93 := fun m0 m1 m2 : Nat => Nat.lt_add_right m2 (z92 m0 m1)
            clear hb9 h9 hg8 hom hwid hmo hlmo c0 c1 c2 c3 hbi hbi1 hbi2 hbi3 z6 z61 z62 z63 z7 z71 z72 z73
            go_wp2_with fail
            obtain ⟨W0, hW0⟩ : ∃ W0, W0 = W8.alloc (.cells #[.int .i64 m, .slice am lm.length km] 28) := ⟨_, rfl⟩
            obtain ⟨b10, hb10⟩ : ∃ b10, b10 = W8.heap.size := ⟨_, rfl⟩
            have hg80 : Grew W8 W0 := by rw [hW0]; exact (by repeat (first | exact Grew.refl _ | refine Grew.drewN ?_ _ | refine Grew.grow ?_ _ | refine Grew.alloc ?_ _ | refine Grew.drew ?_))
            have h10 : W0.heap[b10]? = some (.cells #[.int .i64 m, .slice am lm.length km] 28) := by rw [hW0, hb10]; exact blk_new rfl
            rw [← hW0, ← hb10]
            have HG0 := hid (HG8.out.trans hg80)
            have h9 := (hg80.block b9 z9).trans HH9.out
            have z10 := (Array.getElem?_eq_some_iff.1 h10).1
            have HNMm := hid (HOM.out.grew hg80)
            have z9 := (Array.getElem?_eq_some_iff.1 h9).1
            have y9 : W0.cell? ⟨b9, 1, none⟩ = some (.int .i64 x.pos) := by simp [World.cell?, h9]
            have d0 : W0.cell? ⟨b10, 0, none⟩ = some (.int .i64 m) := by simp [World.cell?, h10]
            have d1 : W0.cell? ⟨b10, 1, none⟩ = some (.slice am lm.length km) := by simp [World.cell?, h10]
            clear hW0 hb10 hg80 h10 h9 k0 z91 z92 z93
            obtain ⟨hp1, hp2, hp3⟩ := HOK2.out
            obtain ⟨hlmV, hlmL⟩ := HLM.out
            obtain ⟨lp, hlp⟩ : ∃ lp, placeN n x.pos.toNat m lm = lp := ⟨_, rfl⟩
            have hlpL : lp.length = n * n := by rw [← hlp]; exact placeL_length _ _ _ _ _
            have HP := hid fun am km W (hN : Nms W am lm) => (show Calls Try.prog 58 #[.int .i64 n, .int .i64 x.pos, .agg #[.int .i64 m, .slice am lm.length km]] W (MatP n lp W) from by
              have h := placeIn_any n x.pos.toNat m am km lm W n1 n2 hp3 (by omega) (by omega) hlmL hN
              rw [Int.toNat_of_nonneg (by omega), hlp] at h
              exact h)
            obtain ⟨⟨rl, re⟩, hr⟩ : ∃ r, mulM n lp l = r := ⟨_, rfl⟩
            obtain ⟨hs1, hs2, hs3⟩ := HS.out
            have HM := hid fun a2 k2 W (hA : Nms W a2 lp) (hB : Nms W ao l) => times_any n a2 ao k2 ko lp l W n2 hlpL hs2 hA hB
            rw [hr] at HM
            have HSTEP : Hid (stepE E n x l = (rl, re)) := hid (by unfold stepE; rw [HML.out]; dsimp only; rw [hlp]; exact hr)
            have HVL : Hid (VldL rl ∧ (re = 0 → rl.length = n * n)) := hid (by
              have h1 := mulM_valid n lp l
              have h2 := @matR_length n (fun i k => rowN (prow lp l n i k))
              have h3 : matR n (fun i k => rowN (prow lp l n i k)) = (rl, re) := hr
              rw [h3] at h2
              rw [hr] at h1
              exact ⟨h1, h2⟩)
            obtain ⟨N, hN⟩ : ∃ N, rowsOf n re = N := ⟨_, rfl⟩
            have HN := hid hN
            have HS1 := hid hs1
            clear hp1 hp2 hp3 hlmV hlmL hlp hlpL hr hs1 hs2 hs3 hN
            have z6 := Nat.lt_of_lt_of_le HZ6.out HG0.out.size
            have z7 := Nat.lt_of_lt_of_le HZ7.out HG0.out.size
            have y6 : W0.cell? ⟨b6, 1, none⟩ = some (.int .i64 n) := (HG0.out.cell HZ6.out 1).trans HY6.out
            have c70 : W0.cell? ⟨b7, 0, none⟩ = some (.int .i64 n) := (HG0.out.cell HZ7.out 0).trans (by simp [World.cell?, HBo.out])
            have c71 : W0.cell? ⟨b7, 1, none⟩ = some (.slice ao l.length ko) := (HG0.out.cell HZ7.out 1).trans (by simp [World.cell?, HBo.out])
            have HNo := hid (HNo.out.grew HG0.out)
            have z61 := fun m0 : Nat => Nat.lt_add_right m0 (z6)
            have z62 := fun m0 m1 : Nat => Nat.lt_add_right m1 (z61 m0)
            have z63 := fun m0 m1 m2 : Nat => Nat.lt_add_right m2 (z62 m0 m1)
            have z71 := fun m0 : Nat => Nat.lt_add_right m0 (z7)
            have z72 := fun m0 m1 : Nat => Nat.lt_add_right m1 (z71 m0)
            have z73 := fun m0 m1 m2 : Nat => Nat.lt_add_right m2 (z72 m0 m1)
            have z91 := fun m0 : Nat => Nat.lt_add_right m0 (z9)
            have z92 := fun m0 m1 : Nat => Nat.lt_add_right m1 (z91 m0)
            have z93 := fun m0 m1 m2 : Nat => Nat.lt_add_right m2 (z92 m0 m1)
            have z101 := fun m0 : Nat => Nat.lt_add_right m0 (z10)
            have z102 := fun m0 m1 : Nat => Nat.lt_add_right m1 (z101 m0)
            have z103 := fun m0 m1 m2 : Nat => Nat.lt_add_right m2 (z102 m0 m1)
            refine R4.wp_region_slots 13 (fun ix vs W => match ix with | 0 => vs 0 = .pointer (some ⟨b6, 1, none⟩) | 1 => vs 1 = .int .i64 n | 2 => vs 2 = .pointer (some ⟨b9, 1, none⟩) | 3 => vs 3 = .int .i64 x.pos | 4 => vs 4 = .agg #[.int .i64 m, .slice am lm.length km] | 5 => MatVK (vs 5) W n lp | 6 => vs 6 = .agg #[.int .i64 n, .slice ao l.length ko] | 7 => MatEK (vs 7) W N (rl, re) | 8 => MatEK (vs 8) W N (rl, re) | 9 => MatVK (vs 9) W N rl | 10 => vs 10 = .int .i64 re | 11 => NewMat W0.heap.size (vs 11) W | 12 => HasMatK (vs 11) N rl W | _ => True) (by kernel_rfl) (by kernel_rfl) ?slst ?sldep ?slop ?slq
            case slst =>
              intro ix vs W W' h hg
              match ix, h with
              | 0, h => exact h
              | 1, h => exact h
              | 2, h => exact h
              | 3, h => exact h
              | 4, h => exact h
              | 5, h => exact MatVK.grew h hg
              | 6, h => exact h
              | 7, h => exact MatEK.grew h hg
              | 8, h => exact MatEK.grew h hg
              | 9, h => exact MatVK.grew h hg
              | 10, h => exact h
              | 11, h => exact NewMat.grew h hg
              | 12, h => exact HasMatK.grew h hg
              | _ + 13, _ => trivial
            case sldep =>
              intro ix o vs vs' W hix ho h hv hn
              match ix, hix, ho, h, hv with
              | 0, _, _, h, hv => exact Eq.trans hv h
              | 1, _, _, h, hv => exact Eq.trans hv h
              | 2, _, _, h, hv => exact Eq.trans hv h
              | 3, _, _, h, hv => exact Eq.trans hv h
              | 4, _, _, h, hv => exact Eq.trans hv h
              | 5, _, _, h, hv => show MatVK (vs' 5) W n lp; rw [hv]; exact h
              | 6, _, _, h, hv => exact Eq.trans hv h
              | 7, _, _, h, hv => show MatEK (vs' 7) W N (rl, re); rw [hv]; exact h
              | 8, _, _, h, hv => show MatEK (vs' 8) W N (rl, re); rw [hv]; exact h
              | 9, _, _, h, hv => show MatVK (vs' 9) W N rl; rw [hv]; exact h
              | 10, _, _, h, hv => exact Eq.trans hv h
              | 11, _, _, h, hv => show NewMat W0.heap.size (vs' 11) W; rw [hv]; exact h
              | 12, _, ho, h, hv => obtain rfl := Option.some.inj ho; show HasMatK (vs' 11) _ _ _; rw [hn 11 (by decide)]; exact h
              | kx + 13, hix, _, _, _ => exact absurd hix (by omega)
            case slop =>
              intro ix o hix ho vs W L hg hL hn hall
              match ix, hix, ho, hL with
              | 0, _, ho, _ =>
                obtain rfl := Option.some.inj ho
                change R4.Oper.slotAt _ _ { tmps := _, defers := _ } _ _
                obtain ⟨gq, nq, rfl⟩ := hg
                go_simp
                exact ⟨R4.upd_same _ _ _, .inl (Grew.refl _)⟩
              | 1, _, ho, _ =>
                obtain rfl := Option.some.inj ho
                have hn0 := (hn 0 (by decide)).2
                try dsimp only at hn0
                change R4.Oper.slotAt _ _ (Act.put _ (some 46) (vs 0)) _ _
                conv => arg 3; rw [hn0]
                clear hn0
                obtain ⟨gq, nq, rfl⟩ := hg
                go_simp
                exact ⟨R4.upd_same _ _ _, .inl (Grew.refl _)⟩
              | 2, _, ho, _ =>
                obtain rfl := Option.some.inj ho
                change R4.Oper.slotAt _ _ { tmps := _, defers := _ } _ _
                obtain ⟨gq, nq, rfl⟩ := hg
                go_simp
                exact ⟨R4.upd_same _ _ _, .inl (Grew.refl _)⟩
              | 3, _, ho, _ =>
                obtain rfl := Option.some.inj ho
                have hn2 := (hn 2 (by decide)).2
                try dsimp only at hn2
                change R4.Oper.slotAt _ _ (Act.put _ (some 48) (vs 2)) _ _
                conv => arg 3; rw [hn2]
                clear hn2
                obtain ⟨gq, nq, rfl⟩ := hg
                go_simp
                exact ⟨R4.upd_same _ _ _, .inl (Grew.refl _)⟩
              | 4, _, ho, _ =>
                obtain rfl := Option.some.inj ho
                change R4.Oper.slotAt _ _ { tmps := _, defers := _ } _ _
                obtain ⟨gq, nq, rfl⟩ := hg
                go_simp
                exact ⟨R4.upd_same _ _ _, .inl (Grew.refl _)⟩
              | 5, _, ho, _ =>
                obtain rfl := Option.some.inj ho
                have hn1 := (hn 1 (by decide)).2
                have hn3 := (hn 3 (by decide)).2
                have hn4 := (hn 4 (by decide)).2
                try dsimp only at hn1 hn3 hn4
                change R4.Oper.slotAt _ _ (Act.put (Act.put (Act.put _ (some 47) (vs 1)) (some 49) (vs 3)) (some 50) (vs 4)) _ _
                conv => arg 3; rw [hn1, hn3, hn4]
                clear hn1 hn3 hn4
                obtain ⟨gq, nq, rfl⟩ := hg
                go_simp
                refine (HP.out am km _ (HNMm.out.1.grew (by repeat (first | exact Grew.refl _ | refine Grew.drewN ?_ _ | refine Grew.grow ?_ _ | refine Grew.alloc ?_ _ | refine Grew.drew ?_)))).mono ?_
                rintro e w' ⟨⟨a3, k3, rfl, ho⟩, gr⟩
                exact ⟨_, rfl, by rw [R4.upd_same]; exact ⟨a3, k3, rfl, ho.nmsK⟩, .inl gr⟩
              | 6, _, ho, _ =>
                obtain rfl := Option.some.inj ho
                change R4.Oper.slotAt _ _ { tmps := _, defers := _ } _ _
                obtain ⟨gq, nq, rfl⟩ := hg
                go_simp
                exact ⟨R4.upd_same _ _ _, .inl (Grew.refl _)⟩
              | 7, _, ho, _ =>
                obtain rfl := Option.some.inj ho
                have hn5 := (hn 5 (by decide)).2
                have hn6 := (hn 6 (by decide)).2
                try dsimp only at hn5 hn6
                change R4.Oper.slotAt _ _ (Act.put (Act.put _ (some 51) (vs 5)) (some 52) (vs 6)) _ _
                conv => arg 3; rw [hn6]
                clear hn6
                obtain ⟨gq, nq, rfl⟩ := hg
                obtain ⟨a2', k2', e2, h2⟩ := hn5
                conv => arg 3; rw [e2]
                clear e2
                go_simp
                refine (HM.out a2' k2' _ h2.1 (HNo.out.1.grew (by repeat (first | exact Grew.refl _ | refine Grew.drewN ?_ _ | refine Grew.grow ?_ _ | refine Grew.alloc ?_ _ | refine Grew.drew ?_)))).mono ?_
                rintro e w' ⟨⟨a3, k3, rfl, ho⟩, gr⟩
                exact ⟨_, rfl, by rw [R4.upd_same]; exact ⟨a3, k3, by rw [← HN.out], ho.nmsK⟩, .inl gr⟩
              | 8, _, ho, _ =>
                obtain rfl := Option.some.inj ho
                have hn7 := (hn 7 (by decide)).2
                try dsimp only at hn7
                change R4.Oper.slotAt _ _ (Act.put _ (some 53) (vs 7)) _ _
                obtain ⟨gq, nq, rfl⟩ := hg
                obtain ⟨a2', k2', e2, h2⟩ := hn7
                conv => arg 3; rw [e2]
                clear e2
                go_simp
                exact ⟨by rw [R4.upd_same]; exact ⟨a2', k2', rfl, h2⟩, .inl (Grew.refl _)⟩
              | 9, _, ho, _ =>
                obtain rfl := Option.some.inj ho
                have hn8 := (hn 8 (by decide)).2
                try dsimp only at hn8
                change R4.Oper.slotAt _ _ (Act.put _ (some 45) (vs 8)) _ _
                obtain ⟨gq, nq, rfl⟩ := hg
                obtain ⟨a2', k2', e2, h2⟩ := hn8
                conv => arg 3; rw [e2]
                clear e2
                go_simp
                exact ⟨by rw [R4.upd_same]; exact ⟨a2', k2', rfl, h2⟩, .inl (Grew.refl _)⟩
              | 10, _, ho, _ =>
                obtain rfl := Option.some.inj ho
                have hn8 := (hn 8 (by decide)).2
                try dsimp only at hn8
                change R4.Oper.slotAt _ _ (Act.put _ (some 45) (vs 8)) _ _
                obtain ⟨gq, nq, rfl⟩ := hg
                obtain ⟨a2', k2', e2, h2⟩ := hn8
                conv => arg 3; rw [e2]
                clear e2
                go_simp
                exact ⟨R4.upd_same _ _ _, .inl (Grew.refl _)⟩
              | 11, _, ho, _ =>
                obtain rfl := Option.some.inj ho
                change R4.Oper.slotAt _ _ { tmps := _, defers := _ } _ _
                have hs := hg.size
                go_simp
                exact ⟨by rw [R4.upd_same]; exact NewMat.fresh rfl (by omega), .inl ((Grew.refl _).alloc _)⟩
              | 12, _, ho, hL =>
                obtain rfl := Option.some.inj ho
                have hn11 := (hn 11 (by decide)).2
                have hn9 := (hn 9 (by decide)).2
                try dsimp only at hn11 hn9
                change R4.Oper.slotAt _ _ (Act.put (Act.put _ (some 11) (vs 11)) (some 54) (vs 9)) _ _
                -- hL
                obtain ⟨a2', k2', e2, h2⟩ := hn9
                obtain ⟨b', x', a', p', q', e3, hB, hq⟩ := hn11
                conv => arg 3; rw [e2, e3]
                have E2 := hid e2
                have E3 := hid e3
                clear e2 e3
                have ca : W.cell? ⟨b', 0, none⟩ = some (.int .i64 x') := by simp [World.cell?, hq]
                have cb : W.cell? ⟨b', 1, none⟩ = some (.slice a' p' q') := by simp [World.cell?, hq]
                have fa : W.frozen? ⟨b', 0, none⟩ = false := by simp [World.frozen?, hq]
                have fb : W.frozen? ⟨b', 1, none⟩ = false := by simp [World.frozen?, hq]
                go_simp
                obtain ⟨s1, s2⟩ := R4.set2 hq (.int .i64 N) (.slice a2' rl.length k2')
                have ht : Turned W ((W.setCell ⟨b', 0, none⟩ (.int .i64 N)).setCell ⟨b', 1, none⟩ (.slice a2' rl.length k2')) b' := ((Turned.refl _ _).set _ _).set _ _
                exact ⟨by rw [R4.upd_other _ _ (by decide)]; exact ⟨b', E3.out, a2', k2', s1, h2.turned ht hq (by decide)⟩, .inr ⟨ht.toGrew hg hB, fun jx hjx hLj => by
                  have hv := hall jx hjx hLj
                  match jx, hjx, hv, hLj with
                  | 0, _, hv, _ => exact hv
                  | 1, _, hv, _ => exact hv
                  | 2, _, hv, _ => exact hv
                  | 3, _, hv, _ => exact hv
                  | 4, _, hv, _ => exact hv
                  | 5, _, hv, _ => exact MatVK.turned hv ht hq
                  | 6, _, hv, _ => exact hv
                  | 7, _, hv, _ => exact MatEK.turned hv ht hq
                  | 8, _, hv, _ => exact MatEK.turned hv ht hq
                  | 9, _, hv, _ => exact MatVK.turned hv ht hq
                  | 10, _, hv, _ => exact hv
                  | 11, _, hv, _ => exact NewMat.turned hv ht s1
                  | 12, _, hv, hLj => exact absurd hLj hL
                  | kx + 13, hjx, _, _ => exact absurd hjx (by omega)⟩⟩
              | kx + 13, hix, _, _ => exact absurd hix (by omega)
            case slq =>
              intro vs W2 hg hn
              have hn10 : vs 10 = .int .i64 re := hn 10 (by decide) (by decide)
              obtain ⟨b', x', a', p', q', e3, hB', _⟩ : NewMat W0.heap.size (vs 11) W2 := hn 11 (by decide) (by decide)
              obtain ⟨b11, e4, a9, k9, hb9, hN9⟩ : HasMatK (vs 11) N rl W2 := hn 12 (by decide) (by decide)
              have e5 : b' = b11 := by
                rw [e3] at e4
                injection e4 with h
                injection h with h
                injection h
              subst e5
              have hgw : Grew wr2 W2 := HG0.out.trans hg
              have cA : W2.cell? ⟨b', 0, none⟩ = some (.int .i64 N) := by simp [World.cell?, hb9]
              have cB : W2.cell? ⟨b', 1, none⟩ = some (.slice a9 rl.length k9) := by simp [World.cell?, hb9]
              have hlt' : b' < W2.heap.size := (Array.getElem?_eq_some_iff.1 hb9).1
              have hfb := (hgw.block b7 HZ7.out).trans HBo.out
              have hbA : W2.cell? ⟨b7, 0, none⟩ = some (.int .i64 n) := by simp [World.cell?, hfb]
              have hbB : W2.cell? ⟨b7, 1, none⟩ = some (.slice ao l.length ko) := by simp [World.cell?, hfb]
              have hfA : W2.frozen? ⟨b7, 0, none⟩ = false := by simp [World.frozen?, hfb]
              have hfB : W2.frozen? ⟨b7, 1, none⟩ = false := by simp [World.frozen?, hfb]
              have h0b := (hgw.block _ HZ2.out).trans HB2.out
              have yA : W2.cell? ⟨b2, 0, none⟩ = some (.int .i64 0) := by simp [World.cell?, h0b]
              have yB : W2.cell? ⟨b2, 1, none⟩ = some (.slice none 0 0) := by simp [World.cell?, h0b]
              have yC : W2.frozen? ⟨b2, 0, none⟩ = false := by simp [World.frozen?, h0b]
              have yD : W2.frozen? ⟨b2, 1, none⟩ = false := by simp [World.frozen?, h0b]
              have HT2 : Hid (Turned W7 W2 b7) := HT.out.grew hgw
              have HG2 : Hid (Grew w W2) := HGW2.out.trans hgw
              have HFB := hid hfb
              have HN9 := hid hN9
              change wpList _ _ _ _ (Act.put (Act.put (Act.put (Act.put (Act.put (Act.put (Act.put (Act.put (Act.put (Act.put (Act.put (Act.put (Act.put _ (some 46) (vs 0)) (some 47) (vs 1)) (some 48) (vs 2)) (some 49) (vs 3)) (some 50) (vs 4)) (some 51) (vs 5)) (some 52) (vs 6)) (some 53) (vs 7)) (some 45) (vs 8)) (some 54) (vs 9)) (some 55) (vs 10)) (some 11) (vs 11)) none (vs 12)) _
              simp only [Act.put, List.setIfInBounds_toArray, List.set_cons_zero, List.set_cons_succ, List.drop_succ_cons, List.drop_zero, hn10, e3]
              clear hn hb9 hN9 hg hgw hfb h0b hB' e3 e4 hn10
              clear z6 z61 z62 z63 z7 z71 z72 z73 z9 z91 z92 z93 z10 z101 z102 z103 c70 c71 y6 y9 d0 d1
              by_cases hre : re = 0
              · have HRE := hid hre
                rw [hre]
                clear hre
                have HNn : Hid (N = n) := hid (by rw [← HN.out, rowsOf, if_pos HRE.out])
                go_wp2_with fail
                go_roundw
                case rel =>
                  refine ⟨q + 1, rl, by omega, by go_num, hid ⟨?_, HVL.out.2 HRE.out, HVL.out.1⟩, (HT2.out.set _ _).set _ _, ?_⟩
                  · have h1 := itsE_step (l := l) Hx.out (by rw [HSTEP.out]; exact HRE.out)
                    rw [HSTEP.out] at h1
                    rw [← HS1.out]; exact h1.symm
                  · obtain ⟨s1, s2⟩ := R4.set2 HFB.out (.int .i64 N) (.slice a9 rl.length k9)
                    refine ⟨a9, k9, by rw [← HNn.out]; exact s1, ?_⟩
                    exact HN9.out.turned (((Turned.refl _ _).set _ _).set _ _) HFB.out (by decide)
                case measure => simp [intOf]; omega
              · have HRE := hid hre
                have e1 : (re != 0) = true := by simpa using hre
                clear hre
                have HRI := hid (show RI = ([], re) by
                  have h1 := itsE_stop (l := l) Hx.out (by rw [HSTEP.out]; exact HRE.out)
                  rw [HSTEP.out] at h1
                  rw [← HS1.out]; exact h1)
                have HRR := hid (HBADX.out re HRI.out HRE.out)
                go_wp2_with fail
                exact bodyPost_ret (v := .tuple #[.agg #[.int .i64 0, .slice none 0 0], .int .i64 re]) (by simp [results, Try.results24, go_sem, yA, yB]) rfl ⟨⟨none, 0, by rw [HRR.out]; rfl, by rw [HRR.out]; exact .inl rfl⟩, ((HG2.out.set HBW.out _ _).set HBW.out _ _)⟩
theorem rmatrixP_any (a0 : Option Addr) (cap : Nat) (L : List Cl) (w : World) (hl : L.length ≤ 9223372036854775807) (hN : Net w a0 L) (hk : CsOk L) (hcap : L.length ≤ cap) :
    Calls Try.prog 24 #[.slice a0 L.length cap] w (MadeNet (matNet L) w) := by
  unfold matNet
  by_cases hv : vnet L = true
  · rw [if_pos hv]
    exact rmatrix_main a0 cap L w hl hN hk hcap hv
  · rw [if_neg hv]
    exact rmatrix_bad a0 cap L w hl hN hk hcap (by simpa using hv)

end Go.Proofs.Ytkglnnkghillpaa
