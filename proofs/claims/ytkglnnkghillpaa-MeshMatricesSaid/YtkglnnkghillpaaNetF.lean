/- Layer 3: the matrix of the items of a cell. Condition: they are valid among the cells and lie in memory. -/
import Derived.Test.YtkglnnkghillpaaMshO
import Derived.Test.YtkglnnkghillpaaMshEnv
import Derived.Test.YtkglnnkghillpaaNetB
namespace Go.Proofs.Ytkglnnkghillpaa
open Go Go.RowKit Amp Msh

theorem zero_mat (w : World) : (zeroValue 28).run Try.prog w = .ok (.agg #[.int .i64 0, .slice none 0 0]) w := by kernel_rfl
/-- Block b is a map that has the matrices of cells at their names. -/
def MapM (w : World) (b n : Nat) (E : Env) : Prop := ∃ f, MapV w b n f ∧ ∀ s : ByteArray, (E s = none ∧ f s = none) ∨ ∃ (m : Nat) (lm : List Num) (a : Option Addr) (k : Nat), E s = some (m, lm) ∧ f s = some (.agg #[.int .i64 m, .slice a lm.length k]) ∧ Nms w a lm
theorem MapM.grew {w w' : World} {b n : Nat} {E : Env} (h : MapM w b n E) (g : Grew w w') : MapM w' b n E := by
  obtain ⟨f, h1, h2⟩ := h
  refine ⟨f, h1.grew g, fun s => ?_⟩
  rcases h2 s with h3 | ⟨m, lm, a, k, h3, h4, h5⟩
  · exact .inl h3
  · exact .inr ⟨m, lm, a, k, h3, h4, h5.grew g⟩
theorem MapM.lookN {w : World} {b n : Nat} {E : Env} (h : MapM w b n E) {s : ByteArray} (hs : s.size ≤ maxLen) (he : E s = none) : (Instr.lookup 75 (.map (some b)) (.string s) true).run Try.prog w = .ok (.tuple #[.agg #[.int .i64 0, .slice none 0 0], .bool false]) w := by
  obtain ⟨f, h1, h2⟩ := h
  rw [h1.look Try.underlying75 (zero_mat w) s hs true]
  rcases h2 s with ⟨_, h3⟩ | ⟨m, lm, a, k, h3, _⟩
  · rw [h3]; rfl
  · rw [he] at h3; cases h3
theorem MapM.lookS {w : World} {b n : Nat} {E : Env} (h : MapM w b n E) {s : ByteArray} (hs : s.size ≤ maxLen) {m : Nat} {lm : List Num} (he : E s = .some (m, lm)) : ∃ a k, (Instr.lookup 75 (.map (.some b)) (.string s) true).run Try.prog w = .ok (.tuple #[.agg #[.int .i64 m, .slice a lm.length k], .bool true]) w ∧ Nms w a lm := by
  obtain ⟨f, h1, h2⟩ := h
  rw [h1.look Try.underlying75 (zero_mat w) s hs true]
  rcases h2 s with ⟨h3, _⟩ | ⟨m', lm', a, k, h3, h4, h5⟩
  · rw [he] at h3; cases h3
  · rw [he] at h3
    have e1 := Option.some.inj h3
    obtain ⟨rfl, rfl⟩ : m = m' ∧ lm = lm' := ⟨congrArg Prod.fst e1, congrArg Prod.snd e1⟩
    rw [h4]
    exact ⟨a, k, rfl, h5⟩
/-- How far the matrix of items has come. -/
def ItsAtE (E : Env) (n : Nat) (its : List It) (R : List Num × Int) (i : Nat) (l : List Num) (e : Int) : Prop := (e = 0 ∧ itsE E n (its.drop i) l = R ∧ l.length = n * n ∧ VldL l) ∨ (e ≠ 0 ∧ R = ([], e) ∧ l = [])

set_option maxRecDepth 100000 in
set_option maxHeartbeats 8000000 in
theorem made_env (E : Env) (Fn : ByteArray → Int) (bm nn : Nat) (n : Nat) (a0 : Option Addr) (cap : Nat) (its : List It) (w : World) (n1 : 1 ≤ n) (n2 : n ≤ 6) (hl : its.length ≤ 5000) (hc : Its w a0 its) (hok : okEs Fn n its = true) (hE : EnvOk Fn E) (hM : MapM w bm nn E) (hsz : ∀ x ∈ its, x.name.size ≤ maxLen) :
    Calls Try.prog 49 #[.int .i64 n, .slice a0 its.length cap, .map (some bm)] w (MadeN n (itsE E n its (idN n)) w) := by
  have HI := hid fun w => aIdentity_any n w n1 n2
  have HC := hid hc
  have HOK := hid hok
  have HENV := hid hE
  have HMP := hid hM
  have HSZ := hid hsz
  obtain ⟨R, hR⟩ : ∃ R, itsE E n its (idN n) = R := ⟨_, rfl⟩
  rw [hR]
  have HR := hid hR
  clear hc hok hR hE hM hsz
  go_enter Try.func49, Try.ntmps49
  go_wp2_with fail
  refine (HI.out _).mono ?_
  rintro e w' ⟨⟨a1, k1, rfl, ho⟩, g, n', rfl⟩
  dsimp only [rowsOf]
  obtain ⟨l0, hl0⟩ : ∃ l0, idN n = l0 := ⟨_, rfl⟩
  rw [hl0] at ho ⊢
  have HO := hid ho
  have HL0 := hid hl0
  clear ho hl0
  go_wp2_with fail
  obtain ⟨W, hW⟩ : ∃ W, W = (((w.alloc (.cells #[.int .i64 0, .slice none 0 0] 28)).grow g).alloc (.cells #[.int .i64 n, .slice a1 l0.length k1] 28)).drewN n' := ⟨_, rfl⟩
  obtain ⟨b8, hb8⟩ : ∃ b8, b8 = w.heap.size + 1 + g.length := ⟨_, rfl⟩
  have hWg : Grew w W := by rw [hW]; exact (by repeat (first | exact Grew.refl _ | refine Grew.drewN ?_ _ | refine Grew.grow ?_ _ | refine Grew.alloc ?_ _ | refine Grew.drew ?_))
  have hWs : W.heap.size = w.heap.size + 1 + g.length + 1 := by rw [hW]; simp [go_sem]
  have hN : Nms W a1 l0 := by
    rw [hW]
    exact (HO.out.grew ((Grew.refl _).alloc _)).nms
  have hB8 : W.heap[b8]? = some (.cells #[.int .i64 n, .slice a1 l0.length k1] 28) := by
    rw [hW, hb8, World.heap_drewN]
    exact blk_new (by simp [go_sem])
  have hC : W.cell? ⟨w.heap.size, 0, none⟩ = some (.int .i64 0) ∧ W.cell? ⟨w.heap.size, 1, none⟩ = some (.slice none 0 0) ∧ W.frozen? ⟨w.heap.size, 0, none⟩ = false ∧ W.frozen? ⟨w.heap.size, 1, none⟩ = false := by
    rw [hW]; simp [go_sem]
  have hB0 : W.heap[w.heap.size]? = some (.cells #[.int .i64 0, .slice none 0 0] 28) := by
    rw [hW, World.heap_drewN, blk_past (by simp [go_sem] <;> omega), World.grow_heap_lt _ _ _ (by simp [go_sem])]
    exact blk_new rfl
  rw [← hW, ← hb8]
  have HWG := hid hWg
  have HW8 : Hid (b8 < W.heap.size ∧ w.heap.size < b8) := hid (by omega)
  clear hW hWg hb8 hWs HO
  have KEY := hid fun wr (hT : Turned W wr b8) => (show Grew w wr ∧ w.heap.size < wr.heap.size ∧ b8 < wr.heap.size ∧ wr.cell? ⟨w.heap.size, 0, none⟩ = some (.int .i64 0) ∧ wr.cell? ⟨w.heap.size, 1, none⟩ = some (.slice none 0 0) ∧ wr.frozen? ⟨w.heap.size, 0, none⟩ = false ∧ wr.frozen? ⟨w.heap.size, 1, none⟩ = false ∧ Hid (wr.heap[w.heap.size]? = some (.cells #[.int .i64 0, .slice none 0 0] 28)) from by
    obtain ⟨h1, h2⟩ := HW8.out
    have hs := hT.size
    obtain ⟨q1, q2, q3, q4⟩ := hC
    have e1 := hT.block (k := w.heap.size) (by omega) (by omega)
    refine ⟨hT.toGrew HWG.out (by omega), by omega, by omega, ?_, ?_, ?_, ?_, e1.trans hB0⟩
    · rw [← q1]; simp [World.cell?, e1]
    · rw [← q2]; simp [World.cell?, e1]
    · rw [← q3]; simp [World.frozen?, e1]
    · rw [← q4]; simp [World.frozen?, e1])
  clear hC hB0
  go_loopw [9, 21] (fun ev v wr => ∃ (i : Nat) (l : List Num) (e : Int), i ≤ its.length ∧ v = .int .i64 i ∧ ev = .int .i64 e ∧ Hid (ItsAtE E n its R i l e) ∧ Turned W wr b8 ∧ ∃ (ao : Option Addr) (ko : Nat), wr.heap[b8]? = some (.cells #[.int .i64 (rowsOf n e), .slice ao l.length ko] 28) ∧ Nms wr ao l) (fun _ v _ => its.length - (intOf v).toNat)
  case atStart => exact ⟨0, l0, 0, Nat.zero_le _, rfl, rfl, hid (.inl ⟨rfl, by rw [← HL0.out]; exact HR.out, by rw [← HL0.out]; exact idN_length n, by rw [← HL0.out]; exact idN_valid n⟩), Turned.refl _ _, a1, k1, by rw [rowsOf, if_pos rfl]; exact hB8, hN⟩
  case round =>
    obtain ⟨i, l, e, hi, rfl, rfl, hs, hT, ao, ko, hBo, hNo⟩ := hrel
    obtain ⟨hG, z0, z8, y0, y1, y2, y3, HB0⟩ := KEY.out wr hT
    have HG := hid hG
    have HT := hid hT
    have HBo := hid hBo
    have HNo := hid hNo
    have c80 : wr.cell? ⟨b8, 0, none⟩ = some (.int .i64 (rowsOf n e)) := by simp [World.cell?, hBo]
    have c81 : wr.cell? ⟨b8, 1, none⟩ = some (.slice ao l.length ko) := by simp [World.cell?, hBo]
    have f80 : wr.frozen? ⟨b8, 0, none⟩ = false := by simp [World.frozen?, hBo]
    have f81 : wr.frozen? ⟨b8, 1, none⟩ = false := by simp [World.frozen?, hBo]
    clear hG hT hBo hNo hB8 hN
    have z01 := fun m0 : Nat => Nat.lt_add_right m0 (z0)
    have z02 := fun m0 m1 : Nat => Nat.lt_add_right m1 (z01 m0)
    have z03 := fun m0 m1 m2 : Nat => Nat.lt_add_right m2 (z02 m0 m1)
    have z81 := fun m0 : Nat => Nat.lt_add_right m0 (z8)
    have z82 := fun m0 m1 : Nat => Nat.lt_add_right m1 (z81 m0)
    have z83 := fun m0 m1 m2 : Nat => Nat.lt_add_right m2 (z82 m0 m1)
    by_cases hlt : i < its.length
    · obtain ⟨x, hx⟩ : ∃ x, its[i]? = some x := ⟨its[i], List.getElem?_eq_getElem hlt⟩
      obtain ⟨b, off, rfl, hb, c0, c1, c2, c3⟩ := (HC.out.grew HG.out).cells hx
      have hb1 := fun m0 : Nat => Nat.lt_add_right m0 (hb)
      have hb2 := fun m0 m1 : Nat => Nat.lt_add_right m1 (hb1 m0)
      have hb3 := fun m0 m1 m2 : Nat => Nat.lt_add_right m2 (hb2 m0 m1)
      have Hx := hid hx
      clear hx
      by_cases hE : e = 0
      case neg =>
        have e1 : (e != 0) = true := by simpa using hE
        have hbad : Hid (R = ([], e) ∧ ¬ e = 0) := by
          rcases hs.out with h | h
          · exact absurd h.1 hE
          · exact ⟨h.2.1, h.1⟩
        clear hs hE
        go_wp2_with fail
        exact bodyPost_ret (v := .tuple #[.agg #[.int .i64 0, .slice none 0 0], .int .i64 e]) (by simp [results, Try.results49, go_sem, y0, y1, z0]) rfl (MadeN.bad hbad.out.1 hbad.out.2 (by repeat (first | exact Grew.refl _ | exact HG.out | refine Grew.drewN ?_ _ | refine Grew.grow ?_ _ | refine Grew.alloc ?_ _ | refine Grew.drew ?_ | refine Grew.set ?_ (Nat.le_refl _) _ _ | refine Grew.set ?_ (by omega) _ _)))
      subst hE
      obtain ⟨⟨m, lm⟩, hml⟩ : ∃ p, itemM E x = p := ⟨_, rfl⟩
      obtain ⟨hio1, hio2, hio3⟩ := item_ok HENV.out (okEs_at Hx.out HOK.out) hml
      obtain ⟨hs1, hs2, hs3⟩ : itsE E n (its.drop i) l = R ∧ l.length = n * n ∧ VldL l := by
        rcases hs.out with h | h
        · exact h.2
        · exact absurd rfl h.1
      have HS := hid (And.intro hs1 (And.intro hs2 hs3))
      have HOK2 := hid hio1
      have HLM := hid hio2
      have HML := hid hml
      have hxs := HSZ.out x (List.mem_of_getElem? Hx.out)
      clear hs hs1 hs2 hs3 hio1 hio2 hml
      simp only [rowsOf, if_true] at c80 HBo
      rcases hio3 with ⟨hx4, hxe⟩ | ⟨hx4, hxe, hwid, hmo, hlmo⟩
      · skip
        obtain ⟨am, km, hrun, hNmw⟩ := MapM.lookS ((HMP.out.grew HG.out).grew ((Grew.refl wr).alloc (.cells #[.int .i64 x.kind, .int .i64 x.pos, .int .i64 x.n, .string x.name] 51))) hxs hxe
        have HNMW := hid hNmw
        clear hxs hxe hNmw hx4
        go_wp2_with fail
        obtain ⟨W0, hW0⟩ : ∃ W0, W0 = (wr.alloc (.cells #[.int .i64 x.kind, .int .i64 x.pos, .int .i64 x.n, .string x.name] 51)).alloc (.cells #[.int .i64 m, .slice am lm.length km] 28) := ⟨_, rfl⟩
        have hGW0 : Grew wr W0 := by rw [hW0]; exact (by repeat (first | exact Grew.refl _ | refine Grew.drewN ?_ _ | refine Grew.grow ?_ _ | refine Grew.alloc ?_ _ | refine Grew.drew ?_))
        have hW0s : wr.heap.size + 1 < W0.heap.size := by rw [hW0]; simp [go_sem] <;> omega
        have hk : W0.cell? ⟨wr.heap.size, 1, none⟩ = some (.int .i64 x.pos) ∧ W0.cell? ⟨wr.heap.size + 1, 0, none⟩ = some (.int .i64 m) ∧ W0.cell? ⟨wr.heap.size + 1, 1, none⟩ = some (.slice am lm.length km) := by rw [hW0]; simp [go_sem]
        obtain ⟨k1', k2', k3'⟩ := hk
        have hNm : Nms W0 am lm := by rw [hW0]; exact HNMW.out.grew (by repeat (first | exact Grew.refl _ | refine Grew.drewN ?_ _ | refine Grew.grow ?_ _ | refine Grew.alloc ?_ _ | refine Grew.drew ?_))
        have hNo : Nms W0 ao l := HNo.out.grew hGW0
        have hB8 : W0.heap[b8]? = some (.cells #[.int .i64 n, .slice ao l.length ko] 28) := (hGW0.block b8 z8).trans HBo.out
        have hb80 : b8 < W0.heap.size := Nat.lt_of_lt_of_le z8 hGW0.size
        obtain ⟨hp1, hp2, hp3⟩ := HOK2.out
        obtain ⟨hlmV, hlmL⟩ := HLM.out
        obtain ⟨hs1, hs2, hs3⟩ := HS.out
        obtain ⟨lp, hlp⟩ : ∃ lp, placeN n x.pos.toNat m lm = lp := ⟨_, rfl⟩
        have hlpV : VldL lp := by rw [← hlp]; exact placeL_valid hlmV _
        have hlpL : lp.length = n * n := by rw [← hlp]; exact placeL_length _ _ _ _ _
        have HP := hid fun W (hN : Nms W am lm) => (show Calls Try.prog 69 #[.int .i64 n, .int .i64 x.pos, .agg #[.int .i64 m, .slice am lm.length km]] W (MatP n lp W) from by
          have h := place_any n x.pos.toNat m am km lm W n1 n2 hp3 (by omega) (by omega) hlmL hN
          rw [Int.toNat_of_nonneg (by omega), hlp] at h
          exact h)
        obtain ⟨⟨rl, re⟩, hr⟩ : ∃ r, mulM n lp l = r := ⟨_, rfl⟩
        have HM := hid fun W a2 k2 (hA : Nms W a2 lp) (hB : Nms W ao l) => aMulM_any n a2 ao k2 ko lp l W n1 n2 hlpL hs2 hA hB hlpV hs3
        rw [hr] at HM
        have HSTEP : Hid (stepE E n x l = (rl, re)) := hid (by unfold stepE; rw [HML.out]; dsimp only; rw [hlp]; exact hr)
        have HSTEP2 : Hid (mulM n (placeN n x.pos.toNat m lm) l = (rl, re)) := hid (by rw [hlp]; exact hr)
        have HVL : Hid (VldL rl ∧ (re = 0 → rl.length = n * n)) := hid (by
          have h1 := mulM_valid n lp l
          have h2 := @matR_length n (fun i k => rowN (prow lp l n i k))
          have h3 : matR n (fun i k => rowN (prow lp l n i k)) = (rl, re) := hr
          rw [h3] at h2
          rw [hr] at h1
          exact ⟨h1, h2⟩)
        rw [← hW0]
        have HGW0 := hid hGW0
        clear hW0 hGW0 hp1 hp2 hp3 hlmV hlmL hlp hlpV hlpL hr hs1 hs2 hs3
        have RN : Hid (rowsOf n re = rowsOf n re) := rfl
        obtain ⟨N, hN⟩ : ∃ N, rowsOf n re = N := ⟨_, rfl⟩
        have HN := hid hN
        refine R4.wp_region_slotsC 11 (fun ix vs W => match ix with | 0 => vs 0 = .int .i64 n | 1 => vs 1 = .pointer (some ⟨wr.heap.size, 1, none⟩) | 2 => vs 2 = .int .i64 x.pos | 3 => vs 3 = .agg #[.int .i64 m, .slice am lm.length km] | 4 => MatV (vs 4) W n lp | 5 => vs 5 = .agg #[.int .i64 n, .slice ao l.length ko] | 6 => MatE (vs 6) W N (rl, re) | 7 => MatE (vs 7) W N (rl, re) | 8 => MatV (vs 8) W N rl | 9 => vs 9 = .int .i64 re | 10 => MatB b8 N rl W | _ => True) (fun L W => Cls W0 b8 (.cells #[.int .i64 n, .slice ao l.length ko] 28) L W) (by kernel_rfl) (by kernel_rfl) ?slst ?sldep ⟨(Turned.refl W0 b8).grew (Grew.refl _).drew, fun _ => hB8⟩ ?slop ?slq
        case slst =>
          intro ix vs W W' h hg
          match ix, h with
          | 0, h => exact h
          | 1, h => exact h
          | 2, h => exact h
          | 3, h => exact h
          | 4, h => exact MatV.grew h hg
          | 5, h => exact h
          | 6, h => exact MatE.grew h hg
          | 7, h => exact MatE.grew h hg
          | 8, h => exact MatV.grew h hg
          | 9, h => exact h
          | 10, h => obtain ⟨a9, k9, h1, h2⟩ := h; exact ⟨a9, k9, (hg.block b8 (Array.getElem?_eq_some_iff.1 h1).1).trans h1, h2.grew hg⟩
          | _ + 11, _ => trivial
        case sldep =>
          intro ix o vs vs' W hix ho h hv hn
          match ix, hix, ho, h, hv with
          | 0, _, _, h, hv => exact Eq.trans hv h
          | 1, _, _, h, hv => exact Eq.trans hv h
          | 2, _, _, h, hv => exact Eq.trans hv h
          | 3, _, _, h, hv => exact Eq.trans hv h
          | 4, _, _, h, hv => show MatV (vs' 4) W n lp; rw [hv]; exact h
          | 5, _, _, h, hv => exact Eq.trans hv h
          | 6, _, _, h, hv => show MatE (vs' 6) W N (rl, re); rw [hv]; exact h
          | 7, _, _, h, hv => show MatE (vs' 7) W N (rl, re); rw [hv]; exact h
          | 8, _, _, h, hv => show MatV (vs' 8) W N rl; rw [hv]; exact h
          | 9, _, _, h, hv => exact Eq.trans hv h
          | 10, _, ho, h, hv => exact h
          | kx + 11, hix, _, _, _ => exact absurd hix (by omega)
        case slop =>
          intro ix o hix ho vs W L hg hL hn hall hdown
          match ix, hix, ho, hL with
          | 0, _, ho, _ =>
            obtain rfl := Option.some.inj ho
            change R4.Oper.slotAt _ _ { tmps := _, defers := _ } _ _
            go_simp
            exact ⟨clsG hb80 hg (Grew.refl _), by rw [R4.upd_same], .inl (Grew.refl _)⟩
          | 1, _, ho, _ =>
            obtain rfl := Option.some.inj ho
            change R4.Oper.slotAt _ _ { tmps := _, defers := _ } _ _
            go_simp
            exact ⟨clsG hb80 hg (Grew.refl _), by rw [R4.upd_same], .inl (Grew.refl _)⟩
          | 2, _, ho, _ =>
            obtain rfl := Option.some.inj ho
            have hn1 := (hn 1 (by decide)).2
            try dsimp only at hn1
            change R4.Oper.slotAt _ _ (Act.put _ (some 42) (vs 1)) _ _
            conv => arg 3; rw [hn1]
            clear hn1
            have hs0 := hg.1.size
            have c := (hg.1.cell (i := 1) (k := wr.heap.size) (by omega) (by omega)).trans k1'
            go_simp
            exact ⟨clsG hb80 hg (Grew.refl _), by rw [R4.upd_same], .inl (Grew.refl _)⟩
          | 3, _, ho, _ =>
            obtain rfl := Option.some.inj ho
            change R4.Oper.slotAt _ _ { tmps := _, defers := _ } _ _
            have hs0 := hg.1.size
            have ca := (hg.1.cell (i := 0) (k := wr.heap.size + 1) (by omega) (by omega)).trans k2'
            have cb := (hg.1.cell (i := 1) (k := wr.heap.size + 1) (by omega) (by omega)).trans k3'
            go_simp
            exact ⟨clsG hb80 hg (Grew.refl _), by rw [R4.upd_same], .inl (Grew.refl _)⟩
          | 4, _, ho, _ =>
            obtain rfl := Option.some.inj ho
            have hn0 := (hn 0 (by decide)).2
            have hn2 := (hn 2 (by decide)).2
            have hn3 := (hn 3 (by decide)).2
            try dsimp only at hn0 hn2 hn3
            change R4.Oper.slotAt _ _ (Act.put (Act.put (Act.put _ (some 41) (vs 0)) (some 43) (vs 2)) (some 44) (vs 3)) _ _
            conv => arg 3; rw [hn0, hn2, hn3]
            clear hn0 hn2 hn3
            go_simp
            refine (HP.out _ (hNm.turned hg.1 hB8)).mono ?_
            rintro e w' ⟨⟨a2, k2, rfl, ho⟩, gr⟩
            exact ⟨_, rfl, clsG hb80 hg gr, by rw [R4.upd_same]; exact ⟨a2, k2, rfl, ho.nms⟩, .inl gr⟩
          | 5, _, ho, hL =>
            obtain rfl := Option.some.inj ho
            change R4.Oper.slotAt _ _ { tmps := _, defers := _ } _ _
            have h10 : ¬ L 10 := fun h => hL (R4.down_waits hdown 10 rfl h (by decide))
            have hq := hg.2 h10
            have ca : W.cell? ⟨b8, 0, none⟩ = some (.int .i64 n) := by simp [World.cell?, hq]
            have cb : W.cell? ⟨b8, 1, none⟩ = some (.slice ao l.length ko) := by simp [World.cell?, hq]
            go_simp
            exact ⟨clsG hb80 hg (Grew.refl _), by rw [R4.upd_same], .inl (Grew.refl _)⟩
          | 6, _, ho, _ =>
            obtain rfl := Option.some.inj ho
            have hn4 := (hn 4 (by decide)).2
            have hn5 := (hn 5 (by decide)).2
            try dsimp only at hn4 hn5
            change R4.Oper.slotAt _ _ (Act.put (Act.put _ (some 45) (vs 4)) (some 46) (vs 5)) _ _
            conv => arg 3; rw [hn5]
            clear hn5
            obtain ⟨a2, k2, e2, h2⟩ := hn4
            conv => arg 3; rw [e2]
            clear e2
            go_simp
            refine (HM.out _ _ _ h2 (hNo.turned hg.1 hB8)).mono ?_
            rintro e w' ⟨⟨a3, k3, rfl, ho⟩, gr⟩
            exact ⟨_, rfl, clsG hb80 hg gr, by rw [R4.upd_same]; exact ⟨a3, k3, by rw [← hN], ho.nms⟩, .inl gr⟩
          | 7, _, ho, _ =>
            obtain rfl := Option.some.inj ho
            have hn6 := (hn 6 (by decide)).2
            try dsimp only at hn6
            change R4.Oper.slotAt _ _ (Act.put _ (some 47) (vs 6)) _ _
            obtain ⟨a2, k2, e2, h2⟩ := hn6
            conv => arg 3; rw [e2]
            clear e2
            go_simp
            exact ⟨clsG hb80 hg (Grew.refl _), by rw [R4.upd_same]; exact ⟨a2, k2, rfl, h2⟩, .inl (Grew.refl _)⟩
          | 8, _, ho, _ =>
            obtain rfl := Option.some.inj ho
            have hn7 := (hn 7 (by decide)).2
            try dsimp only at hn7
            change R4.Oper.slotAt _ _ (Act.put _ (some 40) (vs 7)) _ _
            obtain ⟨a2, k2, e2, h2⟩ := hn7
            conv => arg 3; rw [e2]
            clear e2
            go_simp
            exact ⟨clsG hb80 hg (Grew.refl _), by rw [R4.upd_same]; exact ⟨a2, k2, rfl, h2⟩, .inl (Grew.refl _)⟩
          | 9, _, ho, _ =>
            obtain rfl := Option.some.inj ho
            have hn7 := (hn 7 (by decide)).2
            try dsimp only at hn7
            change R4.Oper.slotAt _ _ (Act.put _ (some 40) (vs 7)) _ _
            obtain ⟨a2, k2, e2, h2⟩ := hn7
            conv => arg 3; rw [e2]
            clear e2
            go_simp
            exact ⟨clsG hb80 hg (Grew.refl _), by rw [R4.upd_same], .inl (Grew.refl _)⟩
          | 10, _, ho, hL =>
            obtain rfl := Option.some.inj ho
            have hn8 := (hn 8 (by decide)).2
            try dsimp only at hn8
            change R4.Oper.slotAt _ _ (Act.put _ (some 48) (vs 8)) _ _
            -- hL
            obtain ⟨a2, k2, e2, h2⟩ := hn8
            conv => arg 3; rw [e2]
            have E2 := hid e2
            clear e2
            have hq := hg.2 hL
            have ca : W.cell? ⟨b8, 0, none⟩ = some (.int .i64 n) := by simp [World.cell?, hq]
            have cb : W.cell? ⟨b8, 1, none⟩ = some (.slice ao l.length ko) := by simp [World.cell?, hq]
            have fa : W.frozen? ⟨b8, 0, none⟩ = false := by simp [World.frozen?, hq]
            have fb : W.frozen? ⟨b8, 1, none⟩ = false := by simp [World.frozen?, hq]
            go_simp
            obtain ⟨s1, s2⟩ := R4.set2 hq (.int .i64 N) (.slice a2 rl.length k2)
            have ht : Turned W ((W.setCell ⟨b8, 0, none⟩ (.int .i64 N)).setCell ⟨b8, 1, none⟩ (.slice a2 rl.length k2)) b8 := ((Turned.refl _ _).set _ _).set _ _
            exact ⟨clsS hg ht, ⟨a2, k2, s1, h2.turned ht hq⟩, .inr fun j hj hLj => by
              have hv := hall j hj hLj
              match j, hj, hv, hLj with
              | 0, _, hv, _ => exact hv
              | 1, _, hv, _ => exact hv
              | 2, _, hv, _ => exact hv
              | 3, _, hv, _ => exact hv
              | 4, _, hv, _ => exact MatV.turned hv ht hq
              | 5, _, hv, _ => exact hv
              | 6, _, hv, _ => exact MatE.turned hv ht hq
              | 7, _, hv, _ => exact MatE.turned hv ht hq
              | 8, _, hv, _ => exact MatV.turned hv ht hq
              | 9, _, hv, _ => exact hv
              | 10, _, hv, hLj => exact absurd hLj hL
              | k + 11, hj, _, _ => exact absurd hj (by omega)⟩
          | kx + 11, hix, _, _ => exact absurd hix (by omega)
        case slq =>
          intro vs W2 hC hn
          have hn9 : vs 9 = .int .i64 re := hn 9 (by decide) (by decide)
          obtain ⟨a9, k9, hb9, hN9⟩ : MatB b8 N rl W2 := hn 10 (by decide) (by decide)
          have HT2 : Hid (Turned W W2 b8) := HT.out.trans (((Turned.refl wr b8).grew HGW0.out).trans hC.1)
          change wpList _ _ _ _ (Act.put (Act.put (Act.put (Act.put (Act.put (Act.put (Act.put (Act.put (Act.put (Act.put (Act.put _ (some 41) (vs 0)) (some 42) (vs 1)) (some 43) (vs 2)) (some 44) (vs 3)) (some 45) (vs 4)) (some 46) (vs 5)) (some 47) (vs 6)) (some 40) (vs 7)) (some 48) (vs 8)) (some 49) (vs 9)) none (vs 10)) _
          simp only [Act.put, List.setIfInBounds_toArray, List.set_cons_zero, List.set_cons_succ, List.drop_succ_cons, List.drop_zero, hn9]
          have HB9 := hid hb9
          have HN9 := hid hN9
          clear hn hn9 hb9 hN9 hC hN
          go_wp2_with fail
          go_roundw
          case rel =>
            refine ⟨i + 1, rl, re, by omega, by go_num, rfl, hid ?_, HT2.out, a9, k9, ?_, HN9.out⟩
            · have hs0 := HS.out.1
              by_cases he : re = 0
              · refine .inl ⟨he, ?_, HVL.out.2 he, HVL.out.1⟩
                have h1 := itsE_step (l := l) Hx.out (by rw [HSTEP.out]; exact he)
                rw [HSTEP.out] at h1
                rw [← hs0]; exact h1.symm
              · have h1 := itsE_stop (l := l) Hx.out (by rw [HSTEP.out]; exact he)
                rw [HSTEP.out] at h1
                have h3 : (mulM n (placeN n x.pos.toNat m lm) l) = (rl, re) := HSTEP2.out
                have h2 := seqR_err (L := gridR n (fun i k => rowN (prow (placeN n x.pos.toNat m lm) l n i k))) (by
                  have h4 : seqR (gridR n (fun i k => rowN (prow (placeN n x.pos.toNat m lm) l n i k))) = (rl, re) := h3
                  rw [h4]; exact he)
                have h4 : seqR (gridR n (fun i k => rowN (prow (placeN n x.pos.toNat m lm) l n i k))) = (rl, re) := h3
                rw [h4] at h2
                exact .inr ⟨he, by rw [← hs0]; exact h1, h2⟩
            · rw [HN.out]; exact HB9.out
          case measure => simp [intOf]; omega
      · skip
        have HW0 := hwid
        have hrun := MapM.lookN ((HMP.out.grew HG.out).grew ((Grew.refl wr).alloc (.cells #[.int .i64 x.kind, .int .i64 x.pos, .int .i64 x.n, .string x.name] 51))) hxs hxe
        clear hwid hxe hxs hx4
        go_wp2_with fail
        refine (own_any x _ HW0).mono ?_
        rintro e w' ⟨⟨am, km, rfl, hom⟩, g2, n2', rfl⟩
        rw [hlmo] at hom ⊢
        rw [hmo]
        have HOM := hid hom
        clear hom
        go_wp2_with fail
        obtain ⟨W0, hW0⟩ : ∃ W0, W0 = (((wr.alloc (.cells #[.int .i64 x.kind, .int .i64 x.pos, .int .i64 x.n, .string x.name] 51)).alloc (.cells #[.int .i64 m, .slice am lm.length km] 28)).grow g2).drewN n2' := ⟨_, rfl⟩
        have hGW0 : Grew wr W0 := by rw [hW0]; exact (by repeat (first | exact Grew.refl _ | refine Grew.drewN ?_ _ | refine Grew.grow ?_ _ | refine Grew.alloc ?_ _ | refine Grew.drew ?_))
        have hW0s : wr.heap.size + 1 < W0.heap.size := by rw [hW0]; simp [go_sem] <;> omega
        have hk : W0.cell? ⟨wr.heap.size, 1, none⟩ = some (.int .i64 x.pos) ∧ W0.cell? ⟨wr.heap.size + 1, 0, none⟩ = some (.int .i64 m) ∧ W0.cell? ⟨wr.heap.size + 1, 1, none⟩ = some (.slice am lm.length km) := by rw [hW0]; simp [go_sem]
        obtain ⟨k1', k2', k3'⟩ := hk
        have hNm : Nms W0 am lm := by rw [hW0]; exact (HOM.out.al (by (try simp only [go_sem]); (try simp only [List.append_assoc]); repeat (first | exact Al.refl _ _ | refine Al.drewN ?_ _ | refine Al.grow ?_ _ | refine Al.alloc ?_ _ | refine Al.other ?_ _ _ (by simp [go_sem] <;> omega) | refine Al.set ?_ _ _ _ (by simp [go_sem] <;> omega)))).nms
        have hNo : Nms W0 ao l := HNo.out.grew hGW0
        have hB8 : W0.heap[b8]? = some (.cells #[.int .i64 n, .slice ao l.length ko] 28) := (hGW0.block b8 z8).trans HBo.out
        have hb80 : b8 < W0.heap.size := Nat.lt_of_lt_of_le z8 hGW0.size
        obtain ⟨hp1, hp2, hp3⟩ := HOK2.out
        obtain ⟨hlmV, hlmL⟩ := HLM.out
        obtain ⟨hs1, hs2, hs3⟩ := HS.out
        obtain ⟨lp, hlp⟩ : ∃ lp, placeN n x.pos.toNat m lm = lp := ⟨_, rfl⟩
        have hlpV : VldL lp := by rw [← hlp]; exact placeL_valid hlmV _
        have hlpL : lp.length = n * n := by rw [← hlp]; exact placeL_length _ _ _ _ _
        have HP := hid fun W (hN : Nms W am lm) => (show Calls Try.prog 69 #[.int .i64 n, .int .i64 x.pos, .agg #[.int .i64 m, .slice am lm.length km]] W (MatP n lp W) from by
          have h := place_any n x.pos.toNat m am km lm W n1 n2 hp3 (by omega) (by omega) hlmL hN
          rw [Int.toNat_of_nonneg (by omega), hlp] at h
          exact h)
        obtain ⟨⟨rl, re⟩, hr⟩ : ∃ r, mulM n lp l = r := ⟨_, rfl⟩
        have HM := hid fun W a2 k2 (hA : Nms W a2 lp) (hB : Nms W ao l) => aMulM_any n a2 ao k2 ko lp l W n1 n2 hlpL hs2 hA hB hlpV hs3
        rw [hr] at HM
        have HSTEP : Hid (stepE E n x l = (rl, re)) := hid (by unfold stepE; rw [HML.out]; dsimp only; rw [hlp]; exact hr)
        have HSTEP2 : Hid (mulM n (placeN n x.pos.toNat m lm) l = (rl, re)) := hid (by rw [hlp]; exact hr)
        have HVL : Hid (VldL rl ∧ (re = 0 → rl.length = n * n)) := hid (by
          have h1 := mulM_valid n lp l
          have h2 := @matR_length n (fun i k => rowN (prow lp l n i k))
          have h3 : matR n (fun i k => rowN (prow lp l n i k)) = (rl, re) := hr
          rw [h3] at h2
          rw [hr] at h1
          exact ⟨h1, h2⟩)
        rw [← hW0]
        have HGW0 := hid hGW0
        clear hW0 hGW0 hp1 hp2 hp3 hlmV hlmL hlp hlpV hlpL hr hs1 hs2 hs3
        have RN : Hid (rowsOf n re = rowsOf n re) := rfl
        obtain ⟨N, hN⟩ : ∃ N, rowsOf n re = N := ⟨_, rfl⟩
        have HN := hid hN
        refine R4.wp_region_slotsC 11 (fun ix vs W => match ix with | 0 => vs 0 = .int .i64 n | 1 => vs 1 = .pointer (some ⟨wr.heap.size, 1, none⟩) | 2 => vs 2 = .int .i64 x.pos | 3 => vs 3 = .agg #[.int .i64 m, .slice am lm.length km] | 4 => MatV (vs 4) W n lp | 5 => vs 5 = .agg #[.int .i64 n, .slice ao l.length ko] | 6 => MatE (vs 6) W N (rl, re) | 7 => MatE (vs 7) W N (rl, re) | 8 => MatV (vs 8) W N rl | 9 => vs 9 = .int .i64 re | 10 => MatB b8 N rl W | _ => True) (fun L W => Cls W0 b8 (.cells #[.int .i64 n, .slice ao l.length ko] 28) L W) (by kernel_rfl) (by kernel_rfl) ?slst ?sldep ⟨(Turned.refl W0 b8).grew (Grew.refl _).drew, fun _ => hB8⟩ ?slop ?slq
        case slst =>
          intro ix vs W W' h hg
          match ix, h with
          | 0, h => exact h
          | 1, h => exact h
          | 2, h => exact h
          | 3, h => exact h
          | 4, h => exact MatV.grew h hg
          | 5, h => exact h
          | 6, h => exact MatE.grew h hg
          | 7, h => exact MatE.grew h hg
          | 8, h => exact MatV.grew h hg
          | 9, h => exact h
          | 10, h => obtain ⟨a9, k9, h1, h2⟩ := h; exact ⟨a9, k9, (hg.block b8 (Array.getElem?_eq_some_iff.1 h1).1).trans h1, h2.grew hg⟩
          | _ + 11, _ => trivial
        case sldep =>
          intro ix o vs vs' W hix ho h hv hn
          match ix, hix, ho, h, hv with
          | 0, _, _, h, hv => exact Eq.trans hv h
          | 1, _, _, h, hv => exact Eq.trans hv h
          | 2, _, _, h, hv => exact Eq.trans hv h
          | 3, _, _, h, hv => exact Eq.trans hv h
          | 4, _, _, h, hv => show MatV (vs' 4) W n lp; rw [hv]; exact h
          | 5, _, _, h, hv => exact Eq.trans hv h
          | 6, _, _, h, hv => show MatE (vs' 6) W N (rl, re); rw [hv]; exact h
          | 7, _, _, h, hv => show MatE (vs' 7) W N (rl, re); rw [hv]; exact h
          | 8, _, _, h, hv => show MatV (vs' 8) W N rl; rw [hv]; exact h
          | 9, _, _, h, hv => exact Eq.trans hv h
          | 10, _, ho, h, hv => exact h
          | kx + 11, hix, _, _, _ => exact absurd hix (by omega)
        case slop =>
          intro ix o hix ho vs W L hg hL hn hall hdown
          match ix, hix, ho, hL with
          | 0, _, ho, _ =>
            obtain rfl := Option.some.inj ho
            change R4.Oper.slotAt _ _ { tmps := _, defers := _ } _ _
            go_simp
            exact ⟨clsG hb80 hg (Grew.refl _), by rw [R4.upd_same], .inl (Grew.refl _)⟩
          | 1, _, ho, _ =>
            obtain rfl := Option.some.inj ho
            change R4.Oper.slotAt _ _ { tmps := _, defers := _ } _ _
            go_simp
            exact ⟨clsG hb80 hg (Grew.refl _), by rw [R4.upd_same], .inl (Grew.refl _)⟩
          | 2, _, ho, _ =>
            obtain rfl := Option.some.inj ho
            have hn1 := (hn 1 (by decide)).2
            try dsimp only at hn1
            change R4.Oper.slotAt _ _ (Act.put _ (some 42) (vs 1)) _ _
            conv => arg 3; rw [hn1]
            clear hn1
            have hs0 := hg.1.size
            have c := (hg.1.cell (i := 1) (k := wr.heap.size) (by omega) (by omega)).trans k1'
            go_simp
            exact ⟨clsG hb80 hg (Grew.refl _), by rw [R4.upd_same], .inl (Grew.refl _)⟩
          | 3, _, ho, _ =>
            obtain rfl := Option.some.inj ho
            change R4.Oper.slotAt _ _ { tmps := _, defers := _ } _ _
            have hs0 := hg.1.size
            have ca := (hg.1.cell (i := 0) (k := wr.heap.size + 1) (by omega) (by omega)).trans k2'
            have cb := (hg.1.cell (i := 1) (k := wr.heap.size + 1) (by omega) (by omega)).trans k3'
            go_simp
            exact ⟨clsG hb80 hg (Grew.refl _), by rw [R4.upd_same], .inl (Grew.refl _)⟩
          | 4, _, ho, _ =>
            obtain rfl := Option.some.inj ho
            have hn0 := (hn 0 (by decide)).2
            have hn2 := (hn 2 (by decide)).2
            have hn3 := (hn 3 (by decide)).2
            try dsimp only at hn0 hn2 hn3
            change R4.Oper.slotAt _ _ (Act.put (Act.put (Act.put _ (some 41) (vs 0)) (some 43) (vs 2)) (some 44) (vs 3)) _ _
            conv => arg 3; rw [hn0, hn2, hn3]
            clear hn0 hn2 hn3
            go_simp
            refine (HP.out _ (hNm.turned hg.1 hB8)).mono ?_
            rintro e w' ⟨⟨a2, k2, rfl, ho⟩, gr⟩
            exact ⟨_, rfl, clsG hb80 hg gr, by rw [R4.upd_same]; exact ⟨a2, k2, rfl, ho.nms⟩, .inl gr⟩
          | 5, _, ho, hL =>
            obtain rfl := Option.some.inj ho
            change R4.Oper.slotAt _ _ { tmps := _, defers := _ } _ _
            have h10 : ¬ L 10 := fun h => hL (R4.down_waits hdown 10 rfl h (by decide))
            have hq := hg.2 h10
            have ca : W.cell? ⟨b8, 0, none⟩ = some (.int .i64 n) := by simp [World.cell?, hq]
            have cb : W.cell? ⟨b8, 1, none⟩ = some (.slice ao l.length ko) := by simp [World.cell?, hq]
            go_simp
            exact ⟨clsG hb80 hg (Grew.refl _), by rw [R4.upd_same], .inl (Grew.refl _)⟩
          | 6, _, ho, _ =>
            obtain rfl := Option.some.inj ho
            have hn4 := (hn 4 (by decide)).2
            have hn5 := (hn 5 (by decide)).2
            try dsimp only at hn4 hn5
            change R4.Oper.slotAt _ _ (Act.put (Act.put _ (some 45) (vs 4)) (some 46) (vs 5)) _ _
            conv => arg 3; rw [hn5]
            clear hn5
            obtain ⟨a2, k2, e2, h2⟩ := hn4
            conv => arg 3; rw [e2]
            clear e2
            go_simp
            refine (HM.out _ _ _ h2 (hNo.turned hg.1 hB8)).mono ?_
            rintro e w' ⟨⟨a3, k3, rfl, ho⟩, gr⟩
            exact ⟨_, rfl, clsG hb80 hg gr, by rw [R4.upd_same]; exact ⟨a3, k3, by rw [← hN], ho.nms⟩, .inl gr⟩
          | 7, _, ho, _ =>
            obtain rfl := Option.some.inj ho
            have hn6 := (hn 6 (by decide)).2
            try dsimp only at hn6
            change R4.Oper.slotAt _ _ (Act.put _ (some 47) (vs 6)) _ _
            obtain ⟨a2, k2, e2, h2⟩ := hn6
            conv => arg 3; rw [e2]
            clear e2
            go_simp
            exact ⟨clsG hb80 hg (Grew.refl _), by rw [R4.upd_same]; exact ⟨a2, k2, rfl, h2⟩, .inl (Grew.refl _)⟩
          | 8, _, ho, _ =>
            obtain rfl := Option.some.inj ho
            have hn7 := (hn 7 (by decide)).2
            try dsimp only at hn7
            change R4.Oper.slotAt _ _ (Act.put _ (some 40) (vs 7)) _ _
            obtain ⟨a2, k2, e2, h2⟩ := hn7
            conv => arg 3; rw [e2]
            clear e2
            go_simp
            exact ⟨clsG hb80 hg (Grew.refl _), by rw [R4.upd_same]; exact ⟨a2, k2, rfl, h2⟩, .inl (Grew.refl _)⟩
          | 9, _, ho, _ =>
            obtain rfl := Option.some.inj ho
            have hn7 := (hn 7 (by decide)).2
            try dsimp only at hn7
            change R4.Oper.slotAt _ _ (Act.put _ (some 40) (vs 7)) _ _
            obtain ⟨a2, k2, e2, h2⟩ := hn7
            conv => arg 3; rw [e2]
            clear e2
            go_simp
            exact ⟨clsG hb80 hg (Grew.refl _), by rw [R4.upd_same], .inl (Grew.refl _)⟩
          | 10, _, ho, hL =>
            obtain rfl := Option.some.inj ho
            have hn8 := (hn 8 (by decide)).2
            try dsimp only at hn8
            change R4.Oper.slotAt _ _ (Act.put _ (some 48) (vs 8)) _ _
            -- hL
            obtain ⟨a2, k2, e2, h2⟩ := hn8
            conv => arg 3; rw [e2]
            have E2 := hid e2
            clear e2
            have hq := hg.2 hL
            have ca : W.cell? ⟨b8, 0, none⟩ = some (.int .i64 n) := by simp [World.cell?, hq]
            have cb : W.cell? ⟨b8, 1, none⟩ = some (.slice ao l.length ko) := by simp [World.cell?, hq]
            have fa : W.frozen? ⟨b8, 0, none⟩ = false := by simp [World.frozen?, hq]
            have fb : W.frozen? ⟨b8, 1, none⟩ = false := by simp [World.frozen?, hq]
            go_simp
            obtain ⟨s1, s2⟩ := R4.set2 hq (.int .i64 N) (.slice a2 rl.length k2)
            have ht : Turned W ((W.setCell ⟨b8, 0, none⟩ (.int .i64 N)).setCell ⟨b8, 1, none⟩ (.slice a2 rl.length k2)) b8 := ((Turned.refl _ _).set _ _).set _ _
            exact ⟨clsS hg ht, ⟨a2, k2, s1, h2.turned ht hq⟩, .inr fun j hj hLj => by
              have hv := hall j hj hLj
              match j, hj, hv, hLj with
              | 0, _, hv, _ => exact hv
              | 1, _, hv, _ => exact hv
              | 2, _, hv, _ => exact hv
              | 3, _, hv, _ => exact hv
              | 4, _, hv, _ => exact MatV.turned hv ht hq
              | 5, _, hv, _ => exact hv
              | 6, _, hv, _ => exact MatE.turned hv ht hq
              | 7, _, hv, _ => exact MatE.turned hv ht hq
              | 8, _, hv, _ => exact MatV.turned hv ht hq
              | 9, _, hv, _ => exact hv
              | 10, _, hv, hLj => exact absurd hLj hL
              | k + 11, hj, _, _ => exact absurd hj (by omega)⟩
          | kx + 11, hix, _, _ => exact absurd hix (by omega)
        case slq =>
          intro vs W2 hC hn
          have hn9 : vs 9 = .int .i64 re := hn 9 (by decide) (by decide)
          obtain ⟨a9, k9, hb9, hN9⟩ : MatB b8 N rl W2 := hn 10 (by decide) (by decide)
          have HT2 : Hid (Turned W W2 b8) := HT.out.trans (((Turned.refl wr b8).grew HGW0.out).trans hC.1)
          change wpList _ _ _ _ (Act.put (Act.put (Act.put (Act.put (Act.put (Act.put (Act.put (Act.put (Act.put (Act.put (Act.put _ (some 41) (vs 0)) (some 42) (vs 1)) (some 43) (vs 2)) (some 44) (vs 3)) (some 45) (vs 4)) (some 46) (vs 5)) (some 47) (vs 6)) (some 40) (vs 7)) (some 48) (vs 8)) (some 49) (vs 9)) none (vs 10)) _
          simp only [Act.put, List.setIfInBounds_toArray, List.set_cons_zero, List.set_cons_succ, List.drop_succ_cons, List.drop_zero, hn9]
          have HB9 := hid hb9
          have HN9 := hid hN9
          clear hn hn9 hb9 hN9 hC hN
          go_wp2_with fail
          go_roundw
          case rel =>
            refine ⟨i + 1, rl, re, by omega, by go_num, rfl, hid ?_, HT2.out, a9, k9, ?_, HN9.out⟩
            · have hs0 := HS.out.1
              by_cases he : re = 0
              · refine .inl ⟨he, ?_, HVL.out.2 he, HVL.out.1⟩
                have h1 := itsE_step (l := l) Hx.out (by rw [HSTEP.out]; exact he)
                rw [HSTEP.out] at h1
                rw [← hs0]; exact h1.symm
              · have h1 := itsE_stop (l := l) Hx.out (by rw [HSTEP.out]; exact he)
                rw [HSTEP.out] at h1
                have h3 : (mulM n (placeN n x.pos.toNat m lm) l) = (rl, re) := HSTEP2.out
                have h2 := seqR_err (L := gridR n (fun i k => rowN (prow (placeN n x.pos.toNat m lm) l n i k))) (by
                  have h4 : seqR (gridR n (fun i k => rowN (prow (placeN n x.pos.toNat m lm) l n i k))) = (rl, re) := h3
                  rw [h4]; exact he)
                have h4 : seqR (gridR n (fun i k => rowN (prow (placeN n x.pos.toNat m lm) l n i k))) = (rl, re) := h3
                rw [h4] at h2
                exact .inr ⟨he, by rw [← hs0]; exact h1, h2⟩
            · rw [HN.out]; exact HB9.out
          case measure => simp [intOf]; omega
    · obtain rfl : i = its.length := by omega
      have hfin : Hid (R = (l, e)) := by
        rcases hs.out with h | h
        · obtain ⟨h1, h2, h3, h4⟩ := h
          rw [List.drop_length, itsE] at h2
          rw [← h2, h1]; exact rfl
        · rw [h.2.2]; exact h.2.1
      obtain ⟨N, hN⟩ : ∃ N, rowsOf n e = N := ⟨_, rfl⟩
      rw [hN] at c80
      have HN := hid hN
      clear hN hs
      go_wp2_with fail
      exact bodyPost_ret (v := .tuple #[.agg #[.int .i64 N, .slice ao l.length ko], .int .i64 e]) (by simp [results, Try.results49, go_sem, y0, y1]) rfl ⟨⟨ao, ko, by rw [hfin.out, HN.out], by rw [hfin.out]; exact HNo.out.turned (b := w.heap.size) (((Turned.refl _ _).set _ _).set _ _) HB0.out⟩, (by repeat (first | exact Grew.refl _ | exact HG.out | refine Grew.drewN ?_ _ | refine Grew.grow ?_ _ | refine Grew.alloc ?_ _ | refine Grew.drew ?_ | refine Grew.set ?_ (Nat.le_refl _) _ _ | refine Grew.set ?_ (by omega) _ _))⟩

end Go.Proofs.Ytkglnnkghillpaa
