/- The walk of AmpLaws: it returns true. No condition. -/
import Derived.Test.YtmphmfhmcgpjcaaAmpP
import Derived.Test.YtmphmfhmcgpjcaaAmpAwake
import Derived.Test.YtmphmfhmcgpjcaaAmpAlgB
namespace Go.Proofs.Ytmphmfhmcgpjcaa
open Go Go.RowKit Amp

set_option maxHeartbeats 4000000 in
theorem ampLaws_walk (x : C4) (k : Int) (y : C4) (j : Int) (z : C4) (t : Int) (w : World) :
    Calls Try.prog 9 #[.agg #[.int .i64 x.a, .int .i64 x.b, .int .i64 x.c, .int .i64 x.d, .int .i64 k], .agg #[.int .i64 y.a, .int .i64 y.b, .int .i64 y.c, .int .i64 y.d, .int .i64 j], .agg #[.int .i64 z.a, .int .i64 z.b, .int .i64 z.c, .int .i64 z.d, .int .i64 t]] w fun e w' => e = .returned (.bool true) ∧ Grew w w' := by
  have hB := fun w => aAdd_any y x j k w
  rw [addN_comm y x j k] at hB
  have hD := fun w => aMul_any y x j k w
  rw [mulN_comm y x j k] at hD
  have HB := hid hB
  have HD := hid hD
  clear hB hD
  rcases addN_cases x y k j with ⟨ea, he0, he⟩ | ⟨n, m, i, s, rfl, rfl, hx, hy, ha, hs, hsame⟩
  · have HA := hid fun w => aAdd_any x y k j w
    rw [he] at HA HB
    have he0' : (ea != 0) = true := by simpa using he0
    clear he he0
    go_enter Try.func9, Try.ntmps9
    go_wp2_with fail
    refine (HA.out _).mono ?_
    rintro e w' ⟨rfl, g0, n0, rfl⟩
    go_wp2_with fail
    refine (HB.out _).mono ?_
    rintro e w' ⟨rfl, g1, n1, rfl⟩
    go_wp2_with fail
    refine (aMul_any x y k j _).mono ?_
    rintro e w' ⟨rfl, g2, n2, rfl⟩
    go_wp2_with fail
    refine (HD.out _).mono ?_
    rintro e w' ⟨rfl, g3, n3, rfl⟩
    simp only [fail, zero]
    go_wp2_with fail
    refine (awake_any _).mono ?_
    rintro e w' ⟨rfl, g4, n4, rfl⟩
    go_wp2_with fail
    go_ret
    exact ⟨rfl, (by repeat (first | exact Grew.refl _ | refine Grew.drewN ?_ _ | refine Grew.grow ?_ _ | refine Grew.alloc ?_ _ | refine Grew.drew ?_))⟩
  have HA := hid fun w => aAdd_any x y n m w
  rw [ha] at HA HB
  have HS := hid fun w => aSub_any s y i m w
  rw [sub_add hx hy hs hsame] at HS
  have hL : ∀ l p q r, mulN s i z t = l → mulN x n z t = p → mulN y m z t = q → addN p.x p.k q.x q.k = r → l.e = 0 → p.e = 0 → q.e = 0 → r.e = 0 → eq5 l.x l.k r.x r.k = true := by
    intro l p q r hl hp hq hr e1 e2 e3 e4
    rcases mulN_cases s z i t with ⟨e, h0, h1⟩ | ⟨_, ti, li, ls, hi, rfl, _, _, h1, hv1, hs1⟩
    · rw [← hl, h1] at e1; exact absurd e1 h0
    rcases mulN_cases x z n ti with ⟨e, h0, h2⟩ | ⟨_, t2, pi, ps, hn, ht2, _, _, h2, hv2, hs2⟩
    · rw [← hp, h2] at e2; exact absurd e2 h0
    rcases mulN_cases y z m ti with ⟨e, h0, h3⟩ | ⟨_, t3, qi, qs, hm, ht3, _, _, h3, hv3, hs3⟩
    · rw [← hq, h3] at e3; exact absurd e3 h0
    rw [h2] at hp
    rw [h3] at hq
    subst hp
    subst hq
    rcases addN_cases ps qs pi qi with ⟨e, h0, h4⟩ | ⟨p2, q2, ri, rs, hpi, hqi, _, _, h4, hv4, hs4⟩
    · simp only [h4] at hr; rw [← hr] at e4; exact absurd e4 h0
    simp only [h4] at hr
    rw [h1] at hl
    subst hl
    subst hr
    obtain rfl : _ = i := (Int.ofNat.inj hi).symm
    obtain rfl : _ = n := (Int.ofNat.inj hn).symm
    obtain rfl : _ = m := (Int.ofNat.inj hm).symm
    obtain rfl : _ = ti := (Int.ofNat.inj ht2).symm
    obtain rfl : _ = t3 := (Int.ofNat.inj ht3)
    obtain rfl : _ = pi := (Int.ofNat.inj hpi).symm
    obtain rfl : _ = qi := (Int.ofNat.inj hqi).symm
    obtain ⟨h5, h6⟩ := form_uniq hv1 hv4 (distrib hsame hs1 hs2 hs3 hs4)
    subst h5
    subst h6
    exact eq5_self _ _
  have HL := hid hL
  clear hL hx hy hs hsame ha
  go_enter Try.func9, Try.ntmps9
  go_wp2_with fail
  refine (HA.out _).mono ?_
  rintro e w' ⟨rfl, g0, n0, rfl⟩
  go_wp2_with fail
  refine (HB.out _).mono ?_
  rintro e w' ⟨rfl, g1, n1, rfl⟩
  go_wp2_with fail
  refine (aMul_any x y n m _).mono ?_
  rintro e w' ⟨rfl, g2, n2, rfl⟩
  go_wp2_with fail
  refine (HD.out _).mono ?_
  rintro e w' ⟨rfl, g3, n3, rfl⟩
  go_wp2_with fail
  refine (HS.out _).mono ?_
  rintro e w' ⟨rfl, g4, n4, rfl⟩
  go_wp2_with fail
  refine (aMul_any s z i t _).mono ?_
  rintro e w' ⟨rfl, g5, n5, rfl⟩
  go_wp2_with fail
  refine (aMul_any x z n t _).mono ?_
  rintro e w' ⟨rfl, g6, n6, rfl⟩
  go_wp2_with fail
  refine (aMul_any y z m t _).mono ?_
  rintro e w' ⟨rfl, g7, n7, rfl⟩
  go_wp2_with fail
  refine (aAdd_any (mulN x n z t).x (mulN y m z t).x (mulN x n z t).k (mulN y m z t).k _).mono ?_
  rintro e w' ⟨rfl, g8, n8, rfl⟩
  go_wp2_with fail
  all_goals first
    | (refine (awake_any _).mono ?_
       rintro e w' ⟨rfl, g9, n9, rfl⟩
       go_wp2_with fail
       go_ret
       exact ⟨rfl, (by repeat (first | exact Grew.refl _ | refine Grew.drewN ?_ _ | refine Grew.grow ?_ _ | refine Grew.alloc ?_ _ | refine Grew.drew ?_))⟩)
    | (rename_i h1 h2 h3 h4 h5
       exact absurd (HL.out _ _ _ _ rfl rfl rfl rfl h1 h2 h3 (by simpa using h4)) h5)

end Go.Proofs.Ytmphmfhmcgpjcaa
