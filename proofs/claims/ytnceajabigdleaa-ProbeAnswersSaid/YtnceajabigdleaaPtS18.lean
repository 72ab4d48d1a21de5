/- Main's ghost of the seat: tables lays its rows down one behind the other. No condition. -/
import Derived.Test.YtnceajabigdleaaPtS17
import Derived.Test.YtnceajabigdleaaPtS7
import Derived.BigRegion
import Derived.WalkKit
import Derived.BigQuiet
import Derived.Deep.QuietTactic
import Derived.Laws.BitsLemmas
namespace Go.Proofs.Qm
open Go Go.Pt
/-- The rows of the table. -/
def rowsT (n N : Nat) : List (List Int) := (List.range N).map fun i => Ghw.thr n (YtnW.bitsOf i)
noncomputable def gone (f : Func) : Func := { Try.f0 with name := "gone", body := none, results := f.results, ntmps := f.ntmps }
def dead (i : Nat) : Bool := [0, 1, 2, 25, 26, 27, 29, 37, 38, 39, 40, 41, 42, 43, 44, 45, 46, 47, 48, 49, 52, 53, 54, 55, 56, 59, 60, 61, 62, 64, 67, 68, 69, 70, 71, 72, 73, 74, 75, 76, 77, 78, 79, 80, 81, 82, 83].contains i
noncomputable def own16 : Func := { Try.f16 with body := some (bodyT 63 38 3 (rowsT 2 2) (rowsT 4 64)) }
noncomputable def gF (i : Nat) (f : Func) : Func := if i = 16 then own16 else if dead i then gone f else f
noncomputable def prog : Program := Pt.wf Try.prog (Try.prog.funcs.mapIdx gF)
theorem types_ok : prog.types.toList.all (fun i => match i.zero with | some v => closedV v | none => true) = true := by kernel_rfl
theorem size : Try.prog.funcs.size = 84 := by kernel_rfl
theorem ok3 : fnB prog (fun _ => false) Try.f3 = true := by kernel_rfl
theorem ok4 : fnB prog (fun _ => false) Try.f4 = true := by kernel_rfl
theorem ok5 : fnB prog (fun _ => false) Try.f5 = true := by kernel_rfl
theorem ok6 : fnB prog (fun _ => false) Try.f6 = true := by kernel_rfl
theorem ok7 : fnB prog (fun _ => false) Try.f7 = true := by kernel_rfl
theorem ok8 : fnB prog (fun _ => false) Try.f8 = true := by kernel_rfl
theorem ok9 : fnB prog (fun _ => false) Try.f9 = true := by kernel_rfl
theorem ok10 : fnB prog (fun _ => false) Try.f10 = true := by kernel_rfl
theorem ok11 : fnB prog (fun _ => false) Try.f11 = true := by kernel_rfl
theorem ok12 : fnB prog (fun _ => false) Try.f12 = true := by kernel_rfl
theorem ok13 : fnB prog (fun _ => false) Try.f13 = true := by kernel_rfl
theorem ok14 : fnB prog (fun _ => false) Try.f14 = true := by kernel_rfl
theorem ok15 : fnB prog (fun _ => false) Try.f15 = true := by kernel_rfl
theorem ok17 : fnB prog (fun _ => false) Try.f17 = true := by kernel_rfl
theorem ok18 : fnB prog (fun _ => false) Try.f18 = true := by kernel_rfl
theorem ok19 : fnB prog (fun _ => false) Try.f19 = true := by kernel_rfl
theorem ok20 : fnB prog (fun _ => false) Try.f20 = true := by kernel_rfl
theorem ok21 : fnB prog (fun _ => false) Try.f21 = true := by kernel_rfl
theorem ok22 : fnB prog (fun _ => false) Try.f22 = true := by kernel_rfl
theorem ok23 : fnB prog (fun _ => false) Try.f23 = true := by kernel_rfl
theorem ok24 : fnB prog (fun _ => false) Try.f24 = true := by kernel_rfl
theorem ok28 : fnB prog (fun _ => false) Try.f28 = true := by kernel_rfl
theorem ok30 : fnB prog (fun _ => false) Try.f30 = true := by kernel_rfl
theorem ok31 : fnB prog (fun _ => false) Try.f31 = true := by kernel_rfl
theorem ok32 : fnB prog (fun _ => false) Try.f32 = true := by kernel_rfl
theorem ok33 : fnB prog (fun _ => false) Try.f33 = true := by kernel_rfl
theorem ok34 : fnB prog (fun _ => false) Try.f34 = true := by kernel_rfl
theorem ok35 : fnB prog (fun _ => false) Try.f35 = true := by kernel_rfl
theorem ok36 : fnB prog (fun _ => false) Try.f36 = true := by kernel_rfl
theorem ok50 : fnB prog (fun _ => false) Try.f50 = true := by kernel_rfl
theorem ok51 : fnB prog (fun _ => false) Try.f51 = true := by kernel_rfl
theorem ok57 : fnB prog (fun _ => false) Try.f57 = true := by kernel_rfl
theorem ok58 : fnB prog (fun _ => false) Try.f58 = true := by kernel_rfl
theorem ok63 : fnB prog (fun _ => false) Try.f63 = true := by kernel_rfl
theorem ok65 : fnB prog (fun _ => false) Try.f65 = true := by kernel_rfl
theorem ok66 : fnB prog (fun _ => false) Try.f66 = true := by kernel_rfl
theorem ok16 : fnB prog (fun _ => false) own16 = true := by kernel_rfl
def out (i : Nat) : Bool := dead i || i == 16
theorem c0 : ∀ i, i < 0 → Okk Try.prog prog (fun _ => false) out i := okk_zero
theorem c1 : ∀ i, i < 1 → Okk Try.prog prog (fun _ => false) out i := okk_step c0 (okk_dead (by decide))
theorem c2 : ∀ i, i < 2 → Okk Try.prog prog (fun _ => false) out i := okk_step c1 (okk_dead (by decide))
theorem c3 : ∀ i, i < 3 → Okk Try.prog prog (fun _ => false) out i := okk_step c2 (okk_dead (by decide))
theorem c4 : ∀ i, i < 4 → Okk Try.prog prog (fun _ => false) out i := okk_step c3 (okk_ok Try.func3 ok3)
theorem c5 : ∀ i, i < 5 → Okk Try.prog prog (fun _ => false) out i := okk_step c4 (okk_ok Try.func4 ok4)
theorem c6 : ∀ i, i < 6 → Okk Try.prog prog (fun _ => false) out i := okk_step c5 (okk_ok Try.func5 ok5)
theorem c7 : ∀ i, i < 7 → Okk Try.prog prog (fun _ => false) out i := okk_step c6 (okk_ok Try.func6 ok6)
theorem c8 : ∀ i, i < 8 → Okk Try.prog prog (fun _ => false) out i := okk_step c7 (okk_ok Try.func7 ok7)
theorem c9 : ∀ i, i < 9 → Okk Try.prog prog (fun _ => false) out i := okk_step c8 (okk_ok Try.func8 ok8)
theorem c10 : ∀ i, i < 10 → Okk Try.prog prog (fun _ => false) out i := okk_step c9 (okk_ok Try.func9 ok9)
theorem c11 : ∀ i, i < 11 → Okk Try.prog prog (fun _ => false) out i := okk_step c10 (okk_ok Try.func10 ok10)
theorem c12 : ∀ i, i < 12 → Okk Try.prog prog (fun _ => false) out i := okk_step c11 (okk_ok Try.func11 ok11)
theorem c13 : ∀ i, i < 13 → Okk Try.prog prog (fun _ => false) out i := okk_step c12 (okk_ok Try.func12 ok12)
theorem c14 : ∀ i, i < 14 → Okk Try.prog prog (fun _ => false) out i := okk_step c13 (okk_ok Try.func13 ok13)
theorem c15 : ∀ i, i < 15 → Okk Try.prog prog (fun _ => false) out i := okk_step c14 (okk_ok Try.func14 ok14)
theorem c16 : ∀ i, i < 16 → Okk Try.prog prog (fun _ => false) out i := okk_step c15 (okk_ok Try.func15 ok15)
theorem c17 : ∀ i, i < 17 → Okk Try.prog prog (fun _ => false) out i := okk_step c16 (okk_dead (by decide))
theorem c18 : ∀ i, i < 18 → Okk Try.prog prog (fun _ => false) out i := okk_step c17 (okk_ok Try.func17 ok17)
theorem c19 : ∀ i, i < 19 → Okk Try.prog prog (fun _ => false) out i := okk_step c18 (okk_ok Try.func18 ok18)
theorem c20 : ∀ i, i < 20 → Okk Try.prog prog (fun _ => false) out i := okk_step c19 (okk_ok Try.func19 ok19)
theorem c21 : ∀ i, i < 21 → Okk Try.prog prog (fun _ => false) out i := okk_step c20 (okk_ok Try.func20 ok20)
theorem c22 : ∀ i, i < 22 → Okk Try.prog prog (fun _ => false) out i := okk_step c21 (okk_ok Try.func21 ok21)
theorem c23 : ∀ i, i < 23 → Okk Try.prog prog (fun _ => false) out i := okk_step c22 (okk_ok Try.func22 ok22)
theorem c24 : ∀ i, i < 24 → Okk Try.prog prog (fun _ => false) out i := okk_step c23 (okk_ok Try.func23 ok23)
theorem c25 : ∀ i, i < 25 → Okk Try.prog prog (fun _ => false) out i := okk_step c24 (okk_ok Try.func24 ok24)
theorem c26 : ∀ i, i < 26 → Okk Try.prog prog (fun _ => false) out i := okk_step c25 (okk_dead (by decide))
theorem c27 : ∀ i, i < 27 → Okk Try.prog prog (fun _ => false) out i := okk_step c26 (okk_dead (by decide))
theorem c28 : ∀ i, i < 28 → Okk Try.prog prog (fun _ => false) out i := okk_step c27 (okk_dead (by decide))
theorem c29 : ∀ i, i < 29 → Okk Try.prog prog (fun _ => false) out i := okk_step c28 (okk_ok Try.func28 ok28)
theorem c30 : ∀ i, i < 30 → Okk Try.prog prog (fun _ => false) out i := okk_step c29 (okk_dead (by decide))
theorem c31 : ∀ i, i < 31 → Okk Try.prog prog (fun _ => false) out i := okk_step c30 (okk_ok Try.func30 ok30)
theorem c32 : ∀ i, i < 32 → Okk Try.prog prog (fun _ => false) out i := okk_step c31 (okk_ok Try.func31 ok31)
theorem c33 : ∀ i, i < 33 → Okk Try.prog prog (fun _ => false) out i := okk_step c32 (okk_ok Try.func32 ok32)
theorem c34 : ∀ i, i < 34 → Okk Try.prog prog (fun _ => false) out i := okk_step c33 (okk_ok Try.func33 ok33)
theorem c35 : ∀ i, i < 35 → Okk Try.prog prog (fun _ => false) out i := okk_step c34 (okk_ok Try.func34 ok34)
theorem c36 : ∀ i, i < 36 → Okk Try.prog prog (fun _ => false) out i := okk_step c35 (okk_ok Try.func35 ok35)
theorem c37 : ∀ i, i < 37 → Okk Try.prog prog (fun _ => false) out i := okk_step c36 (okk_ok Try.func36 ok36)
theorem c38 : ∀ i, i < 38 → Okk Try.prog prog (fun _ => false) out i := okk_step c37 (okk_dead (by decide))
theorem c39 : ∀ i, i < 39 → Okk Try.prog prog (fun _ => false) out i := okk_step c38 (okk_dead (by decide))
theorem c40 : ∀ i, i < 40 → Okk Try.prog prog (fun _ => false) out i := okk_step c39 (okk_dead (by decide))
theorem c41 : ∀ i, i < 41 → Okk Try.prog prog (fun _ => false) out i := okk_step c40 (okk_dead (by decide))
theorem c42 : ∀ i, i < 42 → Okk Try.prog prog (fun _ => false) out i := okk_step c41 (okk_dead (by decide))
theorem c43 : ∀ i, i < 43 → Okk Try.prog prog (fun _ => false) out i := okk_step c42 (okk_dead (by decide))
theorem c44 : ∀ i, i < 44 → Okk Try.prog prog (fun _ => false) out i := okk_step c43 (okk_dead (by decide))
theorem c45 : ∀ i, i < 45 → Okk Try.prog prog (fun _ => false) out i := okk_step c44 (okk_dead (by decide))
theorem c46 : ∀ i, i < 46 → Okk Try.prog prog (fun _ => false) out i := okk_step c45 (okk_dead (by decide))
theorem c47 : ∀ i, i < 47 → Okk Try.prog prog (fun _ => false) out i := okk_step c46 (okk_dead (by decide))
theorem c48 : ∀ i, i < 48 → Okk Try.prog prog (fun _ => false) out i := okk_step c47 (okk_dead (by decide))
theorem c49 : ∀ i, i < 49 → Okk Try.prog prog (fun _ => false) out i := okk_step c48 (okk_dead (by decide))
theorem c50 : ∀ i, i < 50 → Okk Try.prog prog (fun _ => false) out i := okk_step c49 (okk_dead (by decide))
theorem c51 : ∀ i, i < 51 → Okk Try.prog prog (fun _ => false) out i := okk_step c50 (okk_ok Try.func50 ok50)
theorem c52 : ∀ i, i < 52 → Okk Try.prog prog (fun _ => false) out i := okk_step c51 (okk_ok Try.func51 ok51)
theorem c53 : ∀ i, i < 53 → Okk Try.prog prog (fun _ => false) out i := okk_step c52 (okk_dead (by decide))
theorem c54 : ∀ i, i < 54 → Okk Try.prog prog (fun _ => false) out i := okk_step c53 (okk_dead (by decide))
theorem c55 : ∀ i, i < 55 → Okk Try.prog prog (fun _ => false) out i := okk_step c54 (okk_dead (by decide))
theorem c56 : ∀ i, i < 56 → Okk Try.prog prog (fun _ => false) out i := okk_step c55 (okk_dead (by decide))
theorem c57 : ∀ i, i < 57 → Okk Try.prog prog (fun _ => false) out i := okk_step c56 (okk_dead (by decide))
theorem c58 : ∀ i, i < 58 → Okk Try.prog prog (fun _ => false) out i := okk_step c57 (okk_ok Try.func57 ok57)
theorem c59 : ∀ i, i < 59 → Okk Try.prog prog (fun _ => false) out i := okk_step c58 (okk_ok Try.func58 ok58)
theorem c60 : ∀ i, i < 60 → Okk Try.prog prog (fun _ => false) out i := okk_step c59 (okk_dead (by decide))
theorem c61 : ∀ i, i < 61 → Okk Try.prog prog (fun _ => false) out i := okk_step c60 (okk_dead (by decide))
theorem c62 : ∀ i, i < 62 → Okk Try.prog prog (fun _ => false) out i := okk_step c61 (okk_dead (by decide))
theorem c63 : ∀ i, i < 63 → Okk Try.prog prog (fun _ => false) out i := okk_step c62 (okk_dead (by decide))
theorem c64 : ∀ i, i < 64 → Okk Try.prog prog (fun _ => false) out i := okk_step c63 (okk_ok Try.func63 ok63)
theorem c65 : ∀ i, i < 65 → Okk Try.prog prog (fun _ => false) out i := okk_step c64 (okk_dead (by decide))
theorem c66 : ∀ i, i < 66 → Okk Try.prog prog (fun _ => false) out i := okk_step c65 (okk_ok Try.func65 ok65)
theorem c67 : ∀ i, i < 67 → Okk Try.prog prog (fun _ => false) out i := okk_step c66 (okk_ok Try.func66 ok66)
theorem c68 : ∀ i, i < 68 → Okk Try.prog prog (fun _ => false) out i := okk_step c67 (okk_dead (by decide))
theorem c69 : ∀ i, i < 69 → Okk Try.prog prog (fun _ => false) out i := okk_step c68 (okk_dead (by decide))
theorem c70 : ∀ i, i < 70 → Okk Try.prog prog (fun _ => false) out i := okk_step c69 (okk_dead (by decide))
theorem c71 : ∀ i, i < 71 → Okk Try.prog prog (fun _ => false) out i := okk_step c70 (okk_dead (by decide))
theorem c72 : ∀ i, i < 72 → Okk Try.prog prog (fun _ => false) out i := okk_step c71 (okk_dead (by decide))
theorem c73 : ∀ i, i < 73 → Okk Try.prog prog (fun _ => false) out i := okk_step c72 (okk_dead (by decide))
theorem c74 : ∀ i, i < 74 → Okk Try.prog prog (fun _ => false) out i := okk_step c73 (okk_dead (by decide))
theorem c75 : ∀ i, i < 75 → Okk Try.prog prog (fun _ => false) out i := okk_step c74 (okk_dead (by decide))
theorem c76 : ∀ i, i < 76 → Okk Try.prog prog (fun _ => false) out i := okk_step c75 (okk_dead (by decide))
theorem c77 : ∀ i, i < 77 → Okk Try.prog prog (fun _ => false) out i := okk_step c76 (okk_dead (by decide))
theorem c78 : ∀ i, i < 78 → Okk Try.prog prog (fun _ => false) out i := okk_step c77 (okk_dead (by decide))
theorem c79 : ∀ i, i < 79 → Okk Try.prog prog (fun _ => false) out i := okk_step c78 (okk_dead (by decide))
theorem c80 : ∀ i, i < 80 → Okk Try.prog prog (fun _ => false) out i := okk_step c79 (okk_dead (by decide))
theorem c81 : ∀ i, i < 81 → Okk Try.prog prog (fun _ => false) out i := okk_step c80 (okk_dead (by decide))
theorem c82 : ∀ i, i < 82 → Okk Try.prog prog (fun _ => false) out i := okk_step c81 (okk_dead (by decide))
theorem c83 : ∀ i, i < 83 → Okk Try.prog prog (fun _ => false) out i := okk_step c82 (okk_dead (by decide))
theorem c84 : ∀ i, i < 84 → Okk Try.prog prog (fun _ => false) out i := okk_step c83 (okk_dead (by decide))
theorem ok_all (i : Nat) (fn : Func) (h : Try.prog.funcs[i]? = some fn) (hd : out i = false) : fnB prog (fun _ => false) fn = true := by
  have hlt : i < 84 := by have := (Array.getElem?_eq_some_iff.1 h).1; rw [size] at this; exact this
  exact c84 i hlt fn h hd
theorem at_ {i : Nat} {f : Func} (h : Try.prog.funcs[i]? = some f) : prog.funcs[i]? = some (gF i f) := Pt.wf_funcs _ h
theorem none_at (i : Nat) (h : Try.prog.funcs.size ≤ i) : prog.funcs[i]? = none := Pt.wf_funcs_none _ h
theorem gone_body (f : Func) : (gone f).body = none := rfl
theorem gone_name (f : Func) : ((gone f).name == "runtime.NumGoroutine") = false := by kernel_rfl
theorem gone_next (f : Func) : Extern.findNext (gone f) = none := by kernel_rfl
theorem gone_find (f : Func) : Extern.find (gone f) = none := by kernel_rfl
theorem gone_init (f : Func) : ((gone f).name.endsWith ".init" && !(gone f).name.startsWith "(" && !(gone f).name.startsWith "gosem.") = false := by kernel_rfl
theorem dead_sp (i : Nat) (hd : dead i = true) : i ≠ 16 := by
  (rintro rfl; revert hd; decide)
theorem gF_dead (i : Nat) (f : Func) (hd : dead i = true) : gF i f = gone f := by
  have h := dead_sp i hd
  simp only [gF, h, if_false, hd, if_true]
theorem dead_at (i : Nat) (h : i < Try.prog.funcs.size) (hd : dead i = true) : ∀ xs, DeadEnd prog (callFunc i xs) :=
  have h1 := at_ (Array.getElem?_eq_getElem h)
  dead_gone (h1.trans (congrArg some (gF_dead i _ hd))) (gone_name _) (gone_body _) (gone_next _) (gone_find _) (gone_init _)
theorem out_of (i : Nat) (hd : dead i = false) (h16 : i ≠ 16) : out i = false := by simp [out, hd, h16]
theorem gF_same (i : Nat) (f : Func) (hd : dead i = false) (h16 : i ≠ 16) : gF i f = f := by simp [gF, hd, h16]
theorem fnB_parts {fn : Func} (h : fnB prog (fun _ => false) fn = true) : (fn.name == "runtime.NumGoroutine") = false ∧ ∃ c, fn.body = some c := by
  simp only [fnB, Bool.and_eq_true, Bool.not_eq_true'] at h
  refine ⟨h.1, ?_⟩
  cases hb : fn.body with
  | none => have h2 := h.2; rw [hb] at h2; cases h2
  | some c => exact ⟨c, rfl⟩
theorem hglob : ∀ g : Nat, (fun _ : Nat => false) g = true → (fun _ : Nat => False) g := fun g h => by simp at h
theorem at16 : prog.funcs[16]? = some own16 := (at_ Try.func16).trans (by simp [gF])
theorem fp16 : (Try.f16.name == "runtime.NumGoroutine") = false ∧ ∃ c, Try.f16.body = some c := ⟨by kernel_rfl, _, rfl⟩
/-- The two programs, beside each other. -/
theorem funs : Funs prog Try.prog.funcs (fun _ => False) (· = 16) := funs_of2 (zero_of types_ok) hglob dead_at none_at (fun i fn h hd => by
  by_cases h16 : i = 16
  · subst h16
    obtain rfl := Option.some.inj (Try.func16.symm.trans h)
    obtain ⟨k1, c, k2⟩ := fnB_parts ok16
    obtain ⟨k3, c', k4⟩ := fp16
    exact ⟨own16, at16, k1, k3, c, c', k2, k4, .inl rfl⟩
  have hok := ok_all i fn h (out_of i hd h16)
  obtain ⟨k1, c, k2⟩ := fnB_parts hok
  exact ⟨fn, (at_ h).trans (congrArg some (gF_same i fn hd h16)), k1, k1, c, c, k2, k2, .inr ⟨rfl, rfl, Pt.fnB_crel hglob hok k2⟩⟩)
theorem size_self : prog.funcs.size = Try.prog.funcs.size := by simp [prog, Pt.wf]
theorem self : Funs prog prog.funcs (fun _ => False) (fun _ => False) := funs_of2 (zero_of types_ok) hglob (fun i h hd => dead_at i (size_self ▸ h) hd) (fun i h => none_at i (size_self ▸ h)) (fun i fn h hd => by
  by_cases h16 : i = 16
  · subst h16
    obtain rfl := Option.some.inj (at16.symm.trans h)
    obtain ⟨k1, c, k2⟩ := fnB_parts ok16
    exact ⟨own16, at16, k1, k1, c, c, k2, k2, .inr ⟨rfl, rfl, Pt.fnB_crel hglob ok16 k2⟩⟩
  have hlt : i < Try.prog.funcs.size := by
    rcases Nat.lt_or_ge i Try.prog.funcs.size with h1 | h1
    · exact h1
    · rw [none_at i h1] at h; cases h
  have h1 := Array.getElem?_eq_getElem hlt
  have h2 := (at_ h1).trans (congrArg some (gF_same i _ hd h16))
  obtain rfl := Option.some.inj (h.symm.trans h2)
  have hok := ok_all i _ h1 (out_of i hd h16)
  obtain ⟨k1, c, k2⟩ := fnB_parts hok
  exact ⟨_, h, k1, k1, c, c, k2, k2, .inr ⟨rfl, rfl, Pt.fnB_crel hglob hok k2⟩⟩)
@[simp] theorem run_typeInfo (t : TypeId) (w : World) : Sem.run prog (typeInfo t) w = Sem.run Try.prog (typeInfo t) w := Pt.wf_typeInfo _ _ t w
@[simp] theorem run_underlying (t : TypeId) (w : World) : Sem.run prog (underlying t) w = Sem.run Try.prog (underlying t) w := Pt.wf_underlying _ _ t w
@[simp] theorem run_isAgg (t : TypeId) (w : World) : Sem.run prog (isAgg t) w = Sem.run Try.prog (isAgg t) w := Pt.wf_isAgg _ _ t w
@[simp] theorem run_sizeOf (t : TypeId) (w : World) : Sem.run prog (sizeOf t) w = Sem.run Try.prog (sizeOf t) w := Pt.wf_sizeOf _ _ t w
@[simp] theorem run_zeroValue (t : TypeId) (w : World) : Sem.run prog (zeroValue t) w = Sem.run Try.prog (zeroValue t) w := Pt.wf_zeroValue _ _ t w
@[simp] theorem p_underlying (t : TypeId) : prog.underlying t = Try.prog.underlying t := Pt.wf_punderlying _ _ t
@[simp] theorem p_info (t : TypeId) : prog.info? t = Try.prog.info? t := Pt.wf_pinfo _ _ t
@[simp] theorem p_rt : prog.rt = Try.prog.rt := Pt.wf_prt _ _
@[simp] theorem p_globals : prog.globals = Try.prog.globals := Pt.wf_pglobals _ _
theorem func3 : prog.funcs[3]? = some Try.f3 := Pt.wf_funcs _ Try.func3
@[simp] theorem call3 (args : Array Value) (w : World) : Sem.run prog (callFunc 3 args) w = .ok (.enter 3 args) w := MuLone.run_callFunc_enter func3 rfl rfl args w
theorem func4 : prog.funcs[4]? = some Try.f4 := Pt.wf_funcs _ Try.func4
@[simp] theorem call4 (args : Array Value) (w : World) : Sem.run prog (callFunc 4 args) w = .ok (.enter 4 args) w := MuLone.run_callFunc_enter func4 rfl rfl args w
theorem func5 : prog.funcs[5]? = some Try.f5 := Pt.wf_funcs _ Try.func5
@[simp] theorem call5 (args : Array Value) (w : World) : Sem.run prog (callFunc 5 args) w = .ok (.enter 5 args) w := MuLone.run_callFunc_enter func5 rfl rfl args w
theorem func6 : prog.funcs[6]? = some Try.f6 := Pt.wf_funcs _ Try.func6
@[simp] theorem call6 (args : Array Value) (w : World) : Sem.run prog (callFunc 6 args) w = .ok (.enter 6 args) w := MuLone.run_callFunc_enter func6 rfl rfl args w
theorem func7 : prog.funcs[7]? = some Try.f7 := Pt.wf_funcs _ Try.func7
@[simp] theorem call7 (args : Array Value) (w : World) : Sem.run prog (callFunc 7 args) w = .ok (.enter 7 args) w := MuLone.run_callFunc_enter func7 rfl rfl args w
theorem func8 : prog.funcs[8]? = some Try.f8 := Pt.wf_funcs _ Try.func8
@[simp] theorem call8 (args : Array Value) (w : World) : Sem.run prog (callFunc 8 args) w = .ok (.enter 8 args) w := MuLone.run_callFunc_enter func8 rfl rfl args w
theorem func9 : prog.funcs[9]? = some Try.f9 := Pt.wf_funcs _ Try.func9
@[simp] theorem call9 (args : Array Value) (w : World) : Sem.run prog (callFunc 9 args) w = .ok (.enter 9 args) w := MuLone.run_callFunc_enter func9 rfl rfl args w
theorem func10 : prog.funcs[10]? = some Try.f10 := Pt.wf_funcs _ Try.func10
@[simp] theorem call10 (args : Array Value) (w : World) : Sem.run prog (callFunc 10 args) w = .ok (.enter 10 args) w := MuLone.run_callFunc_enter func10 rfl rfl args w
theorem func11 : prog.funcs[11]? = some Try.f11 := Pt.wf_funcs _ Try.func11
@[simp] theorem call11 (args : Array Value) (w : World) : Sem.run prog (callFunc 11 args) w = .ok (.enter 11 args) w := MuLone.run_callFunc_enter func11 rfl rfl args w
theorem func12 : prog.funcs[12]? = some Try.f12 := Pt.wf_funcs _ Try.func12
@[simp] theorem call12 (args : Array Value) (w : World) : Sem.run prog (callFunc 12 args) w = .ok (.enter 12 args) w := MuLone.run_callFunc_enter func12 rfl rfl args w
theorem func13 : prog.funcs[13]? = some Try.f13 := Pt.wf_funcs _ Try.func13
@[simp] theorem call13 (args : Array Value) (w : World) : Sem.run prog (callFunc 13 args) w = .ok (.enter 13 args) w := MuLone.run_callFunc_enter func13 rfl rfl args w
theorem func14 : prog.funcs[14]? = some Try.f14 := Pt.wf_funcs _ Try.func14
@[simp] theorem call14 (args : Array Value) (w : World) : Sem.run prog (callFunc 14 args) w = .ok (.enter 14 args) w := MuLone.run_callFunc_enter func14 rfl rfl args w
theorem func15 : prog.funcs[15]? = some Try.f15 := Pt.wf_funcs _ Try.func15
@[simp] theorem call15 (args : Array Value) (w : World) : Sem.run prog (callFunc 15 args) w = .ok (.enter 15 args) w := MuLone.run_callFunc_enter func15 rfl rfl args w
theorem func17 : prog.funcs[17]? = some Try.f17 := Pt.wf_funcs _ Try.func17
@[simp] theorem call17 (args : Array Value) (w : World) : Sem.run prog (callFunc 17 args) w = .ok (.enter 17 args) w := MuLone.run_callFunc_enter func17 rfl rfl args w
theorem func18 : prog.funcs[18]? = some Try.f18 := Pt.wf_funcs _ Try.func18
@[simp] theorem call18 (args : Array Value) (w : World) : Sem.run prog (callFunc 18 args) w = .ok (.enter 18 args) w := MuLone.run_callFunc_enter func18 rfl rfl args w
theorem func19 : prog.funcs[19]? = some Try.f19 := Pt.wf_funcs _ Try.func19
@[simp] theorem call19 (args : Array Value) (w : World) : Sem.run prog (callFunc 19 args) w = .ok (.enter 19 args) w := MuLone.run_callFunc_enter func19 rfl rfl args w
theorem func20 : prog.funcs[20]? = some Try.f20 := Pt.wf_funcs _ Try.func20
@[simp] theorem call20 (args : Array Value) (w : World) : Sem.run prog (callFunc 20 args) w = .ok (.enter 20 args) w := MuLone.run_callFunc_enter func20 rfl rfl args w
theorem func21 : prog.funcs[21]? = some Try.f21 := Pt.wf_funcs _ Try.func21
@[simp] theorem call21 (args : Array Value) (w : World) : Sem.run prog (callFunc 21 args) w = .ok (.enter 21 args) w := MuLone.run_callFunc_enter func21 rfl rfl args w
theorem func22 : prog.funcs[22]? = some Try.f22 := Pt.wf_funcs _ Try.func22
@[simp] theorem call22 (args : Array Value) (w : World) : Sem.run prog (callFunc 22 args) w = .ok (.enter 22 args) w := MuLone.run_callFunc_enter func22 rfl rfl args w
theorem func23 : prog.funcs[23]? = some Try.f23 := Pt.wf_funcs _ Try.func23
@[simp] theorem call23 (args : Array Value) (w : World) : Sem.run prog (callFunc 23 args) w = .ok (.enter 23 args) w := MuLone.run_callFunc_enter func23 rfl rfl args w
theorem func24 : prog.funcs[24]? = some Try.f24 := Pt.wf_funcs _ Try.func24
@[simp] theorem call24 (args : Array Value) (w : World) : Sem.run prog (callFunc 24 args) w = .ok (.enter 24 args) w := MuLone.run_callFunc_enter func24 rfl rfl args w
theorem func28 : prog.funcs[28]? = some Try.f28 := Pt.wf_funcs _ Try.func28
@[simp] theorem call28 (args : Array Value) (w : World) : Sem.run prog (callFunc 28 args) w = .ok (.enter 28 args) w := MuLone.run_callFunc_enter func28 rfl rfl args w
theorem func30 : prog.funcs[30]? = some Try.f30 := Pt.wf_funcs _ Try.func30
@[simp] theorem call30 (args : Array Value) (w : World) : Sem.run prog (callFunc 30 args) w = .ok (.enter 30 args) w := MuLone.run_callFunc_enter func30 rfl rfl args w
theorem func31 : prog.funcs[31]? = some Try.f31 := Pt.wf_funcs _ Try.func31
@[simp] theorem call31 (args : Array Value) (w : World) : Sem.run prog (callFunc 31 args) w = .ok (.enter 31 args) w := MuLone.run_callFunc_enter func31 rfl rfl args w
theorem func32 : prog.funcs[32]? = some Try.f32 := Pt.wf_funcs _ Try.func32
@[simp] theorem call32 (args : Array Value) (w : World) : Sem.run prog (callFunc 32 args) w = .ok (.enter 32 args) w := MuLone.run_callFunc_enter func32 rfl rfl args w
theorem func33 : prog.funcs[33]? = some Try.f33 := Pt.wf_funcs _ Try.func33
@[simp] theorem call33 (args : Array Value) (w : World) : Sem.run prog (callFunc 33 args) w = .ok (.enter 33 args) w := MuLone.run_callFunc_enter func33 rfl rfl args w
theorem func34 : prog.funcs[34]? = some Try.f34 := Pt.wf_funcs _ Try.func34
@[simp] theorem call34 (args : Array Value) (w : World) : Sem.run prog (callFunc 34 args) w = .ok (.enter 34 args) w := MuLone.run_callFunc_enter func34 rfl rfl args w
theorem func35 : prog.funcs[35]? = some Try.f35 := Pt.wf_funcs _ Try.func35
@[simp] theorem call35 (args : Array Value) (w : World) : Sem.run prog (callFunc 35 args) w = .ok (.enter 35 args) w := MuLone.run_callFunc_enter func35 rfl rfl args w
theorem func36 : prog.funcs[36]? = some Try.f36 := Pt.wf_funcs _ Try.func36
@[simp] theorem call36 (args : Array Value) (w : World) : Sem.run prog (callFunc 36 args) w = .ok (.enter 36 args) w := MuLone.run_callFunc_enter func36 rfl rfl args w
theorem func50 : prog.funcs[50]? = some Try.f50 := Pt.wf_funcs _ Try.func50
@[simp] theorem call50 (args : Array Value) (w : World) : Sem.run prog (callFunc 50 args) w = .ok (.enter 50 args) w := MuLone.run_callFunc_enter func50 rfl rfl args w
theorem func51 : prog.funcs[51]? = some Try.f51 := Pt.wf_funcs _ Try.func51
@[simp] theorem call51 (args : Array Value) (w : World) : Sem.run prog (callFunc 51 args) w = .ok (.enter 51 args) w := MuLone.run_callFunc_enter func51 rfl rfl args w
theorem func57 : prog.funcs[57]? = some Try.f57 := Pt.wf_funcs _ Try.func57
@[simp] theorem call57 (args : Array Value) (w : World) : Sem.run prog (callFunc 57 args) w = .ok (.enter 57 args) w := MuLone.run_callFunc_enter func57 rfl rfl args w
theorem func58 : prog.funcs[58]? = some Try.f58 := Pt.wf_funcs _ Try.func58
@[simp] theorem call58 (args : Array Value) (w : World) : Sem.run prog (callFunc 58 args) w = .ok (.enter 58 args) w := MuLone.run_callFunc_enter func58 rfl rfl args w
theorem func63 : prog.funcs[63]? = some Try.f63 := Pt.wf_funcs _ Try.func63
@[simp] theorem call63 (args : Array Value) (w : World) : Sem.run prog (callFunc 63 args) w = .ok (.enter 63 args) w := MuLone.run_callFunc_enter func63 rfl rfl args w
theorem func65 : prog.funcs[65]? = some Try.f65 := Pt.wf_funcs _ Try.func65
@[simp] theorem call65 (args : Array Value) (w : World) : Sem.run prog (callFunc 65 args) w = .ok (.enter 65 args) w := MuLone.run_callFunc_enter func65 rfl rfl args w
theorem func66 : prog.funcs[66]? = some Try.f66 := Pt.wf_funcs _ Try.func66
@[simp] theorem call66 (args : Array Value) (w : World) : Sem.run prog (callFunc 66 args) w = .ok (.enter 66 args) w := MuLone.run_callFunc_enter func66 rfl rfl args w
@[simp] theorem call16 (args : Array Value) (w : World) : Sem.run prog (callFunc 16 args) w = .ok (.enter 16 args) w := MuLone.run_callFunc_enter at16 (by kernel_rfl) rfl args w
theorem ntmps3 : Try.f3.ntmps = 84 := Try.ntmps3
theorem results3 : Try.f3.results = #[Go.ResultVar.tmp 6] := Try.results3
theorem ntmps4 : Try.f4.ntmps = 11 := Try.ntmps4
theorem results4 : Try.f4.results = #[Go.ResultVar.tmp 2, Go.ResultVar.tmp 3] := Try.results4
theorem ntmps5 : Try.f5.ntmps = 10 := Try.ntmps5
theorem results5 : Try.f5.results = #[Go.ResultVar.tmp 2, Go.ResultVar.tmp 3] := Try.results5
theorem ntmps6 : Try.f6.ntmps = 34 := Try.ntmps6
theorem results6 : Try.f6.results = #[Go.ResultVar.tmp 8, Go.ResultVar.tmp 9] := Try.results6
theorem ntmps7 : Try.f7.ntmps = 31 := Try.ntmps7
theorem results7 : Try.f7.results = #[Go.ResultVar.tmp 8, Go.ResultVar.tmp 9] := Try.results7
theorem ntmps8 : Try.f8.ntmps = 30 := Try.ntmps8
theorem results8 : Try.f8.results = #[Go.ResultVar.tmp 6, Go.ResultVar.tmp 7] := Try.results8
theorem ntmps9 : Try.f9.ntmps = 31 := Try.ntmps9
theorem results9 : Try.f9.results = #[Go.ResultVar.tmp 6, Go.ResultVar.tmp 7] := Try.results9
theorem ntmps10 : Try.f10.ntmps = 15 := Try.ntmps10
theorem results10 : Try.f10.results = #[Go.ResultVar.tmp 0] := Try.results10
theorem ntmps11 : Try.f11.ntmps = 17 := Try.ntmps11
theorem results11 : Try.f11.results = #[Go.ResultVar.tmp 2] := Try.results11
theorem ntmps12 : Try.f12.ntmps = 9 := Try.ntmps12
theorem results12 : Try.f12.results = #[Go.ResultVar.tmp 2] := Try.results12
theorem ntmps13 : Try.f13.ntmps = 5 := Try.ntmps13
theorem results13 : Try.f13.results = #[Go.ResultVar.tmp 2] := Try.results13
theorem ntmps14 : Try.f14.ntmps = 16 := Try.ntmps14
theorem results14 : Try.f14.results = #[Go.ResultVar.tmp 4] := Try.results14
theorem ntmps15 : Try.f15.ntmps = 15 := Try.ntmps15
theorem results15 : Try.f15.results = #[Go.ResultVar.tmp 6] := Try.results15
theorem ntmps16 : Try.f16.ntmps = 22 := Try.ntmps16
theorem results16 : Try.f16.results = #[Go.ResultVar.tmp 2] := Try.results16
theorem ntmps17 : Try.f17.ntmps = 20 := Try.ntmps17
theorem results17 : Try.f17.results = #[Go.ResultVar.tmp 8] := Try.results17
theorem ntmps18 : Try.f18.ntmps = 14 := Try.ntmps18
theorem results18 : Try.f18.results = #[Go.ResultVar.tmp 4] := Try.results18
theorem ntmps19 : Try.f19.ntmps = 21 := Try.ntmps19
theorem results19 : Try.f19.results = #[Go.ResultVar.tmp 6] := Try.results19
theorem ntmps20 : Try.f20.ntmps = 41 := Try.ntmps20
theorem results20 : Try.f20.results = #[Go.ResultVar.tmp 8] := Try.results20
theorem ntmps21 : Try.f21.ntmps = 14 := Try.ntmps21
theorem results21 : Try.f21.results = #[Go.ResultVar.tmp 4] := Try.results21
theorem ntmps22 : Try.f22.ntmps = 22 := Try.ntmps22
theorem results22 : Try.f22.results = #[Go.ResultVar.tmp 4] := Try.results22
theorem ntmps23 : Try.f23.ntmps = 49 := Try.ntmps23
theorem results23 : Try.f23.results = #[Go.ResultVar.cell 2 47, Go.ResultVar.tmp 3] := Try.results23
theorem ntmps24 : Try.f24.ntmps = 9 := Try.ntmps24
theorem results24 : Try.f24.results = #[Go.ResultVar.tmp 2, Go.ResultVar.tmp 3] := Try.results24
theorem ntmps28 : Try.f28.ntmps = 16 := Try.ntmps28
theorem results28 : Try.f28.results = #[Go.ResultVar.tmp 4, Go.ResultVar.tmp 5] := Try.results28
theorem ntmps30 : Try.f30.ntmps = 20 := Try.ntmps30
theorem results30 : Try.f30.results = #[Go.ResultVar.tmp 2] := Try.results30
theorem ntmps31 : Try.f31.ntmps = 21 := Try.ntmps31
theorem results31 : Try.f31.results = #[Go.ResultVar.tmp 8] := Try.results31
theorem ntmps32 : Try.f32.ntmps = 9 := Try.ntmps32
theorem results32 : Try.f32.results = #[Go.ResultVar.tmp 4] := Try.results32
theorem ntmps33 : Try.f33.ntmps = 26 := Try.ntmps33
theorem results33 : Try.f33.results = #[Go.ResultVar.tmp 3] := Try.results33
theorem ntmps34 : Try.f34.ntmps = 35 := Try.ntmps34
theorem results34 : Try.f34.results = #[Go.ResultVar.tmp 2] := Try.results34
theorem ntmps35 : Try.f35.ntmps = 16 := Try.ntmps35
theorem results35 : Try.f35.results = #[Go.ResultVar.tmp 2] := Try.results35
theorem ntmps36 : Try.f36.ntmps = 11 := Try.ntmps36
theorem results36 : Try.f36.results = #[Go.ResultVar.tmp 2] := Try.results36
theorem ntmps50 : Try.f50.ntmps = 15 := Try.ntmps50
theorem results50 : Try.f50.results = #[Go.ResultVar.tmp 4] := Try.results50
theorem ntmps51 : Try.f51.ntmps = 26 := Try.ntmps51
theorem results51 : Try.f51.results = #[Go.ResultVar.tmp 4] := Try.results51
theorem ntmps57 : Try.f57.ntmps = 9 := Try.ntmps57
theorem results57 : Try.f57.results = #[Go.ResultVar.tmp 4] := Try.results57
theorem ntmps58 : Try.f58.ntmps = 19 := Try.ntmps58
theorem results58 : Try.f58.results = #[Go.ResultVar.tmp 4] := Try.results58
theorem ntmps63 : Try.f63.ntmps = 92 := Try.ntmps63
theorem results63 : Try.f63.results = #[Go.ResultVar.tmp 8, Go.ResultVar.tmp 9] := Try.results63
theorem ntmps65 : Try.f65.ntmps = 4 := Try.ntmps65
theorem results65 : Try.f65.results = #[Go.ResultVar.tmp 2] := Try.results65
theorem ntmps66 : Try.f66.ntmps = 30 := Try.ntmps66
theorem results66 : Try.f66.results = #[Go.ResultVar.cell 4 101] := Try.results66
end Go.Proofs.Qm
namespace Go.Proofs.Qm
open Go Go.Pt Go.RowKit

theorem ports2 (w : World) : Calls prog 35 #[.int .i64 2] w fun e w' => e = .returned (.bool true) ∧ w' = w := by
  have b1 : bits .and .i64 2 1 = 0 := by decide
  go_enter func35, ntmps35
  go_wp2
  exact bodyPost_ret (v := .bool true) (by simp [results, results35, go_sem, b1]) rfl ⟨rfl, rfl⟩
theorem ports4 (w : World) : Calls prog 35 #[.int .i64 4] w fun e w' => e = .returned (.bool true) ∧ w' = w := by
  have b2 : bits .and .i64 4 3 = 0 := by decide
  go_enter func35, ntmps35
  go_wp2
  exact bodyPost_ret (v := .bool true) (by simp [results, results35, go_sem, b2]) rfl ⟨rfl, rfl⟩
theorem count2 (w : World) : Calls prog 36 #[.int .i64 2] w fun e w' => e = .returned (.int .i64 1) ∧ w' = w := by
  go_enter func36, ntmps36
  go_wp2
  exact bodyPost_ret (v := .int .i64 1) (by simp [results, results36, go_sem]) rfl ⟨rfl, rfl⟩
theorem count4 (w : World) : Calls prog 36 #[.int .i64 4] w fun e w' => e = .returned (.int .i64 6) ∧ w' = w := by
  go_enter func36, ntmps36
  go_wp2
  exact bodyPost_ret (v := .int .i64 6) (by simp [results, results36, go_sem]) rfl ⟨rfl, rfl⟩
theorem bcount2 (w : World) : Calls prog 24 #[.int .i64 2] w fun e w' => e = .returned (.tuple #[.int .i64 1, .int .i64 0]) ∧ w' = w := by
  go_enter func24, ntmps24
  go_wp2_with fail
  refine (ports2 _).mono ?_
  rintro e w' ⟨rfl, rfl⟩
  go_wp2_with fail
  refine (count2 _).mono ?_
  rintro e w' ⟨rfl, rfl⟩
  go_wp2_with fail
  exact bodyPost_ret (v := .tuple #[.int .i64 1, .int .i64 0]) (by simp [results, results24, go_sem]) rfl ⟨rfl, rfl⟩
theorem bcount4 (w : World) : Calls prog 24 #[.int .i64 4] w fun e w' => e = .returned (.tuple #[.int .i64 6, .int .i64 0]) ∧ w' = w := by
  go_enter func24, ntmps24
  go_wp2_with fail
  refine (ports4 _).mono ?_
  rintro e w' ⟨rfl, rfl⟩
  go_wp2_with fail
  refine (count4 _).mono ?_
  rintro e w' ⟨rfl, rfl⟩
  go_wp2_with fail
  exact bodyPost_ret (v := .tuple #[.int .i64 6, .int .i64 0]) (by simp [results, results24, go_sem]) rfl ⟨rfl, rfl⟩
theorem pcount2 (w : World) : Calls prog 11 #[.int .i64 2] w fun e w' => e = .returned (.int .i64 1) ∧ w' = w := by
  go_enter func11, ntmps11
  go_wp2_with fail
  refine (bcount2 _).mono ?_
  rintro e w' ⟨rfl, rfl⟩
  go_wp2_with fail
  exact bodyPost_ret (v := .int .i64 1) (by simp [results, results11, go_sem]) rfl ⟨rfl, rfl⟩
theorem pcount4 (w : World) : Calls prog 11 #[.int .i64 4] w fun e w' => e = .returned (.int .i64 6) ∧ w' = w := by
  go_enter func11, ntmps11
  go_wp2_with fail
  refine (bcount4 _).mono ?_
  rintro e w' ⟨rfl, rfl⟩
  go_wp2_with fail
  exact bodyPost_ret (v := .int .i64 6) (by simp [results, results11, go_sem]) rfl ⟨rfl, rfl⟩
end Go.Proofs.Qm
