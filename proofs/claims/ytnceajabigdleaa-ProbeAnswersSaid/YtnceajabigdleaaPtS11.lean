/- Part of the theory of transport. No condition. -/
import Derived.Test.YtnceajabigdleaaRows
import Derived.Conc.MuLone
import Derived.Test.YtnceajabigdleaaPtS7
import Derived.BigRegion
import Derived.WalkKit
import Derived.BigQuiet
import Derived.Deep.QuietTactic
import Derived.Laws.BitsLemmas
namespace Go.Proofs.Ghw
open Go Go.Pt
noncomputable def gone (f : Func) : Func := { Try.f0 with name := "gone", body := none, results := f.results, ntmps := f.ntmps }
def dead (i : Nat) : Bool := [0, 1, 2, 3, 4, 5, 6, 7, 8, 9, 10, 12, 13, 14, 15, 16, 17, 18, 19, 20, 21, 22, 23, 25, 26, 27, 29, 30, 31, 32, 33, 34, 37, 38, 39, 40, 41, 42, 43, 44, 45, 46, 47, 48, 49, 52, 53, 54, 55, 56, 57, 58, 59, 60, 61, 62, 64, 67, 68, 69, 70, 71, 72, 73, 74, 75, 76, 77, 78, 79, 80, 81, 82, 83].contains i
noncomputable def gF (i : Nat) (f : Func) : Func := if dead i then gone f else f
noncomputable def prog : Program := Pt.wf Try.prog (Try.prog.funcs.mapIdx gF)
theorem types_ok : prog.types.toList.all (fun i => match i.zero with | some v => closedV v | none => true) = true := by kernel_rfl
theorem size : Try.prog.funcs.size = 84 := by kernel_rfl
theorem ok11 : fnB prog (fun _ => false) Try.f11 = true := by kernel_rfl
theorem ok24 : fnB prog (fun _ => false) Try.f24 = true := by kernel_rfl
theorem ok28 : fnB prog (fun _ => false) Try.f28 = true := by kernel_rfl
theorem ok35 : fnB prog (fun _ => false) Try.f35 = true := by kernel_rfl
theorem ok36 : fnB prog (fun _ => false) Try.f36 = true := by kernel_rfl
theorem ok50 : fnB prog (fun _ => false) Try.f50 = true := by kernel_rfl
theorem ok51 : fnB prog (fun _ => false) Try.f51 = true := by kernel_rfl
theorem ok63 : fnB prog (fun _ => false) Try.f63 = true := by kernel_rfl
theorem ok65 : fnB prog (fun _ => false) Try.f65 = true := by kernel_rfl
theorem ok66 : fnB prog (fun _ => false) Try.f66 = true := by kernel_rfl
theorem c0 : ∀ i, i < 0 → Okk Try.prog prog (fun _ => false) dead i := okk_zero
theorem c1 : ∀ i, i < 1 → Okk Try.prog prog (fun _ => false) dead i := okk_step c0 (okk_dead (by decide))
theorem c2 : ∀ i, i < 2 → Okk Try.prog prog (fun _ => false) dead i := okk_step c1 (okk_dead (by decide))
theorem c3 : ∀ i, i < 3 → Okk Try.prog prog (fun _ => false) dead i := okk_step c2 (okk_dead (by decide))
theorem c4 : ∀ i, i < 4 → Okk Try.prog prog (fun _ => false) dead i := okk_step c3 (okk_dead (by decide))
theorem c5 : ∀ i, i < 5 → Okk Try.prog prog (fun _ => false) dead i := okk_step c4 (okk_dead (by decide))
theorem c6 : ∀ i, i < 6 → Okk Try.prog prog (fun _ => false) dead i := okk_step c5 (okk_dead (by decide))
theorem c7 : ∀ i, i < 7 → Okk Try.prog prog (fun _ => false) dead i := okk_step c6 (okk_dead (by decide))
theorem c8 : ∀ i, i < 8 → Okk Try.prog prog (fun _ => false) dead i := okk_step c7 (okk_dead (by decide))
theorem c9 : ∀ i, i < 9 → Okk Try.prog prog (fun _ => false) dead i := okk_step c8 (okk_dead (by decide))
theorem c10 : ∀ i, i < 10 → Okk Try.prog prog (fun _ => false) dead i := okk_step c9 (okk_dead (by decide))
theorem c11 : ∀ i, i < 11 → Okk Try.prog prog (fun _ => false) dead i := okk_step c10 (okk_dead (by decide))
theorem c12 : ∀ i, i < 12 → Okk Try.prog prog (fun _ => false) dead i := okk_step c11 (okk_ok Try.func11 ok11)
theorem c13 : ∀ i, i < 13 → Okk Try.prog prog (fun _ => false) dead i := okk_step c12 (okk_dead (by decide))
theorem c14 : ∀ i, i < 14 → Okk Try.prog prog (fun _ => false) dead i := okk_step c13 (okk_dead (by decide))
theorem c15 : ∀ i, i < 15 → Okk Try.prog prog (fun _ => false) dead i := okk_step c14 (okk_dead (by decide))
theorem c16 : ∀ i, i < 16 → Okk Try.prog prog (fun _ => false) dead i := okk_step c15 (okk_dead (by decide))
theorem c17 : ∀ i, i < 17 → Okk Try.prog prog (fun _ => false) dead i := okk_step c16 (okk_dead (by decide))
theorem c18 : ∀ i, i < 18 → Okk Try.prog prog (fun _ => false) dead i := okk_step c17 (okk_dead (by decide))
theorem c19 : ∀ i, i < 19 → Okk Try.prog prog (fun _ => false) dead i := okk_step c18 (okk_dead (by decide))
theorem c20 : ∀ i, i < 20 → Okk Try.prog prog (fun _ => false) dead i := okk_step c19 (okk_dead (by decide))
theorem c21 : ∀ i, i < 21 → Okk Try.prog prog (fun _ => false) dead i := okk_step c20 (okk_dead (by decide))
theorem c22 : ∀ i, i < 22 → Okk Try.prog prog (fun _ => false) dead i := okk_step c21 (okk_dead (by decide))
theorem c23 : ∀ i, i < 23 → Okk Try.prog prog (fun _ => false) dead i := okk_step c22 (okk_dead (by decide))
theorem c24 : ∀ i, i < 24 → Okk Try.prog prog (fun _ => false) dead i := okk_step c23 (okk_dead (by decide))
theorem c25 : ∀ i, i < 25 → Okk Try.prog prog (fun _ => false) dead i := okk_step c24 (okk_ok Try.func24 ok24)
theorem c26 : ∀ i, i < 26 → Okk Try.prog prog (fun _ => false) dead i := okk_step c25 (okk_dead (by decide))
theorem c27 : ∀ i, i < 27 → Okk Try.prog prog (fun _ => false) dead i := okk_step c26 (okk_dead (by decide))
theorem c28 : ∀ i, i < 28 → Okk Try.prog prog (fun _ => false) dead i := okk_step c27 (okk_dead (by decide))
theorem c29 : ∀ i, i < 29 → Okk Try.prog prog (fun _ => false) dead i := okk_step c28 (okk_ok Try.func28 ok28)
theorem c30 : ∀ i, i < 30 → Okk Try.prog prog (fun _ => false) dead i := okk_step c29 (okk_dead (by decide))
theorem c31 : ∀ i, i < 31 → Okk Try.prog prog (fun _ => false) dead i := okk_step c30 (okk_dead (by decide))
theorem c32 : ∀ i, i < 32 → Okk Try.prog prog (fun _ => false) dead i := okk_step c31 (okk_dead (by decide))
theorem c33 : ∀ i, i < 33 → Okk Try.prog prog (fun _ => false) dead i := okk_step c32 (okk_dead (by decide))
theorem c34 : ∀ i, i < 34 → Okk Try.prog prog (fun _ => false) dead i := okk_step c33 (okk_dead (by decide))
theorem c35 : ∀ i, i < 35 → Okk Try.prog prog (fun _ => false) dead i := okk_step c34 (okk_dead (by decide))
theorem c36 : ∀ i, i < 36 → Okk Try.prog prog (fun _ => false) dead i := okk_step c35 (okk_ok Try.func35 ok35)
theorem c37 : ∀ i, i < 37 → Okk Try.prog prog (fun _ => false) dead i := okk_step c36 (okk_ok Try.func36 ok36)
theorem c38 : ∀ i, i < 38 → Okk Try.prog prog (fun _ => false) dead i := okk_step c37 (okk_dead (by decide))
theorem c39 : ∀ i, i < 39 → Okk Try.prog prog (fun _ => false) dead i := okk_step c38 (okk_dead (by decide))
theorem c40 : ∀ i, i < 40 → Okk Try.prog prog (fun _ => false) dead i := okk_step c39 (okk_dead (by decide))
theorem c41 : ∀ i, i < 41 → Okk Try.prog prog (fun _ => false) dead i := okk_step c40 (okk_dead (by decide))
theorem c42 : ∀ i, i < 42 → Okk Try.prog prog (fun _ => false) dead i := okk_step c41 (okk_dead (by decide))
theorem c43 : ∀ i, i < 43 → Okk Try.prog prog (fun _ => false) dead i := okk_step c42 (okk_dead (by decide))
theorem c44 : ∀ i, i < 44 → Okk Try.prog prog (fun _ => false) dead i := okk_step c43 (okk_dead (by decide))
theorem c45 : ∀ i, i < 45 → Okk Try.prog prog (fun _ => false) dead i := okk_step c44 (okk_dead (by decide))
theorem c46 : ∀ i, i < 46 → Okk Try.prog prog (fun _ => false) dead i := okk_step c45 (okk_dead (by decide))
theorem c47 : ∀ i, i < 47 → Okk Try.prog prog (fun _ => false) dead i := okk_step c46 (okk_dead (by decide))
theorem c48 : ∀ i, i < 48 → Okk Try.prog prog (fun _ => false) dead i := okk_step c47 (okk_dead (by decide))
theorem c49 : ∀ i, i < 49 → Okk Try.prog prog (fun _ => false) dead i := okk_step c48 (okk_dead (by decide))
theorem c50 : ∀ i, i < 50 → Okk Try.prog prog (fun _ => false) dead i := okk_step c49 (okk_dead (by decide))
theorem c51 : ∀ i, i < 51 → Okk Try.prog prog (fun _ => false) dead i := okk_step c50 (okk_ok Try.func50 ok50)
theorem c52 : ∀ i, i < 52 → Okk Try.prog prog (fun _ => false) dead i := okk_step c51 (okk_ok Try.func51 ok51)
theorem c53 : ∀ i, i < 53 → Okk Try.prog prog (fun _ => false) dead i := okk_step c52 (okk_dead (by decide))
theorem c54 : ∀ i, i < 54 → Okk Try.prog prog (fun _ => false) dead i := okk_step c53 (okk_dead (by decide))
theorem c55 : ∀ i, i < 55 → Okk Try.prog prog (fun _ => false) dead i := okk_step c54 (okk_dead (by decide))
theorem c56 : ∀ i, i < 56 → Okk Try.prog prog (fun _ => false) dead i := okk_step c55 (okk_dead (by decide))
theorem c57 : ∀ i, i < 57 → Okk Try.prog prog (fun _ => false) dead i := okk_step c56 (okk_dead (by decide))
theorem c58 : ∀ i, i < 58 → Okk Try.prog prog (fun _ => false) dead i := okk_step c57 (okk_dead (by decide))
theorem c59 : ∀ i, i < 59 → Okk Try.prog prog (fun _ => false) dead i := okk_step c58 (okk_dead (by decide))
theorem c60 : ∀ i, i < 60 → Okk Try.prog prog (fun _ => false) dead i := okk_step c59 (okk_dead (by decide))
theorem c61 : ∀ i, i < 61 → Okk Try.prog prog (fun _ => false) dead i := okk_step c60 (okk_dead (by decide))
theorem c62 : ∀ i, i < 62 → Okk Try.prog prog (fun _ => false) dead i := okk_step c61 (okk_dead (by decide))
theorem c63 : ∀ i, i < 63 → Okk Try.prog prog (fun _ => false) dead i := okk_step c62 (okk_dead (by decide))
theorem c64 : ∀ i, i < 64 → Okk Try.prog prog (fun _ => false) dead i := okk_step c63 (okk_ok Try.func63 ok63)
theorem c65 : ∀ i, i < 65 → Okk Try.prog prog (fun _ => false) dead i := okk_step c64 (okk_dead (by decide))
theorem c66 : ∀ i, i < 66 → Okk Try.prog prog (fun _ => false) dead i := okk_step c65 (okk_ok Try.func65 ok65)
theorem c67 : ∀ i, i < 67 → Okk Try.prog prog (fun _ => false) dead i := okk_step c66 (okk_ok Try.func66 ok66)
theorem c68 : ∀ i, i < 68 → Okk Try.prog prog (fun _ => false) dead i := okk_step c67 (okk_dead (by decide))
theorem c69 : ∀ i, i < 69 → Okk Try.prog prog (fun _ => false) dead i := okk_step c68 (okk_dead (by decide))
theorem c70 : ∀ i, i < 70 → Okk Try.prog prog (fun _ => false) dead i := okk_step c69 (okk_dead (by decide))
theorem c71 : ∀ i, i < 71 → Okk Try.prog prog (fun _ => false) dead i := okk_step c70 (okk_dead (by decide))
theorem c72 : ∀ i, i < 72 → Okk Try.prog prog (fun _ => false) dead i := okk_step c71 (okk_dead (by decide))
theorem c73 : ∀ i, i < 73 → Okk Try.prog prog (fun _ => false) dead i := okk_step c72 (okk_dead (by decide))
theorem c74 : ∀ i, i < 74 → Okk Try.prog prog (fun _ => false) dead i := okk_step c73 (okk_dead (by decide))
theorem c75 : ∀ i, i < 75 → Okk Try.prog prog (fun _ => false) dead i := okk_step c74 (okk_dead (by decide))
theorem c76 : ∀ i, i < 76 → Okk Try.prog prog (fun _ => false) dead i := okk_step c75 (okk_dead (by decide))
theorem c77 : ∀ i, i < 77 → Okk Try.prog prog (fun _ => false) dead i := okk_step c76 (okk_dead (by decide))
theorem c78 : ∀ i, i < 78 → Okk Try.prog prog (fun _ => false) dead i := okk_step c77 (okk_dead (by decide))
theorem c79 : ∀ i, i < 79 → Okk Try.prog prog (fun _ => false) dead i := okk_step c78 (okk_dead (by decide))
theorem c80 : ∀ i, i < 80 → Okk Try.prog prog (fun _ => false) dead i := okk_step c79 (okk_dead (by decide))
theorem c81 : ∀ i, i < 81 → Okk Try.prog prog (fun _ => false) dead i := okk_step c80 (okk_dead (by decide))
theorem c82 : ∀ i, i < 82 → Okk Try.prog prog (fun _ => false) dead i := okk_step c81 (okk_dead (by decide))
theorem c83 : ∀ i, i < 83 → Okk Try.prog prog (fun _ => false) dead i := okk_step c82 (okk_dead (by decide))
theorem c84 : ∀ i, i < 84 → Okk Try.prog prog (fun _ => false) dead i := okk_step c83 (okk_dead (by decide))
theorem ok_all (i : Nat) (fn : Func) (h : Try.prog.funcs[i]? = some fn) (hd : dead i = false) : fnB prog (fun _ => false) fn = true := by
  have hlt : i < 84 := by have := (Array.getElem?_eq_some_iff.1 h).1; rw [size] at this; exact this
  exact c84 i hlt fn h hd
theorem at_ {i : Nat} {f : Func} (h : Try.prog.funcs[i]? = some f) : prog.funcs[i]? = some (gF i f) := Pt.wf_funcs _ h
theorem none_at (i : Nat) (h : Try.prog.funcs.size ≤ i) : prog.funcs[i]? = none := Pt.wf_funcs_none _ h
theorem gone_body (f : Func) : (gone f).body = none := rfl
theorem gone_name (f : Func) : ((gone f).name == "runtime.NumGoroutine") = false := by kernel_rfl
theorem gone_next (f : Func) : Extern.findNext (gone f) = none := by kernel_rfl
theorem gone_find (f : Func) : Extern.find (gone f) = none := by kernel_rfl
theorem gone_init (f : Func) : ((gone f).name.endsWith ".init" && !(gone f).name.startsWith "(" && !(gone f).name.startsWith "gosem.") = false := by kernel_rfl
theorem gF_dead (i : Nat) (f : Func) (hd : dead i = true) : gF i f = gone f := by unfold gF; rw [if_pos hd]
theorem dead_at (i : Nat) (h : i < Try.prog.funcs.size) (hd : dead i = true) : ∀ xs, DeadEnd prog (callFunc i xs) :=
  have h1 := at_ (Array.getElem?_eq_getElem h)
  dead_gone (h1.trans (congrArg some (gF_dead i _ hd))) (gone_name _) (gone_body _) (gone_next _) (gone_find _) (gone_init _)
theorem same_at (i : Nat) (fn : Func) (h : Try.prog.funcs[i]? = some fn) (hd : dead i = false) : prog.funcs[i]? = some fn ∧ fnB prog (fun _ => false) fn = true := by
  refine ⟨?_, ok_all i fn h hd⟩
  have h1 := at_ h
  rw [h1]
  simp [gF, hd]
theorem same_self (i : Nat) (fn : Func) (h : prog.funcs[i]? = some fn) (hd : dead i = false) : prog.funcs[i]? = some fn ∧ fnB prog (fun _ => false) fn = true := by
  refine ⟨h, ?_⟩
  have hlt : i < Try.prog.funcs.size := by
    rcases Nat.lt_or_ge i Try.prog.funcs.size with h1 | h1
    · exact h1
    · rw [none_at i h1] at h; cases h
  have h1 := Array.getElem?_eq_getElem hlt
  obtain ⟨h2, h3⟩ := same_at i _ h1 hd
  obtain rfl := Option.some.inj (h.symm.trans h2)
  exact h3
theorem size_self : prog.funcs.size = Try.prog.funcs.size := by simp [prog, Pt.wf]
theorem funs : Funs prog Try.prog.funcs (fun _ => False) (fun _ => False) := funs_of (zero_of types_ok) (fun g h => by simp at h) dead_at none_at same_at
theorem self : Funs prog prog.funcs (fun _ => False) (fun _ => False) := funs_of (zero_of types_ok) (fun g h => by simp at h) (fun i h hd => dead_at i (size_self ▸ h) hd) (fun i h => none_at i (size_self ▸ h)) same_self
theorem func16 : prog.funcs[16]? = some (gone Try.f16) := Pt.wf_funcs _ Try.func16
@[simp] theorem run_typeInfo (t : TypeId) (w : World) : Sem.run prog (typeInfo t) w = Sem.run Try.prog (typeInfo t) w := Pt.wf_typeInfo _ _ t w
@[simp] theorem run_underlying (t : TypeId) (w : World) : Sem.run prog (underlying t) w = Sem.run Try.prog (underlying t) w := Pt.wf_underlying _ _ t w
@[simp] theorem run_isAgg (t : TypeId) (w : World) : Sem.run prog (isAgg t) w = Sem.run Try.prog (isAgg t) w := Pt.wf_isAgg _ _ t w
@[simp] theorem run_sizeOf (t : TypeId) (w : World) : Sem.run prog (sizeOf t) w = Sem.run Try.prog (sizeOf t) w := Pt.wf_sizeOf _ _ t w
@[simp] theorem run_zeroValue (t : TypeId) (w : World) : Sem.run prog (zeroValue t) w = Sem.run Try.prog (zeroValue t) w := Pt.wf_zeroValue _ _ t w
@[simp] theorem p_underlying (t : TypeId) : prog.underlying t = Try.prog.underlying t := Pt.wf_punderlying _ _ t
@[simp] theorem p_info (t : TypeId) : prog.info? t = Try.prog.info? t := Pt.wf_pinfo _ _ t
@[simp] theorem p_rt : prog.rt = Try.prog.rt := Pt.wf_prt _ _
@[simp] theorem p_globals : prog.globals = Try.prog.globals := Pt.wf_pglobals _ _
theorem func11 : prog.funcs[11]? = some Try.f11 := Pt.wf_funcs _ Try.func11
@[simp] theorem call11 (args : Array Value) (w : World) : Sem.run prog (callFunc 11 args) w = .ok (.enter 11 args) w := MuLone.run_callFunc_enter func11 rfl rfl args w
theorem func24 : prog.funcs[24]? = some Try.f24 := Pt.wf_funcs _ Try.func24
@[simp] theorem call24 (args : Array Value) (w : World) : Sem.run prog (callFunc 24 args) w = .ok (.enter 24 args) w := MuLone.run_callFunc_enter func24 rfl rfl args w
theorem func28 : prog.funcs[28]? = some Try.f28 := Pt.wf_funcs _ Try.func28
@[simp] theorem call28 (args : Array Value) (w : World) : Sem.run prog (callFunc 28 args) w = .ok (.enter 28 args) w := MuLone.run_callFunc_enter func28 rfl rfl args w
theorem func35 : prog.funcs[35]? = some Try.f35 := Pt.wf_funcs _ Try.func35
@[simp] theorem call35 (args : Array Value) (w : World) : Sem.run prog (callFunc 35 args) w = .ok (.enter 35 args) w := MuLone.run_callFunc_enter func35 rfl rfl args w
theorem func36 : prog.funcs[36]? = some Try.f36 := Pt.wf_funcs _ Try.func36
@[simp] theorem call36 (args : Array Value) (w : World) : Sem.run prog (callFunc 36 args) w = .ok (.enter 36 args) w := MuLone.run_callFunc_enter func36 rfl rfl args w
theorem func50 : prog.funcs[50]? = some Try.f50 := Pt.wf_funcs _ Try.func50
@[simp] theorem call50 (args : Array Value) (w : World) : Sem.run prog (callFunc 50 args) w = .ok (.enter 50 args) w := MuLone.run_callFunc_enter func50 rfl rfl args w
theorem func51 : prog.funcs[51]? = some Try.f51 := Pt.wf_funcs _ Try.func51
@[simp] theorem call51 (args : Array Value) (w : World) : Sem.run prog (callFunc 51 args) w = .ok (.enter 51 args) w := MuLone.run_callFunc_enter func51 rfl rfl args w
theorem func63 : prog.funcs[63]? = some Try.f63 := Pt.wf_funcs _ Try.func63
@[simp] theorem call63 (args : Array Value) (w : World) : Sem.run prog (callFunc 63 args) w = .ok (.enter 63 args) w := MuLone.run_callFunc_enter func63 rfl rfl args w
theorem func65 : prog.funcs[65]? = some Try.f65 := Pt.wf_funcs _ Try.func65
@[simp] theorem call65 (args : Array Value) (w : World) : Sem.run prog (callFunc 65 args) w = .ok (.enter 65 args) w := MuLone.run_callFunc_enter func65 rfl rfl args w
theorem func66 : prog.funcs[66]? = some Try.f66 := Pt.wf_funcs _ Try.func66
@[simp] theorem call66 (args : Array Value) (w : World) : Sem.run prog (callFunc 66 args) w = .ok (.enter 66 args) w := MuLone.run_callFunc_enter func66 rfl rfl args w
theorem ntmps11 : Try.f11.ntmps = 17 := Try.ntmps11
theorem results11 : Try.f11.results = #[Go.ResultVar.tmp 2] := Try.results11
theorem ntmps24 : Try.f24.ntmps = 9 := Try.ntmps24
theorem results24 : Try.f24.results = #[Go.ResultVar.tmp 2, Go.ResultVar.tmp 3] := Try.results24
theorem ntmps28 : Try.f28.ntmps = 16 := Try.ntmps28
theorem results28 : Try.f28.results = #[Go.ResultVar.tmp 4, Go.ResultVar.tmp 5] := Try.results28
theorem ntmps35 : Try.f35.ntmps = 16 := Try.ntmps35
theorem results35 : Try.f35.results = #[Go.ResultVar.tmp 2] := Try.results35
theorem ntmps36 : Try.f36.ntmps = 11 := Try.ntmps36
theorem results36 : Try.f36.results = #[Go.ResultVar.tmp 2] := Try.results36
theorem ntmps50 : Try.f50.ntmps = 15 := Try.ntmps50
theorem results50 : Try.f50.results = #[Go.ResultVar.tmp 4] := Try.results50
theorem ntmps51 : Try.f51.ntmps = 26 := Try.ntmps51
theorem results51 : Try.f51.results = #[Go.ResultVar.tmp 4] := Try.results51
theorem ntmps63 : Try.f63.ntmps = 92 := Try.ntmps63
theorem results63 : Try.f63.results = #[Go.ResultVar.tmp 8, Go.ResultVar.tmp 9] := Try.results63
theorem ntmps65 : Try.f65.ntmps = 4 := Try.ntmps65
theorem results65 : Try.f65.results = #[Go.ResultVar.tmp 2] := Try.results65
theorem ntmps66 : Try.f66.ntmps = 30 := Try.ntmps66
theorem results66 : Try.f66.results = #[Go.ResultVar.cell 4 101] := Try.results66
end Go.Proofs.Ghw
namespace Go.Proofs.Ghw
open Go Go.Pt Go.RowKit

theorem ports2 (w : World) : Calls prog 35 #[.int .i64 2] w fun e w' => e = .returned (.bool true) ∧ w' = w := by
  have b1 : bits .and .i64 2 1 = 0 := by decide
  go_enter func35, ntmps35
  go_wp2
  exact bodyPost_ret (v := .bool true) (by simp [results, results35, go_sem, b1]) rfl ⟨rfl, rfl⟩
theorem ports4 (w : World) : Calls prog 35 #[.int .i64 4] w fun e w' => e = .returned (.bool true) ∧ w' = w := by
  have b2 : bits .and .i64 4 3 = 0 := by decide
  go_enter func35, ntmps35
  go_wp2
  exact bodyPost_ret (v := .bool true) (by simp [results, results35, go_sem, b2]) rfl ⟨rfl, rfl⟩
theorem count2 (w : World) : Calls prog 36 #[.int .i64 2] w fun e w' => e = .returned (.int .i64 1) ∧ w' = w := by
  go_enter func36, ntmps36
  go_wp2
  exact bodyPost_ret (v := .int .i64 1) (by simp [results, results36, go_sem]) rfl ⟨rfl, rfl⟩
theorem count4 (w : World) : Calls prog 36 #[.int .i64 4] w fun e w' => e = .returned (.int .i64 6) ∧ w' = w := by
  go_enter func36, ntmps36
  go_wp2
  exact bodyPost_ret (v := .int .i64 6) (by simp [results, results36, go_sem]) rfl ⟨rfl, rfl⟩
theorem bcount2 (w : World) : Calls prog 24 #[.int .i64 2] w fun e w' => e = .returned (.tuple #[.int .i64 1, .int .i64 0]) ∧ w' = w := by
  go_enter func24, ntmps24
  go_wp2_with fail
  refine (ports2 _).mono ?_
  rintro e w' ⟨rfl, rfl⟩
  go_wp2_with fail
  refine (count2 _).mono ?_
  rintro e w' ⟨rfl, rfl⟩
  go_wp2_with fail
  exact bodyPost_ret (v := .tuple #[.int .i64 1, .int .i64 0]) (by simp [results, results24, go_sem]) rfl ⟨rfl, rfl⟩
theorem bcount4 (w : World) : Calls prog 24 #[.int .i64 4] w fun e w' => e = .returned (.tuple #[.int .i64 6, .int .i64 0]) ∧ w' = w := by
  go_enter func24, ntmps24
  go_wp2_with fail
  refine (ports4 _).mono ?_
  rintro e w' ⟨rfl, rfl⟩
  go_wp2_with fail
  refine (count4 _).mono ?_
  rintro e w' ⟨rfl, rfl⟩
  go_wp2_with fail
  exact bodyPost_ret (v := .tuple #[.int .i64 6, .int .i64 0]) (by simp [results, results24, go_sem]) rfl ⟨rfl, rfl⟩
theorem pcount2 (w : World) : Calls prog 11 #[.int .i64 2] w fun e w' => e = .returned (.int .i64 1) ∧ w' = w := by
  go_enter func11, ntmps11
  go_wp2_with fail
  refine (bcount2 _).mono ?_
  rintro e w' ⟨rfl, rfl⟩
  go_wp2_with fail
  exact bodyPost_ret (v := .int .i64 1) (by simp [results, results11, go_sem]) rfl ⟨rfl, rfl⟩
theorem pcount4 (w : World) : Calls prog 11 #[.int .i64 4] w fun e w' => e = .returned (.int .i64 6) ∧ w' = w := by
  go_enter func11, ntmps11
  go_wp2_with fail
  refine (bcount4 _).mono ?_
  rintro e w' ⟨rfl, rfl⟩
  go_wp2_with fail
  exact bodyPost_ret (v := .int .i64 6) (by simp [results, results11, go_sem]) rfl ⟨rfl, rfl⟩
end Go.Proofs.Ghw
namespace Go.Proofs.Ghw
open Go Go.Pt Go.RowKit
theorem fits2 (a : Option Addr) (c : Nat) (w : World) : Calls prog 50 #[.int .i64 2, .slice a 1 c] w fun e w' => e = .returned (.int .i64 0) ∧ w' = w := by
  go_enter func50, ntmps50
  go_wp2_with fail
  refine (ports2 _).mono ?_
  rintro e w' ⟨rfl, rfl⟩
  go_wp2_with fail
  refine (count2 _).mono ?_
  rintro e w' ⟨rfl, rfl⟩
  go_wp2_with fail
  exact bodyPost_ret (v := .int .i64 0) (by simp [results, results50, go_sem]) rfl ⟨rfl, rfl⟩
theorem fits4 (a : Option Addr) (c : Nat) (w : World) : Calls prog 50 #[.int .i64 4, .slice a 6 c] w fun e w' => e = .returned (.int .i64 0) ∧ w' = w := by
  go_enter func50, ntmps50
  go_wp2_with fail
  refine (ports4 _).mono ?_
  rintro e w' ⟨rfl, rfl⟩
  go_wp2_with fail
  refine (count4 _).mono ?_
  rintro e w' ⟨rfl, rfl⟩
  go_wp2_with fail
  exact bodyPost_ret (v := .int .i64 0) (by simp [results, results50, go_sem]) rfl ⟨rfl, rfl⟩
theorem bit_any (b : Bool) (w : World) : Calls prog 65 #[.bool b] w fun e w' => e = .returned (.int .i64 (if b then 1 else 0)) ∧ w' = w := by
  cases b
  all_goals
    go_enter func65, ntmps65
    go_wp2_with fail
  · exact bodyPost_ret (v := .int .i64 0) (by simp [results, results65, go_sem]) rfl ⟨rfl, rfl⟩
  · exact bodyPost_ret (v := .int .i64 1) (by simp [results, results65, go_sem]) rfl ⟨rfl, rfl⟩
end Go.Proofs.Ghw
