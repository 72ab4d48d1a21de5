/- What the laid variables give the walk of AmpTexts; a start that fits. No condition. -/
import Derived.Test.YtmjnjghhdkoljaaDoorStrE
import Derived.Test.YtmjnjghhdkoljaaDoorRowAid
import Derived.Lib.LaidU8
import Derived.Stop.LaidErr
import Derived.SizedLaws
import Derived.LaidMore
import Derived.SevenTiedAt
import Derived.ProofKit
import Derived.OpenShut
namespace Go.Proofs.YtmjnjghhdkoljaaDoor.ampTexts
open Go Go.ChangeShapes Go.WideShapes Go.ChangeAt Go.RowKit Amp
open Go.ChangeMaps (open_string shut_string)

theorem own : ownKnob Tryd.prog.godebug = none := by kernel_rfl
theorem laidOut : laidOutB Tryd.prog = true := by kernel_rfl
theorem row_err (u : TypeId) (h : Tryd.prog.typeName? 3 u = some "*errors.errorString") : u = 98 :=
  have star : "*" ++ "errors.errorString" = "*errors.errorString" := by decide
  typeName_ptr_named (nm := "errors.errorString") (by rw [star]; kernel_rfl) (by kernel_rfl) (by decide) u (by rw [star]; exact h)
theorem met_laid {W : World} (h : laidMet Tryd.prog Rows.ampTextsRow.laid W) : LaidW W := by
  have h3 : laidMet Tryd.prog (("internal/strconv.uint64pow10", Rows.laid_internal_strconv_uint64pow10) :: ("strconv.ErrRange", Rows.laid_strconv_ErrRange) :: ("strconv.ErrSyntax", Rows.laid_strconv_ErrSyntax) :: []) W := h.tail.tail
  refine ⟨?_, ?_, ?_⟩
  · rw [show (Rows.laid_internal_strconv_uint64pow10 : DataW Unit) = Lib.tabData .u64 Lib.pow10Tab by kernel_rfl] at h3
    exact Lib.tabIs_of_head (k := .u64) (zs := Lib.pow10Tab) (g := 3) (t := 102) (e := 80) (n := 20) (by kernel_rfl) (by kernel_rfl) Tryd.underlying102 Tryd.underlying80 (by kernel_rfl) (by kernel_rfl) h3
  · obtain ⟨a0, s0, hv0, -, -, -⟩ := laid_sentinel (g := 1) h3.tail.tail (by kernel_rfl) (by kernel_rfl) Tryd.underlying39 row_err Tryd.underlying98 Tryd.underlying100 rfl rfl Tryd.underlying9 (by kernel_rfl) (by kernel_rfl)
    exact ⟨_, _, hv0⟩
  · obtain ⟨a0, s0, hv0, -, -, -⟩ := laid_sentinel (g := 2) h3.tail (by kernel_rfl) (by kernel_rfl) Tryd.underlying39 row_err Tryd.underlying98 Tryd.underlying100 rfl rfl Tryd.underlying9 (by kernel_rfl) (by kernel_rfl)
    exact ⟨_, _, hv0⟩
theorem door_met (os : Os) (args : Array Value) : laidMet Tryd.prog Rows.ampTextsRow.laid ((World.doorLaid Tryd.prog 62 os).forCall (fun _ _ => 0) ⟨#[], args, []⟩).memory :=
  laidMet_of_run' 8 (by kernel_rfl) (by kernel_rfl)

end Go.Proofs.YtmjnjghhdkoljaaDoor.ampTexts
