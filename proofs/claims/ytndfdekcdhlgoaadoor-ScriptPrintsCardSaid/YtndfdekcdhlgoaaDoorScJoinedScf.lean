/- The closed facts of the row of Scf, joined. -/
/- ScriptPrints' row: the statement of the first form. -/
import Derived.Test.YtndfdekcdhlgoaaDoorScJoinScf
import Derived.Test.YtndfdekcdhlgoaaDoorScPost
set_option linter.unusedVariables false
set_option linter.unusedSimpArgs false
namespace Go.Proofs.YtndfdekcdhlgoaaDoor
theorem and_true2 {a b : Bool} (h : a = true) (k : b = true) : (a && b) = true := by rw [h, k]; rfl
open Go.ChangeShapes Go.WideShapes Go.ChangeAt Go.RowKit
set_option maxRecDepth 100000 in
theorem Scf_closed : joinedFacts Tryd.prog 3 Tryd.f3 (OpenSpec.ofChange Rows.scriptPrintsSpec).bare Rows.scriptPrintsRow = true := by
  unfold joinedFacts
  exact (and_true2 (and_true2 (and_true2 (and_true2 (and_true2 (and_true2 (and_true2 (and_true2 (and_true2 (and_true2 (and_true2 (and_true2 (and_true2 (and_true2 (and_true2 (and_true2 (and_true2 (and_true2 (and_true2 (and_true2 (and_true2 (and_true2 (and_true2 (and_true2 (and_true2 (and_true2 (and_true2 (and_true2 (and_true2 (and_true2 (and_true2 Scf_k1 Scf_k2) Scf_k3) Scf_k4) Scf_k5) Scf_k6) Scf_k7) Scf_k8) Scf_k9) Scf_k10) Scf_k11) Scf_k12) Scf_k13) Scf_k14) Scf_k15) Scf_k16) Scf_k17) Scf_k18) Scf_k19) Scf_k20) Scf_k21) Scf_k22) Scf_k23) Scf_k24) Scf_k25) Scf_k26) Scf_k27) Scf_k28) Scf_k29) Scf_k30) Scf_k31) Scf_k32)
end Go.Proofs.YtndfdekcdhlgoaaDoor
namespace Go.Proofs.YtndfdekcdhlgoaaDoor
open Go.ChangeShapes Go.WideShapes Go.ChangeAt Go.RowKit
theorem Scf_named : Tryd.prog.funcNamed Rows.scriptPrintsRow.func = some 3 := by kernel_rfl
theorem Scf_inst : Tryd.f3.isInstance Tryd.prog Rows.scriptPrintsRow.origin Rows.scriptPrintsRow.targs := of_decide_eq_true (by kernel_rfl)
set_option maxHeartbeats 1000000 in
theorem Scf_wrap : Tryd.f3.isWrapper Tryd.prog Rows.scriptPrintsRow.wrapper Rows.scriptPrintsRow.mainSum := by
  unfold Func.isWrapper
  first | (rw [if_pos (by decide +kernel)]; kernel_rfl) | (rw [if_neg (by decide +kernel)]; exact ⟨rfl, rfl⟩)
theorem ScriptPrints_said : Rows.ScriptPrintsSaid :=
  OpenClaim.holds_of_cond 3 Tryd.f3 rfl rfl rfl rfl rfl rfl rfl ⟨rfl, rfl, rfl, rfl, rfl⟩ rfl rfl rfl rfl rfl Scf_named Tryd.func3 Scf_closed Scf_inst Scf_wrap
    (fun os started H enc _ F => by rw [OpenClaim.pre_eq_preRow]; exact ScriptPrintsF_lifted os started H enc F)
end Go.Proofs.YtndfdekcdhlgoaaDoor
