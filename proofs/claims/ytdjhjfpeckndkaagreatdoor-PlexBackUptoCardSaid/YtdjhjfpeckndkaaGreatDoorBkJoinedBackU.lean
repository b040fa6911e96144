/- The closed facts of the row of BackU, joined. -/
/- PlexBack's row: the statement of the second form. -/
import Derived.Test.YtdjhjfpeckndkaaGreatDoorBkJoinBackU
import Derived.Test.YtdjhjfpeckndkaaGreatDoorBkPost
set_option linter.unusedVariables false
set_option linter.unusedSimpArgs false
namespace Go.Proofs.YtdjhjfpeckndkaaGreatDoor
theorem and_true2 {a b : Bool} (h : a = true) (k : b = true) : (a && b) = true := by rw [h, k]; rfl
open Go.ChangeShapes Go.WideShapes Go.ChangeAt Go.RowKit
set_option maxRecDepth 100000 in
theorem BackU_closed : joinedFacts Tryz.prog 4 Tryz.f4 (Rows.OpenSpec.upto Rows.plexBackSpec).bare Rows.plexBackUptoRow = true := by
  unfold joinedFacts
  exact (and_true2 (and_true2 (and_true2 (and_true2 (and_true2 (and_true2 (and_true2 (and_true2 (and_true2 (and_true2 (and_true2 (and_true2 (and_true2 (and_true2 (and_true2 (and_true2 (and_true2 (and_true2 (and_true2 (and_true2 (and_true2 (and_true2 (and_true2 (and_true2 (and_true2 (and_true2 (and_true2 (and_true2 (and_true2 (and_true2 (and_true2 BackU_k1 BackU_k2) BackU_k3) BackU_k4) BackU_k5) BackU_k6) BackU_k7) BackU_k8) BackU_k9) BackU_k10) BackU_k11) BackU_k12) BackU_k13) BackU_k14) BackU_k15) BackU_k16) BackU_k17) BackU_k18) BackU_k19) BackU_k20) BackU_k21) BackU_k22) BackU_k23) BackU_k24) BackU_k25) BackU_k26) BackU_k27) BackU_k28) BackU_k29) BackU_k30) BackU_k31) BackU_k32)
end Go.Proofs.YtdjhjfpeckndkaaGreatDoor
namespace Go.Proofs.YtdjhjfpeckndkaaGreatDoor
open Go.ChangeShapes Go.WideShapes Go.ChangeAt Go.RowKit
theorem BackU_named : Tryz.prog.funcNamed Rows.plexBackUptoRow.func = some 4 := by kernel_rfl
theorem BackU_inst : Tryz.f4.isInstance Tryz.prog Rows.plexBackUptoRow.origin Rows.plexBackUptoRow.targs := of_decide_eq_true (by kernel_rfl)
set_option maxHeartbeats 1000000 in
theorem BackU_wrap : Tryz.f4.isWrapper Tryz.prog Rows.plexBackUptoRow.wrapper Rows.plexBackUptoRow.mainSum := by
  unfold Func.isWrapper
  first | (rw [if_pos (by decide +kernel)]; kernel_rfl) | (rw [if_neg (by decide +kernel)]; exact ⟨rfl, rfl⟩)
theorem PlexBackUpto_said : Rows.PlexBackUptoSaid :=
  OpenClaim.holds_of_cond 4 Tryz.f4 rfl rfl rfl rfl rfl rfl rfl ⟨rfl, rfl, rfl, rfl, rfl⟩ rfl rfl rfl rfl rfl BackU_named Tryz.func4 BackU_closed BackU_inst BackU_wrap
    (fun os started H enc _ F => by rw [OpenClaim.pre_eq_preRow]; exact PlexBack_lifted os started H enc F)
end Go.Proofs.YtdjhjfpeckndkaaGreatDoor
