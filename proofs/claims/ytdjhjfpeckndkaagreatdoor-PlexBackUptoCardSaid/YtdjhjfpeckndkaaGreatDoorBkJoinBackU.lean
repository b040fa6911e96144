/- The closed facts of the row of BackU, one by one. -/
import Derived.Test.YtdjhjfpeckndkaaGreatDoorRows
import Derived.Test.YtdjhjfpeckndkaaGreatDoorChecked
import Derived.ProofKit
import Derived.Stop.Joined
import Derived.JoinedOf
set_option linter.unusedVariables false
set_option linter.unusedSimpArgs false
namespace Go.Proofs.YtdjhjfpeckndkaaGreatDoor
open Go.ChangeShapes Go.WideShapes Go.ChangeAt Go.RowKit
theorem BackU_k1 : (Rows.plexBackUptoRow.wf (OpenSpec.ofChange Rows.plexBackSpec)) = true := by kernel_rfl
theorem BackU_k2 : (laidOutB Tryz.prog) = true := by kernel_rfl
theorem BackU_k3 : (mapsRowed Tryz.prog) = true := by kernel_rfl
theorem BackU_k4 : (Tryz.f4.params.all (Tryz.prog.readableRec ·)) = true := by kernel_rfl
theorem BackU_k5 : (namedTie Tryz.prog Rows.plexBackUptoRow.named Rows.plexBackSpec.vars) = true := by kernel_rfl
theorem BackU_k6 : ((Rows.plexBackUptoRow.stops == [])) = true := by kernel_rfl
theorem BackU_k7 : ((Tryz.prog.stops == [])) = true := by kernel_rfl
theorem BackU_k8 : ((Rows.plexBackUptoRow.knobs == [])) = true := by kernel_rfl
theorem BackU_k9 : ((Tryz.prog.stopKnobs == [])) = true := by kernel_rfl
theorem BackU_k10 : ((Rows.plexBackUptoRow.inPlace == Tryz.prog.inPlace 4)) = true := by kernel_rfl
theorem BackU_k11 : ((Rows.plexBackUptoRow.unfollowed == Tryz.prog.unfollowed 4)) = true := by kernel_rfl
theorem BackU_k12 : ((Rows.plexBackUptoRow.recurses == Tryz.prog.recurses 4)) = true := by kernel_rfl
theorem BackU_k13 : ((Rows.plexBackUptoRow.named == Tryz.prog.varsNamed 4)) = true := by kernel_rfl
theorem BackU_k14 : ((Rows.plexBackUptoRow.maps == (Tryz.f4.params.toList ++ Rows.plexBackSpec.plain.varTypes Tryz.prog).any (Tryz.prog.mapsRec ·))) = true := by kernel_rfl
theorem BackU_k15 : ((Rows.plexBackUptoRow.ifaces == (Tryz.f4.params.toList ++ Rows.plexBackSpec.plain.varTypes Tryz.prog).any (Tryz.prog.ifacesRec ·))) = true := by kernel_rfl
theorem BackU_k16 : ((Rows.plexBackUptoRow.mapsOut == Tryz.prog.mapsAmong Tryz.f4.resultTypes.toList)) = true := by kernel_rfl
theorem BackU_k17 : ((Rows.plexBackUptoRow.loops == (Tryz.f4.params.toList ++ Rows.plexBackSpec.plain.varTypes Tryz.prog).any (Tryz.prog.loopsFrom ·))) = true := by kernel_rfl
theorem BackU_k18 : ((Rows.plexBackUptoRow.wideKeys == (Tryz.f4.params.toList ++ Rows.plexBackSpec.plain.varTypes Tryz.prog ++ Tryz.f4.resultTypes.toList).any (Tryz.prog.wideKeysFrom ·))) = true := by kernel_rfl
theorem BackU_k19 : (Rows.plexBackSpec.vars.all (Tryz.prog.varReadable ·)) = true := by kernel_rfl
theorem BackU_k20 : (Tryz.f4.resultTypes.all (fun t => Tryz.prog.readableRec t && decide (t < Tryz.prog.types.size))) = true := by kernel_rfl
theorem BackU_k21 : ((Rows.plexBackUptoRow.ifacesOut == Tryz.f4.resultTypes.toList.any (Tryz.prog.ifacesRec ·))) = true := by kernel_rfl
theorem BackU_k22 : ((Rows.plexBackUptoRow.loopsOut == Tryz.f4.resultTypes.toList.any (Tryz.prog.loopsFrom ·))) = true := by kernel_rfl
theorem BackU_k23 : ((Rows.plexBackUptoRow.plainKeys == Tryz.prog.plainKeys)) = true := by kernel_rfl
theorem BackU_k24 : (Rows.plexBackUptoRow.shortTexts.isNone) = true := by kernel_rfl
theorem BackU_k25 : (Tryz.prog.stopsHeard) = true := by kernel_rfl
theorem BackU_k26 : (Tryz.prog.mayEnter) = true := by kernel_rfl
theorem BackU_k27 : ((Rows.plexBackUptoRow.lifted == Tryz.prog.liftsFinal)) = true := by kernel_rfl
theorem BackU_k28 : ((Tryz.prog.make == some Rows.plexBackUptoRow.make)) = true := by kernel_rfl
theorem BackU_k29 : ((Rows.plexBackUptoRow.kinds == (if Rows.plexBackUptoRow.domain.isEmpty then [] else Tryz.f4.params.toList.map fun t => match Tryz.prog.underlying t with | some (.int k) => some k | _ => none))) = true := by kernel_rfl
theorem BackU_k30 : ((Rows.plexBackUptoRow.pinned == Rows.plexBackUptoRow.pinnedBy)) = true := by kernel_rfl
theorem BackU_k31 : ((Rows.plexBackUptoRow.veiled == (Tryz.f4.params.toList ++ Rows.plexBackSpec.plain.varTypes Tryz.prog ++ Tryz.f4.resultTypes.toList).any (Tryz.prog.veiledRec ·))) = true := by kernel_rfl
theorem BackU_k32 : (Rows.plexBackUptoRow.veiledFits Tryz.prog Tryz.f4.params.toList (Tryz.f4.params.toList ++ Rows.plexBackSpec.plain.varTypes Tryz.prog ++ Tryz.f4.resultTypes.toList)) = true := by kernel_rfl
end Go.Proofs.YtdjhjfpeckndkaaGreatDoor
