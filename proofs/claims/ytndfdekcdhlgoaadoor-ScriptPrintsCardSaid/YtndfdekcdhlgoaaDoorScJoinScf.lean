/- The closed facts of the row of Scf, one by one. -/
import Derived.Test.YtndfdekcdhlgoaaDoorRows
import Derived.Test.YtndfdekcdhlgoaaDoorChecked
import Derived.ProofKit
import Derived.Stop.Joined
import Derived.JoinedOf
set_option linter.unusedVariables false
set_option linter.unusedSimpArgs false
namespace Go.Proofs.YtndfdekcdhlgoaaDoor
open Go.ChangeShapes Go.WideShapes Go.ChangeAt Go.RowKit
theorem Scf_k1 : (Rows.scriptPrintsRow.wf (OpenSpec.ofChange Rows.scriptPrintsSpec)) = true := by kernel_rfl
theorem Scf_k2 : (laidOutB Tryd.prog) = true := by kernel_rfl
theorem Scf_k3 : (mapsRowed Tryd.prog) = true := by kernel_rfl
theorem Scf_k4 : (Tryd.f3.params.all (Tryd.prog.readableRec ·)) = true := by kernel_rfl
theorem Scf_k5 : (namedTie Tryd.prog Rows.scriptPrintsRow.named Rows.scriptPrintsSpec.vars) = true := by kernel_rfl
theorem Scf_k6 : ((Rows.scriptPrintsRow.stops == [])) = true := by kernel_rfl
theorem Scf_k7 : ((Tryd.prog.stops == [])) = true := by kernel_rfl
theorem Scf_k8 : ((Rows.scriptPrintsRow.knobs == [])) = true := by kernel_rfl
theorem Scf_k9 : ((Tryd.prog.stopKnobs == [])) = true := by kernel_rfl
theorem Scf_k10 : ((Rows.scriptPrintsRow.inPlace == Tryd.prog.inPlace 3)) = true := by kernel_rfl
theorem Scf_k11 : ((Rows.scriptPrintsRow.unfollowed == Tryd.prog.unfollowed 3)) = true := by kernel_rfl
theorem Scf_k12 : ((Rows.scriptPrintsRow.recurses == Tryd.prog.recurses 3)) = true := by kernel_rfl
theorem Scf_k13 : ((Rows.scriptPrintsRow.named == Tryd.prog.varsNamed 3)) = true := by kernel_rfl
theorem Scf_k14 : ((Rows.scriptPrintsRow.maps == (Tryd.f3.params.toList ++ Rows.scriptPrintsSpec.plain.varTypes Tryd.prog).any (Tryd.prog.mapsRec ·))) = true := by kernel_rfl
theorem Scf_k15 : ((Rows.scriptPrintsRow.ifaces == (Tryd.f3.params.toList ++ Rows.scriptPrintsSpec.plain.varTypes Tryd.prog).any (Tryd.prog.ifacesRec ·))) = true := by kernel_rfl
theorem Scf_k16 : ((Rows.scriptPrintsRow.mapsOut == Tryd.prog.mapsAmong Tryd.f3.resultTypes.toList)) = true := by kernel_rfl
theorem Scf_k17 : ((Rows.scriptPrintsRow.loops == (Tryd.f3.params.toList ++ Rows.scriptPrintsSpec.plain.varTypes Tryd.prog).any (Tryd.prog.loopsFrom ·))) = true := by kernel_rfl
theorem Scf_k18 : ((Rows.scriptPrintsRow.wideKeys == (Tryd.f3.params.toList ++ Rows.scriptPrintsSpec.plain.varTypes Tryd.prog ++ Tryd.f3.resultTypes.toList).any (Tryd.prog.wideKeysFrom ·))) = true := by kernel_rfl
theorem Scf_k19 : (Rows.scriptPrintsSpec.vars.all (Tryd.prog.varReadable ·)) = true := by kernel_rfl
theorem Scf_k20 : (Tryd.f3.resultTypes.all (fun t => Tryd.prog.readableRec t && decide (t < Tryd.prog.types.size))) = true := by kernel_rfl
theorem Scf_k21 : ((Rows.scriptPrintsRow.ifacesOut == Tryd.f3.resultTypes.toList.any (Tryd.prog.ifacesRec ·))) = true := by kernel_rfl
theorem Scf_k22 : ((Rows.scriptPrintsRow.loopsOut == Tryd.f3.resultTypes.toList.any (Tryd.prog.loopsFrom ·))) = true := by kernel_rfl
theorem Scf_k23 : ((Rows.scriptPrintsRow.plainKeys == Tryd.prog.plainKeys)) = true := by kernel_rfl
theorem Scf_k24 : (Rows.scriptPrintsRow.shortTexts.isNone) = true := by kernel_rfl
theorem Scf_k25 : (Tryd.prog.stopsHeard) = true := by kernel_rfl
theorem Scf_k26 : (Tryd.prog.mayEnter) = true := by kernel_rfl
theorem Scf_k27 : ((Rows.scriptPrintsRow.lifted == Tryd.prog.liftsFinal)) = true := by kernel_rfl
theorem Scf_k28 : ((Tryd.prog.make == some Rows.scriptPrintsRow.make)) = true := by kernel_rfl
theorem Scf_k29 : ((Rows.scriptPrintsRow.kinds == (if Rows.scriptPrintsRow.domain.isEmpty then [] else Tryd.f3.params.toList.map fun t => match Tryd.prog.underlying t with | some (.int k) => some k | _ => none))) = true := by kernel_rfl
theorem Scf_k30 : ((Rows.scriptPrintsRow.pinned == Rows.scriptPrintsRow.pinnedBy)) = true := by kernel_rfl
theorem Scf_k31 : ((Rows.scriptPrintsRow.veiled == (Tryd.f3.params.toList ++ Rows.scriptPrintsSpec.plain.varTypes Tryd.prog ++ Tryd.f3.resultTypes.toList).any (Tryd.prog.veiledRec ·))) = true := by kernel_rfl
theorem Scf_k32 : (Rows.scriptPrintsRow.veiledFits Tryd.prog Tryd.f3.params.toList (Tryd.f3.params.toList ++ Rows.scriptPrintsSpec.plain.varTypes Tryd.prog ++ Tryd.f3.resultTypes.toList)) = true := by kernel_rfl
end Go.Proofs.YtndfdekcdhlgoaaDoor
