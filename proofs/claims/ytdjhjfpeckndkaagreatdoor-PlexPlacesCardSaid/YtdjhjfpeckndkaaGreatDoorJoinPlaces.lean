/- The closed facts of the row of Places, one by one. -/
import Derived.Test.YtdjhjfpeckndkaaGreatDoorRows
import Derived.Test.YtdjhjfpeckndkaaGreatDoorChecked
import Derived.ProofKit
import Derived.Stop.Joined
import Derived.JoinedOf
namespace Go.Proofs.YtdjhjfpeckndkaaGreatDoor
open Go.ChangeShapes Go.WideShapes Go.ChangeAt Go.RowKit
theorem Places_k1 : (Rows.plexPlacesRow.wf (OpenSpec.ofChange Rows.plexPlacesSpec)) = true := by kernel_rfl
theorem Places_k2 : (laidOutB Tryz.prog) = true := by kernel_rfl
theorem Places_k3 : (mapsRowed Tryz.prog) = true := by kernel_rfl
theorem Places_k4 : (Tryz.f3.params.all (Tryz.prog.readableRec ·)) = true := by kernel_rfl
theorem Places_k5 : (namedTie Tryz.prog Rows.plexPlacesRow.named Rows.plexPlacesSpec.vars) = true := by kernel_rfl
theorem Places_k6 : ((Rows.plexPlacesRow.stops == [])) = true := by kernel_rfl
theorem Places_k7 : ((Tryz.prog.stops == [])) = true := by kernel_rfl
theorem Places_k8 : ((Rows.plexPlacesRow.knobs == [])) = true := by kernel_rfl
theorem Places_k9 : ((Tryz.prog.stopKnobs == [])) = true := by kernel_rfl
theorem Places_k10 : ((Rows.plexPlacesRow.inPlace == Tryz.prog.inPlace 3)) = true := by kernel_rfl
theorem Places_k11 : ((Rows.plexPlacesRow.unfollowed == Tryz.prog.unfollowed 3)) = true := by kernel_rfl
theorem Places_k12 : ((Rows.plexPlacesRow.recurses == Tryz.prog.recurses 3)) = true := by kernel_rfl
theorem Places_k13 : ((Rows.plexPlacesRow.named == Tryz.prog.varsNamed 3)) = true := by kernel_rfl
theorem Places_k14 : ((Rows.plexPlacesRow.maps == (Tryz.f3.params.toList ++ Rows.plexPlacesSpec.plain.varTypes Tryz.prog).any (Tryz.prog.mapsRec ·))) = true := by kernel_rfl
theorem Places_k15 : ((Rows.plexPlacesRow.ifaces == (Tryz.f3.params.toList ++ Rows.plexPlacesSpec.plain.varTypes Tryz.prog).any (Tryz.prog.ifacesRec ·))) = true := by kernel_rfl
theorem Places_k16 : ((Rows.plexPlacesRow.mapsOut == Tryz.prog.mapsAmong Tryz.f3.resultTypes.toList)) = true := by kernel_rfl
theorem Places_k17 : ((Rows.plexPlacesRow.loops == (Tryz.f3.params.toList ++ Rows.plexPlacesSpec.plain.varTypes Tryz.prog).any (Tryz.prog.loopsFrom ·))) = true := by kernel_rfl
theorem Places_k18 : ((Rows.plexPlacesRow.wideKeys == (Tryz.f3.params.toList ++ Rows.plexPlacesSpec.plain.varTypes Tryz.prog ++ Tryz.f3.resultTypes.toList).any (Tryz.prog.wideKeysFrom ·))) = true := by kernel_rfl
theorem Places_k19 : (Rows.plexPlacesSpec.vars.all (Tryz.prog.varReadable ·)) = true := by kernel_rfl
theorem Places_k20 : (Tryz.f3.resultTypes.all (fun t => Tryz.prog.readableRec t && decide (t < Tryz.prog.types.size))) = true := by kernel_rfl
theorem Places_k21 : ((Rows.plexPlacesRow.ifacesOut == Tryz.f3.resultTypes.toList.any (Tryz.prog.ifacesRec ·))) = true := by kernel_rfl
theorem Places_k22 : ((Rows.plexPlacesRow.loopsOut == Tryz.f3.resultTypes.toList.any (Tryz.prog.loopsFrom ·))) = true := by kernel_rfl
theorem Places_k23 : ((Rows.plexPlacesRow.plainKeys == Tryz.prog.plainKeys)) = true := by kernel_rfl
theorem Places_k24 : (Rows.plexPlacesRow.shortTexts.isNone) = true := by kernel_rfl
theorem Places_k25 : (Tryz.prog.stopsHeard) = true := by kernel_rfl
theorem Places_k26 : (Tryz.prog.mayEnter) = true := by kernel_rfl
theorem Places_k27 : ((Rows.plexPlacesRow.lifted == Tryz.prog.liftsFinal)) = true := by kernel_rfl
theorem Places_k28 : ((Tryz.prog.make == some Rows.plexPlacesRow.make)) = true := by kernel_rfl
theorem Places_k29 : ((Rows.plexPlacesRow.kinds == (if Rows.plexPlacesRow.domain.isEmpty then [] else Tryz.f3.params.toList.map fun t => match Tryz.prog.underlying t with | some (.int k) => some k | _ => none))) = true := by kernel_rfl
theorem Places_k30 : ((Rows.plexPlacesRow.pinned == Rows.plexPlacesRow.pinnedBy)) = true := by kernel_rfl
theorem Places_k31 : ((Rows.plexPlacesRow.veiled == (Tryz.f3.params.toList ++ Rows.plexPlacesSpec.plain.varTypes Tryz.prog ++ Tryz.f3.resultTypes.toList).any (Tryz.prog.veiledRec ·))) = true := by kernel_rfl
theorem Places_k32 : (Rows.plexPlacesRow.veiledFits Tryz.prog Tryz.f3.params.toList (Tryz.f3.params.toList ++ Rows.plexPlacesSpec.plain.varTypes Tryz.prog ++ Tryz.f3.resultTypes.toList)) = true := by kernel_rfl
end Go.Proofs.YtdjhjfpeckndkaaGreatDoor
