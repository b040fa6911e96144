/- The closed facts of the row of Places, joined. -/
import Derived.Test.YtdjhjfpeckndkaaGreatDoorJoinPlaces
namespace Go.Proofs.YtdjhjfpeckndkaaGreatDoor
theorem and_true2 {a b : Bool} (h : a = true) (k : b = true) : (a && b) = true := by rw [h, k]; rfl
open Go.ChangeShapes Go.WideShapes Go.ChangeAt Go.RowKit
set_option maxRecDepth 100000 in
theorem Places_closed : joinedFacts Tryz.prog 3 Tryz.f3 Rows.plexPlacesSpec Rows.plexPlacesRow = true := by
  unfold joinedFacts
  exact (and_true2 (and_true2 (and_true2 (and_true2 (and_true2 (and_true2 (and_true2 (and_true2 (and_true2 (and_true2 (and_true2 (and_true2 (and_true2 (and_true2 (and_true2 (and_true2 (and_true2 (and_true2 (and_true2 (and_true2 (and_true2 (and_true2 (and_true2 (and_true2 (and_true2 (and_true2 (and_true2 (and_true2 (and_true2 (and_true2 (and_true2 Places_k1 Places_k2) Places_k3) Places_k4) Places_k5) Places_k6) Places_k7) Places_k8) Places_k9) Places_k10) Places_k11) Places_k12) Places_k13) Places_k14) Places_k15) Places_k16) Places_k17) Places_k18) Places_k19) Places_k20) Places_k21) Places_k22) Places_k23) Places_k24) Places_k25) Places_k26) Places_k27) Places_k28) Places_k29) Places_k30) Places_k31) Places_k32)
end Go.Proofs.YtdjhjfpeckndkaaGreatDoor
