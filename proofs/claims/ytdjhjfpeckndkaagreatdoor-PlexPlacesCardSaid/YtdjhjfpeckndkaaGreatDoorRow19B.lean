/- PROVED: mezzotintlaw19.PlexPlaces returns true at every argument and leaves its arguments as they were (the tied card: two tables of package unicode/utf8 start as their text lays them). Conditions: those of the given statement alone. -/
import Derived.Test.YtdjhjfpeckndkaaGreatDoorRow19
import Derived.Test.YtdjhjfpeckndkaaGreatDoorJoinedPlaces
namespace Go.Proofs.YtdjhjfpeckndkaaGreatDoor
open Go.ChangeShapes Go.WideShapes Go.ChangeAt Go.RowKit
theorem Places_named : Tryz.prog.funcNamed Rows.plexPlacesRow.func = some 3 := by kernel_rfl
theorem Places_inst : Tryz.f3.isInstance Tryz.prog Rows.plexPlacesRow.origin Rows.plexPlacesRow.targs := of_decide_eq_true (by kernel_rfl)
set_option maxHeartbeats 1000000 in
theorem Places_wrap : Tryz.f3.isWrapper Tryz.prog Rows.plexPlacesRow.wrapper Rows.plexPlacesRow.mainSum := by
  unfold Func.isWrapper
  first | (rw [if_pos (by decide +kernel)]; kernel_rfl) | (rw [if_neg (by decide +kernel)]; exact ⟨rfl, rfl⟩)
theorem PlexPlaces_said : Rows.PlexPlacesSaid :=
  OpenClaim.holds_of_wide 3 Tryz.f3 rfl rfl rfl rfl rfl rfl rfl ⟨rfl, rfl, rfl, rfl, rfl⟩ rfl rfl rfl rfl rfl Places_named Tryz.func3 Places_closed Places_inst Places_wrap
    (fun os started H enc _ => PlexPlaces_lifted os started H enc)
end Go.Proofs.YtdjhjfpeckndkaaGreatDoor
