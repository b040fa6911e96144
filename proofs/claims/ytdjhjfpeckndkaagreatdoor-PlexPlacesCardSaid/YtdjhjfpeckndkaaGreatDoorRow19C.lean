/- PROVED: mezzotintlaw19.PlexPlaces returns true at every argument and leaves its arguments as they were (the tied card: two tables of package unicode/utf8 start as their text lays them). Conditions: those of the given statement alone. -/
import Derived.Test.YtdjhjfpeckndkaaGreatDoorRow19B
namespace Go.Proofs.YtdjhjfpeckndkaaGreatDoor
open Go.ChangeShapes Go.WideShapes Go.ChangeAt Go.RowKit
theorem seat_main : Tryz.pinned.checked.prog.mainIs = some ((Rows.plexPlacesCard.stood.harness).1, (Rows.plexPlacesCard.stood.harness).2.toList) := by kernel_rfl
theorem seat_looks : true = Tryz.pinned.checked.prog.looks [] := by kernel_rfl
theorem Places_hw : Rows.plexPlacesRow.wfByText (OpenSpec.ofChange Rows.plexPlacesSpec) = true := by kernel_rfl
theorem Places_goes : false = Rows.plexPlacesRow.goesBy Tryz.pinned.checked.prog := by kernel_rfl
theorem Places_stand : ([22, 3].all fun u => !Tryz.prog.wantsStandIn u) = true := by kernel_rfl
theorem Places_plain (f : FuncId) (fn : Func) (hf : Tryz.pinned.checked.prog.funcNamed Rows.plexPlacesRow.func = some f) (hfn : Tryz.pinned.checked.prog.funcs[f]? = some fn) :
    true = Tryz.pinned.checked.prog.looks [] ∧ ∀ (j : Nat) t, fn.params[j]? = some t → Tryz.pinned.checked.prog.wantsStandIn t = false := by
  obtain rfl : f = 3 := Option.some.inj (Places_named.symm.trans hf) |>.symm
  obtain rfl : fn = Tryz.f3 := (Option.some.inj (Tryz.func3.symm.trans hfn)).symm
  refine ⟨seat_looks, fun j t ht => ?_⟩
  rw [Tryz.params3] at ht
  have hm : t ∈ [22, 3] := by simpa using Array.mem_of_getElem? ht
  have := List.all_eq_true.1 Places_stand t hm
  exact (show Tryz.prog.wantsStandIn t = false by simpa using this)
theorem PlexPlaces_card : Rows.PlexPlacesCardSaid :=
  Claim7.holds_tied_plain_at .later [] _ _ _ _ PlexPlaces_said (fun _ h => by cases h) Places_hw (fun _ h => by cases h) plexPlaces_row_tie rfl ⟨rfl, rfl⟩ seat_main rfl Places_plain Places_goes
#print axioms PlexPlaces_card
end Go.Proofs.YtdjhjfpeckndkaaGreatDoor
