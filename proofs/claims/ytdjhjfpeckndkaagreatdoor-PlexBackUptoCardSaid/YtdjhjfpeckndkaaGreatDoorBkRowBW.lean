/- PROVED: mezzotintlaw19.PlexBack returns true at every argument of bulk at most 1048576 and leaves its arguments as they were (the second form's tied card). Conditions: those of the given statement alone. -/
import Derived.Test.YtdjhjfpeckndkaaGreatDoorBkJoinedBackU
import Derived.Test.YtdjhjfpeckndkaaGreatDoorCards
import Derived.Test.YtdjhjfpeckndkaaGreatDoorTie
import Derived.SevenTiedAt
import Derived.Stop.Joined
set_option linter.unusedVariables false
set_option linter.unusedSimpArgs false
namespace Go.Proofs.YtdjhjfpeckndkaaGreatDoor
open Go.ChangeShapes Go.WideShapes Go.ChangeAt Go.RowKit
theorem backu_main : Tryz.pinned.checked.prog.mainIs = some ((Rows.plexBackUptoCard.stood.harness).1, (Rows.plexBackUptoCard.stood.harness).2.toList) := by kernel_rfl
theorem backu_looks : true = Tryz.pinned.checked.prog.looks [] := by kernel_rfl
theorem BackU_hw : Rows.plexBackUptoRow.wfByText (Rows.OpenSpec.upto Rows.plexBackSpec) = true := by kernel_rfl
theorem BackU_goes : false = Rows.plexBackUptoRow.goesBy Tryz.pinned.checked.prog := by kernel_rfl
theorem BackU_stand : ([31, 22, 22].all fun u => !Tryz.prog.wantsStandIn u) = true := by kernel_rfl
theorem BackU_plain (f : FuncId) (fn : Func) (hf : Tryz.pinned.checked.prog.funcNamed Rows.plexBackUptoRow.func = some f) (hfn : Tryz.pinned.checked.prog.funcs[f]? = some fn) :
    true = Tryz.pinned.checked.prog.looks [] ∧ ∀ (j : Nat) t, fn.params[j]? = some t → Tryz.pinned.checked.prog.wantsStandIn t = false := by
  obtain rfl : f = 4 := Option.some.inj (BackU_named.symm.trans hf) |>.symm
  obtain rfl : fn = Tryz.f4 := (Option.some.inj (Tryz.func4.symm.trans hfn)).symm
  refine ⟨backu_looks, fun j t ht => ?_⟩
  rw [Tryz.params4] at ht
  have hm : t ∈ [31, 22, 22] := by simpa using Array.mem_of_getElem? ht
  have := List.all_eq_true.1 BackU_stand t hm
  exact (show Tryz.prog.wantsStandIn t = false by simpa using this)
theorem PlexBackUpto_card : Rows.PlexBackUptoCardSaid :=
  Claim7.holds_tied_plain_at .later [] _ _ _ _ PlexBackUpto_said (fun _ h => by cases h) BackU_hw (fun _ h => by cases h) plexBackUpto_row_tie rfl ⟨rfl, rfl⟩ backu_main rfl BackU_plain BackU_goes
#print axioms PlexBackUpto_card
end Go.Proofs.YtdjhjfpeckndkaaGreatDoor
