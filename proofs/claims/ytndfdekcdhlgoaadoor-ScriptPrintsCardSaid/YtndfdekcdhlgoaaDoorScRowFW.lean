/- PROVED: mezzotintlaw26.ScriptPrints returns true at every argument and leaves its argument as it was (the tied card: the listed tables and the fonts' names start as their text lays them). Conditions: those of the given statement alone. -/
import Derived.Test.YtndfdekcdhlgoaaDoorScJoinedScf
import Derived.Test.YtndfdekcdhlgoaaDoorCards
import Derived.Test.YtndfdekcdhlgoaaDoorTie
import Derived.SevenTiedAt
import Derived.Stop.Joined
set_option linter.unusedVariables false
set_option linter.unusedSimpArgs false
namespace Go.Proofs.YtndfdekcdhlgoaaDoor
open Go.ChangeShapes Go.WideShapes Go.ChangeAt Go.RowKit
theorem scf_main : Tryd.pinned.checked.prog.mainIs = some ((Rows.scriptPrintsCard.stood.harness).1, (Rows.scriptPrintsCard.stood.harness).2.toList) := by kernel_rfl
theorem scf_looks : false = Tryd.pinned.checked.prog.looks [] := by kernel_rfl
theorem Scf_hw : Rows.scriptPrintsRow.wfByText (OpenSpec.ofChange Rows.scriptPrintsSpec) = true := by kernel_rfl
theorem Scf_goes : false = Rows.scriptPrintsRow.goesBy Tryd.pinned.checked.prog := by kernel_rfl
theorem Scf_stand : ([22].all fun u => !Tryd.prog.wantsStandIn u) = true := by kernel_rfl
theorem Scf_plain (f : FuncId) (fn : Func) (hf : Tryd.pinned.checked.prog.funcNamed Rows.scriptPrintsRow.func = some f) (hfn : Tryd.pinned.checked.prog.funcs[f]? = some fn) :
    false = Tryd.pinned.checked.prog.looks [] ∧ ∀ (j : Nat) t, fn.params[j]? = some t → Tryd.pinned.checked.prog.wantsStandIn t = false := by
  obtain rfl : f = 3 := Option.some.inj (Scf_named.symm.trans hf) |>.symm
  obtain rfl : fn = Tryd.f3 := (Option.some.inj (Tryd.func3.symm.trans hfn)).symm
  refine ⟨scf_looks, fun j t ht => ?_⟩
  rw [Tryd.params3] at ht
  have hm : t ∈ [22] := by simpa using Array.mem_of_getElem? ht
  have := List.all_eq_true.1 Scf_stand t hm
  exact (show Tryd.prog.wantsStandIn t = false by simpa using this)
theorem ScriptPrints_card : Rows.ScriptPrintsCardSaid :=
  Claim7.holds_tied_plain_at .later [] _ _ _ _ ScriptPrints_said (fun _ h => by cases h) Scf_hw (fun _ h => by cases h) scriptPrints_row_tie rfl ⟨rfl, rfl⟩ scf_main rfl Scf_plain Scf_goes
#print axioms ScriptPrints_card
end Go.Proofs.YtndfdekcdhlgoaaDoor
