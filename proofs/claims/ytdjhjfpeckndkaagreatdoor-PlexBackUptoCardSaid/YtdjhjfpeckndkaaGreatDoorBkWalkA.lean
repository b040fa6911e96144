/- Contracts of plex's and the reference's scanning functions: inside, blank, regular, Skip, Word. -/
import Derived.Test.YtdjhjfpeckndkaaGreatDoorBkMem
import Derived.Test.YtdjhjfpeckndkaaGreatDoorShelf
set_option linter.unusedVariables false
set_option linter.unusedSimpArgs false
namespace Go.Proofs.YtdjhjfpeckndkaaGreatDoor
open Go.RowKit

theorem indexByte_any (s : ByteArray) (c : UInt8) (w : World) :
    Calls Tryz.prog 113 #[.string s, .int .u8 c.toNat] w fun e w' => e = .returned (.int .i64 (idxC s.data.toList c)) ∧ w = w' :=
  (Tryz.strings_IndexByte s c.toNat w).mono fun e w' ⟨he, hw⟩ => ⟨by rw [he]; simp [idxC], hw.symm⟩

set_option maxHeartbeats 400000 in
theorem inside_any (A : Option Addr) (n c : Nat) (k : Int) (w : World) (hn : n ≤ 4611686018427387904) :
    Calls Tryz.prog 57 #[.slice A n c, .int .i64 k] w fun e w' => e = .returned (.int .i64 (insideF n k)) ∧ w = w' := by
  go_enter Tryz.func57, Tryz.ntmps57
  go_wp2
  all_goals (go_ret; exact ⟨ret_int (by unfold insideF; split <;> omega), rfl⟩)

set_option maxHeartbeats 400000 in
theorem blank_any (c : UInt8) (w : World) :
    Calls Tryz.prog 60 #[.int .u8 c.toNat] w fun e w' => e = .returned (.bool (blankB c)) ∧ w = w' := by
  go_enter Tryz.func60, Tryz.ntmps60
  go_wp2_with (go_at_call 113; refine (indexByte_any _ c _).mono ?_; rintro e w' ⟨rfl, rfl⟩)
  go_ret
  exact ⟨ret_bool (idx_blank c), rfl⟩

set_option maxHeartbeats 400000 in
theorem regular_any (c : UInt8) (w : World) :
    Calls Tryz.prog 58 #[.int .u8 c.toNat] w fun e w' => e = .returned (.bool (regB c)) ∧ w = w' := by
  cases hb : blankB c
  · go_enter Tryz.func58, Tryz.ntmps58
    go_wp2_with (first
      | (go_at_call 60; refine (blank_any c _).mono ?_; rintro e w' ⟨rfl, rfl⟩)
      | (go_at_call 113; refine (indexByte_any _ c _).mono ?_; rintro e w' ⟨rfl, rfl⟩))
    go_ret
    exact ⟨ret_bool (by rw [regB, hb, ← idx_delim c]; rfl), rfl⟩
  · go_enter Tryz.func58, Tryz.ntmps58
    go_wp2_with (first
      | (go_at_call 60; refine (blank_any c _).mono ?_; rintro e w' ⟨rfl, rfl⟩)
      | (go_at_call 113; refine (indexByte_any _ c _).mono ?_; rintro e w' ⟨rfl, rfl⟩))
    go_ret
    exact ⟨ret_bool (by rw [regB, hb]; rfl), rfl⟩

set_option maxHeartbeats 400000 in
theorem rblank_any (c : UInt8) (w : World) :
    Calls Tryz.prog 61 #[.int .u8 c.toNat] w fun e w' => e = .returned (.bool (blankB c)) ∧ w = w' := by
  go_enter Tryz.func61, Tryz.ntmps61
  go_wp2
  all_goals (go_ret; exact ⟨ret_bool (by unfold blankB; rw [Bool.eq_iff_iff]; simp; omega), rfl⟩)
set_option maxHeartbeats 400000 in
theorem rdelim_any (c : UInt8) (w : World) :
    Calls Tryz.prog 114 #[.int .u8 c.toNat] w fun e w' => e = .returned (.bool (delimB c)) ∧ w = w' := by
  go_enter Tryz.func114, Tryz.ntmps114
  go_wp2
  all_goals (go_ret; exact ⟨ret_bool (by unfold delimB; rw [Bool.eq_iff_iff]; simp at *; omega), rfl⟩)
set_option maxHeartbeats 400000 in
theorem rregular_any (c : UInt8) (w : World) :
    Calls Tryz.prog 59 #[.int .u8 c.toNat] w fun e w' => e = .returned (.bool (regB c)) ∧ w = w' := by
  cases hb : blankB c
  all_goals
    go_enter Tryz.func59, Tryz.ntmps59
    go_wp2_with (first
      | (go_at_call 61; refine (rblank_any c _).mono ?_; rintro e w' ⟨rfl, rfl⟩)
      | (go_at_call 114; refine (rdelim_any c _).mono ?_; rintro e w' ⟨rfl, rfl⟩))
    go_ret
    exact ⟨ret_bool (by rw [regB, hb]; simp), rfl⟩
end Go.Proofs.YtdjhjfpeckndkaaGreatDoor
