/- Hexadecimal digits: the plain function, and plex.digit, scan.digit, the references' Hex. -/
import Derived.Test.YtdjhjfpeckndkaaGreatDoorBkWalkB
set_option linter.unusedVariables false
set_option linter.unusedSimpArgs false
namespace Go.Proofs.YtdjhjfpeckndkaaGreatDoor
open Go.RowKit
/-- A digit of any base; 99: it is none. -/
def anyV (c : UInt8) : Int :=
  if 48 ≤ c.toNat ∧ c.toNat ≤ 57 then (c.toNat : Int) - 48 else if 97 ≤ c.toNat ∧ c.toNat ≤ 122 then (c.toNat : Int) - 87 else if 65 ≤ c.toNat ∧ c.toNat ≤ 90 then (c.toNat : Int) - 55 else 99
theorem anyV_range (c : UInt8) : 0 ≤ anyV c ∧ anyV c ≤ 99 := by unfold anyV; split <;> (try split) <;> (try split) <;> omega
theorem hexV_any (c : UInt8) : hexV c = if anyV c ≤ 15 then anyV c else -1 := by
  unfold hexV anyV
  repeat' split
  all_goals omega
def lowB (c : UInt8) : UInt8 := c ||| ((32 : UInt8) * ((c >>> (6 : UInt8)) &&& (1 : UInt8)))
theorem lowB_eq : ∀ c : UInt8, bits BinOp.or IntKind.u8 (c.toNat : Int) (32 * bits BinOp.and IntKind.u8 ((c.toNat : Int) / 64) 1 % 256) = ((lowB c).toNat : Int) := all_u8 (by decide +kernel)
theorem idx_hex : ∀ c : UInt8, idxC [48, 49, 50, 51, 52, 53, 54, 55, 56, 57, 97, 98, 99, 100, 101, 102] (lowB c) = hexV c := all_u8 (by decide +kernel)

set_option maxHeartbeats 400000 in
theorem digit_any (c : UInt8) (w : World) :
    Calls Tryz.prog 152 #[.int .u8 c.toNat] w fun e w' => e = .returned (.int .i64 (hexV c)) ∧ w = w' := by
  go_enter Tryz.func152, Tryz.ntmps152
  go_wp2_with (go_at_call 113; rw [lowB_eq c]; refine (indexByte_any _ (lowB c) _).mono ?_; rintro e w' ⟨rfl, rfl⟩)
  go_ret
  exact ⟨ret_int (idx_hex c), rfl⟩

set_option maxHeartbeats 400000 in
theorem sdigit_any (c : UInt8) (w : World) :
    Calls Tryz.prog 307 #[.int .u8 c.toNat] w fun e w' => e = .returned (.int .i64 (hexV c)) ∧ w = w' := by
  have hlt := c.toNat_lt
  go_enter Tryz.func307, Tryz.ntmps307
  go_wp2
  all_goals (go_ret; exact ⟨ret_int (by unfold hexV; simp at *; (repeat' split) <;> omega), rfl⟩)

set_option maxHeartbeats 400000 in
theorem r01hex_any (c : UInt8) (w : World) :
    Calls Tryz.prog 188 #[.int .u8 c.toNat] w fun e w' => e = .returned (.int .i64 (anyV c)) ∧ w = w' := by
  have hlt := c.toNat_lt
  go_enter Tryz.func188, Tryz.ntmps188
  go_wp2
  all_goals (go_ret; exact ⟨ret_int (by unfold anyV; simp at *; (repeat' split) <;> omega), rfl⟩)

set_option maxHeartbeats 400000 in
theorem ddigit_any (c : UInt8) (w : World) :
    Calls Tryz.prog 288 #[.int .u8 c.toNat] w fun e w' => e = .returned (.int .i64 (anyV c)) ∧ w = w' := by
  have hlt := c.toNat_lt
  go_enter Tryz.func288, Tryz.ntmps288
  go_wp2
  all_goals (go_ret; exact ⟨ret_int (by unfold anyV; simp at *; (repeat' split) <;> omega), rfl⟩)

set_option maxHeartbeats 400000 in
theorem r18hex_any (c : UInt8) (w : World) :
    Calls Tryz.prog 160 #[.int .u8 c.toNat] w fun e w' => e = .returned (.int .i64 (hexV c)) ∧ w = w' := by
  have hr := anyV_range c
  rw [hexV_any c]
  go_enter Tryz.func160, Tryz.ntmps160
  go_wp2_with (go_at_call 188; refine (r01hex_any c _).mono ?_; rintro e w' ⟨rfl, rfl⟩)
  all_goals (go_ret; exact ⟨ret_int (by first | rfl | (rw [if_pos (by omega)]; rfl) | (rw [if_neg (by omega)]; rfl)), rfl⟩)
end Go.Proofs.YtdjhjfpeckndkaaGreatDoor
