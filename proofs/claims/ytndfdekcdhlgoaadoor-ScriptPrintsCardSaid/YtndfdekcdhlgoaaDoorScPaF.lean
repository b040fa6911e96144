/- Contracts: package paint's colours. -/
import Derived.Test.YtndfdekcdhlgoaaDoorScPaA
import Derived.Test.YtndfdekcdhlgoaaDoorScR12C
import Derived.KernelRfl
set_option linter.unusedVariables false
set_option linter.unusedSimpArgs false
namespace Go.Proofs.YtndfdekcdhlgoaaDoor
open Go.RowKit
set_option maxRecDepth 100000 in
set_option maxHeartbeats 2000000 in
theorem pcolor_1 (p0 p1 p2 p3 : Int) (w : World) : Calls Tryd.prog 40 #[.agg #[.int .i64 1, .int .i64 p0, .int .i64 p1, .int .i64 p2, .int .i64 p3]] w fun e w' => e = .returned (.bool (colB ⟨1, p0, p1, p2, p3⟩)) ∧ Fr [] w w' := by
  obtain ⟨R, hR⟩ : ∃ R, R = colB ⟨1, p0, p1, p2, p3⟩ := ⟨_, rfl⟩
  rw [← hR]
  have HR := hide hR
  clear hR
  go_enter Tryd.func40, Tryd.ntmps40
  go_wp2
  obtain ⟨q, hq⟩ : ∃ q, q = w.heap.size := ⟨_, rfl⟩
  obtain ⟨W1, hW1⟩ : ∃ W1, W1 = w.alloc (.cells #[.int .i64 1, .int .i64 p0, .int .i64 p1, .int .i64 p2, .int .i64 p3] 35) := ⟨_, rfl⟩
  have hBq : Blk W1 q 35 #[.int .i64 1, .int .i64 p0, .int .i64 p1, .int .i64 p2, .int .i64 p3] := by rw [hW1, hq]; exact Blk.new _ _ _
  have hf1 : Fr [] w W1 := by rw [hW1]; exact (by repeat (first | with_reducible exact Fr.refl _ _ | with_reducible assumption | with_reducible refine Fr.drewN ?_ _ | with_reducible refine Fr.drew ?_ | with_reducible refine Fr.alloc ?_ _ | ((with_reducible refine Fr.setCell ?_ ?_ _) <;> first | (apply Or.inl; simp; done) | (apply Or.inr; simp; done) | (apply Or.inr; simp; omega) | skip) | (refine Fr.then0 ?_ (by with_reducible assumption)) | (refine Fr.trans ?_ (by with_reducible assumption))))
  rw [← hW1, ← hq]
  clear hW1 hq
  generalize Value.agg #[.int .i64 1, .int .i64 p0, .int .i64 p1, .int .i64 p2, .int .i64 p3] = ag
  go_loopw [20] (fun j w2 => ∃ m : Nat, m ≤ 4 ∧ j = .int .i64 m ∧ w2 = W1 ∧ Hid (∀ z, z < m → prtB 1 z ((⟨1, p0, p1, p2, p3⟩ : ColD).p z) = true)) (fun j _ => 4 - (intOf j).toNat)
  case atStart => exact ⟨0, by omega, rfl, rfl, hide (fun z hz => absurd hz (by omega))⟩
  case round =>
    obtain ⟨m, hm, rfl, rfl, hpt⟩ := hrel
    have e0 : wr.cell? ⟨q, 0, none⟩ = some (.int .i64 1) := hBq.cell 0
    rcases (by omega : m = 0 ∨ m = 1 ∨ m = 2 ∨ m = 3 ∨ m = 4) with rfl | rfl | rfl | rfl | rfl
    · rw [show ((0 : Nat) : Int) = 0 from rfl]
      have ix : ∀ w, (Instr.index 33 (.agg #[.int .i64 p0, .int .i64 p1, .int .i64 p2, .int .i64 p3]) (.int .i64 0)).run Tryd.prog w = .ok (.int .i64 p0) w := fun _ => by kernel_rfl
      by_cases h1 : p0 < 0
      · have d1 : decide (p0 < 0) = true := by simpa using h1
        go_wp2
        go_ret; exact ⟨by rw [show R = false by rw [HR.out]; exact colB_not _ 0 (by omega) (show prtB 1 0 p0 = false from prtB_false (by omega))]; rfl, hf1⟩
      by_cases h2 : 65536 < p0
      · have d1 : decide (p0 < 0) = false := by simpa using h1
        have d2 : decide (65536 < p0) = true := by simpa using h2
        go_wp2
        go_ret; exact ⟨by rw [show R = false by rw [HR.out]; exact colB_not _ 0 (by omega) (show prtB 1 0 p0 = false from prtB_false (by omega))]; rfl, hf1⟩
      have d1 : decide (p0 < 0) = false := by simpa using h1
      have d2 : decide (65536 < p0) = false := by simpa using h2
      go_wp2
      exact ⟨⟨1, by omega, rfl, (by trivial), hide (upto_succ hpt.out (show prtB 1 0 p0 = true from prtB_true (by omega) (by omega)))⟩, by simp [intOf]⟩
    · rw [show ((1 : Nat) : Int) = 1 from rfl]
      have ix : ∀ w, (Instr.index 33 (.agg #[.int .i64 p0, .int .i64 p1, .int .i64 p2, .int .i64 p3]) (.int .i64 1)).run Tryd.prog w = .ok (.int .i64 p1) w := fun _ => by kernel_rfl
      by_cases h1 : p1 < 0
      · have d1 : decide (p1 < 0) = true := by simpa using h1
        go_wp2
        go_ret; exact ⟨by rw [show R = false by rw [HR.out]; exact colB_not _ 1 (by omega) (show prtB 1 1 p1 = false from prtB_false (by omega))]; rfl, hf1⟩
      by_cases h2 : 65536 < p1
      · have d1 : decide (p1 < 0) = false := by simpa using h1
        have d2 : decide (65536 < p1) = true := by simpa using h2
        go_wp2
        go_ret; exact ⟨by rw [show R = false by rw [HR.out]; exact colB_not _ 1 (by omega) (show prtB 1 1 p1 = false from prtB_false (by omega))]; rfl, hf1⟩
      have d1 : decide (p1 < 0) = false := by simpa using h1
      have d2 : decide (65536 < p1) = false := by simpa using h2
      by_cases h3 : p1 = 0
      · have H3 := hide h3
        have d3 : (p1 != 0) = false := by simpa using h3
        clear h3
        go_wp2
        have h3 := H3.out
        exact ⟨⟨2, by omega, rfl, (by trivial), hide (upto_succ hpt.out (show prtB 1 1 p1 = true from prtB_true (by omega) (by omega)))⟩, by simp [intOf]⟩
      · have d3 : (p1 != 0) = true := by simpa using h3
        go_wp2
        go_ret; exact ⟨by rw [show R = false by rw [HR.out]; exact colB_not _ 1 (by omega) (show prtB 1 1 p1 = false from prtB_false (by omega))]; rfl, hf1⟩
    · rw [show ((2 : Nat) : Int) = 2 from rfl]
      have ix : ∀ w, (Instr.index 33 (.agg #[.int .i64 p0, .int .i64 p1, .int .i64 p2, .int .i64 p3]) (.int .i64 2)).run Tryd.prog w = .ok (.int .i64 p2) w := fun _ => by kernel_rfl
      by_cases h1 : p2 < 0
      · have d1 : decide (p2 < 0) = true := by simpa using h1
        go_wp2
        go_ret; exact ⟨by rw [show R = false by rw [HR.out]; exact colB_not _ 2 (by omega) (show prtB 1 2 p2 = false from prtB_false (by omega))]; rfl, hf1⟩
      by_cases h2 : 65536 < p2
      · have d1 : decide (p2 < 0) = false := by simpa using h1
        have d2 : decide (65536 < p2) = true := by simpa using h2
        go_wp2
        go_ret; exact ⟨by rw [show R = false by rw [HR.out]; exact colB_not _ 2 (by omega) (show prtB 1 2 p2 = false from prtB_false (by omega))]; rfl, hf1⟩
      have d1 : decide (p2 < 0) = false := by simpa using h1
      have d2 : decide (65536 < p2) = false := by simpa using h2
      by_cases h3 : p2 = 0
      · have H3 := hide h3
        have d3 : (p2 != 0) = false := by simpa using h3
        clear h3
        go_wp2
        have h3 := H3.out
        exact ⟨⟨3, by omega, rfl, (by trivial), hide (upto_succ hpt.out (show prtB 1 2 p2 = true from prtB_true (by omega) (by omega)))⟩, by simp [intOf]⟩
      · have d3 : (p2 != 0) = true := by simpa using h3
        go_wp2
        go_ret; exact ⟨by rw [show R = false by rw [HR.out]; exact colB_not _ 2 (by omega) (show prtB 1 2 p2 = false from prtB_false (by omega))]; rfl, hf1⟩
    · rw [show ((3 : Nat) : Int) = 3 from rfl]
      have ix : ∀ w, (Instr.index 33 (.agg #[.int .i64 p0, .int .i64 p1, .int .i64 p2, .int .i64 p3]) (.int .i64 3)).run Tryd.prog w = .ok (.int .i64 p3) w := fun _ => by kernel_rfl
      by_cases h1 : p3 < 0
      · have d1 : decide (p3 < 0) = true := by simpa using h1
        go_wp2
        go_ret; exact ⟨by rw [show R = false by rw [HR.out]; exact colB_not _ 3 (by omega) (show prtB 1 3 p3 = false from prtB_false (by omega))]; rfl, hf1⟩
      by_cases h2 : 65536 < p3
      · have d1 : decide (p3 < 0) = false := by simpa using h1
        have d2 : decide (65536 < p3) = true := by simpa using h2
        go_wp2
        go_ret; exact ⟨by rw [show R = false by rw [HR.out]; exact colB_not _ 3 (by omega) (show prtB 1 3 p3 = false from prtB_false (by omega))]; rfl, hf1⟩
      have d1 : decide (p3 < 0) = false := by simpa using h1
      have d2 : decide (65536 < p3) = false := by simpa using h2
      by_cases h3 : p3 = 0
      · have H3 := hide h3
        have d3 : (p3 != 0) = false := by simpa using h3
        clear h3
        go_wp2
        have h3 := H3.out
        exact ⟨⟨4, by omega, rfl, (by trivial), hide (upto_succ hpt.out (show prtB 1 3 p3 = true from prtB_true (by omega) (by omega)))⟩, by simp [intOf]⟩
      · have d3 : (p3 != 0) = true := by simpa using h3
        go_wp2
        go_ret; exact ⟨by rw [show R = false by rw [HR.out]; exact colB_not _ 3 (by omega) (show prtB 1 3 p3 = false from prtB_false (by omega))]; rfl, hf1⟩
    · rw [show ((4 : Nat) : Int) = 4 from rfl]
      have HC : Hid (R = true) := hide (by rw [HR.out]; exact colB_of _ (by simp) hpt.out)
      go_wp2
      go_ret
      exact ⟨by rw [HC.out]; rfl, hf1⟩
set_option maxRecDepth 100000 in
set_option maxHeartbeats 2000000 in
theorem pcolor_3 (p0 p1 p2 p3 : Int) (w : World) : Calls Tryd.prog 40 #[.agg #[.int .i64 3, .int .i64 p0, .int .i64 p1, .int .i64 p2, .int .i64 p3]] w fun e w' => e = .returned (.bool (colB ⟨3, p0, p1, p2, p3⟩)) ∧ Fr [] w w' := by
  obtain ⟨R, hR⟩ : ∃ R, R = colB ⟨3, p0, p1, p2, p3⟩ := ⟨_, rfl⟩
  rw [← hR]
  have HR := hide hR
  clear hR
  go_enter Tryd.func40, Tryd.ntmps40
  go_wp2
  obtain ⟨q, hq⟩ : ∃ q, q = w.heap.size := ⟨_, rfl⟩
  obtain ⟨W1, hW1⟩ : ∃ W1, W1 = w.alloc (.cells #[.int .i64 3, .int .i64 p0, .int .i64 p1, .int .i64 p2, .int .i64 p3] 35) := ⟨_, rfl⟩
  have hBq : Blk W1 q 35 #[.int .i64 3, .int .i64 p0, .int .i64 p1, .int .i64 p2, .int .i64 p3] := by rw [hW1, hq]; exact Blk.new _ _ _
  have hf1 : Fr [] w W1 := by rw [hW1]; exact (by repeat (first | with_reducible exact Fr.refl _ _ | with_reducible assumption | with_reducible refine Fr.drewN ?_ _ | with_reducible refine Fr.drew ?_ | with_reducible refine Fr.alloc ?_ _ | ((with_reducible refine Fr.setCell ?_ ?_ _) <;> first | (apply Or.inl; simp; done) | (apply Or.inr; simp; done) | (apply Or.inr; simp; omega) | skip) | (refine Fr.then0 ?_ (by with_reducible assumption)) | (refine Fr.trans ?_ (by with_reducible assumption))))
  rw [← hW1, ← hq]
  clear hW1 hq
  generalize Value.agg #[.int .i64 3, .int .i64 p0, .int .i64 p1, .int .i64 p2, .int .i64 p3] = ag
  go_loopw [20] (fun j w2 => ∃ m : Nat, m ≤ 4 ∧ j = .int .i64 m ∧ w2 = W1 ∧ Hid (∀ z, z < m → prtB 3 z ((⟨3, p0, p1, p2, p3⟩ : ColD).p z) = true)) (fun j _ => 4 - (intOf j).toNat)
  case atStart => exact ⟨0, by omega, rfl, rfl, hide (fun z hz => absurd hz (by omega))⟩
  case round =>
    obtain ⟨m, hm, rfl, rfl, hpt⟩ := hrel
    have e0 : wr.cell? ⟨q, 0, none⟩ = some (.int .i64 3) := hBq.cell 0
    rcases (by omega : m = 0 ∨ m = 1 ∨ m = 2 ∨ m = 3 ∨ m = 4) with rfl | rfl | rfl | rfl | rfl
    · rw [show ((0 : Nat) : Int) = 0 from rfl]
      have ix : ∀ w, (Instr.index 33 (.agg #[.int .i64 p0, .int .i64 p1, .int .i64 p2, .int .i64 p3]) (.int .i64 0)).run Tryd.prog w = .ok (.int .i64 p0) w := fun _ => by kernel_rfl
      by_cases h1 : p0 < 0
      · have d1 : decide (p0 < 0) = true := by simpa using h1
        go_wp2
        go_ret; exact ⟨by rw [show R = false by rw [HR.out]; exact colB_not _ 0 (by omega) (show prtB 3 0 p0 = false from prtB_false (by omega))]; rfl, hf1⟩
      by_cases h2 : 65536 < p0
      · have d1 : decide (p0 < 0) = false := by simpa using h1
        have d2 : decide (65536 < p0) = true := by simpa using h2
        go_wp2
        go_ret; exact ⟨by rw [show R = false by rw [HR.out]; exact colB_not _ 0 (by omega) (show prtB 3 0 p0 = false from prtB_false (by omega))]; rfl, hf1⟩
      have d1 : decide (p0 < 0) = false := by simpa using h1
      have d2 : decide (65536 < p0) = false := by simpa using h2
      go_wp2
      exact ⟨⟨1, by omega, rfl, (by trivial), hide (upto_succ hpt.out (show prtB 3 0 p0 = true from prtB_true (by omega) (by omega)))⟩, by simp [intOf]⟩
    · rw [show ((1 : Nat) : Int) = 1 from rfl]
      have ix : ∀ w, (Instr.index 33 (.agg #[.int .i64 p0, .int .i64 p1, .int .i64 p2, .int .i64 p3]) (.int .i64 1)).run Tryd.prog w = .ok (.int .i64 p1) w := fun _ => by kernel_rfl
      by_cases h1 : p1 < 0
      · have d1 : decide (p1 < 0) = true := by simpa using h1
        go_wp2
        go_ret; exact ⟨by rw [show R = false by rw [HR.out]; exact colB_not _ 1 (by omega) (show prtB 3 1 p1 = false from prtB_false (by omega))]; rfl, hf1⟩
      by_cases h2 : 65536 < p1
      · have d1 : decide (p1 < 0) = false := by simpa using h1
        have d2 : decide (65536 < p1) = true := by simpa using h2
        go_wp2
        go_ret; exact ⟨by rw [show R = false by rw [HR.out]; exact colB_not _ 1 (by omega) (show prtB 3 1 p1 = false from prtB_false (by omega))]; rfl, hf1⟩
      have d1 : decide (p1 < 0) = false := by simpa using h1
      have d2 : decide (65536 < p1) = false := by simpa using h2
      go_wp2
      exact ⟨⟨2, by omega, rfl, (by trivial), hide (upto_succ hpt.out (show prtB 3 1 p1 = true from prtB_true (by omega) (by omega)))⟩, by simp [intOf]⟩
    · rw [show ((2 : Nat) : Int) = 2 from rfl]
      have ix : ∀ w, (Instr.index 33 (.agg #[.int .i64 p0, .int .i64 p1, .int .i64 p2, .int .i64 p3]) (.int .i64 2)).run Tryd.prog w = .ok (.int .i64 p2) w := fun _ => by kernel_rfl
      by_cases h1 : p2 < 0
      · have d1 : decide (p2 < 0) = true := by simpa using h1
        go_wp2
        go_ret; exact ⟨by rw [show R = false by rw [HR.out]; exact colB_not _ 2 (by omega) (show prtB 3 2 p2 = false from prtB_false (by omega))]; rfl, hf1⟩
      by_cases h2 : 65536 < p2
      · have d1 : decide (p2 < 0) = false := by simpa using h1
        have d2 : decide (65536 < p2) = true := by simpa using h2
        go_wp2
        go_ret; exact ⟨by rw [show R = false by rw [HR.out]; exact colB_not _ 2 (by omega) (show prtB 3 2 p2 = false from prtB_false (by omega))]; rfl, hf1⟩
      have d1 : decide (p2 < 0) = false := by simpa using h1
      have d2 : decide (65536 < p2) = false := by simpa using h2
      go_wp2
      exact ⟨⟨3, by omega, rfl, (by trivial), hide (upto_succ hpt.out (show prtB 3 2 p2 = true from prtB_true (by omega) (by omega)))⟩, by simp [intOf]⟩
    · rw [show ((3 : Nat) : Int) = 3 from rfl]
      have ix : ∀ w, (Instr.index 33 (.agg #[.int .i64 p0, .int .i64 p1, .int .i64 p2, .int .i64 p3]) (.int .i64 3)).run Tryd.prog w = .ok (.int .i64 p3) w := fun _ => by kernel_rfl
      by_cases h1 : p3 < 0
      · have d1 : decide (p3 < 0) = true := by simpa using h1
        go_wp2
        go_ret; exact ⟨by rw [show R = false by rw [HR.out]; exact colB_not _ 3 (by omega) (show prtB 3 3 p3 = false from prtB_false (by omega))]; rfl, hf1⟩
      by_cases h2 : 65536 < p3
      · have d1 : decide (p3 < 0) = false := by simpa using h1
        have d2 : decide (65536 < p3) = true := by simpa using h2
        go_wp2
        go_ret; exact ⟨by rw [show R = false by rw [HR.out]; exact colB_not _ 3 (by omega) (show prtB 3 3 p3 = false from prtB_false (by omega))]; rfl, hf1⟩
      have d1 : decide (p3 < 0) = false := by simpa using h1
      have d2 : decide (65536 < p3) = false := by simpa using h2
      by_cases h3 : p3 = 0
      · have H3 := hide h3
        have d3 : (p3 != 0) = false := by simpa using h3
        clear h3
        go_wp2
        have h3 := H3.out
        exact ⟨⟨4, by omega, rfl, (by trivial), hide (upto_succ hpt.out (show prtB 3 3 p3 = true from prtB_true (by omega) (by omega)))⟩, by simp [intOf]⟩
      · have d3 : (p3 != 0) = true := by simpa using h3
        go_wp2
        go_ret; exact ⟨by rw [show R = false by rw [HR.out]; exact colB_not _ 3 (by omega) (show prtB 3 3 p3 = false from prtB_false (by omega))]; rfl, hf1⟩
    · rw [show ((4 : Nat) : Int) = 4 from rfl]
      have HC : Hid (R = true) := hide (by rw [HR.out]; exact colB_of _ (by simp) hpt.out)
      go_wp2
      go_ret
      exact ⟨by rw [HC.out]; rfl, hf1⟩
set_option maxRecDepth 100000 in
set_option maxHeartbeats 2000000 in
theorem pcolor_4 (p0 p1 p2 p3 : Int) (w : World) : Calls Tryd.prog 40 #[.agg #[.int .i64 4, .int .i64 p0, .int .i64 p1, .int .i64 p2, .int .i64 p3]] w fun e w' => e = .returned (.bool (colB ⟨4, p0, p1, p2, p3⟩)) ∧ Fr [] w w' := by
  obtain ⟨R, hR⟩ : ∃ R, R = colB ⟨4, p0, p1, p2, p3⟩ := ⟨_, rfl⟩
  rw [← hR]
  have HR := hide hR
  clear hR
  go_enter Tryd.func40, Tryd.ntmps40
  go_wp2
  obtain ⟨q, hq⟩ : ∃ q, q = w.heap.size := ⟨_, rfl⟩
  obtain ⟨W1, hW1⟩ : ∃ W1, W1 = w.alloc (.cells #[.int .i64 4, .int .i64 p0, .int .i64 p1, .int .i64 p2, .int .i64 p3] 35) := ⟨_, rfl⟩
  have hBq : Blk W1 q 35 #[.int .i64 4, .int .i64 p0, .int .i64 p1, .int .i64 p2, .int .i64 p3] := by rw [hW1, hq]; exact Blk.new _ _ _
  have hf1 : Fr [] w W1 := by rw [hW1]; exact (by repeat (first | with_reducible exact Fr.refl _ _ | with_reducible assumption | with_reducible refine Fr.drewN ?_ _ | with_reducible refine Fr.drew ?_ | with_reducible refine Fr.alloc ?_ _ | ((with_reducible refine Fr.setCell ?_ ?_ _) <;> first | (apply Or.inl; simp; done) | (apply Or.inr; simp; done) | (apply Or.inr; simp; omega) | skip) | (refine Fr.then0 ?_ (by with_reducible assumption)) | (refine Fr.trans ?_ (by with_reducible assumption))))
  rw [← hW1, ← hq]
  clear hW1 hq
  generalize Value.agg #[.int .i64 4, .int .i64 p0, .int .i64 p1, .int .i64 p2, .int .i64 p3] = ag
  go_loopw [20] (fun j w2 => ∃ m : Nat, m ≤ 4 ∧ j = .int .i64 m ∧ w2 = W1 ∧ Hid (∀ z, z < m → prtB 4 z ((⟨4, p0, p1, p2, p3⟩ : ColD).p z) = true)) (fun j _ => 4 - (intOf j).toNat)
  case atStart => exact ⟨0, by omega, rfl, rfl, hide (fun z hz => absurd hz (by omega))⟩
  case round =>
    obtain ⟨m, hm, rfl, rfl, hpt⟩ := hrel
    have e0 : wr.cell? ⟨q, 0, none⟩ = some (.int .i64 4) := hBq.cell 0
    rcases (by omega : m = 0 ∨ m = 1 ∨ m = 2 ∨ m = 3 ∨ m = 4) with rfl | rfl | rfl | rfl | rfl
    · rw [show ((0 : Nat) : Int) = 0 from rfl]
      have ix : ∀ w, (Instr.index 33 (.agg #[.int .i64 p0, .int .i64 p1, .int .i64 p2, .int .i64 p3]) (.int .i64 0)).run Tryd.prog w = .ok (.int .i64 p0) w := fun _ => by kernel_rfl
      by_cases h1 : p0 < 0
      · have d1 : decide (p0 < 0) = true := by simpa using h1
        go_wp2
        go_ret; exact ⟨by rw [show R = false by rw [HR.out]; exact colB_not _ 0 (by omega) (show prtB 4 0 p0 = false from prtB_false (by omega))]; rfl, hf1⟩
      by_cases h2 : 65536 < p0
      · have d1 : decide (p0 < 0) = false := by simpa using h1
        have d2 : decide (65536 < p0) = true := by simpa using h2
        go_wp2
        go_ret; exact ⟨by rw [show R = false by rw [HR.out]; exact colB_not _ 0 (by omega) (show prtB 4 0 p0 = false from prtB_false (by omega))]; rfl, hf1⟩
      have d1 : decide (p0 < 0) = false := by simpa using h1
      have d2 : decide (65536 < p0) = false := by simpa using h2
      go_wp2
      exact ⟨⟨1, by omega, rfl, (by trivial), hide (upto_succ hpt.out (show prtB 4 0 p0 = true from prtB_true (by omega) (by omega)))⟩, by simp [intOf]⟩
    · rw [show ((1 : Nat) : Int) = 1 from rfl]
      have ix : ∀ w, (Instr.index 33 (.agg #[.int .i64 p0, .int .i64 p1, .int .i64 p2, .int .i64 p3]) (.int .i64 1)).run Tryd.prog w = .ok (.int .i64 p1) w := fun _ => by kernel_rfl
      by_cases h1 : p1 < 0
      · have d1 : decide (p1 < 0) = true := by simpa using h1
        go_wp2
        go_ret; exact ⟨by rw [show R = false by rw [HR.out]; exact colB_not _ 1 (by omega) (show prtB 4 1 p1 = false from prtB_false (by omega))]; rfl, hf1⟩
      by_cases h2 : 65536 < p1
      · have d1 : decide (p1 < 0) = false := by simpa using h1
        have d2 : decide (65536 < p1) = true := by simpa using h2
        go_wp2
        go_ret; exact ⟨by rw [show R = false by rw [HR.out]; exact colB_not _ 1 (by omega) (show prtB 4 1 p1 = false from prtB_false (by omega))]; rfl, hf1⟩
      have d1 : decide (p1 < 0) = false := by simpa using h1
      have d2 : decide (65536 < p1) = false := by simpa using h2
      go_wp2
      exact ⟨⟨2, by omega, rfl, (by trivial), hide (upto_succ hpt.out (show prtB 4 1 p1 = true from prtB_true (by omega) (by omega)))⟩, by simp [intOf]⟩
    · rw [show ((2 : Nat) : Int) = 2 from rfl]
      have ix : ∀ w, (Instr.index 33 (.agg #[.int .i64 p0, .int .i64 p1, .int .i64 p2, .int .i64 p3]) (.int .i64 2)).run Tryd.prog w = .ok (.int .i64 p2) w := fun _ => by kernel_rfl
      by_cases h1 : p2 < 0
      · have d1 : decide (p2 < 0) = true := by simpa using h1
        go_wp2
        go_ret; exact ⟨by rw [show R = false by rw [HR.out]; exact colB_not _ 2 (by omega) (show prtB 4 2 p2 = false from prtB_false (by omega))]; rfl, hf1⟩
      by_cases h2 : 65536 < p2
      · have d1 : decide (p2 < 0) = false := by simpa using h1
        have d2 : decide (65536 < p2) = true := by simpa using h2
        go_wp2
        go_ret; exact ⟨by rw [show R = false by rw [HR.out]; exact colB_not _ 2 (by omega) (show prtB 4 2 p2 = false from prtB_false (by omega))]; rfl, hf1⟩
      have d1 : decide (p2 < 0) = false := by simpa using h1
      have d2 : decide (65536 < p2) = false := by simpa using h2
      go_wp2
      exact ⟨⟨3, by omega, rfl, (by trivial), hide (upto_succ hpt.out (show prtB 4 2 p2 = true from prtB_true (by omega) (by omega)))⟩, by simp [intOf]⟩
    · rw [show ((3 : Nat) : Int) = 3 from rfl]
      have ix : ∀ w, (Instr.index 33 (.agg #[.int .i64 p0, .int .i64 p1, .int .i64 p2, .int .i64 p3]) (.int .i64 3)).run Tryd.prog w = .ok (.int .i64 p3) w := fun _ => by kernel_rfl
      by_cases h1 : p3 < 0
      · have d1 : decide (p3 < 0) = true := by simpa using h1
        go_wp2
        go_ret; exact ⟨by rw [show R = false by rw [HR.out]; exact colB_not _ 3 (by omega) (show prtB 4 3 p3 = false from prtB_false (by omega))]; rfl, hf1⟩
      by_cases h2 : 65536 < p3
      · have d1 : decide (p3 < 0) = false := by simpa using h1
        have d2 : decide (65536 < p3) = true := by simpa using h2
        go_wp2
        go_ret; exact ⟨by rw [show R = false by rw [HR.out]; exact colB_not _ 3 (by omega) (show prtB 4 3 p3 = false from prtB_false (by omega))]; rfl, hf1⟩
      have d1 : decide (p3 < 0) = false := by simpa using h1
      have d2 : decide (65536 < p3) = false := by simpa using h2
      go_wp2
      exact ⟨⟨4, by omega, rfl, (by trivial), hide (upto_succ hpt.out (show prtB 4 3 p3 = true from prtB_true (by omega) (by omega)))⟩, by simp [intOf]⟩
    · rw [show ((4 : Nat) : Int) = 4 from rfl]
      have HC : Hid (R = true) := hide (by rw [HR.out]; exact colB_of _ (by simp) hpt.out)
      go_wp2
      go_ret
      exact ⟨by rw [HC.out]; rfl, hf1⟩
set_option maxRecDepth 100000 in
theorem pcolor_any (sp p0 p1 p2 p3 : Int) (w : World) : Calls Tryd.prog 40 #[.agg #[.int .i64 sp, .int .i64 p0, .int .i64 p1, .int .i64 p2, .int .i64 p3]] w fun e w' => e = .returned (.bool (colB ⟨sp, p0, p1, p2, p3⟩)) ∧ Fr [] w w' := by
  by_cases hsp : sp = 1 ∨ sp = 3 ∨ sp = 4
  · rcases hsp with h1 | h1 | h1
    · subst h1; exact pcolor_1 p0 p1 p2 p3 w
    · subst h1; exact pcolor_3 p0 p1 p2 p3 w
    · subst h1; exact pcolor_4 p0 p1 p2 p3 w
  · have HF : Hid (colB ⟨sp, p0, p1, p2, p3⟩ = false) := hide (colB_space _ hsp)
    have d1 : (sp != 1) = true := by simp; omega
    have d3 : (sp != 3) = true := by simp; omega
    have d4 : (sp != 4) = true := by simp; omega
    rw [HF.out]
    clear HF hsp
    go_enter Tryd.func40, Tryd.ntmps40
    go_wp2
    go_ret
    exact ⟨rfl, (by repeat (first | with_reducible exact Fr.refl _ _ | with_reducible assumption | with_reducible refine Fr.drewN ?_ _ | with_reducible refine Fr.drew ?_ | with_reducible refine Fr.alloc ?_ _ | ((with_reducible refine Fr.setCell ?_ ?_ _) <;> first | (apply Or.inl; simp; done) | (apply Or.inr; simp; done) | (apply Or.inr; simp; omega) | skip) | (refine Fr.then0 ?_ (by with_reducible assumption)) | (refine Fr.trans ?_ (by with_reducible assumption))))⟩
end Go.Proofs.YtndfdekcdhlgoaaDoor
