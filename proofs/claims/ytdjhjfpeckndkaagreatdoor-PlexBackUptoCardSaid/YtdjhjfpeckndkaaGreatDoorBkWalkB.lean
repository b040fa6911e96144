/- Contracts of Skip and Word, the program's and the reference's. -/
import Derived.Test.YtdjhjfpeckndkaaGreatDoorBkWalkA
import Derived.KernelRfl
set_option linter.unusedVariables false
set_option linter.unusedSimpArgs false
namespace Go.Proofs.YtdjhjfpeckndkaaGreatDoor
open Go.RowKit
theorem regB_end {c : UInt8} (h : blankB c = false) : endB c = false := by unfold endB; unfold blankB at h; simp at h ⊢; omega
set_option maxHeartbeats 400000 in
theorem rword_any (N : Nat → Prop) (A : Option Addr) (n c k0 : Nat) (bs : List UInt8) (w : World) (hr : RB w N A n bs) (hn : n ≤ 4611686018427387904) (hk0 : k0 ≤ n) :
    Calls Tryz.prog 17 #[.slice A n c, .int .i64 k0] w fun e w' => e = .returned (.int .i64 (wordF bs k0)) ∧ w = w' := by
  obtain ⟨R, hR⟩ : ∃ R, R = wordF bs k0 := ⟨_, rfl⟩
  have HR := hide hR
  clear hR
  go_enter Tryz.func17, Tryz.ntmps17
  go_wp2
  go_loop [1] (fun i => ∃ k : Nat, k ≤ n ∧ i = .int .i64 k ∧ Hid (k + wordN (bs.drop k) = R)) (fun i => n - (intOf i).toNat)
  case atStart => exact ⟨k0, hk0, rfl, by rw [HR.out]; rfl⟩
  case round =>
    obtain ⟨k, hk, rfl, hrel⟩ := hrel
    by_cases hlt : k < n
    · obtain ⟨ad, u, rfl, hu, hc⟩ := hr.at_ hlt
      have HU := hide hu
      clear hu
      cases hreg : regB u
      · have HE := hide hreg
        go_wp2_with (go_at_call 59; refine (rregular_any u _).mono ?_; rintro e w' ⟨rfl, rfl⟩)
        go_ret
        exact ⟨ret_int (by rw [← HR.out, ← hrel.out, word_stop HU.out HE.out]), rfl⟩
      · have HE := hide hreg
        go_wp2_with (go_at_call 59; refine (rregular_any u _).mono ?_; rintro e w' ⟨rfl, rfl⟩)
        go_round
        case rel => exact ⟨k + 1, by omega, by go_num, by rw [← hrel.out, word_step HU.out HE.out]; rfl⟩
        case measure => simp [intOf]; omega
    · go_wp2
      go_ret
      exact ⟨ret_int (by rw [← HR.out, ← hrel.out, word_end (by rw [hr.len]; omega)]), rfl⟩

theorem size_u8 (w : World) : (sizeOf 5).run Tryz.prog w = .ok 1 w := by kernel_rfl


set_option maxRecDepth 100000 in
set_option maxHeartbeats 400000 in
theorem word_any (N : Nat → Prop) (A : Option Addr) (n c : Nat) (k : Int) (bs : List UInt8) (w : World) (hr : RB w N A n bs) (hn : n ≤ 4611686018427387904) (hc : n ≤ c) :
    Calls Tryz.prog 16 #[.slice A n c, .int .i64 k] w fun e w' => e = .returned (.tuple #[.string ⟨(wordS bs (insideF n k)).toArray⟩, .int .i64 (wordF bs (insideF n k))]) ∧ w = w' := by
  obtain ⟨k0, hk⟩ : ∃ k0, k0 = insideF n k := ⟨_, rfl⟩
  have hk0 : k0 ≤ n := by have := insideF_le n k; omega
  rw [← hk]
  have HK := hide hk
  clear hk
  obtain ⟨R, hR⟩ : ∃ R, R = wordF bs k0 := ⟨_, rfl⟩
  rw [← hR]
  have hend : Hid (∀ j : Nat, k0 ≤ j → j ≤ n → j = R → ∃ A', (∀ w : World, (Instr.slice 22 (.slice A n c) (some (.int .i64 k0)) (some (.int .i64 j)) none).run Tryz.prog w = .ok (.slice A' (j - k0) (c - k0)) w) ∧
      (convert 22 9 (.slice A' (j - k0) (c - k0))).run Tryz.prog w = .ok (.string ⟨(wordS bs k0).toArray⟩) w) := by
    rintro j h1 h2 rfl
    obtain ⟨A', hs, hb⟩ := slice_rb Tryz.underlying22 size_u8 hr h1 h2 hc
    refine ⟨A', hs, ?_⟩
    rw [conv_rb Tryz.underlying22 Tryz.underlying5 Tryz.underlying9 hb, hR]
    rfl
  have HR := hide hR
  clear hR
  go_enter Tryz.func16, Tryz.ntmps16
  go_wp2_with (go_at_call 57; refine (inside_any _ _ _ _ _ hn).mono ?_; rw [← HK.out]; rintro e w' ⟨rfl, rfl⟩)
  go_loop [5] (fun i => ∃ k : Nat, k0 ≤ k ∧ k ≤ n ∧ i = .int .i64 k ∧ Hid (k + wordN (bs.drop k) = R)) (fun i => n - (intOf i).toNat)
  case atStart => exact ⟨k0, by omega, hk0, rfl, by rw [HR.out]; rfl⟩
  case round =>
    obtain ⟨k, hk1, hk, rfl, hrel⟩ := hrel
    by_cases hlt : k < n
    · obtain ⟨ad, u, rfl, hu, hc⟩ := hr.at_ hlt
      have HU := hide hu
      clear hu
      cases hreg : regB u
      · have HE := hide hreg
        have HF : Hid (k = R) := by rw [← hrel.out, word_stop HU.out HE.out]; rfl
        obtain ⟨A', hs, hv⟩ := hend.out k hk1 hk HF.out
        go_wp2_with (go_at_call 58; refine (regular_any u _).mono ?_; rintro e w' ⟨rfl, rfl⟩)
        go_ret2
        exact ⟨by rw [HF.out]; rfl, rfl⟩
      · have HE := hide hreg
        go_wp2_with (go_at_call 58; refine (regular_any u _).mono ?_; rintro e w' ⟨rfl, rfl⟩)
        go_round
        case rel => exact ⟨k + 1, by omega, by omega, by go_num, by rw [← hrel.out, word_step HU.out HE.out]; rfl⟩
        case measure => simp [intOf]; omega
    · have HF : Hid (k = R) := by rw [← hrel.out, word_end (by rw [hr.len]; omega)]; rfl
      obtain ⟨A', hs, hv⟩ := hend.out k hk1 hk HF.out
      go_wp2_with fail
      go_ret2
      exact ⟨by rw [HF.out]; rfl, rfl⟩
theorem end_facts {u : UInt8} (h : endB u = false) : (((u.toNat : Int) != 10) = true ∧ ((u.toNat : Int) != 13) = true) ∧ ((u.toNat : Int) != 12) = true := by
  unfold endB at h; simp at h ⊢; omega

theorem end_ways {u : UInt8} (h : endB u = true) : (((u.toNat : Int) != 10) = false ∧ True) ∨ ((((u.toNat : Int) != 10) = true) ∧ ((u.toNat : Int) != 13) = false) ∨ ((((u.toNat : Int) != 10) = true ∧ ((u.toNat : Int) != 13) = true) ∧ ((u.toNat : Int) != 12) = false) := by
  unfold endB at h; simp at h ⊢; omega

set_option maxRecDepth 100000 in
set_option maxHeartbeats 400000 in
theorem rskip_any (N : Nat → Prop) (A : Option Addr) (n c k0 : Nat) (bs : List UInt8) (w : World) (hr : RB w N A n bs) (hn : n ≤ 4611686018427387904) (hk0 : k0 ≤ n) :
    Calls Tryz.prog 19 #[.slice A n c, .int .i64 k0] w fun e w' => e = .returned (.int .i64 (skipF bs k0)) ∧ w = w' := by
  obtain ⟨R, hR⟩ : ∃ R, R = skipF bs k0 := ⟨_, rfl⟩
  rw [← hR]
  have HR := hide hR
  clear hR
  go_enter Tryz.func19, Tryz.ntmps19
  go_wp2
  go_loop [1] (fun i => ∃ k : Nat, k ≤ n ∧ i = .int .i64 k ∧ Hid (k + skipN false (bs.drop k) = R)) (fun i => n - (intOf i).toNat)
  case atStart => exact ⟨k0, hk0, rfl, by rw [HR.out]; rfl⟩
  case round =>
    obtain ⟨k, hk, rfl, hrel⟩ := hrel
    by_cases hlt : k < n
    · obtain ⟨ad, u, rfl, hu, hc⟩ := hr.at_ hlt
      have HU := hide hu
      clear hu
      by_cases h37 : ((u.toNat : Int) == 37) = true
      · have H37 : Hid (u.toNat = 37) := by have : (u.toNat : Int) = 37 := by simpa using h37
                                            exact (by omega : u.toNat = 37)
        have HB : Hid (blankB u = false) := (by have := H37.out; unfold blankB; simp; omega : blankB u = false)
        have hrel2 : Hid (k + skipN true (bs.drop k) = R) := by rw [← hrel.out, skip_percent HU.out HB.out H37.out]; rfl
        clear hrel
        go_wp2
        go_loop [1] (fun i => ∃ j : Nat, k ≤ j ∧ j ≤ n ∧ i = .int .i64 j ∧ Hid (j + skipN true (bs.drop j) = R)) (fun i => n - (intOf i).toNat)
        case atStart => exact ⟨k, by omega, by omega, rfl, hrel2⟩
        case round =>
          obtain ⟨j, hkj, hj, rfl, hrel⟩ := hrel
          by_cases hjn : j < n
          · obtain ⟨ad', v, hA, hv, hcv⟩ := hr.at_ hjn
            obtain rfl : ad = ad' := by injection hA
            have HV := hide hv
            clear hv hA
            cases he : endB v
            · have HE := hide he
              have hf := end_facts he
              go_wp2
              go_round
              case rel => exact ⟨j + 1, by omega, by omega, by go_num, by rw [← hrel.out, skip_in HV.out HE.out]; rfl⟩
              case measure => simp [intOf]; omega
            · have HE := hide he
              have hkj' : k < j := by
                rcases Nat.lt_or_ge k j with h | h
                · exact h
                · exfalso
                  obtain rfl : j = k := by omega
                  have h1 : some u = some v := HU.out.symm.trans HV.out
                  injection h1 with h1
                  have h2 := H37.out
                  have h3 := HE.out
                  subst h1
                  unfold endB at h3
                  simp at h3
                  omega
              have HF : Hid (j + skipN false (bs.drop j) = R) := by rw [← hrel.out, skip_out HV.out HE.out]; rfl
              rcases end_ways he with hf | hf | hf
              all_goals
                have hf1 := hf.1
                have hf2 := hf.2
                clear hf
                go_wp2
                go_round
                case rel => exact ⟨j, by omega, rfl, HF⟩
                case measure => simp [intOf]; omega
          · go_wp2
            go_round
            case rel => exact ⟨j, by omega, rfl, by rw [← hrel.out, skip_end _ (by rw [hr.len]; omega), skip_end _ (by rw [hr.len]; omega)]; rfl⟩
            case measure => simp [intOf]; omega
      · have h37' : ((u.toNat : Int) == 37) = false := by simpa using h37
        clear h37
        cases hb : blankB u
        · have HB := hide hb
          go_wp2_with (go_at_call 61; refine (rblank_any u _).mono ?_; rintro e w' ⟨rfl, rfl⟩)
          go_ret
          exact ⟨ret_int (by rw [← hrel.out, skip_stop HU.out HB.out (by simp at h37'; omega)]), rfl⟩
        · have HB := hide hb
          go_wp2_with (go_at_call 61; refine (rblank_any u _).mono ?_; rintro e w' ⟨rfl, rfl⟩)
          go_round
          case rel => exact ⟨k + 1, by omega, by go_num, by rw [← hrel.out, skip_blank HU.out HB.out]; rfl⟩
          case measure => simp [intOf]; omega
    · go_wp2
      go_ret
      exact ⟨ret_int (by rw [← hrel.out, skip_end _ (by rw [hr.len]; omega)]), rfl⟩
set_option maxRecDepth 100000 in
set_option maxHeartbeats 400000 in
theorem skip_any (N : Nat → Prop) (A : Option Addr) (n c : Nat) (k : Int) (bs : List UInt8) (w : World) (hr : RB w N A n bs) (hn : n ≤ 4611686018427387904) :
    Calls Tryz.prog 18 #[.slice A n c, .int .i64 k] w fun e w' => e = .returned (.int .i64 (skipF bs (insideF n k))) ∧ w = w' := by
  obtain ⟨k0, hk⟩ : ∃ k0, k0 = insideF n k := ⟨_, rfl⟩
  have hk0 : k0 ≤ n := by have := insideF_le n k; omega
  rw [← hk]
  have HK := hide hk
  clear hk
  obtain ⟨R, hR⟩ : ∃ R, R = skipF bs k0 := ⟨_, rfl⟩
  rw [← hR]
  have HR := hide hR
  clear hR
  go_enter Tryz.func18, Tryz.ntmps18
  go_wp2_with (go_at_call 57; refine (inside_any _ _ _ _ _ hn).mono ?_; rw [← HK.out]; rintro e w' ⟨rfl, rfl⟩)
  go_loop [1] (fun i => ∃ k : Nat, k ≤ n ∧ i = .int .i64 k ∧ Hid (k + skipN false (bs.drop k) = R)) (fun i => n - (intOf i).toNat)
  case atStart => exact ⟨k0, hk0, rfl, by rw [HR.out]; rfl⟩
  case round =>
    obtain ⟨k, hk, rfl, hrel⟩ := hrel
    by_cases hlt : k < n
    · obtain ⟨ad, u, rfl, hu, hc⟩ := hr.at_ hlt
      have HU := hide hu
      clear hu
      by_cases h37 : ((u.toNat : Int) == 37) = true
      · have H37 : Hid (u.toNat = 37) := by have : (u.toNat : Int) = 37 := by simpa using h37
                                            exact (by omega : u.toNat = 37)
        have HB : Hid (blankB u = false) := (by have := H37.out; unfold blankB; simp; omega : blankB u = false)
        have hrel2 : Hid (k + skipN true (bs.drop k) = R) := by rw [← hrel.out, skip_percent HU.out HB.out H37.out]; rfl
        clear hrel
        have hb := HB.out
        go_wp2_with (go_at_call 60; refine (blank_any u _).mono ?_; rintro e w' ⟨rfl, rfl⟩)
        clear hb
        go_loop [1] (fun i => ∃ j : Nat, k ≤ j ∧ j ≤ n ∧ i = .int .i64 j ∧ Hid (j + skipN true (bs.drop j) = R)) (fun i => n - (intOf i).toNat)
        case atStart => exact ⟨k, by omega, by omega, rfl, hrel2⟩
        case round =>
          obtain ⟨j, hkj, hj, rfl, hrel⟩ := hrel
          by_cases hjn : j < n
          · obtain ⟨ad', v, hA, hv, hcv⟩ := hr.at_ hjn
            obtain rfl : ad = ad' := by injection hA
            have HV := hide hv
            clear hv hA
            cases he : endB v
            · have HE := hide he
              have hf := end_facts he
              go_wp2
              go_round
              case rel => exact ⟨j + 1, by omega, by omega, by go_num, by rw [← hrel.out, skip_in HV.out HE.out]; rfl⟩
              case measure => simp [intOf]; omega
            · have HE := hide he
              have hkj' : k < j := by
                rcases Nat.lt_or_ge k j with h | h
                · exact h
                · exfalso
                  obtain rfl : j = k := by omega
                  have h1 : some u = some v := HU.out.symm.trans HV.out
                  injection h1 with h1
                  have h2 := H37.out
                  have h3 := HE.out
                  subst h1
                  unfold endB at h3
                  simp at h3
                  omega
              have HF : Hid (j + skipN false (bs.drop j) = R) := by rw [← hrel.out, skip_out HV.out HE.out]; rfl
              rcases end_ways he with hf | hf | hf
              all_goals
                have hf1 := hf.1
                have hf2 := hf.2
                clear hf
                go_wp2
                go_round
                case rel => exact ⟨j, by omega, rfl, HF⟩
                case measure => simp [intOf]; omega
          · go_wp2
            go_round
            case rel => exact ⟨j, by omega, rfl, by rw [← hrel.out, skip_end _ (by rw [hr.len]; omega), skip_end _ (by rw [hr.len]; omega)]; rfl⟩
            case measure => simp [intOf]; omega
      · have h37' : ((u.toNat : Int) == 37) = false := by simpa using h37
        clear h37
        cases hb : blankB u
        · have HB := hide hb
          go_wp2_with (go_at_call 60; refine (blank_any u _).mono ?_; rintro e w' ⟨rfl, rfl⟩)
          go_ret
          exact ⟨ret_int (by rw [← hrel.out, skip_stop HU.out HB.out (by simp at h37'; omega)]), rfl⟩
        · have HB := hide hb
          go_wp2_with (go_at_call 60; refine (blank_any u _).mono ?_; rintro e w' ⟨rfl, rfl⟩)
          go_round
          case rel => exact ⟨k + 1, by omega, by go_num, by rw [← hrel.out, skip_blank HU.out HB.out]; rfl⟩
          case measure => simp [intOf]; omega
    · go_wp2
      go_ret
      exact ⟨ret_int (by rw [← hrel.out, skip_end _ (by rw [hr.len]; omega)]), rfl⟩
end Go.Proofs.YtdjhjfpeckndkaaGreatDoor
