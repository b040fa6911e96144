/- Contracts: the reference's numbers as texts: Dec, Print, PrintReal. -/
/- Contracts: the reference's PrintReal, Text. -/
import Derived.Test.YtdjhjfpeckndkaaGreatDoorBkR18N
import Derived.Test.YtdjhjfpeckndkaaGreatDoorBkLightA
import Derived.Test.YtdjhjfpeckndkaaGreatDoorBkName
set_option linter.unusedVariables false
set_option linter.unusedSimpArgs false
namespace Go.Proofs.YtdjhjfpeckndkaaGreatDoor
open Go.RowKit
theorem udec_int (z : Int) (w : World) (h0 : 0 ≤ z) (h1 : z < 18446744073709551616) : Calls Tryz.prog 103 #[.int .u64 z] w fun e w' => e = .returned (.string ⟨(digU z.toNat).toArray⟩) ∧ Fr [] w w' := by
  obtain ⟨n, rfl⟩ := Int.eq_ofNat_of_zero_le h0
  exact udec_any n w (by omega)
theorem digU_len20 (n : Nat) (h : n < 18446744073709551616) : (digU n).length ≤ 20 := digU_len 19 n (by omega)
set_option maxRecDepth 100000 in
set_option maxHeartbeats 1000000 in
theorem dec_any (n : Int) (w : World) (h0 : -4611686018427387904 ≤ n) (h1 : n ≤ 4611686018427387904) : Calls Tryz.prog 43 #[.int .i64 n] w fun e w' => e = .returned (.string ⟨(decT n).toArray⟩) ∧ Fr [] w w' := by
  by_cases hn : n < 0
  · have hd : decide (n < 0) = true := by simpa using hn
    have hlen := digU_len20 n.natAbs (by omega)
    have hT : decT n = 45 :: digU n.natAbs := by unfold decT; rw [if_pos hn]; rfl
    have HE := hide (cat_str [45] (digU n.natAbs))
    rw [hT]
    clear hT
    have hto : ∀ z : Int, z = -n → z.toNat = n.natAbs := fun z hz => by omega
    have HTO := hide hto
    clear hto
    go_enter Tryz.func43, Tryz.ntmps43
    go_wp2_with (go_at_call 103; refine (udec_int _ _ (by omega) (by omega)).mono ?_; rw [HTO.out _ (by omega)]; rintro e w2 ⟨rfl, hf2⟩)
    go_ret
    exact ⟨congrArg (fun x => Ending.returned (.string x)) HE.out, hf2⟩
  · have hd : decide (n < 0) = false := by simpa using hn
    have hT : decT n = digU n.natAbs := by unfold decT; rw [if_neg hn]; rfl
    rw [hT]
    clear hT
    have hto : n.toNat = n.natAbs := by omega
    have HTO := hide hto
    clear hto
    have h2 : 0 ≤ n := by omega
    go_enter Tryz.func43, Tryz.ntmps43
    go_wp2_with (go_at_call 103; refine (udec_int _ _ (by omega) (by omega)).mono ?_; rw [HTO.out]; rintro e w2 ⟨rfl, hf2⟩)
    go_ret
    exact ⟨rfl, hf2⟩
theorem fracD_step (j r : Nat) (hr : 0 < r) : fracD (j + 1) r = UInt8.ofNat (48 + r * 10 / 65536) :: fracD j (r * 10 % 65536) := by
  rw [fracD, if_neg (by omega)]
set_option maxRecDepth 100000 in
set_option maxHeartbeats 2000000 in
theorem print01_any (n : Int) (w : World) : Calls Tryz.prog 116 #[.int .i64 n] w fun e w' => e = .returned (.string ⟨(printT n).toArray⟩) ∧ Fr [] w w' := by
  obtain ⟨R, hR⟩ : ∃ R, R = printT n := ⟨_, rfl⟩
  rw [← hR]
  have HRL := hide (by rw [hR]; exact printT_len n : R.length ≤ 23)
  have HR := hide hR
  clear hR
  cases hfx : fitsI n
  · have HF : Hid (R = [48]) := by rw [HR.out]; unfold printT; rw [hfx]; rfl
    go_enter Tryz.func116, Tryz.ntmps116
    go_wp2_with (go_at_call 46; refine (fits01_any _ _).mono ?_; rw [hfx]; rintro e w' ⟨rfl, rfl⟩)
    go_ret
    exact ⟨by rw [HF.out]; rfl, Fr.refl _ _⟩
  by_cases hn : n < 0
  · obtain ⟨m, rfl⟩ : ∃ m : Nat, n = -(m : Int) := ⟨n.natAbs, by omega⟩
    have hd : decide (-(m : Int) < 0) = true := by simpa using hn
    have hmp : 0 < m := by omega
    have hd' : decide (0 < m) = true := by simpa using hmp
    have hm : m ≤ 2147483648 := by unfold fitsI at hfx; simp at hfx; omega
    have hdl := digU_len 4 (m / 65536) (by omega)
    have hdq : decT ((m : Int) / 65536) = digU (m / 65536) := by
      unfold decT
      rw [if_neg (by omega)]
      have : ((m : Int) / 65536).natAbs = m / 65536 := by omega
      rw [this]; rfl
    have hR2 : Hid (R = [45] ++ digU (m / 65536) ++ (if m % 65536 = 0 then [] else 46 :: fracD 16 (m % 65536))) := by
      rw [HR.out]
      unfold printT
      rw [hfx, if_pos rfl]
      rw [if_pos (by omega), show (-(m : Int)).natAbs = m by omega]; rfl
    have HDQ := hide (fun w => dec_any ((m : Int) / 65536) w (by omega) (by omega))
    rw [hdq] at HDQ
    have hfine := fine_start (m % 65536) (Nat.mod_lt _ (by omega))
    have HFI := hide hfine
    have HFX := hide hfx
    have HCA := hide (fun (a : List UInt8) => cat_str [45] a)
    have HC2 := hide (fun (a b : List UInt8) => cat_str a b)
    have hm0 : (0 : Int) ≤ (m : Int) := by omega
    clear hdq hfine
    generalize digU (m / 65536) = dq at *
    have hrl : m % 65536 < 65536 := Nat.mod_lt _ (by omega)
    have hrc : ((m % 65536 : Nat) : Int) = (m : Int) % 65536 := by omega
    have HRC := hide hrc
    clear hrc
    by_cases h0 : m % 65536 = 0
    · have hz : decide ((0 : Int) < (m : Int) % 65536) = false := by simp; omega
      have HF : Hid (R = [45] ++ dq) := by rw [hR2.out, if_pos h0]; exact hide (by simp)
      have HZ := hide h0
      clear h0
      go_enter Tryz.func116, Tryz.ntmps116
      go_wp2_with (first
        | (go_at_call 46; refine (fits01_any _ _).mono ?_; rw [HFX.out]; rintro e w' ⟨rfl, rfl⟩)
        | (go_at_call 43; refine (HDQ.out _).mono ?_; rintro e w2 ⟨rfl, hf2⟩))
      go_loopg [4, 3] 16 (fun g rv sv wr => ∃ (r : Nat) (t : List UInt8), rv = .int .i64 r ∧ sv = .string ⟨t.toArray⟩ ∧ r < 65536 ∧ Fr [] w2 wr ∧ g ≤ 16 ∧ Hid (fine g r) ∧ Hid (t ++ fracD g r = R))
      case atStart => exact ⟨m % 65536, [45] ++ dq, congrArg (Value.int .i64) HRC.out.symm, congrArg Value.string (HCA.out dq), hrl, Fr.refl _ _, Nat.le_refl _, HFI, by rw [HF.out]; rw [HZ.out, fracD_zero, List.append_nil]; rfl⟩
      case round =>
        obtain ⟨r, t, rfl, rfl, hr, hfr, hgk, hfi, hrel⟩ := hrel
        have htl : t.length ≤ 23 := by
          have h1 := congrArg List.length hrel.out
          rw [List.length_append] at h1
          have := HRL.out
          omega
        by_cases h0 : 0 < r
        · have hdk : decide ((0 : Int) < (r : Int)) = true := by simpa using h0
          have hdk2 : decide (0 < r) = true := by simpa using h0
          match gk, hgk, hfi, hrel with
          | 0, hgk, hfi, hrel => exact absurd (fine_end r hfi.out) (by omega)
          | g + 1, hgk, hfi, hrel =>
            · have hfs := hide (fine_step g r (by omega) hfi.out)
              have hst := fracD_step g r h0
              have hdd : decT ((r : Int) * 10 / 65536) = [UInt8.ofNat (48 + r * 10 / 65536)] := by
                unfold decT
                rw [if_neg (by omega)]
                have : ((r : Int) * 10 / 65536).natAbs = r * 10 / 65536 := by omega
                rw [this, digU_lt (by omega)]; rfl
              have HDD := hide (fun w => dec_any ((r : Int) * 10 / 65536) w (by omega) (by omega))
              rw [hdd] at HDD
              clear hdd
              obtain ⟨c, hc⟩ : ∃ c, c = UInt8.ofNat (48 + r * 10 / 65536) := ⟨_, rfl⟩
              rw [← hc] at HDD hst
              have HFF : Hid (t ++ [c] ++ fracD g (r * 10 % 65536) = R) := by rw [← hrel.out, hst]; exact hide (by simp)
              clear hc hst h0
              have HCT := hide (cat_str t [c])
              have hr0 : (0 : Int) ≤ (r : Int) := by omega
              go_wp2_with (go_at_call 43; refine (HDD.out _).mono ?_; rintro e w3 ⟨rfl, hf3⟩)
              go_roundg g
              case measure => exact Nat.lt_succ_self g
              case rel => exact ⟨r * 10 % 65536, t ++ [c], congrArg (Value.int .i64) (by omega), congrArg Value.string HCT.out, Nat.mod_lt _ (by omega), hfr.trans hf3, by omega, hfs, HFF⟩
        · have hdk : decide ((0 : Int) < (r : Int)) = false := by simp; omega
          have hdk2 : decide (0 < r) = false := by simp; omega
          have HTR : Hid (t = R) := by
            have h1 := hrel.out
            rw [show r = 0 by omega, fracD_zero, List.append_nil] at h1
            exact hide h1
          go_wp2
          go_ret
          exact ⟨by rw [HTR.out]; rfl, hf2.trans hfr⟩
    · have hz : decide ((0 : Int) < (m : Int) % 65536) = true := by simp; omega
      have HF : Hid (R = [45] ++ dq ++ [46] ++ fracD 16 (m % 65536)) := by rw [hR2.out, if_neg h0]; exact hide (by simp)
      have HZ := hide h0
      clear h0
      go_enter Tryz.func116, Tryz.ntmps116
      go_wp2_with (first
        | (go_at_call 46; refine (fits01_any _ _).mono ?_; rw [HFX.out]; rintro e w' ⟨rfl, rfl⟩)
        | (go_at_call 43; refine (HDQ.out _).mono ?_; rintro e w2 ⟨rfl, hf2⟩))
      go_loopg [4, 3] 16 (fun g rv sv wr => ∃ (r : Nat) (t : List UInt8), rv = .int .i64 r ∧ sv = .string ⟨t.toArray⟩ ∧ r < 65536 ∧ Fr [] w2 wr ∧ g ≤ 16 ∧ Hid (fine g r) ∧ Hid (t ++ fracD g r = R))
      case atStart => exact ⟨m % 65536, [45] ++ dq ++ [46], congrArg (Value.int .i64) HRC.out.symm, congrArg Value.string (by rw [HCA.out dq]; exact HC2.out ([45] ++ dq) [46]), hrl, Fr.refl _ _, Nat.le_refl _, HFI, by rw [HF.out]; rfl⟩
      case round =>
        obtain ⟨r, t, rfl, rfl, hr, hfr, hgk, hfi, hrel⟩ := hrel
        have htl : t.length ≤ 23 := by
          have h1 := congrArg List.length hrel.out
          rw [List.length_append] at h1
          have := HRL.out
          omega
        by_cases h0 : 0 < r
        · have hdk : decide ((0 : Int) < (r : Int)) = true := by simpa using h0
          have hdk2 : decide (0 < r) = true := by simpa using h0
          match gk, hgk, hfi, hrel with
          | 0, hgk, hfi, hrel => exact absurd (fine_end r hfi.out) (by omega)
          | g + 1, hgk, hfi, hrel =>
            · have hfs := hide (fine_step g r (by omega) hfi.out)
              have hst := fracD_step g r h0
              have hdd : decT ((r : Int) * 10 / 65536) = [UInt8.ofNat (48 + r * 10 / 65536)] := by
                unfold decT
                rw [if_neg (by omega)]
                have : ((r : Int) * 10 / 65536).natAbs = r * 10 / 65536 := by omega
                rw [this, digU_lt (by omega)]; rfl
              have HDD := hide (fun w => dec_any ((r : Int) * 10 / 65536) w (by omega) (by omega))
              rw [hdd] at HDD
              clear hdd
              obtain ⟨c, hc⟩ : ∃ c, c = UInt8.ofNat (48 + r * 10 / 65536) := ⟨_, rfl⟩
              rw [← hc] at HDD hst
              have HFF : Hid (t ++ [c] ++ fracD g (r * 10 % 65536) = R) := by rw [← hrel.out, hst]; exact hide (by simp)
              clear hc hst h0
              have HCT := hide (cat_str t [c])
              have hr0 : (0 : Int) ≤ (r : Int) := by omega
              go_wp2_with (go_at_call 43; refine (HDD.out _).mono ?_; rintro e w3 ⟨rfl, hf3⟩)
              go_roundg g
              case measure => exact Nat.lt_succ_self g
              case rel => exact ⟨r * 10 % 65536, t ++ [c], congrArg (Value.int .i64) (by omega), congrArg Value.string HCT.out, Nat.mod_lt _ (by omega), hfr.trans hf3, by omega, hfs, HFF⟩
        · have hdk : decide ((0 : Int) < (r : Int)) = false := by simp; omega
          have hdk2 : decide (0 < r) = false := by simp; omega
          have HTR : Hid (t = R) := by
            have h1 := hrel.out
            rw [show r = 0 by omega, fracD_zero, List.append_nil] at h1
            exact hide h1
          go_wp2
          go_ret
          exact ⟨by rw [HTR.out]; rfl, hf2.trans hfr⟩
  · obtain ⟨m, rfl⟩ : ∃ m : Nat, n = (m : Int) := ⟨n.natAbs, by omega⟩
    have hd : decide ((m : Int) < 0) = false := by simp
    have hm : m ≤ 2147483648 := by unfold fitsI at hfx; simp at hfx; omega
    have hdl := digU_len 4 (m / 65536) (by omega)
    have hdq : decT ((m : Int) / 65536) = digU (m / 65536) := by
      unfold decT
      rw [if_neg (by omega)]
      have : ((m : Int) / 65536).natAbs = m / 65536 := by omega
      rw [this]; rfl
    have hR2 : Hid (R = [] ++ digU (m / 65536) ++ (if m % 65536 = 0 then [] else 46 :: fracD 16 (m % 65536))) := by
      rw [HR.out]
      unfold printT
      rw [hfx, if_pos rfl]
      rw [if_neg (by omega), show ((m : Int)).natAbs = m by omega]; rfl
    have HDQ := hide (fun w => dec_any ((m : Int) / 65536) w (by omega) (by omega))
    rw [hdq] at HDQ
    have hfine := fine_start (m % 65536) (Nat.mod_lt _ (by omega))
    have HFI := hide hfine
    have HFX := hide hfx
    have HCA := hide (fun (a : List UInt8) => cat_str [] a)
    have HC2 := hide (fun (a b : List UInt8) => cat_str a b)
    have hm0 : (0 : Int) ≤ (m : Int) := by omega
    clear hdq hfine
    generalize digU (m / 65536) = dq at *
    have hrl : m % 65536 < 65536 := Nat.mod_lt _ (by omega)
    have hrc : ((m % 65536 : Nat) : Int) = (m : Int) % 65536 := by omega
    have HRC := hide hrc
    clear hrc
    by_cases h0 : m % 65536 = 0
    · have hz : decide ((0 : Int) < (m : Int) % 65536) = false := by simp; omega
      have HF : Hid (R = [] ++ dq) := by rw [hR2.out, if_pos h0]; exact hide (by simp)
      have HZ := hide h0
      clear h0
      go_enter Tryz.func116, Tryz.ntmps116
      go_wp2_with (first
        | (go_at_call 46; refine (fits01_any _ _).mono ?_; rw [HFX.out]; rintro e w' ⟨rfl, rfl⟩)
        | (go_at_call 43; refine (HDQ.out _).mono ?_; rintro e w2 ⟨rfl, hf2⟩))
      go_loopg [4, 3] 16 (fun g rv sv wr => ∃ (r : Nat) (t : List UInt8), rv = .int .i64 r ∧ sv = .string ⟨t.toArray⟩ ∧ r < 65536 ∧ Fr [] w2 wr ∧ g ≤ 16 ∧ Hid (fine g r) ∧ Hid (t ++ fracD g r = R))
      case atStart => exact ⟨m % 65536, [] ++ dq, congrArg (Value.int .i64) HRC.out.symm, congrArg Value.string (HCA.out dq), hrl, Fr.refl _ _, Nat.le_refl _, HFI, by rw [HF.out]; rw [HZ.out, fracD_zero, List.append_nil]; rfl⟩
      case round =>
        obtain ⟨r, t, rfl, rfl, hr, hfr, hgk, hfi, hrel⟩ := hrel
        have htl : t.length ≤ 23 := by
          have h1 := congrArg List.length hrel.out
          rw [List.length_append] at h1
          have := HRL.out
          omega
        by_cases h0 : 0 < r
        · have hdk : decide ((0 : Int) < (r : Int)) = true := by simpa using h0
          have hdk2 : decide (0 < r) = true := by simpa using h0
          match gk, hgk, hfi, hrel with
          | 0, hgk, hfi, hrel => exact absurd (fine_end r hfi.out) (by omega)
          | g + 1, hgk, hfi, hrel =>
            · have hfs := hide (fine_step g r (by omega) hfi.out)
              have hst := fracD_step g r h0
              have hdd : decT ((r : Int) * 10 / 65536) = [UInt8.ofNat (48 + r * 10 / 65536)] := by
                unfold decT
                rw [if_neg (by omega)]
                have : ((r : Int) * 10 / 65536).natAbs = r * 10 / 65536 := by omega
                rw [this, digU_lt (by omega)]; rfl
              have HDD := hide (fun w => dec_any ((r : Int) * 10 / 65536) w (by omega) (by omega))
              rw [hdd] at HDD
              clear hdd
              obtain ⟨c, hc⟩ : ∃ c, c = UInt8.ofNat (48 + r * 10 / 65536) := ⟨_, rfl⟩
              rw [← hc] at HDD hst
              have HFF : Hid (t ++ [c] ++ fracD g (r * 10 % 65536) = R) := by rw [← hrel.out, hst]; exact hide (by simp)
              clear hc hst h0
              have HCT := hide (cat_str t [c])
              have hr0 : (0 : Int) ≤ (r : Int) := by omega
              go_wp2_with (go_at_call 43; refine (HDD.out _).mono ?_; rintro e w3 ⟨rfl, hf3⟩)
              go_roundg g
              case measure => exact Nat.lt_succ_self g
              case rel => exact ⟨r * 10 % 65536, t ++ [c], congrArg (Value.int .i64) (by omega), congrArg Value.string HCT.out, Nat.mod_lt _ (by omega), hfr.trans hf3, by omega, hfs, HFF⟩
        · have hdk : decide ((0 : Int) < (r : Int)) = false := by simp; omega
          have hdk2 : decide (0 < r) = false := by simp; omega
          have HTR : Hid (t = R) := by
            have h1 := hrel.out
            rw [show r = 0 by omega, fracD_zero, List.append_nil] at h1
            exact hide h1
          go_wp2
          go_ret
          exact ⟨by rw [HTR.out]; rfl, hf2.trans hfr⟩
    · have hz : decide ((0 : Int) < (m : Int) % 65536) = true := by simp; omega
      have HF : Hid (R = [] ++ dq ++ [46] ++ fracD 16 (m % 65536)) := by rw [hR2.out, if_neg h0]; exact hide (by simp)
      have HZ := hide h0
      clear h0
      go_enter Tryz.func116, Tryz.ntmps116
      go_wp2_with (first
        | (go_at_call 46; refine (fits01_any _ _).mono ?_; rw [HFX.out]; rintro e w' ⟨rfl, rfl⟩)
        | (go_at_call 43; refine (HDQ.out _).mono ?_; rintro e w2 ⟨rfl, hf2⟩))
      go_loopg [4, 3] 16 (fun g rv sv wr => ∃ (r : Nat) (t : List UInt8), rv = .int .i64 r ∧ sv = .string ⟨t.toArray⟩ ∧ r < 65536 ∧ Fr [] w2 wr ∧ g ≤ 16 ∧ Hid (fine g r) ∧ Hid (t ++ fracD g r = R))
      case atStart => exact ⟨m % 65536, [] ++ dq ++ [46], congrArg (Value.int .i64) HRC.out.symm, congrArg Value.string (by rw [HCA.out dq]; exact HC2.out ([] ++ dq) [46]), hrl, Fr.refl _ _, Nat.le_refl _, HFI, by rw [HF.out]; rfl⟩
      case round =>
        obtain ⟨r, t, rfl, rfl, hr, hfr, hgk, hfi, hrel⟩ := hrel
        have htl : t.length ≤ 23 := by
          have h1 := congrArg List.length hrel.out
          rw [List.length_append] at h1
          have := HRL.out
          omega
        by_cases h0 : 0 < r
        · have hdk : decide ((0 : Int) < (r : Int)) = true := by simpa using h0
          have hdk2 : decide (0 < r) = true := by simpa using h0
          match gk, hgk, hfi, hrel with
          | 0, hgk, hfi, hrel => exact absurd (fine_end r hfi.out) (by omega)
          | g + 1, hgk, hfi, hrel =>
            · have hfs := hide (fine_step g r (by omega) hfi.out)
              have hst := fracD_step g r h0
              have hdd : decT ((r : Int) * 10 / 65536) = [UInt8.ofNat (48 + r * 10 / 65536)] := by
                unfold decT
                rw [if_neg (by omega)]
                have : ((r : Int) * 10 / 65536).natAbs = r * 10 / 65536 := by omega
                rw [this, digU_lt (by omega)]; rfl
              have HDD := hide (fun w => dec_any ((r : Int) * 10 / 65536) w (by omega) (by omega))
              rw [hdd] at HDD
              clear hdd
              obtain ⟨c, hc⟩ : ∃ c, c = UInt8.ofNat (48 + r * 10 / 65536) := ⟨_, rfl⟩
              rw [← hc] at HDD hst
              have HFF : Hid (t ++ [c] ++ fracD g (r * 10 % 65536) = R) := by rw [← hrel.out, hst]; exact hide (by simp)
              clear hc hst h0
              have HCT := hide (cat_str t [c])
              have hr0 : (0 : Int) ≤ (r : Int) := by omega
              go_wp2_with (go_at_call 43; refine (HDD.out _).mono ?_; rintro e w3 ⟨rfl, hf3⟩)
              go_roundg g
              case measure => exact Nat.lt_succ_self g
              case rel => exact ⟨r * 10 % 65536, t ++ [c], congrArg (Value.int .i64) (by omega), congrArg Value.string HCT.out, Nat.mod_lt _ (by omega), hfr.trans hf3, by omega, hfs, HFF⟩
        · have hdk : decide ((0 : Int) < (r : Int)) = false := by simp; omega
          have hdk2 : decide (0 < r) = false := by simp; omega
          have HTR : Hid (t = R) := by
            have h1 := hrel.out
            rw [show r = 0 by omega, fracD_zero, List.append_nil] at h1
            exact hide h1
          go_wp2
          go_ret
          exact ⟨by rw [HTR.out]; rfl, hf2.trans hfr⟩
end Go.Proofs.YtdjhjfpeckndkaaGreatDoor
namespace Go.Proofs.YtdjhjfpeckndkaaGreatDoor
open Go.RowKit
set_option maxRecDepth 100000 in
set_option maxHeartbeats 1000000 in
theorem printReal_any (n : Int) (w : World) : Calls Tryz.prog 63 #[.int .i64 n] w fun e w' => e = .returned (.string ⟨(realT n).toArray⟩) ∧ Fr [] w w' := by
  have hpl := printT_len n
  cases hfx : fitsI n
  · have hT : realT n = printT 0 ++ [46, 48] := by
      unfold realT
      rw [hfx]
      have h1 : printT n = [48] := by unfold printT; rw [hfx]; rfl
      have h2 : printT 0 = [48] := by unfold printT; rw [show fitsI 0 = true from rfl]; simp [digU_lt]
      rw [h1, h2]; rfl
    rw [hT]
    have HP := hide (print01_any 0)
    have HE := hide (cat_str (printT 0) [46, 48])
    have hpl0 := printT_len 0
    clear hT
    generalize printT 0 = p0 at *
    go_enter Tryz.func63, Tryz.ntmps63
    go_wp2_with (first
      | (go_at_call 46; refine (fits01_any _ _).mono ?_; rw [hfx]; rintro e w' ⟨rfl, rfl⟩)
      | (go_at_call 116; refine (HP.out _).mono ?_; rintro e w2 ⟨rfl, hf2⟩))
    go_ret
    exact ⟨congrArg (fun x => Ending.returned (.string x)) HE.out, hf2⟩
  · have HP := hide (print01_any n)
    have HE := hide (cat_str (printT n) [46, 48])
    by_cases h0 : n % 65536 = 0
    · have hT : realT n = printT n ++ [46, 48] := by unfold realT; rw [hfx, if_pos rfl, if_pos h0]
      rw [hT]
      have hz : (n.tmod 65536 == 0) = true := by
        have := Int.tmod_eq_zero_of_dvd (Int.dvd_of_emod_eq_zero h0)
        simp [this]
      clear hT h0
      generalize printT n = p0 at *
      go_enter Tryz.func63, Tryz.ntmps63
      go_wp2_with (first
        | (go_at_call 46; refine (fits01_any _ _).mono ?_; rw [hfx]; rintro e w' ⟨rfl, rfl⟩)
        | (go_at_call 116; refine (HP.out _).mono ?_; rintro e w2 ⟨rfl, hf2⟩))
      go_ret
      exact ⟨congrArg (fun x => Ending.returned (.string x)) HE.out, hf2⟩
    · have hT : realT n = printT n := by unfold realT; rw [hfx, if_pos rfl, if_neg h0]
      rw [hT]
      have hz : (n.tmod 65536 == 0) = false := by
        simp
        exact fun h => h0 (Int.emod_eq_zero_of_dvd (Int.dvd_of_tmod_eq_zero h))
      clear hT h0
      generalize printT n = p0 at *
      go_enter Tryz.func63, Tryz.ntmps63
      go_wp2_with (first
        | (go_at_call 46; refine (fits01_any _ _).mono ?_; rw [hfx]; rintro e w' ⟨rfl, rfl⟩)
        | (go_at_call 116; refine (HP.out _).mono ?_; rintro e w2 ⟨rfl, hf2⟩))
      go_ret
      exact ⟨rfl, hf2⟩
theorem own_lit {w : World} {base n : Nat} {t : TypeId} {cs : List Value} (hn : cs.length = n) (hb : base ≤ w.heap.size) (hm : n ≤ maxLen) : (w.alloc (.cells cs.toArray t)).ownsRow base t 1 (.slice (some ⟨w.heap.size, 0, none⟩) n n) n cs :=
  ⟨by omega, .inr ⟨w.heap.size, n, cs.toArray, rfl, hb, heap_alloc_new w _, Nat.le_refl _, hm, by simp [hn], by simp [List.take_of_length_le (by omega : cs.length ≤ n)]⟩⟩
/-- 'out = append(out, ..)' at bytes that lie in the newest block. -/
theorem app_u8s {ops : Array Oper} {rest : List Oper} {o : Oper} {a : Act} {Q : Exit → Act → World → Prop} (hgd : o.guard = none) (s x : Operand)
    (ho : o.op = .call { callee := .builtin .append, args := #[s, x], argTypes := #[22, 22] })
    (v : Value) (bs : List UInt8) (w0 : World) (base n m : Nat) (cs : List UInt8) (vals : List Value) (hv : vals = u8s cs) (hm : cs.length = m) (hs : a.eval s = v) (hn : bs.length = n) (hown : w0.ownsRow base 5 1 v n (u8s bs))
    (hx : a.eval x = .slice (some ⟨w0.heap.size, 0, none⟩) m m) (hlen : n + m ≤ 137438953472) (hbase : base ≤ w0.heap.size)
    (h : ∀ v' w', w'.ownsRow base 5 1 v' (n + m) (u8s (bs ++ cs)) → Fr v.ownBlock.toList w0 w' → (v'.ownBlock = v.ownBlock ∨ v'.ownBlock = some (w0.heap.size + 1)) → wpList Tryz.prog ops Q rest (a.put o.dst v') w') :
    wpList Tryz.prog ops Q (o :: rest) a (w0.alloc (.cells vals.toArray 5)) := by
  subst hv
  obtain ⟨i0, hi0, hz0, hz1, hz2⟩ := info_parts info_u8
  refine wpList_append_any (P := Tryz.prog) _ hgd s x _ ho base 5 i0 _ 1 1 Tryz.underlying22 hi0 hz0 hz1 hz2 rfl (by omega) v n (u8s bs) hs (own_keep hown ((Fr.refl [] w0).alloc _) (by simp)) (fun g => g = w0.heap.size) (some ⟨w0.heap.size, 0, none⟩) m m (u8s cs) hx (rd_new w0 _ _ m 1 (by rw [u8s_length]; omega)) (u8s_one _) (by simp only [maxLen]; omega) (by omega) (by simp; omega) ?_
  intro v' w' hown' hg hb
  refine h v' w' (by rw [u8s_append]; exact hown') (((Fr.refl _ w0).alloc _).grown hg (fun k hk => .inl (by rw [hk]; simp))) (by simpa using hb)
set_option maxRecDepth 100000 in
set_option maxHeartbeats 2000000 in
theorem r18Text_any (s : List UInt8) (w : World) (hl : s.length ≤ 1073741824) : Calls Tryz.prog 65 #[.string ⟨s.toArray⟩] w fun e w' => e = .returned (.string ⟨(textT s).toArray⟩) ∧ Fr [] w w' := by
  obtain ⟨R, hR⟩ : ∃ R, R = textT s := ⟨_, rfl⟩
  rw [← hR]
  have HR := hide hR
  clear hR
  go_enter Tryz.func65, Tryz.ntmps65
  go_wp2
  obtain ⟨W0, hW0⟩ : ∃ W0, W0 = w.alloc (.cells #[.int .u8 40] 5) := ⟨_, rfl⟩
  have hown0 : W0.ownsRow w.heap.size 5 1 (.slice (some ⟨w.heap.size, 0, none⟩) 1 1) 1 (u8s [40]) := by rw [hW0]; exact own_lit (cs := [.int .u8 40]) rfl (Nat.le_refl _) (by unfold maxLen; omega)
  have hf0 : Fr [] w W0 := by rw [hW0]; exact (by repeat (first | with_reducible exact Fr.refl _ _ | with_reducible assumption | with_reducible refine Fr.drewN ?_ _ | with_reducible refine Fr.drew ?_ | with_reducible refine Fr.alloc ?_ _ | ((with_reducible refine Fr.setCell ?_ ?_ _) <;> first | (apply Or.inl; simp; done) | (apply Or.inr; simp; done) | (apply Or.inr; simp; omega) | skip) | (refine Fr.then0 ?_ (by with_reducible assumption)) | (refine Fr.trans ?_ (by with_reducible assumption))))
  rw [← hW0]
  clear hW0
  go_loopw [4, 3] (fun i o wr => ∃ (k : Nat) (t : List UInt8), k ≤ s.length ∧ i = .int .i64 k ∧ wr.ownsRow w.heap.size 5 1 o t.length (u8s t) ∧ t.length ≤ 1 + 4 * k ∧ Fr [] w wr ∧ Hid (t = 40 :: (s.take k).flatMap textC)) (fun i _ _ => s.length - (intOf i).toNat)
  case atStart => exact ⟨0, [40], Nat.zero_le _, rfl, hown0, by simp, hf0, hide (by simp)⟩
  case round =>
    obtain ⟨k, t, hk, rfl, hown, htl, hfr, hrel⟩ := hrel
    obtain ⟨Ao, co, rfl⟩ := own_slice hown
    by_cases hlt : k < s.length
    · obtain ⟨u, hu⟩ : ∃ u, s[k]? = some u := ⟨_, List.getElem?_eq_getElem hlt⟩
      have hd : decide ((k : Int) < (s.length : Int)) = true := by simp; omega
      have hi := idx_str Tryz.underlying9 hu
      have HF : Hid (40 :: (s.take (k + 1)).flatMap textC = t ++ textC u) := by rw [hrel.out, flat_snoc hu]; rfl
      have hul := u.toNat_lt
      clear hu
      by_cases hs1 : u.toNat = 40 ∨ u.toNat = 41 ∨ u.toNat = 92
      · have hn : textC u = [92, u] := by unfold textC; rw [if_pos hs1]
        rw [hn] at HF
        clear hn
        have hv2 : [Value.int .u8 92, .int .u8 u.toNat] = u8s [92, u] := by simp [u8s]
        have HV := hide hv2
        clear hv2
        have go3 : ((u.toNat : Int) == 40) = true ∨ (((u.toNat : Int) == 40) = false ∧ ((u.toNat : Int) == 41) = true) ∨ (((u.toNat : Int) == 40) = false ∧ ((u.toNat : Int) == 41) = false ∧ ((u.toNat : Int) == 92) = true) := by simp; omega
        clear hs1
        rcases go3 with d1 | ⟨d1, d2⟩ | ⟨d1, d2, d3⟩
        all_goals
          go_wp2_with (at_builtin; refine app_u8s rfl (.tmp 31) (.tmp 33) rfl _ t wr w.heap.size _ 2 [92, u] _ HV.out rfl rfl rfl hown rfl (by omega) hfr.size ?_; intro v1 w1 hown1 hf1 _)
          go_roundw
          case rel => exact ⟨k + 1, t ++ [92, u], by omega, by go_num, by rw [List.length_append]; exact hown1, by simp; omega, fr_app hfr hown (Nat.le_refl _) hf1, HF.out.symm⟩
          case measure => simp [intOf]; omega
      · have e1 : ((u.toNat : Int) == 40) = false := by simp; omega
        have e2 : ((u.toNat : Int) == 41) = false := by simp; omega
        have e3 : ((u.toNat : Int) == 92) = false := by simp; omega
        by_cases hs2 : u.toNat < 32 ∨ 126 < u.toNat
        · have hn : textC u = [92, octC (u.toNat / 64), octC (u.toNat / 8 % 8), octC (u.toNat % 8)] := by unfold textC; rw [if_neg hs1, if_pos hs2]
          rw [hn] at HF
          clear hn hs1
          have hv2 : [Value.int .u8 92, .int .u8 (48 + (u.toNat : Int) / 64), .int .u8 (48 + (u.toNat : Int) / 8 % 8), .int .u8 (48 + (u.toNat : Int) % 8)] = u8s [92, octC (u.toNat / 64), octC (u.toNat / 8 % 8), octC (u.toNat % 8)] := by
            simp only [u8s, List.map_cons, List.map_nil, oct_a, oct_b, oct_c]
            refine congr (congrArg List.cons rfl) (congr (congrArg List.cons (congrArg _ (by omega))) (congr (congrArg List.cons (congrArg _ (by omega))) (congr (congrArg List.cons (congrArg _ (by omega))) rfl)))
          have HV := hide hv2
          clear hv2
          have go2 : decide ((u.toNat : Int) < 32) = true ∨ (decide ((u.toNat : Int) < 32) = false ∧ decide ((126 : Int) < (u.toNat : Int)) = true) := by simp; omega
          clear hs2
          generalize octC (u.toNat / 64) = x1 at *
          generalize octC (u.toNat / 8 % 8) = x2 at *
          generalize octC (u.toNat % 8) = x3 at *
          rcases go2 with d1 | ⟨d1, d2⟩
          all_goals
            go_wp2_with (at_builtin; refine app_u8s rfl (.tmp 42) (.tmp 53) rfl _ t wr w.heap.size _ 4 [92, x1, x2, x3] _ HV.out rfl rfl rfl hown rfl (by omega) hfr.size ?_; intro v1 w1 hown1 hf1 _)
            go_roundw
            case rel => exact ⟨k + 1, t ++ [92, x1, x2, x3], by omega, by go_num, by rw [List.length_append]; exact hown1, by simp; omega, fr_app hfr hown (Nat.le_refl _) hf1, HF.out.symm⟩
            case measure => simp [intOf]; omega
        · have hn : textC u = [u] := by unfold textC; rw [if_neg hs1, if_neg hs2]
          rw [hn] at HF
          have d1 : decide ((u.toNat : Int) < 32) = false := by simp; omega
          have d2 : decide ((126 : Int) < (u.toNat : Int)) = false := by simp; omega
          clear hn hs1 hs2
          have hv2 : [Value.int .u8 u.toNat] = u8s [u] := by simp [u8s]
          have HV := hide hv2
          clear hv2
          go_wp2_with (at_builtin; refine app_u8s rfl (.tmp 16) (.tmp 18) rfl _ t wr w.heap.size _ 1 [u] _ HV.out rfl rfl rfl hown rfl (by omega) hfr.size ?_; intro v1 w1 hown1 hf1 _)
          go_roundw
          case rel => exact ⟨k + 1, t ++ [u], by omega, by go_num, by rw [List.length_append]; exact hown1, by simp; omega, fr_app hfr hown (Nat.le_refl _) hf1, HF.out.symm⟩
          case measure => simp [intOf]; omega
    · have hd : decide ((k : Int) < (s.length : Int)) = false := by simp; omega
      have HF : Hid (t ++ [41] = R) := by
        rw [hrel.out, HR.out, List.take_of_length_le (by omega)]; rfl
      have hv2 : [Value.int .u8 41] = u8s [41] := rfl
      have HV := hide hv2
      clear hv2
      go_wp2_with (at_builtin; refine app_u8s rfl (.tmp 55) (.tmp 56) rfl _ t wr w.heap.size _ 1 [41] _ HV.out rfl rfl rfl hown rfl (by omega) hfr.size ?_; intro v1 w1 hown1 hf1 _; obtain ⟨A1, c1, rfl⟩ := own_slice hown1; have hcv := conv_rb Tryz.underlying22 Tryz.underlying5 Tryz.underlying9 (c := c1) (Rd.of_own hown1 : RB w1 _ A1 _ (t ++ [41])))
      go_ret
      exact ⟨by rw [← HF.out]; rfl, fr_app hfr hown (Nat.le_refl _) hf1⟩
end Go.Proofs.YtdjhjfpeckndkaaGreatDoor
