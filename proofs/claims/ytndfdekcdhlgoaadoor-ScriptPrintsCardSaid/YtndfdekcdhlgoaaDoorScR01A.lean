/- Contracts: the reference's numbers as texts (Fits, Dec, Print). -/
import Derived.Test.YtndfdekcdhlgoaaDoorScPlain
import Derived.Test.YtndfdekcdhlgoaaDoorScBase
set_option linter.unusedVariables false
set_option linter.unusedSimpArgs false
namespace Go.Proofs.YtndfdekcdhlgoaaDoor
open Go.RowKit
theorem fits01_any (n : Int) (w : World) : Calls Tryd.prog 52 #[.int .i64 n] w fun e w' => e = .returned (.bool (fitsI n)) ∧ w = w' := by
  go_enter Tryd.func52, Tryd.ntmps52
  go_wp2
  all_goals (go_ret; exact ⟨ret_bool (by unfold fitsI; rw [Bool.eq_iff_iff]; simp; omega), rfl⟩)
theorem take_snoc {α : Type} {l : List α} {k : Nat} {x : α} (h : l[k]? = some x) : l.take (k + 1) = l.take k ++ [x] := by
  obtain ⟨hk, he⟩ := List.getElem?_eq_some_iff.1 h
  rw [List.take_succ_eq_append_getElem hk, he]
theorem digU_one {m : Nat} (t : List UInt8) : digU m ++ t = (if m / 10 = 0 then [] else digU (m / 10)) ++ UInt8.ofNat (48 + m % 10) :: t := by
  by_cases h : m < 10
  · rw [digU_lt h, if_pos (by omega), Nat.mod_eq_of_lt h]; rfl
  · rw [digU_ge h, if_neg (by omega), List.append_assoc]; rfl
theorem dig_cell (m : Nat) : (Value.int .u8 (48 + (m : Int) % 10)) = .int .u8 (UInt8.ofNat (48 + m % 10)).toNat := by
  rw [dg_toNat (m % 10) (by omega)]
  congr 1
theorem dig_conv (m : Nat) (w : World) : (convert 41 9 (.slice (some ⟨w.heap.size, 0, none⟩) 1 1)).run Tryd.prog (w.alloc (.cells #[.int .u8 (48 + (m : Int) % 10)] 5)) =
    .ok (.string ⟨[UInt8.ofNat (48 + m % 10)].toArray⟩) (w.alloc (.cells #[.int .u8 (48 + (m : Int) % 10)] 5)) := by
  have h : RB (w.alloc (.cells #[.int .u8 (48 + (m : Int) % 10)] 5)) (fun g => g = w.heap.size) (some ⟨w.heap.size, 0, none⟩) 1 [UInt8.ofNat (48 + m % 10)] := by
    rw [dig_cell]
    exact rd_new w _ _ 1 1 rfl
  exact conv_rb Tryd.underlying41 Tryd.underlying5 Tryd.underlying9 h
set_option maxRecDepth 100000 in
set_option maxHeartbeats 1000000 in
theorem udec_any (n : Nat) (w : World) (hn : n < 18446744073709551616) :
    Calls Tryd.prog 54 #[.int .u64 n] w fun e w' => e = .returned (.string ⟨(digU n).toArray⟩) ∧ Fr [] w w' := by
  obtain ⟨R, hR⟩ : ∃ R, R = digU n := ⟨_, rfl⟩
  rw [← hR]
  have HL := hide (by rw [hR]; exact digU_len 19 n (by omega) : R.length ≤ 20)
  have HR := hide hR
  clear hR
  go_enter Tryd.func54, Tryd.ntmps54
  go_wp2
  go_loopw [0, 3] (fun u s wr => ∃ (m : Nat) (t : List UInt8), m < 18446744073709551616 ∧ u = .int .u64 m ∧ s = .string ⟨t.toArray⟩ ∧ Fr [] w wr ∧ Hid (digU m ++ t = R)) (fun u _ _ => (intOf u).toNat + 1)
  case atStart => exact ⟨n, [], hn, rfl, rfl, Fr.refl _ _, hide (by rw [HR.out]; simp)⟩
  case round =>
    obtain ⟨m, t, hm, rfl, rfl, hfr, hrel⟩ := hrel
    have hcv := dig_conv m wr
    have HD := hide (digU_one (m := m) t)
    have htl : t.length ≤ 20 := by
      have h1 := congrArg List.length hrel.out
      rw [List.length_append] at h1
      have := HL.out
      omega
    obtain ⟨c, hc⟩ : ∃ c, c = UInt8.ofNat (48 + m % 10) := ⟨_, rfl⟩
    rw [← hc] at hcv HD
    clear hc
    by_cases h0 : m / 10 = 0
    · have hz : (((m : Int) / 10) == 0) = true := by simp; omega
      have HF : Hid (c :: t = R) := by
        rw [← hrel.out, HD.out, if_pos h0]; rfl
      clear h0
      go_wp2
      go_ret
      refine ⟨?_, hfr.alloc _⟩
      rw [← HF.out]
      exact congrArg (fun x => Ending.returned (.string x)) (cat_str [c] t)
    · have hz : (((m : Int) / 10) == 0) = false := by simp; omega
      have HF : Hid (digU (m / 10) ++ c :: t = R) := by
        rw [← hrel.out, HD.out, if_neg h0]; rfl
      have hpos : 0 < m := by omega
      clear h0
      go_wp2
      go_roundw
      case rel => exact ⟨m / 10, c :: t, by omega, by simp, congrArg Value.string (cat_str [c] t), hfr.alloc _, HF⟩
      case measure => simp [intOf]; omega
theorem udec_int (z : Int) (w : World) (h0 : 0 ≤ z) (h1 : z < 18446744073709551616) : Calls Tryd.prog 54 #[.int .u64 z] w fun e w' => e = .returned (.string ⟨(digU z.toNat).toArray⟩) ∧ Fr [] w w' := by
  obtain ⟨n, rfl⟩ := Int.eq_ofNat_of_zero_le h0
  exact udec_any n w (by omega)
theorem digU_len20 (n : Nat) (h : n < 18446744073709551616) : (digU n).length ≤ 20 := digU_len 19 n (by omega)
set_option maxRecDepth 100000 in
set_option maxHeartbeats 1000000 in
theorem dec_any (n : Int) (w : World) (h0 : -4611686018427387904 ≤ n) (h1 : n ≤ 4611686018427387904) : Calls Tryd.prog 38 #[.int .i64 n] w fun e w' => e = .returned (.string ⟨(decT n).toArray⟩) ∧ Fr [] w w' := by
  by_cases hn : n < 0
  · have hd : decide (n < 0) = true := by simpa using hn
    have hlen := digU_len20 n.natAbs (by omega)
    have hT : decT n = 45 :: digU n.natAbs := by unfold decT; rw [if_pos hn]; rfl
    have HE := hide (cat_str [45] (digU n.natAbs))
    rw [hT]
    clear hT
    have hto : ∀ z : Int, z = -n → z.toNat = n.natAbs := fun z hz => by omega
    have HTO := hide hto
    clear hto
    go_enter Tryd.func38, Tryd.ntmps38
    go_wp2_with (go_at_call 54; refine (udec_int _ _ (by omega) (by omega)).mono ?_; rw [HTO.out _ (by omega)]; rintro e w2 ⟨rfl, hf2⟩)
    go_ret
    exact ⟨congrArg (fun x => Ending.returned (.string x)) HE.out, hf2⟩
  · have hd : decide (n < 0) = false := by simpa using hn
    have hT : decT n = digU n.natAbs := by unfold decT; rw [if_neg hn]; rfl
    rw [hT]
    clear hT
    have hto : n.toNat = n.natAbs := by omega
    have HTO := hide hto
    clear hto
    have h2 : 0 ≤ n := by omega
    go_enter Tryd.func38, Tryd.ntmps38
    go_wp2_with (go_at_call 54; refine (udec_int _ _ (by omega) (by omega)).mono ?_; rw [HTO.out]; rintro e w2 ⟨rfl, hf2⟩)
    go_ret
    exact ⟨rfl, hf2⟩
theorem fracD_step (j r : Nat) (hr : 0 < r) : fracD (j + 1) r = UInt8.ofNat (48 + r * 10 / 65536) :: fracD j (r * 10 % 65536) := by
  rw [fracD, if_neg (by omega)]
set_option maxRecDepth 100000 in
set_option maxHeartbeats 2000000 in
theorem print01_any (n : Int) (w : World) : Calls Tryd.prog 36 #[.int .i64 n] w fun e w' => e = .returned (.string ⟨(printT n).toArray⟩) ∧ Fr [] w w' := by
  obtain ⟨R, hR⟩ : ∃ R, R = printT n := ⟨_, rfl⟩
  rw [← hR]
  have HRL := hide (by rw [hR]; exact printT_len n : R.length ≤ 23)
  have HR := hide hR
  clear hR
  cases hfx : fitsI n
  · have HF : Hid (R = [48]) := by rw [HR.out]; unfold printT; rw [hfx]; rfl
    go_enter Tryd.func36, Tryd.ntmps36
    go_wp2_with (go_at_call 52; refine (fits01_any _ _).mono ?_; rw [hfx]; rintro e w' ⟨rfl, rfl⟩)
    go_ret
    exact ⟨by rw [HF.out]; rfl, Fr.refl _ _⟩
  by_cases hn : n < 0
  · obtain ⟨m, rfl⟩ : ∃ m : Nat, n = -(m : Int) := ⟨n.natAbs, by omega⟩
    have hd : decide (-(m : Int) < 0) = true := by simpa using hn
    have hmp : 0 < m := by omega
    have hd' : decide (0 < m) = true := by simpa using hmp
    have hm : m ≤ 2147483648 := by unfold fitsI at hfx; simp at hfx; omega
    have hdl := digU_len 4 (m / 65536) (by omega)
    have hdq : decT ((m : Int) / 65536) = digU (m / 65536) := by
      unfold decT
      rw [if_neg (by omega)]
      have : ((m : Int) / 65536).natAbs = m / 65536 := by omega
      rw [this]; rfl
    have hR2 : Hid (R = [45] ++ digU (m / 65536) ++ (if m % 65536 = 0 then [] else 46 :: fracD 16 (m % 65536))) := by
      rw [HR.out]
      unfold printT
      rw [hfx, if_pos rfl]
      rw [if_pos (by omega), show (-(m : Int)).natAbs = m by omega]; rfl
    have HDQ := hide (fun w => dec_any ((m : Int) / 65536) w (by omega) (by omega))
    rw [hdq] at HDQ
    have hfine := fine_start (m % 65536) (Nat.mod_lt _ (by omega))
    have HFI := hide hfine
    have HFX := hide hfx
    have HCA := hide (fun (a : List UInt8) => cat_str [45] a)
    have HC2 := hide (fun (a b : List UInt8) => cat_str a b)
    have hm0 : (0 : Int) ≤ (m : Int) := by omega
    clear hdq hfine
    generalize digU (m / 65536) = dq at *
    have hrl : m % 65536 < 65536 := Nat.mod_lt _ (by omega)
    have hrc : ((m % 65536 : Nat) : Int) = (m : Int) % 65536 := by omega
    have HRC := hide hrc
    clear hrc
    by_cases h0 : m % 65536 = 0
    · have hz : decide ((0 : Int) < (m : Int) % 65536) = false := by simp; omega
      have HF : Hid (R = [45] ++ dq) := by rw [hR2.out, if_pos h0]; exact hide (by simp)
      have HZ := hide h0
      clear h0
      go_enter Tryd.func36, Tryd.ntmps36
      go_wp2_with (first
        | (go_at_call 52; refine (fits01_any _ _).mono ?_; rw [HFX.out]; rintro e w' ⟨rfl, rfl⟩)
        | (go_at_call 38; refine (HDQ.out _).mono ?_; rintro e w2 ⟨rfl, hf2⟩))
      go_loopg [4, 3] 16 (fun g rv sv wr => ∃ (r : Nat) (t : List UInt8), rv = .int .i64 r ∧ sv = .string ⟨t.toArray⟩ ∧ r < 65536 ∧ Fr [] w2 wr ∧ g ≤ 16 ∧ Hid (fine g r) ∧ Hid (t ++ fracD g r = R))
      case atStart => exact ⟨m % 65536, [45] ++ dq, congrArg (Value.int .i64) HRC.out.symm, congrArg Value.string (HCA.out dq), hrl, Fr.refl _ _, Nat.le_refl _, HFI, by rw [HF.out]; rw [HZ.out, fracD_zero, List.append_nil]; rfl⟩
      case round =>
        obtain ⟨r, t, rfl, rfl, hr, hfr, hgk, hfi, hrel⟩ := hrel
        have htl : t.length ≤ 23 := by
          have h1 := congrArg List.length hrel.out
          rw [List.length_append] at h1
          have := HRL.out
          omega
        by_cases h0 : 0 < r
        · have hdk : decide ((0 : Int) < (r : Int)) = true := by simpa using h0
          have hdk2 : decide (0 < r) = true := by simpa using h0
          match gk, hgk, hfi, hrel with
          | 0, hgk, hfi, hrel => exact absurd (fine_end r hfi.out) (by omega)
          | g + 1, hgk, hfi, hrel =>
            · have hfs := hide (fine_step g r (by omega) hfi.out)
              have hst := fracD_step g r h0
              have hdd : decT ((r : Int) * 10 / 65536) = [UInt8.ofNat (48 + r * 10 / 65536)] := by
                unfold decT
                rw [if_neg (by omega)]
                have : ((r : Int) * 10 / 65536).natAbs = r * 10 / 65536 := by omega
                rw [this, digU_lt (by omega)]; rfl
              have HDD := hide (fun w => dec_any ((r : Int) * 10 / 65536) w (by omega) (by omega))
              rw [hdd] at HDD
              clear hdd
              obtain ⟨c, hc⟩ : ∃ c, c = UInt8.ofNat (48 + r * 10 / 65536) := ⟨_, rfl⟩
              rw [← hc] at HDD hst
              have HFF : Hid (t ++ [c] ++ fracD g (r * 10 % 65536) = R) := by rw [← hrel.out, hst]; exact hide (by simp)
              clear hc hst h0
              have HCT := hide (cat_str t [c])
              have hr0 : (0 : Int) ≤ (r : Int) := by omega
              go_wp2_with (go_at_call 38; refine (HDD.out _).mono ?_; rintro e w3 ⟨rfl, hf3⟩)
              go_roundg g
              case measure => exact Nat.lt_succ_self g
              case rel => exact ⟨r * 10 % 65536, t ++ [c], congrArg (Value.int .i64) (by omega), congrArg Value.string HCT.out, Nat.mod_lt _ (by omega), hfr.trans hf3, by omega, hfs, HFF⟩
        · have hdk : decide ((0 : Int) < (r : Int)) = false := by simp; omega
          have hdk2 : decide (0 < r) = false := by simp; omega
          have HTR : Hid (t = R) := by
            have h1 := hrel.out
            rw [show r = 0 by omega, fracD_zero, List.append_nil] at h1
            exact hide h1
          go_wp2
          go_ret
          exact ⟨by rw [HTR.out]; rfl, hf2.trans hfr⟩
    · have hz : decide ((0 : Int) < (m : Int) % 65536) = true := by simp; omega
      have HF : Hid (R = [45] ++ dq ++ [46] ++ fracD 16 (m % 65536)) := by rw [hR2.out, if_neg h0]; exact hide (by simp)
      have HZ := hide h0
      clear h0
      go_enter Tryd.func36, Tryd.ntmps36
      go_wp2_with (first
        | (go_at_call 52; refine (fits01_any _ _).mono ?_; rw [HFX.out]; rintro e w' ⟨rfl, rfl⟩)
        | (go_at_call 38; refine (HDQ.out _).mono ?_; rintro e w2 ⟨rfl, hf2⟩))
      go_loopg [4, 3] 16 (fun g rv sv wr => ∃ (r : Nat) (t : List UInt8), rv = .int .i64 r ∧ sv = .string ⟨t.toArray⟩ ∧ r < 65536 ∧ Fr [] w2 wr ∧ g ≤ 16 ∧ Hid (fine g r) ∧ Hid (t ++ fracD g r = R))
      case atStart => exact ⟨m % 65536, [45] ++ dq ++ [46], congrArg (Value.int .i64) HRC.out.symm, congrArg Value.string (by rw [HCA.out dq]; exact HC2.out ([45] ++ dq) [46]), hrl, Fr.refl _ _, Nat.le_refl _, HFI, by rw [HF.out]; rfl⟩
      case round =>
        obtain ⟨r, t, rfl, rfl, hr, hfr, hgk, hfi, hrel⟩ := hrel
        have htl : t.length ≤ 23 := by
          have h1 := congrArg List.length hrel.out
          rw [List.length_append] at h1
          have := HRL.out
          omega
        by_cases h0 : 0 < r
        · have hdk : decide ((0 : Int) < (r : Int)) = true := by simpa using h0
          have hdk2 : decide (0 < r) = true := by simpa using h0
          match gk, hgk, hfi, hrel with
          | 0, hgk, hfi, hrel => exact absurd (fine_end r hfi.out) (by omega)
          | g + 1, hgk, hfi, hrel =>
            · have hfs := hide (fine_step g r (by omega) hfi.out)
              have hst := fracD_step g r h0
              have hdd : decT ((r : Int) * 10 / 65536) = [UInt8.ofNat (48 + r * 10 / 65536)] := by
                unfold decT
                rw [if_neg (by omega)]
                have : ((r : Int) * 10 / 65536).natAbs = r * 10 / 65536 := by omega
                rw [this, digU_lt (by omega)]; rfl
              have HDD := hide (fun w => dec_any ((r : Int) * 10 / 65536) w (by omega) (by omega))
              rw [hdd] at HDD
              clear hdd
              obtain ⟨c, hc⟩ : ∃ c, c = UInt8.ofNat (48 + r * 10 / 65536) := ⟨_, rfl⟩
              rw [← hc] at HDD hst
              have HFF : Hid (t ++ [c] ++ fracD g (r * 10 % 65536) = R) := by rw [← hrel.out, hst]; exact hide (by simp)
              clear hc hst h0
              have HCT := hide (cat_str t [c])
              have hr0 : (0 : Int) ≤ (r : Int) := by omega
              go_wp2_with (go_at_call 38; refine (HDD.out _).mono ?_; rintro e w3 ⟨rfl, hf3⟩)
              go_roundg g
              case measure => exact Nat.lt_succ_self g
              case rel => exact ⟨r * 10 % 65536, t ++ [c], congrArg (Value.int .i64) (by omega), congrArg Value.string HCT.out, Nat.mod_lt _ (by omega), hfr.trans hf3, by omega, hfs, HFF⟩
        · have hdk : decide ((0 : Int) < (r : Int)) = false := by simp; omega
          have hdk2 : decide (0 < r) = false := by simp; omega
          have HTR : Hid (t = R) := by
            have h1 := hrel.out
            rw [show r = 0 by omega, fracD_zero, List.append_nil] at h1
            exact hide h1
          go_wp2
          go_ret
          exact ⟨by rw [HTR.out]; rfl, hf2.trans hfr⟩
  · obtain ⟨m, rfl⟩ : ∃ m : Nat, n = (m : Int) := ⟨n.natAbs, by omega⟩
    have hd : decide ((m : Int) < 0) = false := by simp
    have hm : m ≤ 2147483648 := by unfold fitsI at hfx; simp at hfx; omega
    have hdl := digU_len 4 (m / 65536) (by omega)
    have hdq : decT ((m : Int) / 65536) = digU (m / 65536) := by
      unfold decT
      rw [if_neg (by omega)]
      have : ((m : Int) / 65536).natAbs = m / 65536 := by omega
      rw [this]; rfl
    have hR2 : Hid (R = [] ++ digU (m / 65536) ++ (if m % 65536 = 0 then [] else 46 :: fracD 16 (m % 65536))) := by
      rw [HR.out]
      unfold printT
      rw [hfx, if_pos rfl]
      rw [if_neg (by omega), show ((m : Int)).natAbs = m by omega]; rfl
    have HDQ := hide (fun w => dec_any ((m : Int) / 65536) w (by omega) (by omega))
    rw [hdq] at HDQ
    have hfine := fine_start (m % 65536) (Nat.mod_lt _ (by omega))
    have HFI := hide hfine
    have HFX := hide hfx
    have HCA := hide (fun (a : List UInt8) => cat_str [] a)
    have HC2 := hide (fun (a b : List UInt8) => cat_str a b)
    have hm0 : (0 : Int) ≤ (m : Int) := by omega
    clear hdq hfine
    generalize digU (m / 65536) = dq at *
    have hrl : m % 65536 < 65536 := Nat.mod_lt _ (by omega)
    have hrc : ((m % 65536 : Nat) : Int) = (m : Int) % 65536 := by omega
    have HRC := hide hrc
    clear hrc
    by_cases h0 : m % 65536 = 0
    · have hz : decide ((0 : Int) < (m : Int) % 65536) = false := by simp; omega
      have HF : Hid (R = [] ++ dq) := by rw [hR2.out, if_pos h0]; exact hide (by simp)
      have HZ := hide h0
      clear h0
      go_enter Tryd.func36, Tryd.ntmps36
      go_wp2_with (first
        | (go_at_call 52; refine (fits01_any _ _).mono ?_; rw [HFX.out]; rintro e w' ⟨rfl, rfl⟩)
        | (go_at_call 38; refine (HDQ.out _).mono ?_; rintro e w2 ⟨rfl, hf2⟩))
      go_loopg [4, 3] 16 (fun g rv sv wr => ∃ (r : Nat) (t : List UInt8), rv = .int .i64 r ∧ sv = .string ⟨t.toArray⟩ ∧ r < 65536 ∧ Fr [] w2 wr ∧ g ≤ 16 ∧ Hid (fine g r) ∧ Hid (t ++ fracD g r = R))
      case atStart => exact ⟨m % 65536, [] ++ dq, congrArg (Value.int .i64) HRC.out.symm, congrArg Value.string (HCA.out dq), hrl, Fr.refl _ _, Nat.le_refl _, HFI, by rw [HF.out]; rw [HZ.out, fracD_zero, List.append_nil]; rfl⟩
      case round =>
        obtain ⟨r, t, rfl, rfl, hr, hfr, hgk, hfi, hrel⟩ := hrel
        have htl : t.length ≤ 23 := by
          have h1 := congrArg List.length hrel.out
          rw [List.length_append] at h1
          have := HRL.out
          omega
        by_cases h0 : 0 < r
        · have hdk : decide ((0 : Int) < (r : Int)) = true := by simpa using h0
          have hdk2 : decide (0 < r) = true := by simpa using h0
          match gk, hgk, hfi, hrel with
          | 0, hgk, hfi, hrel => exact absurd (fine_end r hfi.out) (by omega)
          | g + 1, hgk, hfi, hrel =>
            · have hfs := hide (fine_step g r (by omega) hfi.out)
              have hst := fracD_step g r h0
              have hdd : decT ((r : Int) * 10 / 65536) = [UInt8.ofNat (48 + r * 10 / 65536)] := by
                unfold decT
                rw [if_neg (by omega)]
                have : ((r : Int) * 10 / 65536).natAbs = r * 10 / 65536 := by omega
                rw [this, digU_lt (by omega)]; rfl
              have HDD := hide (fun w => dec_any ((r : Int) * 10 / 65536) w (by omega) (by omega))
              rw [hdd] at HDD
              clear hdd
              obtain ⟨c, hc⟩ : ∃ c, c = UInt8.ofNat (48 + r * 10 / 65536) := ⟨_, rfl⟩
              rw [← hc] at HDD hst
              have HFF : Hid (t ++ [c] ++ fracD g (r * 10 % 65536) = R) := by rw [← hrel.out, hst]; exact hide (by simp)
              clear hc hst h0
              have HCT := hide (cat_str t [c])
              have hr0 : (0 : Int) ≤ (r : Int) := by omega
              go_wp2_with (go_at_call 38; refine (HDD.out _).mono ?_; rintro e w3 ⟨rfl, hf3⟩)
              go_roundg g
              case measure => exact Nat.lt_succ_self g
              case rel => exact ⟨r * 10 % 65536, t ++ [c], congrArg (Value.int .i64) (by omega), congrArg Value.string HCT.out, Nat.mod_lt _ (by omega), hfr.trans hf3, by omega, hfs, HFF⟩
        · have hdk : decide ((0 : Int) < (r : Int)) = false := by simp; omega
          have hdk2 : decide (0 < r) = false := by simp; omega
          have HTR : Hid (t = R) := by
            have h1 := hrel.out
            rw [show r = 0 by omega, fracD_zero, List.append_nil] at h1
            exact hide h1
          go_wp2
          go_ret
          exact ⟨by rw [HTR.out]; rfl, hf2.trans hfr⟩
    · have hz : decide ((0 : Int) < (m : Int) % 65536) = true := by simp; omega
      have HF : Hid (R = [] ++ dq ++ [46] ++ fracD 16 (m % 65536)) := by rw [hR2.out, if_neg h0]; exact hide (by simp)
      have HZ := hide h0
      clear h0
      go_enter Tryd.func36, Tryd.ntmps36
      go_wp2_with (first
        | (go_at_call 52; refine (fits01_any _ _).mono ?_; rw [HFX.out]; rintro e w' ⟨rfl, rfl⟩)
        | (go_at_call 38; refine (HDQ.out _).mono ?_; rintro e w2 ⟨rfl, hf2⟩))
      go_loopg [4, 3] 16 (fun g rv sv wr => ∃ (r : Nat) (t : List UInt8), rv = .int .i64 r ∧ sv = .string ⟨t.toArray⟩ ∧ r < 65536 ∧ Fr [] w2 wr ∧ g ≤ 16 ∧ Hid (fine g r) ∧ Hid (t ++ fracD g r = R))
      case atStart => exact ⟨m % 65536, [] ++ dq ++ [46], congrArg (Value.int .i64) HRC.out.symm, congrArg Value.string (by rw [HCA.out dq]; exact HC2.out ([] ++ dq) [46]), hrl, Fr.refl _ _, Nat.le_refl _, HFI, by rw [HF.out]; rfl⟩
      case round =>
        obtain ⟨r, t, rfl, rfl, hr, hfr, hgk, hfi, hrel⟩ := hrel
        have htl : t.length ≤ 23 := by
          have h1 := congrArg List.length hrel.out
          rw [List.length_append] at h1
          have := HRL.out
          omega
        by_cases h0 : 0 < r
        · have hdk : decide ((0 : Int) < (r : Int)) = true := by simpa using h0
          have hdk2 : decide (0 < r) = true := by simpa using h0
          match gk, hgk, hfi, hrel with
          | 0, hgk, hfi, hrel => exact absurd (fine_end r hfi.out) (by omega)
          | g + 1, hgk, hfi, hrel =>
            · have hfs := hide (fine_step g r (by omega) hfi.out)
              have hst := fracD_step g r h0
              have hdd : decT ((r : Int) * 10 / 65536) = [UInt8.ofNat (48 + r * 10 / 65536)] := by
                unfold decT
                rw [if_neg (by omega)]
                have : ((r : Int) * 10 / 65536).natAbs = r * 10 / 65536 := by omega
                rw [this, digU_lt (by omega)]; rfl
              have HDD := hide (fun w => dec_any ((r : Int) * 10 / 65536) w (by omega) (by omega))
              rw [hdd] at HDD
              clear hdd
              obtain ⟨c, hc⟩ : ∃ c, c = UInt8.ofNat (48 + r * 10 / 65536) := ⟨_, rfl⟩
              rw [← hc] at HDD hst
              have HFF : Hid (t ++ [c] ++ fracD g (r * 10 % 65536) = R) := by rw [← hrel.out, hst]; exact hide (by simp)
              clear hc hst h0
              have HCT := hide (cat_str t [c])
              have hr0 : (0 : Int) ≤ (r : Int) := by omega
              go_wp2_with (go_at_call 38; refine (HDD.out _).mono ?_; rintro e w3 ⟨rfl, hf3⟩)
              go_roundg g
              case measure => exact Nat.lt_succ_self g
              case rel => exact ⟨r * 10 % 65536, t ++ [c], congrArg (Value.int .i64) (by omega), congrArg Value.string HCT.out, Nat.mod_lt _ (by omega), hfr.trans hf3, by omega, hfs, HFF⟩
        · have hdk : decide ((0 : Int) < (r : Int)) = false := by simp; omega
          have hdk2 : decide (0 < r) = false := by simp; omega
          have HTR : Hid (t = R) := by
            have h1 := hrel.out
            rw [show r = 0 by omega, fracD_zero, List.append_nil] at h1
            exact hide h1
          go_wp2
          go_ret
          exact ⟨by rw [HTR.out]; rfl, hf2.trans hfr⟩
end Go.Proofs.YtndfdekcdhlgoaaDoor
