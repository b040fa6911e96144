/- Contracts: package dec's numbers as texts. -/
/- Contracts: dec.parts, dec.Print. -/
import Derived.Test.YtndfdekcdhlgoaaDoorScBd
import Derived.Test.YtndfdekcdhlgoaaDoorScR01A
import Derived.Test.YtndfdekcdhlgoaaDoorScPaA
import Derived.Laws.BitsLemmas
import Derived.IntWalk
set_option linter.unusedVariables false
set_option linter.unusedSimpArgs false
namespace Go.Proofs.YtndfdekcdhlgoaaDoor
open Go.RowKit
theorem enc_digit (d : Nat) (h : d < 10) : Utf8.encode (48 + (d : Int)) = ⟨[UInt8.ofNat (48 + d)].toArray⟩ := by
  rcases (by omega : d = 0 ∨ d = 1 ∨ d = 2 ∨ d = 3 ∨ d = 4 ∨ d = 5 ∨ d = 6 ∨ d = 7 ∨ d = 8 ∨ d = 9) with rfl | rfl | rfl | rfl | rfl | rfl | rfl | rfl | rfl | rfl <;> decide
def digZ (z : Int) : List UInt8 := digU z.toNat
set_option maxRecDepth 100000 in
theorem digits_any : ∀ (k : Nat) (z : Int), 0 ≤ z → z < 10 ^ (k + 1) → z ≤ 2147483648 → ∀ (w : World), Calls Tryd.prog 66 #[.int .i64 z] w fun e w' => e = .returned (.string ⟨(digZ z).toArray⟩) ∧ w = w' := by
  intro k
  induction k with
  | zero =>
    intro z h0 h1 h2 w
    have hd : decide (z < 10) = true := by simpa using h1
    have HZ : Hid (Utf8.encode (48 + z) = ⟨(digZ z).toArray⟩) := hide (by
      obtain ⟨n, rfl⟩ := Int.eq_ofNat_of_zero_le h0
      have hn : n < 10 := by have h4 : (n : Int) < 10 := (by simpa using h1); omega
      rw [enc_digit n hn]; unfold digZ; rw [Int.toNat_natCast, digU_lt hn])
    have h3 : z < 10 := by simpa using h1
    clear h1
    go_enter Tryd.func66, Tryd.ntmps66
    go_wp2
    go_ret
    exact ⟨congrArg (fun x => Ending.returned (.string x)) HZ.out, rfl⟩
  | succ k ih =>
    intro z h0 h1 h2 w
    by_cases h3 : z < 10
    · have hd : decide (z < 10) = true := by simpa using h3
      have HZ : Hid (Utf8.encode (48 + z) = ⟨(digZ z).toArray⟩) := hide (by
        obtain ⟨n, rfl⟩ := Int.eq_ofNat_of_zero_le h0
        have hn : n < 10 := by omega
        rw [enc_digit n hn]; unfold digZ; rw [Int.toNat_natCast, digU_lt hn])
      clear h1 ih
      go_enter Tryd.func66, Tryd.ntmps66
      go_wp2
      go_ret
      exact ⟨congrArg (fun x => Ending.returned (.string x)) HZ.out, rfl⟩
    · have hd : decide (z < 10) = false := by simpa using h3
      have HI := hide (fun W => ih (z / 10) (by omega) (by rw [Int.pow_succ] at h1; omega) (by omega) W)
      have HZ : Hid (digZ z = digZ (z / 10) ++ [UInt8.ofNat (48 + (z % 10).toNat)]) := hide (by
        obtain ⟨n, rfl⟩ := Int.eq_ofNat_of_zero_le h0
        unfold digZ
        rw [Int.toNat_natCast, digU_ge (by omega), show ((n : Int) / 10).toNat = n / 10 by omega, show ((n : Int) % 10).toNat = n % 10 by omega])
      have HE : Hid (Utf8.encode (48 + z % 10) = ⟨[UInt8.ofNat (48 + (z % 10).toNat)].toArray⟩) := hide (by
        have h4 := enc_digit (z % 10).toNat (by omega)
        rw [show (((z % 10).toNat : Nat) : Int) = z % 10 by omega] at h4
        exact h4)
      have hl := digU_len 9 (z / 10).toNat (by omega)
      have hl2 : (digZ (z / 10)).length ≤ 10 := hl
      have HC := hide (cat_str (digZ (z / 10)) [UInt8.ofNat (48 + (z % 10).toNat)])
      rw [HZ.out]
      clear ih h1 hl
      generalize digZ (z / 10) = dz at *
      have hb1 : 0 ≤ z % 10 := by omega
      have hb2 : z % 10 < 10 := by omega
      have hsz : ¬9223372036854775807 < dz.length + (Utf8.encode (48 + z % 10)).size := by
        rw [HE.out, size_str]; simp only [List.length_cons, List.length_nil]; omega
      go_enter Tryd.func66, Tryd.ntmps66
      go_wp2_with (go_at_call 66; refine (HI.out _).mono ?_; rintro e w5 ⟨rfl, rfl⟩)
      go_ret
      exact ⟨congrArg (fun x => Ending.returned (.string x)) (by rw [HE.out]; exact HC.out), rfl⟩
theorem dec_digits (z : Int) (h0 : 0 ≤ z) (h1 : z ≤ 2147483648) (w : World) : Calls Tryd.prog 66 #[.int .i64 z] w fun e w' => e = .returned (.string ⟨(digU z.toNat).toArray⟩) ∧ w = w' :=
  digits_any 9 z h0 (by omega) h1 w
end Go.Proofs.YtndfdekcdhlgoaaDoor
namespace Go.Proofs.YtndfdekcdhlgoaaDoor
open Go.RowKit
theorem and65535 (z : Int) (h0 : 0 ≤ z) (h1 : z < 9223372036854775808) : bits .and .i64 z 65535 = z % 65536 :=
  bits_mask .i64 63 (by decide) (fun n h0 h1 => IntWalk.i64_in _ (by omega)) 16 (by decide) z h0 (by omega)
set_option maxRecDepth 100000 in
set_option maxHeartbeats 4000000 in
theorem parts_pos (m : Nat) (hm : m ≤ 2147483647) (w : World) :
    Calls Tryd.prog 47 #[.int .i64 m] w fun e w' => e = .returned (.tuple #[.string ⟨#[]⟩, .string ⟨(digU (m / 65536)).toArray⟩, .string ⟨(fracD 16 (m % 65536)).toArray⟩]) ∧ Fr [] w w' := by
  have hfx : fitsI (m : Int) = true := by unfold fitsI; simp; omega
  have hd : decide ((m : Int) < 0) = false := by simp
  have hd' : ¬ (m : Int) < 0 := by omega
  have hm0 : (0 : Int) ≤ (m : Int) := by omega
  have hand := and65535 m hm0 (by omega)
  have HFI := hide (fine_start (m % 65536) (Nat.mod_lt _ (by omega)))
  obtain ⟨R, hR⟩ : ∃ R, R = fracD 16 (m % 65536) := ⟨_, rfl⟩
  rw [← hR]
  have HRE := hide hR
  have HRL := hide (show R.length ≤ 16 by rw [hR]; exact fracD_len 16 _)
  have hm16 : ((m : Int) / 65536) = ((m / 65536 : Nat) : Int) := by omega
  have HDG := hide (fun W => dec_digits ((m : Int) / 65536) (by omega) (by omega) W)
  rw [show ((m : Int) / 65536).toNat = m / 65536 by omega] at HDG
  have hrc : ((m % 65536 : Nat) : Int) = (m : Int) % 65536 := by omega
  have HRC := hide hrc
  clear hR hm16 hrc
  generalize digU (m / 65536) = dg at *
  go_enter Tryd.func47, Tryd.ntmps47
  go_wp2_with (go_at_call 60; refine (fixFits_any _ _).mono ?_; rw [hfx]; rintro e w' ⟨rfl, rfl⟩)
  obtain ⟨b, hb⟩ : ∃ b, b = w.heap.size := ⟨_, rfl⟩
  obtain ⟨W1, hW1⟩ : ∃ W1, W1 = w.alloc (.cells #[.pointer none, .slice none 0 0] 50) := ⟨_, rfl⟩
  have hB : Bu W1 b 50 b [] := ⟨Nat.le_refl _, .pointer none, .slice none 0 0, by rw [hW1, hb]; exact Blk.new _ _ _, .inl rfl, own_nil _ _ _ _, by simp [Value.ownBlock], fun _ => rfl⟩
  have hf1 : Fr [] w W1 := by rw [hW1]; exact (by repeat (first | with_reducible exact Fr.refl _ _ | with_reducible assumption | with_reducible refine Fr.drewN ?_ _ | with_reducible refine Fr.drew ?_ | with_reducible refine Fr.alloc ?_ _ | ((with_reducible refine Fr.setCell ?_ ?_ _) <;> first | (apply Or.inl; simp; done) | (apply Or.inr; simp; done) | (apply Or.inr; simp; omega) | skip) | (refine Fr.then0 ?_ (by with_reducible assumption)) | (refine Fr.trans ?_ (by with_reducible assumption))))
  have HBB := hide (show b = w.heap.size from hb)
  rw [← hW1, ← hb]
  clear hW1 hb
  clear hand
  go_loopg [6] 16 (fun g rv wr => ∃ (r : Nat) (t : List UInt8), rv = .int .i64 r ∧ r < 65536 ∧ Grew W1 b 50 b t wr ∧ g ≤ 16 ∧ Hid (fine g r) ∧ Hid (t ++ fracD g r = R))
  case atStart => exact ⟨m % 65536, [], congrArg (Value.int .i64) HRC.out.symm, Nat.mod_lt _ (by omega), Grew.refl hB, Nat.le_refl _, HFI, hide (by rw [HRE.out]; rfl)⟩
  case round =>
    obtain ⟨r, t, rfl, hr, hgr, hgk, hfi, hrel⟩ := hrel
    by_cases h0 : 0 < r
    · have hdk : decide ((0 : Int) < (r : Int)) = true := by simpa using h0
      have hdk2 : decide (0 < r) = true := by simpa using h0
      match gk, hgk, hfi, hrel with
      | 0, hgk, hfi, hrel => exact absurd (fine_end r hfi.out) (by omega)
      | g + 1, hgk, hfi, hrel =>
        · have hfs := hide (fine_step g r (by omega) hfi.out)
          have hst := fracD_step g r h0
          have htl : t.length ≤ 16 := by
            have h1 := congrArg List.length hrel.out
            rw [List.length_append] at h1
            have := HRL.out
            omega
          obtain ⟨c, hc⟩ : ∃ c, c = UInt8.ofNat (48 + r * 10 / 65536) := ⟨_, rfl⟩
          rw [← hc] at hst
          have HCC : Hid ((48 : Int) + (r : Int) * 10 / 65536 = c.toNat) := hide (by rw [hc, dg_toNat _ (by omega)]; omega)
          have HFF : Hid (t ++ [c] ++ fracD g (r * 10 % 65536) = R) := by rw [← hrel.out, hst]; exact hide (by simp)
          have HWB := hide (fun ci h => wbyte_any hgr.1 lies_builder (by decide) ci c h (by omega))
          have hand2 := and65535 (r * 10) (by omega) (by omega)
          have HGR := hide hgr
          clear hc hst h0 hgr hfi hrel
          have hb1 : (0 : Int) ≤ (r : Int) := by omega
          have hb2 : (r : Int) * 10 / 65536 < 10 := by omega
          have hb3 : 0 ≤ (r : Int) * 10 / 65536 := by omega
          go_wp2_with (go_at_call 14; refine (HWB.out _ HCC.out).mono ?_; rintro e w3 ⟨rfl, hg3⟩)
          go_roundg g
          case measure => omega
          case rel => exact ⟨r * 10 % 65536, t ++ [c], congrArg (Value.int .i64) (by omega), Nat.mod_lt _ (by omega), HGR.out.trans hg3, by omega, hfs, HFF⟩
    · have hdk : decide ((0 : Int) < (r : Int)) = false := by simp; omega
      have hdk2 : decide (0 < r) = false := by simp; omega
      have hr0 : r = 0 := by omega
      have HT : Hid (t = R) := hide (by rw [← hrel.out, hr0, fracD_zero, List.append_nil])
      have htl : t.length ≤ 16 := by rw [HT.out]; exact HRL.out
      have HST := hide (bstring_any hgr.1 (by omega))
      have HGR := hide hgr
      clear hr0 hrel hfi hgr
      go_wp2_with (first
        | (go_at_call 66; refine (HDG.out _).mono ?_; rintro e w5 ⟨rfl, rfl⟩)
        | (go_at_call 17; refine HST.out.mono ?_; rintro e w6 ⟨rfl, hf6⟩))
      go_ret3
      refine ⟨by rw [← HT.out]; rfl, ?_⟩
      have hbe := (HGR.out.2.trans hf6).below hB.base_le
      have he := HBB.out
      subst he
      exact Fr.of_below (hf1.below.trans (hbe.mono (Nat.le_refl _)))
set_option maxRecDepth 100000 in
set_option maxHeartbeats 4000000 in
theorem parts_neg (m : Nat) (hmp : 0 < m) (hm : m ≤ 2147483648) (w : World) :
    Calls Tryd.prog 47 #[.int .i64 (-(m : Int))] w fun e w' => e = .returned (.tuple #[.string ⟨#[45]⟩, .string ⟨(digU (m / 65536)).toArray⟩, .string ⟨(fracD 16 (m % 65536)).toArray⟩]) ∧ Fr [] w w' := by
  have hfx : fitsI (-(m : Int)) = true := by unfold fitsI; simp; omega
  have hd : decide (-(m : Int) < 0) = true := by simp; omega
  have hd' : decide (0 < m) = true := by simpa using hmp
  have hm0 : (0 : Int) ≤ (m : Int) := by omega
  have hand := and65535 m hm0 (by omega)
  have HFI := hide (fine_start (m % 65536) (Nat.mod_lt _ (by omega)))
  obtain ⟨R, hR⟩ : ∃ R, R = fracD 16 (m % 65536) := ⟨_, rfl⟩
  rw [← hR]
  have HRE := hide hR
  have HRL := hide (show R.length ≤ 16 by rw [hR]; exact fracD_len 16 _)
  have hm16 : ((m : Int) / 65536) = ((m / 65536 : Nat) : Int) := by omega
  have HDG := hide (fun W => dec_digits ((m : Int) / 65536) (by omega) (by omega) W)
  rw [show ((m : Int) / 65536).toNat = m / 65536 by omega] at HDG
  have hrc : ((m % 65536 : Nat) : Int) = (m : Int) % 65536 := by omega
  have HRC := hide hrc
  clear hR hm16 hrc
  generalize digU (m / 65536) = dg at *
  go_enter Tryd.func47, Tryd.ntmps47
  go_wp2_with (go_at_call 60; refine (fixFits_any _ _).mono ?_; rw [hfx]; rintro e w' ⟨rfl, rfl⟩)
  obtain ⟨b, hb⟩ : ∃ b, b = w.heap.size := ⟨_, rfl⟩
  obtain ⟨W1, hW1⟩ : ∃ W1, W1 = w.alloc (.cells #[.pointer none, .slice none 0 0] 50) := ⟨_, rfl⟩
  have hB : Bu W1 b 50 b [] := ⟨Nat.le_refl _, .pointer none, .slice none 0 0, by rw [hW1, hb]; exact Blk.new _ _ _, .inl rfl, own_nil _ _ _ _, by simp [Value.ownBlock], fun _ => rfl⟩
  have hf1 : Fr [] w W1 := by rw [hW1]; exact (by repeat (first | with_reducible exact Fr.refl _ _ | with_reducible assumption | with_reducible refine Fr.drewN ?_ _ | with_reducible refine Fr.drew ?_ | with_reducible refine Fr.alloc ?_ _ | ((with_reducible refine Fr.setCell ?_ ?_ _) <;> first | (apply Or.inl; simp; done) | (apply Or.inr; simp; done) | (apply Or.inr; simp; omega) | skip) | (refine Fr.then0 ?_ (by with_reducible assumption)) | (refine Fr.trans ?_ (by with_reducible assumption))))
  have HBB := hide (show b = w.heap.size from hb)
  rw [← hW1, ← hb]
  clear hW1 hb
  clear hand
  go_loopg [6] 16 (fun g rv wr => ∃ (r : Nat) (t : List UInt8), rv = .int .i64 r ∧ r < 65536 ∧ Grew W1 b 50 b t wr ∧ g ≤ 16 ∧ Hid (fine g r) ∧ Hid (t ++ fracD g r = R))
  case atStart => exact ⟨m % 65536, [], congrArg (Value.int .i64) HRC.out.symm, Nat.mod_lt _ (by omega), Grew.refl hB, Nat.le_refl _, HFI, hide (by rw [HRE.out]; rfl)⟩
  case round =>
    obtain ⟨r, t, rfl, hr, hgr, hgk, hfi, hrel⟩ := hrel
    by_cases h0 : 0 < r
    · have hdk : decide ((0 : Int) < (r : Int)) = true := by simpa using h0
      have hdk2 : decide (0 < r) = true := by simpa using h0
      match gk, hgk, hfi, hrel with
      | 0, hgk, hfi, hrel => exact absurd (fine_end r hfi.out) (by omega)
      | g + 1, hgk, hfi, hrel =>
        · have hfs := hide (fine_step g r (by omega) hfi.out)
          have hst := fracD_step g r h0
          have htl : t.length ≤ 16 := by
            have h1 := congrArg List.length hrel.out
            rw [List.length_append] at h1
            have := HRL.out
            omega
          obtain ⟨c, hc⟩ : ∃ c, c = UInt8.ofNat (48 + r * 10 / 65536) := ⟨_, rfl⟩
          rw [← hc] at hst
          have HCC : Hid ((48 : Int) + (r : Int) * 10 / 65536 = c.toNat) := hide (by rw [hc, dg_toNat _ (by omega)]; omega)
          have HFF : Hid (t ++ [c] ++ fracD g (r * 10 % 65536) = R) := by rw [← hrel.out, hst]; exact hide (by simp)
          have HWB := hide (fun ci h => wbyte_any hgr.1 lies_builder (by decide) ci c h (by omega))
          have hand2 := and65535 (r * 10) (by omega) (by omega)
          have HGR := hide hgr
          clear hc hst h0 hgr hfi hrel
          have hb1 : (0 : Int) ≤ (r : Int) := by omega
          have hb2 : (r : Int) * 10 / 65536 < 10 := by omega
          have hb3 : 0 ≤ (r : Int) * 10 / 65536 := by omega
          go_wp2_with (go_at_call 14; refine (HWB.out _ HCC.out).mono ?_; rintro e w3 ⟨rfl, hg3⟩)
          go_roundg g
          case measure => omega
          case rel => exact ⟨r * 10 % 65536, t ++ [c], congrArg (Value.int .i64) (by omega), Nat.mod_lt _ (by omega), HGR.out.trans hg3, by omega, hfs, HFF⟩
    · have hdk : decide ((0 : Int) < (r : Int)) = false := by simp; omega
      have hdk2 : decide (0 < r) = false := by simp; omega
      have hr0 : r = 0 := by omega
      have HT : Hid (t = R) := hide (by rw [← hrel.out, hr0, fracD_zero, List.append_nil])
      have htl : t.length ≤ 16 := by rw [HT.out]; exact HRL.out
      have HST := hide (bstring_any hgr.1 (by omega))
      have HGR := hide hgr
      clear hr0 hrel hfi hgr
      go_wp2_with (first
        | (go_at_call 66; refine (HDG.out _).mono ?_; rintro e w5 ⟨rfl, rfl⟩)
        | (go_at_call 17; refine HST.out.mono ?_; rintro e w6 ⟨rfl, hf6⟩))
      go_ret3
      refine ⟨by rw [← HT.out]; rfl, ?_⟩
      have hbe := (HGR.out.2.trans hf6).below hB.base_le
      have he := HBB.out
      subst he
      exact Fr.of_below (hf1.below.trans (hbe.mono (Nat.le_refl _)))
set_option maxRecDepth 100000 in
set_option maxHeartbeats 1000000 in
theorem decPrint_any (n : Int) (hfx : fitsI n = true) (w : World) : Calls Tryd.prog 28 #[.int .i64 n] w fun e w' => e = .returned (.string ⟨(printT n).toArray⟩) ∧ Fr [] w w' := by
  obtain ⟨R, hR⟩ : ∃ R, R = printT n := ⟨_, rfl⟩
  rw [← hR]
  have hb : -2147483648 ≤ n ∧ n ≤ 2147483647 := by unfold fitsI at hfx; simpa using hfx
  have hdl := digU_len 9 (n.natAbs / 65536) (by omega)
  have hfl := fracD_len 16 (n.natAbs % 65536)
  have HP : Hid (∀ W, Calls Tryd.prog 47 #[.int .i64 n] W fun e w' => e = .returned (.tuple #[.string ⟨(if n < 0 then [45] else [] : List UInt8).toArray⟩, .string ⟨(digU (n.natAbs / 65536)).toArray⟩, .string ⟨(fracD 16 (n.natAbs % 65536)).toArray⟩]) ∧ Fr [] W w') := hide (fun W => by
    by_cases hn : n < 0
    · obtain ⟨m, rfl⟩ : ∃ m : Nat, n = -(m : Int) := ⟨n.natAbs, by omega⟩
      rw [if_pos hn, show (-(m : Int)).natAbs = m by omega]
      exact parts_neg m (by omega) (by omega) W
    · obtain ⟨m, rfl⟩ : ∃ m : Nat, n = (m : Int) := ⟨n.natAbs, by omega⟩
      rw [if_neg hn, show (m : Int).natAbs = m by omega]
      exact parts_pos m (by omega) W)
  have hsl : (if n < 0 then [45] else [] : List UInt8).length ≤ 1 := by split <;> simp
  have HR : Hid (R = (if n < 0 then [45] else []) ++ digU (n.natAbs / 65536) ++ (if n.natAbs % 65536 = 0 then [] else 46 :: fracD 16 (n.natAbs % 65536))) := hide (by rw [hR]; unfold printT; rw [if_pos hfx]; rfl)
  clear hR hb hfx
  generalize (if n < 0 then [45] else [] : List UInt8) = sg at *
  generalize digU (n.natAbs / 65536) = dg at *
  by_cases h0 : n.natAbs % 65536 = 0
  · have HF : Hid (sg ++ dg = R) := hide (by rw [HR.out, if_pos h0]; simp)
    rw [show fracD 16 (n.natAbs % 65536) = [] by rw [h0, fracD_zero]] at HP
    have HE := hide (cat_str sg dg)
    have hc : ¬9223372036854775807 < sg.length + dg.length := by omega
    clear hfl h0 HR
    go_enter Tryd.func28, Tryd.ntmps28
    go_wp2_with (go_at_call 47; refine (HP.out _).mono ?_; rintro e w5 ⟨rfl, hf5⟩)
    go_ret
    exact ⟨by rw [← HF.out]; exact congrArg (fun x => Ending.returned (.string x)) HE.out, hf5⟩
  · have HF : Hid (sg ++ dg ++ [46] ++ fracD 16 (n.natAbs % 65536) = R) := hide (by rw [HR.out, if_neg h0]; simp)
    have hne : ¬ fracD 16 (n.natAbs % 65536) = [] := by rw [fracD, if_neg h0]; simp
    generalize fracD 16 (n.natAbs % 65536) = fr at *
    have HE := hide (by rw [show (⟨#[46]⟩ : ByteArray) = ⟨[46].toArray⟩ from rfl, cat_str, cat_str, cat_str] : (⟨sg.toArray⟩ : ByteArray) ++ ⟨dg.toArray⟩ ++ ⟨#[46]⟩ ++ ⟨fr.toArray⟩ = ⟨(sg ++ dg ++ [46] ++ fr).toArray⟩)
    have hc1 : ¬9223372036854775807 < sg.length + dg.length := by omega
    have hc2 : ¬9223372036854775807 < sg.length + dg.length + 1 := by omega
    have hc3 : ¬9223372036854775807 < sg.length + dg.length + 1 + fr.length := by omega
    have hne2 : fr.isEmpty = false := by simpa using hne
    clear h0 HR
    go_enter Tryd.func28, Tryd.ntmps28
    go_wp2_with (go_at_call 47; refine (HP.out _).mono ?_; rintro e w5 ⟨rfl, hf5⟩)
    go_ret
    exact ⟨by rw [← HF.out]; exact congrArg (fun x => Ending.returned (.string x)) HE.out, hf5⟩
end Go.Proofs.YtndfdekcdhlgoaaDoor
