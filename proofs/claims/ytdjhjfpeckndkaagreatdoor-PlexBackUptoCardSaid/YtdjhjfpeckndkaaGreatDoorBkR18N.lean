/- Contracts: the reference's name, hexa, Name, Text; numbers as texts. -/
/- Contracts: the reference's hexa, Name; Dec, Print of numbers. -/
import Derived.Test.YtdjhjfpeckndkaaGreatDoorBkPlexQ
import Derived.Test.YtdjhjfpeckndkaaGreatDoorBkPlexA
import Derived.Test.YtdjhjfpeckndkaaGreatDoorBkApp
import Derived.Test.YtdjhjfpeckndkaaGreatDoorBkWalkA
set_option linter.unusedVariables false
set_option linter.unusedSimpArgs false
namespace Go.Proofs.YtdjhjfpeckndkaaGreatDoor
open Go.RowKit
theorem take_not_mem {s : List UInt8} {k : Nat} {u x : UInt8} (hu : s[k]? = some u) (h : x ∉ s.take k) (hne : u ≠ x) : x ∉ s.take (k + 1) := by
  obtain ⟨hk, he⟩ := List.getElem?_eq_some_iff.1 hu
  rw [List.take_succ_eq_append_getElem hk, he]
  simp [h, Ne.symm hne]
set_option maxHeartbeats 400000 in
theorem r18name_any (s : List UInt8) (w : World) (hl : s.length ≤ 9223372036854775807) :
    Calls Tryz.prog 115 #[.string ⟨s.toArray⟩] w fun e w' => e = .returned (.bool (nameOk s)) ∧ w = w' := by
  obtain ⟨R, hR⟩ : ∃ R, R = nameOk s := ⟨_, rfl⟩
  rw [← hR]
  have HR := hide hR
  clear hR
  go_enter Tryz.func115, Tryz.ntmps115
  go_wp2
  go_loop [3] (fun i => ∃ k : Nat, k ≤ s.length ∧ i = .int .i64 k ∧ Hid ((0 : UInt8) ∉ s.take k)) (fun i => s.length - (intOf i).toNat)
  case atStart => exact ⟨0, Nat.zero_le _, rfl, hide (by simp)⟩
  case round =>
    obtain ⟨k, hk, rfl, hrel⟩ := hrel
    by_cases hlt : k < s.length
    · obtain ⟨u, hu⟩ : ∃ u, s[k]? = some u := ⟨_, List.getElem?_eq_getElem hlt⟩
      have hd : decide ((k : Int) < (s.length : Int)) = true := by simp; omega
      have hi := idx_str Tryz.underlying9 hu
      by_cases h0 : u = 0
      · have hc : ((u.toNat : Int) == 0) = true := by rw [h0]; rfl
        have HF : Hid (R = false) := by
          rw [HR.out]
          unfold nameOk
          have : s.contains 0 = true := by rw [← h0]; simpa using List.mem_of_getElem? hu
          rw [this]; rfl
        clear h0 hu
        go_wp2
        go_ret
        exact ⟨ret_bool HF.out.symm, rfl⟩
      · have hc : ((u.toNat : Int) == 0) = false := by
          simp
          intro h
          exact h0 (UInt8.toNat_inj.1 (by simpa using h))
        have HT := hide (take_not_mem hu hrel.out h0)
        clear h0 hu
        go_wp2
        go_round
        case rel => exact ⟨k + 1, by omega, by go_num, HT⟩
        case measure => simp [intOf]; omega
    · have hd : decide ((k : Int) < (s.length : Int)) = false := by simp; omega
      have HF : Hid (R = decide (1 ≤ s.length ∧ s.length ≤ 127)) := by
        rw [HR.out]
        unfold nameOk
        have : s.contains 0 = false := by
          cases hc : s.contains 0
          · rfl
          · have h1 := hrel.out
            rw [List.take_of_length_le (by omega)] at h1
            exact absurd (by simpa using hc) h1
        rw [this]; rfl
      have hle : Hid (s.length ≤ k) := hide (by omega)
      by_cases h1 : 1 ≤ s.length
      · have hd1 : decide ((1 : Int) ≤ (s.length : Int)) = true := by simp; omega
        have hd2 : decide (0 < s.length) = true := by simp; omega
        go_wp2
        all_goals
          go_ret
          exact ⟨ret_bool (by rw [HF.out, Bool.eq_iff_iff]; simp only [decide_eq_true_eq]; omega), rfl⟩
      · go_wp2
        all_goals
          go_ret
          exact ⟨ret_bool (by rw [HF.out, Bool.eq_iff_iff]; simp only [decide_eq_true_eq, Bool.false_eq_true, false_iff]; omega), rfl⟩
/-! Whole numbers. -/
theorem digU_one {m : Nat} (t : List UInt8) : digU m ++ t = (if m / 10 = 0 then [] else digU (m / 10)) ++ UInt8.ofNat (48 + m % 10) :: t := by
  by_cases h : m < 10
  · rw [digU_lt h, if_pos (by omega), Nat.mod_eq_of_lt h]; rfl
  · rw [digU_ge h, if_neg (by omega), List.append_assoc]; rfl
theorem dig_cell (m : Nat) : (Value.int .u8 (48 + (m : Int) % 10)) = .int .u8 (UInt8.ofNat (48 + m % 10)).toNat := by
  rw [dg_toNat (m % 10) (by omega)]
  congr 1
theorem dig_conv (m : Nat) (w : World) : (convert 22 9 (.slice (some ⟨w.heap.size, 0, none⟩) 1 1)).run Tryz.prog (w.alloc (.cells #[.int .u8 (48 + (m : Int) % 10)] 5)) =
    .ok (.string ⟨[UInt8.ofNat (48 + m % 10)].toArray⟩) (w.alloc (.cells #[.int .u8 (48 + (m : Int) % 10)] 5)) := by
  have h : RB (w.alloc (.cells #[.int .u8 (48 + (m : Int) % 10)] 5)) (fun g => g = w.heap.size) (some ⟨w.heap.size, 0, none⟩) 1 [UInt8.ofNat (48 + m % 10)] := by
    rw [dig_cell]
    exact rd_new w _ _ 1 1 rfl
  exact conv_rb Tryz.underlying22 Tryz.underlying5 Tryz.underlying9 h
set_option maxRecDepth 100000 in
set_option maxHeartbeats 1000000 in
theorem udec_any (n : Nat) (w : World) (hn : n < 18446744073709551616) :
    Calls Tryz.prog 103 #[.int .u64 n] w fun e w' => e = .returned (.string ⟨(digU n).toArray⟩) ∧ Fr [] w w' := by
  obtain ⟨R, hR⟩ : ∃ R, R = digU n := ⟨_, rfl⟩
  rw [← hR]
  have HL := hide (by rw [hR]; exact digU_len 19 n (by omega) : R.length ≤ 20)
  have HR := hide hR
  clear hR
  go_enter Tryz.func103, Tryz.ntmps103
  go_wp2
  go_loopw [0, 3] (fun u s wr => ∃ (m : Nat) (t : List UInt8), m < 18446744073709551616 ∧ u = .int .u64 m ∧ s = .string ⟨t.toArray⟩ ∧ Fr [] w wr ∧ Hid (digU m ++ t = R)) (fun u _ _ => (intOf u).toNat + 1)
  case atStart => exact ⟨n, [], hn, rfl, rfl, Fr.refl _ _, hide (by rw [HR.out]; simp)⟩
  case round =>
    obtain ⟨m, t, hm, rfl, rfl, hfr, hrel⟩ := hrel
    have hcv := dig_conv m wr
    have HD := hide (digU_one (m := m) t)
    have htl : t.length ≤ 20 := by
      have h1 := congrArg List.length hrel.out
      rw [List.length_append] at h1
      have := HL.out
      omega
    obtain ⟨c, hc⟩ : ∃ c, c = UInt8.ofNat (48 + m % 10) := ⟨_, rfl⟩
    rw [← hc] at hcv HD
    clear hc
    by_cases h0 : m / 10 = 0
    · have hz : (((m : Int) / 10) == 0) = true := by simp; omega
      have HF : Hid (c :: t = R) := by
        rw [← hrel.out, HD.out, if_pos h0]; rfl
      clear h0
      go_wp2
      go_ret
      refine ⟨?_, hfr.alloc _⟩
      rw [← HF.out]
      exact congrArg (fun x => Ending.returned (.string x)) (cat_str [c] t)
    · have hz : (((m : Int) / 10) == 0) = false := by simp; omega
      have HF : Hid (digU (m / 10) ++ c :: t = R) := by
        rw [← hrel.out, HD.out, if_neg h0]; rfl
      have hpos : 0 < m := by omega
      clear h0
      go_wp2
      go_roundw
      case rel => exact ⟨m / 10, c :: t, by omega, by simp, congrArg Value.string (cat_str [c] t), hfr.alloc _, HF⟩
      case measure => simp [intOf]; omega
end Go.Proofs.YtdjhjfpeckndkaaGreatDoor
namespace Go.Proofs.YtdjhjfpeckndkaaGreatDoor
open Go.RowKit
def hexL : List UInt8 := [48, 49, 50, 51, 52, 53, 54, 55, 56, 57, 97, 98, 99, 100, 101, 102]
theorem hex_slice (n : Nat) (hn : n < 16) (w : World) : (Instr.slice 9 (.string ⟨#[48, 49, 50, 51, 52, 53, 54, 55, 56, 57, 97, 98, 99, 100, 101, 102]⟩) (some (.int .u8 (n : Int))) (some (.int .u8 ((n : Int) + 1))) none).run Tryz.prog w = .ok (.string ⟨#[hexC n]⟩) w := by
  have hx : ∀ n, n < 16 → ((hexL.take (n + 1)).drop n) = [hexC n] := by decide
  have h1 := run_slice_string_if (P := Tryz.prog) w 9 ⟨hexL.toArray⟩ .u8 .u8 (n : Int) ((n : Int) + 1) Tryz.underlying9
  rw [if_pos ⟨by omega, by rw [size_str]; show (n : Int) + 1 ≤ ((16 : Nat) : Int); omega⟩, if_pos ⟨by omega, by omega⟩, extract_str] at h1
  have e1 : ((n : Int) + 1).toNat = n + 1 := by omega
  rw [e1, Int.toNat_natCast, hx n hn] at h1
  exact h1
set_option maxRecDepth 100000 in
set_option maxHeartbeats 1000000 in
theorem hexa_any (c : UInt8) (w : World) : Calls Tryz.prog 117 #[.int .u8 c.toNat] w fun e w' => e = .returned (.string ⟨[hexC (c.toNat / 16), hexC (c.toNat % 16)].toArray⟩) ∧ Fr [] w w' := by
  have hl := c.toNat_lt
  have h1 := hex_slice (c.toNat / 16) (by omega)
  have h2 := hex_slice (c.toNat % 16) (by omega)
  have e1 : ((c.toNat / 16 : Nat) : Int) = (c.toNat : Int) / 16 := by omega
  have e2 : ((c.toNat % 16 : Nat) : Int) = (c.toNat : Int) % 16 := by omega
  rw [e1] at h1
  rw [e2] at h2
  generalize hexC (c.toNat / 16) = x1 at *
  generalize hexC (c.toNat % 16) = x2 at *
  clear e1 e2
  have w1 : IntKind.u8.wrap ((c.toNat : Int) / 16 + 1) = (c.toNat : Int) / 16 + 1 := IntWalk.u8_in _ (by omega)
  have w2 : IntKind.u8.wrap ((c.toNat : Int) % 16 + 1) = (c.toNat : Int) % 16 + 1 := IntWalk.u8_in _ (by omega)
  go_enter Tryz.func117, Tryz.ntmps117
  go_wp2
  go_quiet (fail)
  clear w1 w2
  go_wp2
  go_ret
  exact ⟨congrArg (fun x => Ending.returned (.string x)) (cat_str [x1] [x2]), (by repeat (first | with_reducible exact Fr.refl _ _ | with_reducible assumption | with_reducible refine Fr.drewN ?_ _ | with_reducible refine Fr.drew ?_ | with_reducible refine Fr.alloc ?_ _ | ((with_reducible refine Fr.setCell ?_ ?_ _) <;> first | (apply Or.inl; simp; done) | (apply Or.inr; simp; done) | (apply Or.inr; simp; omega) | skip) | (refine Fr.then0 ?_ (by with_reducible assumption)) | (refine Fr.trans ?_ (by with_reducible assumption))))⟩
theorem take_snoc {α : Type} {l : List α} {k : Nat} {x : α} (h : l[k]? = some x) : l.take (k + 1) = l.take k ++ [x] := by
  obtain ⟨hk, he⟩ := List.getElem?_eq_some_iff.1 h
  rw [List.take_succ_eq_append_getElem hk, he]
theorem flat_snoc {f : UInt8 → List UInt8} {l : List UInt8} {k : Nat} {x : UInt8} (h : l[k]? = some x) : (l.take (k + 1)).flatMap f = (l.take k).flatMap f ++ f x := by
  rw [take_snoc h]; simp
theorem slice_one {l : List UInt8} {k : Nat} {x : UInt8} (h : l[k]? = some x) : (l.take (k + 1)).drop k = [x] := by
  rw [take_snoc h]
  have := (List.getElem?_eq_some_iff.1 h).1
  rw [List.drop_append_of_le_length (by rw [List.length_take]; omega)]
  rw [List.drop_eq_nil_of_le (by rw [List.length_take]; omega)]; rfl
set_option maxRecDepth 100000 in
set_option maxHeartbeats 1000000 in
theorem r18Name_any (s : List UInt8) (w : World) (hl : s.length ≤ 1073741824) : Calls Tryz.prog 64 #[.string ⟨s.toArray⟩] w fun e w' => e = .returned (.string ⟨(nameT s).toArray⟩) ∧ Fr [] w w' := by
  obtain ⟨R, hR⟩ : ∃ R, R = nameT s := ⟨_, rfl⟩
  rw [← hR]
  have HR := hide hR
  clear hR
  go_enter Tryz.func64, Tryz.ntmps64
  go_wp2
  go_loopw [4, 3] (fun i o wr => ∃ (k : Nat) (t : List UInt8), k ≤ s.length ∧ i = .int .i64 k ∧ o = .string ⟨t.toArray⟩ ∧ t.length ≤ 1 + 3 * k ∧ Fr [] w wr ∧ Hid (t = 47 :: (s.take k).flatMap nameC)) (fun i _ _ => s.length - (intOf i).toNat)
  case atStart => exact ⟨0, [47], Nat.zero_le _, rfl, rfl, by simp, Fr.refl _ _, hide (by simp)⟩
  case round =>
    obtain ⟨k, t, hk, rfl, rfl, htl, hfr, hrel⟩ := hrel
    by_cases hlt : k < s.length
    · obtain ⟨u, hu⟩ : ∃ u, s[k]? = some u := ⟨_, List.getElem?_eq_getElem hlt⟩
      have hd : decide ((k : Int) < (s.length : Int)) = true := by simp; omega
      have hi := idx_str Tryz.underlying9 hu
      have hsl : ∀ w, (Instr.slice 9 (.string ⟨s.toArray⟩) (some (.int .i64 (k : Int))) (some (.int .i64 ((k : Int) + 1))) none).run Tryz.prog w = .ok (.string ⟨[u].toArray⟩) w := fun w => by
        have := sl_lh (P := Tryz.prog) Tryz.underlying9 (l := s) (a := k) (b := k + 1) (by omega) (by omega) w
        rw [slice_one hu] at this
        exact this
      have HX := hide (hexa_any u)
      have HF : Hid (47 :: (s.take (k + 1)).flatMap nameC = t ++ nameC u) := by rw [hrel.out, flat_snoc hu]; rfl
      have HD := hide (fun w => rdelim_any u w)
      clear hu
      by_cases hs : u.toNat < 33 ∨ 126 < u.toNat ∨ u.toNat = 35 ∨ delimB u = true
      · have hn : nameC u = [35, hexC (u.toNat / 16), hexC (u.toNat % 16)] := by unfold nameC; rw [if_pos hs]
        rw [hn] at HF
        clear hn
        have hends : ∀ x1 x2 : UInt8, (⟨t.toArray⟩ : ByteArray) ++ ⟨#[35]⟩ ++ ⟨[x1, x2].toArray⟩ = ⟨(t ++ [35, x1, x2]).toArray⟩ := fun x1 x2 => by
          have h1 := cat_str t [35]
          have h2 := cat_str (t ++ [35]) [x1, x2]
          rw [show (⟨#[35]⟩ : ByteArray) = ⟨[35].toArray⟩ from rfl, h1, h2]; simp
        generalize hexC (u.toNat / 16) = x1 at *
        generalize hexC (u.toNat % 16) = x2 at *
        have HE := hide (hends x1 x2)
        clear hends
        by_cases h1 : u.toNat < 33
        · have d1 : decide ((u.toNat : Int) < 33) = true := by simp; omega
          clear hs h1
          go_wp2_with (go_at_call 117; refine (HX.out _).mono ?_; rintro e w2 ⟨rfl, hf2⟩)
          go_roundw
          case rel => exact ⟨k + 1, t ++ [35, x1, x2], by omega, by go_num, congrArg Value.string HE.out, by simp; omega, hfr.trans hf2, HF.out.symm⟩
          case measure => simp [intOf]; omega
        have d1 : decide ((u.toNat : Int) < 33) = false := by simp; omega
        by_cases h2 : 126 < u.toNat
        · have d2 : decide ((126 : Int) < (u.toNat : Int)) = true := by simp; omega
          clear hs h1 h2
          go_wp2_with (go_at_call 117; refine (HX.out _).mono ?_; rintro e w2 ⟨rfl, hf2⟩)
          go_roundw
          case rel => exact ⟨k + 1, t ++ [35, x1, x2], by omega, by go_num, congrArg Value.string HE.out, by simp; omega, hfr.trans hf2, HF.out.symm⟩
          case measure => simp [intOf]; omega
        have d2 : decide ((126 : Int) < (u.toNat : Int)) = false := by simp; omega
        by_cases h3 : u.toNat = 35
        · have d3 : ((u.toNat : Int) == 35) = true := by simp; omega
          clear hs h1 h2 h3
          go_wp2_with (go_at_call 117; refine (HX.out _).mono ?_; rintro e w2 ⟨rfl, hf2⟩)
          go_roundw
          case rel => exact ⟨k + 1, t ++ [35, x1, x2], by omega, by go_num, congrArg Value.string HE.out, by simp; omega, hfr.trans hf2, HF.out.symm⟩
          case measure => simp [intOf]; omega
        have d3 : ((u.toNat : Int) == 35) = false := by simp; omega
        have h4 : delimB u = true := by
          rcases hs with h | h | h | h
          · omega
          · omega
          · omega
          · exact h
        rw [h4] at HD
        clear hs h1 h2 h3 h4
        go_wp2_with (first
          | (go_at_call 117; refine (HX.out _).mono ?_; rintro e w2 ⟨rfl, hf2⟩)
          | (go_at_call 114; refine (HD.out _).mono ?_; rintro e w2 ⟨rfl, rfl⟩))
        go_roundw
        case rel => exact ⟨k + 1, t ++ [35, x1, x2], by omega, by go_num, congrArg Value.string HE.out, by simp; omega, hfr.trans hf2, HF.out.symm⟩
        case measure => simp [intOf]; omega
      · have hn : nameC u = [u] := by unfold nameC; rw [if_neg hs]
        rw [hn] at HF
        clear hn
        have d1 : decide ((u.toNat : Int) < 33) = false := by simp; omega
        have d2 : decide ((126 : Int) < (u.toNat : Int)) = false := by simp; omega
        have d3 : ((u.toNat : Int) == 35) = false := by simp; omega
        have h4 : delimB u = false := by
          cases hd : delimB u
          · rfl
          · exact absurd (.inr (.inr (.inr hd))) hs
        rw [h4] at HD
        clear hs h4
        have HE := hide (cat_str t [u])
        go_wp2_with (go_at_call 114; refine (HD.out _).mono ?_; rintro e w2 ⟨rfl, rfl⟩)
        go_roundw
        case rel => exact ⟨k + 1, t ++ [u], by omega, by go_num, congrArg Value.string HE.out, by simp; omega, hfr, HF.out.symm⟩
        case measure => simp [intOf]; omega
    · have hd : decide ((k : Int) < (s.length : Int)) = false := by simp; omega
      have HF : Hid (t = R) := by
        rw [hrel.out, HR.out, List.take_of_length_le (by omega)]; rfl
      go_wp2
      go_ret
      exact ⟨by rw [HF.out]; rfl, hfr⟩
end Go.Proofs.YtdjhjfpeckndkaaGreatDoor
