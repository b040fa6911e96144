/- Contracts: fix.Fits, dec.value, dec.Parse. -/
import Derived.Test.YtdjhjfpeckndkaaGreatDoorBkDecA
import Derived.Laws.AppendOwn
set_option linter.unusedVariables false
set_option linter.unusedSimpArgs false
namespace Go.Proofs.YtdjhjfpeckndkaaGreatDoor
open Go.RowKit

set_option maxHeartbeats 400000 in
theorem fits_any (n : Int) (w : World) : Calls Tryz.prog 267 #[.int .i64 n] w fun e w' => e = .returned (.bool (fitsI n)) ∧ w = w' := by
  go_enter Tryz.func267, Tryz.ntmps267
  go_wp2
  all_goals (go_ret; exact ⟨ret_bool (by unfold fitsI; rw [Bool.eq_iff_iff]; simp; omega), rfl⟩)

theorem trimLeft0 (l : List UInt8) (w : World) :
    Calls Tryz.prog 286 #[.string ⟨l.toArray⟩, .string ⟨#[48]⟩] w fun e w' => e = .returned (.string ⟨(zeroL l).toArray⟩) ∧ w = w' :=
  (Tryz.strings_TrimLeft_one ⟨l.toArray⟩ 48 (by decide) w).mono fun e w' ⟨he, hw⟩ => ⟨by rw [he, data_str]; rfl, hw.symm⟩

theorem dig_mid {l : List UInt8} {k : Nat} {c : UInt8} (h : l[k]? = some c) : (l.take k).map digV ++ (l.drop k).map UInt8.toNat = (l.take k).map digV ++ c.toNat :: (l.drop (k + 1)).map UInt8.toNat := by
  rw [drop_at l k c h, List.map_cons]
theorem dig_next {l : List UInt8} {k : Nat} {c : UInt8} (h : l[k]? = some c) : (l.take (k + 1)).map digV ++ (l.drop (k + 1)).map UInt8.toNat = (l.take k).map digV ++ digV c :: (l.drop (k + 1)).map UInt8.toNat := by
  obtain ⟨hk, he⟩ := List.getElem?_eq_some_iff.1 h
  rw [List.take_succ_eq_append_getElem hk, he, List.map_append, List.append_assoc]
  rfl
theorem numD_next {l : List UInt8} {k : Nat} {c : UInt8} (h : l[k]? = some c) : numD 0 (l.take (k + 1)) = 10 * numD 0 (l.take k) + digV c := by
  obtain ⟨hk, he⟩ := List.getElem?_eq_some_iff.1 h
  rw [List.take_succ_eq_append_getElem hk, he, numD_snoc]
theorem plainD_take (l : List UInt8) (k : Nat) (h : plainD l = true) : plainD (l.take k) = true := by
  simp only [plainD, List.all_eq_true] at h ⊢
  exact fun c hc => h c ((List.take_sublist _ _).subset hc)
theorem numD5 (l : List UInt8) (h : plainD l = true) (h5 : l.length ≤ 5) (k : Nat) : numD 0 (l.take k) < 100000 := by
  have h1 := numD_lt (l.take k) 0 (plainD_take l k h)
  have h2 : (l.take k).length ≤ 5 := by rw [List.length_take]; omega
  have h4 : 10 ^ (l.take k).length ≤ 100000 := Nat.pow_le_pow_right (by omega) h2
  omega

theorem double_n (g n c : Nat) (ds : List Nat) (w : World) (hl : ds.length = n) (hn : n ≤ 1048576) (hd : Dg w g ds) (h9 : ∀ x, x ∈ ds → x ≤ 9) :
    Calls Tryz.prog 287 #[.slice (some ⟨g, 0, none⟩) n c] w fun e w' => e = .returned (.int .i64 ((dblP ds).1 : Int)) ∧ Fr [g] w w' ∧ Dg w' g (dblP ds).2 := by
  subst hl
  exact double_any g c ds w hn hd h9

set_option maxRecDepth 100000 in
set_option maxHeartbeats 400000 in
theorem value_any (minus : Bool) (wl rl : List UInt8) (w : World) (hw : plainD wl = true) (hr : plainD rl = true) (hwn : wl.length ≤ 4611686018427387904) (hrn : rl.length ≤ 1048576) :
    Calls Tryz.prog 239 #[.bool minus, .string ⟨wl.toArray⟩, .string ⟨rl.toArray⟩] w fun e w' => e = .returned (.tuple #[.int .i64 (valueN minus wl rl), .bool (valueB minus wl rl)]) ∧ Fr [] w w' := by
  have hzp := zeroL_plain wl hw
  have ht := fun w => trimLeft0 wl w
  have HT := hide ht
  clear ht
  by_cases h5 : 5 < (zeroL wl).length
  · have e1 : valueN minus wl rl = 0 := by unfold valueN; rw [if_pos h5]
    have e2 : valueB minus wl rl = false := by unfold valueB; simp; omega
    rw [e1, e2]
    clear e1 e2
    generalize zeroL wl = zl at *
    go_enter Tryz.func239, Tryz.ntmps239
    go_wp2_with (go_at_call 286; refine (HT.out _).mono ?_; rintro e w' ⟨rfl, rfl⟩)
    go_ret2
    exact ⟨rfl, Fr.refl _ _⟩
  · have e1 : valueN minus wl rl = negI minus (magP (zeroL wl) rl) := by unfold valueN; rw [if_neg h5]
    have e2 : valueB minus wl rl = fitsI (negI minus (magP (zeroL wl) rl)) := by unfold valueB; rw [e1, decide_eq_true (by omega)]; rfl
    have hmag := magP_lt (zeroL wl) rl hzp hr (by omega)
    rw [e1, e2]
    clear e1 e2
    generalize zeroL wl = zl at *
    have h5' : zl.length ≤ 5 := by omega
    obtain ⟨c1, W1, hcv1, hf1, hsz1, hcl1, _, _⟩ := conv_bytes (P := Tryz.prog) Tryz.underlying9 Tryz.underlying22 Tryz.underlying5 zl w
    obtain ⟨c2, W2, hcv2, hf2, hsz2, hcl2, _, _⟩ := conv_bytes (P := Tryz.prog) Tryz.underlying9 Tryz.underlying22 Tryz.underlying5 rl W1
    have HC1 := hide hcl1
    have HC2 := hide hcl2
    clear hcl1 hcl2
    have HS1 := hide hsz1
    have HS2 := hide hsz2
    clear hsz1 hsz2
    generalize hg1 : w.heap.size = g1 at *
    generalize hg2 : W1.heap.size = g2 at *
    have HG1 := hide hg1
    have HG2 := hide hg2
    clear hg1 hg2
    obtain ⟨R, hR⟩ : ∃ R : Nat, R = magP zl rl := ⟨_, rfl⟩
    rw [← hR] at hmag ⊢
    have HR := hide hR
    clear hR
    have hd5 : decide ((5 : Int) < (zl.length : Int)) = false := by simp; omega
    clear h5
    go_enter Tryz.func239, Tryz.ntmps239
    go_wp2_with (go_at_call 286; refine (HT.out _).mono ?_; rintro e w' ⟨rfl, rfl⟩)
    go_loop [8, 21] (fun nn i => ∃ k : Nat, k ≤ zl.length ∧ i = .int .i64 k ∧ nn = .int .i64 (numD 0 (zl.take k) : Nat)) (fun _ i => zl.length - (intOf i).toNat)
    case atStart => exact ⟨0, Nat.zero_le _, rfl, rfl⟩
    case round =>
      obtain ⟨k, hk, rfl, rfl⟩ := hrel
      have hb5 := numD5 zl hzp h5' k
      by_cases hlt : k < zl.length
      · obtain ⟨u, hu⟩ : ∃ u, zl[k]? = some u := ⟨_, List.getElem?_eq_getElem hlt⟩
        obtain ⟨hcu, _⟩ := HC1.out k u hu
        have hisd : 48 ≤ u.toNat ∧ u.toNat ≤ 57 := by
          have := plainD_digs zl hzp u (List.mem_of_getElem? hu)
          simpa [isD] using this
        have HN := hide (numD_next hu)
        have HU := hide hu
        clear hu
        go_wp2
        go_round
        case rel => exact ⟨k + 1, by omega, by go_num, by rw [HN.out]; unfold digV; congr 1; omega⟩
        case measure => simp [intOf]; omega
      · have HF : Hid (zl.take k = zl) := by
          have : zl.take k = zl := List.take_of_length_le (by omega)
          exact this
        rw [HF.out] at hb5 ⊢
        have hbits := fun j => bitsP_le j (numD 0 zl) (rl.map digV) (digs_of_plain rl hr)
        have hdigs := fun j => bitsP_digs j (numD 0 zl) (rl.map digV) (digs_of_plain rl hr)
        have HB := hide hbits
        have HD := hide hdigs
        clear hbits hdigs
        go_wp2
        go_loopw [36] (fun i wr => ∃ j : Nat, j ≤ rl.length ∧ i = .int .i64 j ∧ Dg wr g2 ((rl.take j).map digV ++ (rl.drop j).map UInt8.toNat) ∧ Fr [g2] W2 wr) (fun i _ => rl.length - (intOf i).toNat)
        case atStart =>
          refine ⟨0, Nat.zero_le _, rfl, fun j x hx => ?_, Fr.refl _ _⟩
          have hx' : (rl.map UInt8.toNat)[j]? = some x := hx
          rw [List.getElem?_map] at hx'
          cases hu : rl[j]? with
          | none => rw [hu] at hx'; cases hx'
          | some u =>
            rw [hu] at hx'
            injection hx' with hx'
            subst hx'
            exact HC2.out j u hu
        case round =>
          obtain ⟨j, hj, rfl, hdg, hfr⟩ := hrel
          by_cases hjl : j < rl.length
          · obtain ⟨u, hu⟩ : ∃ u, rl[j]? = some u := ⟨_, List.getElem?_eq_getElem hjl⟩
            have hisd : 48 ≤ u.toNat ∧ u.toNat ≤ 57 := by
              have := plainD_digs rl hr u (List.mem_of_getElem? hu)
              simpa [isD] using this
            have HM1 := hide (dig_mid hu)
            have HM2 := hide (dig_next hu)
            rw [HM1.out] at hdg
            have hlen : ((rl.take j).map digV).length = j := by rw [List.length_map, List.length_take]; omega
            obtain ⟨hcu, hfu⟩ := hdg j u.toNat (by rw [List.getElem?_append_right (by omega), hlen, Nat.sub_self]; rfl)
            have HL := hide hlen
            clear hlen
            have HU := hide hu
            clear hu
            go_wp2
            go_roundw
            case rel =>
              refine ⟨j + 1, by omega, by go_num, ?_, hfr.setCell (.inl (by simp)) _⟩
              rw [HM2.out]
              have h := Dg.set_ (y := digV u) hdg
              rw [HL.out] at h
              have e : ((digV u : Nat) : Int) = (u.toNat : Int) - 48 := by unfold digV; omega
              rw [e] at h
              exact h
            case measure => simp [intOf]; omega
          · have HE : Hid ((rl.take j).map digV ++ (rl.drop j).map UInt8.toNat = rl.map digV) := by
              have : (rl.take j).map digV ++ (rl.drop j).map UInt8.toNat = rl.map digV := by
                rw [List.take_of_length_le (by omega), List.drop_eq_nil_of_le (by omega)]
                simp
              exact this
            rw [HE.out] at hdg
            go_wp2
            obtain ⟨wo, rfl⟩ : ∃ wo : World, wo = wr := ⟨_, rfl⟩
            go_loopw [8, 46] (fun nn i wr => ∃ q : Nat, q ≤ 16 ∧ i = .int .i64 q ∧ nn = .int .i64 ((bitsP q (numD 0 zl) (rl.map digV)).1 : Nat) ∧ Dg wr g2 (bitsP q (numD 0 zl) (rl.map digV)).2 ∧ Fr [g2] W2 wr) (fun _ i _ => 16 - (intOf i).toNat)
            case atStart => exact ⟨0, by omega, rfl, rfl, hdg, hfr⟩
            case round =>
              obtain ⟨q, hq, rfl, rfl, hdq, hfq⟩ := hrel
              have hbq := HB.out q
              have h2q : 2 ^ q ≤ 65536 := Nat.le_trans (Nat.pow_le_pow_right (by omega) hq) (by decide)
              have hb : (bitsP q (numD 0 zl) (rl.map digV)).1 < 100000 * 65536 := Nat.lt_of_lt_of_le hbq (Nat.mul_le_mul (by omega) h2q)
              clear hbq h2q
              have hlq : (bitsP q (numD 0 zl) (rl.map digV)).2.length = rl.length := by rw [bitsP_len, List.length_map]
              have hcq := dblP_carry _ (HD.out q)
              have HL := hide hlq
              clear hlq
              by_cases hq16 : q < 16
              · have HS := hide (bitsP_snoc q (numD 0 zl) (rl.map digV))
                generalize hx : bitsP q (numD 0 zl) (rl.map digV) = x at *
                have HX := hide hx
                clear hx
                have hqd : decide ((q : Int) < 16) = true := by simp; omega
                have H9 : Hid (∀ y, y ∈ x.2 → y ≤ 9) := by have := HD.out q; rw [HX.out] at this; exact this
                have HQ := hide hq16
                clear hq16
                go_wp2_with (go_at_call 287; refine (double_n _ _ _ _ _ HL.out hrn hdq H9.out).mono ?_; rintro e w1 ⟨rfl, hf3, hd3⟩)
                go_roundw
                case rel => exact ⟨q + 1, by have := HQ.out; omega, by go_num, by rw [HS.out]; go_num, by rw [HS.out]; exact hd3, hfq.trans hf3⟩
                case measure => simp [intOf]; have := HQ.out; omega
              · have hqd : decide ((q : Int) < 16) = false := by simp; omega
                have hq16' : Hid (q = 16) := (by omega : q = 16)
                have HD16 : Hid (∀ x, x ∈ (bitsP q (numD 0 zl) (rl.map digV)).2 → x ≤ 9) := HD.out q
                have HM : Hid (R = (bitsP q (numD 0 zl) (rl.map digV)).1 + (dblP (bitsP q (numD 0 zl) (rl.map digV)).2).1) := by rw [HR.out, hq16'.out]; rfl
                generalize bitsP q (numD 0 zl) (rl.map digV) = x at *
                clear hq16
                cases minus
                all_goals
                  go_wp2_with (first
                    | (go_at_call 287; refine (double_n _ _ _ _ _ HL.out hrn hdq HD16.out).mono ?_; rintro e w1 ⟨rfl, hf3, hd3⟩)
                    | (go_at_call 267; refine (fits_any _ _).mono ?_; rintro e w' ⟨rfl, rfl⟩))
                  go_ret2
                  refine ⟨?_, ?_⟩
                  · rw [HM.out]; rfl
                  · refine (hf1.then0 hf2).trans' (hfq.trans hf3) (fun g hg => .inr ?_)
                    have e1 := HS1.out
                    have e2 := HG1.out
                    have e3 : g = g2 := by simpa using hg
                    omega
end Go.Proofs.YtdjhjfpeckndkaaGreatDoor
