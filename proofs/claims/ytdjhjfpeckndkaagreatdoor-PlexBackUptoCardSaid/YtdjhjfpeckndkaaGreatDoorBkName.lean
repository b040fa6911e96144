/- Contract: the reader's name. -/
import Derived.Test.YtdjhjfpeckndkaaGreatDoorBkSl
set_option linter.unusedVariables false
set_option linter.unusedSimpArgs false
namespace Go.Proofs.YtdjhjfpeckndkaaGreatDoor
open Go.RowKit
theorem wordS_len (bs : List UInt8) (k : Nat) : (wordS bs k).length ≤ bs.length := by
  unfold wordS
  rw [List.length_drop, List.length_take]
  omega
theorem fr_app {S : List Nat} {W0 wr w1 : World} {base n size : Nat} {e : TypeId} {v : Value} {xs : List Value} (h : Fr S W0 wr) (hown : wr.ownsRow base e size v n xs) (hb : W0.heap.size ≤ base) (hf : Fr v.ownBlock.toList wr w1) : Fr S W0 w1 :=
  h.trans' hf fun g hg => .inr (Nat.le_trans hb (own_base hown g (by simpa using hg)))
theorem nameD_hash {s : List UInt8} {q : Nat} {u a b : UInt8} (hu : s[q]? = some u) (ha : s[q + 1]? = some a) (hb : s[q + 2]? = some b) (h35 : u.toNat = 35) :
    nameD (s.drop q) = if 0 ≤ hexV a ∧ 0 ≤ hexV b then (nameD (s.drop (q + 3))).map (UInt8.ofNat (16 * hexV a + hexV b).toNat :: ·) else none := by
  rw [drop_at s q u hu, drop_at s (q + 1) a ha, drop_at s (q + 2) b hb, nameD.eq_def]
  simp only [h35, if_true]
theorem nameD_short {s : List UInt8} {q : Nat} {u : UInt8} (hu : s[q]? = some u) (h35 : u.toNat = 35) (h : s.length ≤ q + 2) : nameD (s.drop q) = none := by
  rw [drop_at s q u hu]
  have hl : (s.drop (q + 1)).length ≤ 1 := by rw [List.length_drop]; omega
  match s.drop (q + 1), hl with
  | [], _ => simp [nameD, h35]
  | [x], _ => simp [nameD, h35]
theorem nameD_plain {s : List UInt8} {q : Nat} {u : UInt8} (hu : s[q]? = some u) (h35 : ¬ u.toNat = 35) : nameD (s.drop q) = (nameD (s.drop (q + 1))).map (u :: ·) := by
  rw [drop_at s q u hu, nameD.eq_def]
  simp only [h35, if_false]
theorem map_map_cons (x : Option (List UInt8)) (out : List UInt8) (u : UInt8) : (x.map (u :: ·)).map (out ++ ·) = x.map ((out ++ [u]) ++ ·) := by
  cases x <;> simp
theorem nib_or : ∀ a : Nat, a < 16 → ∀ b : Nat, b < 16 → bits BinOp.or IntKind.i64 ((a : Int) * 16) (b : Int) = ((16 * a + b : Nat) : Int) := by decide +kernel
theorem nib (x y : Int) (hx : 0 ≤ x ∧ x ≤ 15) (hy : 0 ≤ y ∧ y ≤ 15) : bits BinOp.or IntKind.i64 (x * 16) y = 16 * x + y := by
  obtain ⟨a, rfl⟩ := Int.eq_ofNat_of_zero_le hx.1
  obtain ⟨b, rfl⟩ := Int.eq_ofNat_of_zero_le hy.1
  rw [nib_or a (by omega) b (by omega)]
  omega
def NameQ (w : World) (r : Nat) (A : Option Addr) (n c : Nat) (refs : Bool) (bs : List UInt8) : Except Int (List UInt8 × Nat) → Ending → World → Prop
  | .ok (s, j), e, w' => e = .returned (.string ⟨s.toArray⟩) ∧ St w' r A n c j refs bs ∧ Fr [r] w w'
  | .error x, e, w' => e = panicE x ∧ Fr [r] w w'
set_option maxRecDepth 100000 in
set_option maxHeartbeats 400000 in
theorem name_any (r n c k : Nat) (A : Option Addr) (refs : Bool) (bs : List UInt8) (w : World) (hs : St w r A n c k refs bs) :
    Calls Tryz.prog 118 #[.pointer (some ⟨r, 0, none⟩)] w (NameQ w r A n c refs bs (nameP bs k)) := by
  obtain ⟨c0, c1, c2, cz⟩ := hs.blk.c3
  have hkn := hs.le
  have hsm := hs.small
  have hin : insideF n k = k := by unfold insideF; rw [if_neg (by omega)]; simp
  have hwd := fun w' (h : RB w' (fun g => g ≠ r) A n bs) => word_any _ A n c k bs w' h (by omega) hs.cap
  rw [hin] at hwd
  have HWD := hide hwd
  clear hwd hin
  have hsl : (wordS bs k).length ≤ n := by have := wordS_len bs k; rw [hs.len] at this; exact this
  have hwl : wordF bs k ≤ n := by have := wordF_le bs k (by rw [hs.len]; exact hkn); rw [hs.len] at this; exact this
  have hP : nameP bs k = match nameD (wordS bs k) with
    | none => .error 23
    | some out => if out = [] ∨ (0 : UInt8) ∈ out then .error 23 else if 127 < out.length then .error 25 else .ok (out, wordF bs k) := rfl
  obtain ⟨R, hR⟩ : ∃ R, R = nameP bs k := ⟨_, rfl⟩
  rw [← hR]
  rw [hP] at hR
  have HR := hide hR
  clear hP hR
  have hset := hs.set_ (wordF bs k) hwl
  generalize wordS bs k = s at *
  generalize wordF bs k = j at *
  go_enter Tryz.func118, Tryz.ntmps118
  go_wp2
  go_quiet ((go_at_call 16; exact Calls.quiet_of_same ((HWD.out _ (hs.rb.keep0 ((Fr.refl _ _).drewN _))).mono fun e w' h => ⟨h.1, h.2.symm⟩)))
  go_wp2
  obtain ⟨W0, hW0⟩ : ∃ W0, W0 = (w.drewN nq).setCell ⟨r, 1, none⟩ (.int .i64 j) := ⟨_, rfl⟩
  have hs0 : St W0 r A n c j refs bs := by rw [hW0]; exact (hs.keep0 ((Fr.refl _ _).drewN nq)).set_ j hwl
  have hf0 : Fr [r] w W0 := by rw [hW0]; exact (by repeat (first | with_reducible exact Fr.refl _ _ | with_reducible assumption | with_reducible refine Fr.drewN ?_ _ | with_reducible refine Fr.drew ?_ | with_reducible refine Fr.alloc ?_ _ | ((with_reducible refine Fr.setCell ?_ ?_ _) <;> first | (apply Or.inl; simp; done) | (apply Or.inr; simp; done) | (apply Or.inr; simp; omega) | skip) | (refine Fr.then0 ?_ (by with_reducible assumption)) | (refine Fr.trans ?_ (by with_reducible assumption))))
  rw [← hW0]
  clear hW0
  have HS0 := hide hs0
  clear hset
  clear c0 c1 c2 cz
  go_loopw [5, 6] (fun o i wr => ∃ (q : Nat) (out : List UInt8), q ≤ s.length ∧ out.length ≤ q ∧ i = .int .i64 q ∧ wr.ownsRow W0.heap.size 5 1 o out.length (u8s out) ∧ Fr [] W0 wr ∧ Hid (nameD s = (nameD (s.drop q)).map (out ++ ·))) (fun _ i _ => s.length - (intOf i).toNat)
  case atStart => exact ⟨0, [], Nat.zero_le _, Nat.zero_le _, rfl, own_nil _ _ _ _, Fr.refl _ _, by show _ = _; simp⟩
  case round =>
    obtain ⟨q, out, hq, hoq, rfl, hown, hfr, hrel⟩ := hrel
    obtain ⟨Ao, co, rfl⟩ := own_slice hown
    by_cases hlt : q < s.length
    · have hd : decide ((q : Int) < (s.length : Int)) = true := by simp; omega
      obtain ⟨u, hu⟩ : ∃ u, s[q]? = some u := ⟨_, List.getElem?_eq_getElem hlt⟩
      have hi := idx_str Tryz.underlying9 hu
      by_cases h35 : u.toNat = 35
      · have hc35 : ((u.toNat : Int) == 35) = true := by simp; omega
        by_cases hq2 : q + 2 < s.length
        · obtain ⟨a, ha⟩ : ∃ a, s[q + 1]? = some a := ⟨_, List.getElem?_eq_getElem (by omega)⟩
          obtain ⟨b, hb⟩ : ∃ b, s[q + 2]? = some b := ⟨_, List.getElem?_eq_getElem hq2⟩
          have hia : ∀ w, (Instr.index 9 (.string ⟨s.toArray⟩) (.int .i64 ((q : Int) + 1))).run Tryz.prog w = .ok (.int .u8 a.toNat) w := fun w => idx_str Tryz.underlying9 ha w
          have hib : ∀ w, (Instr.index 9 (.string ⟨s.toArray⟩) (.int .i64 ((q : Int) + 2))).run Tryz.prog w = .ok (.int .u8 b.toNat) w := fun w => idx_str Tryz.underlying9 hb w
          have hq2d : decide ((s.length : Int) ≤ (q : Int) + 2) = false := by simp; omega
          have hra := hexV_range a
          have hrb := hexV_range b
          have HH := hide (nameD_hash hu ha hb h35)
          clear hu ha hb h35
          have hca := fun w => digit_any a w
          have hcb := fun w => digit_any b w
          have HCA := hide hca
          have HCB := hide hcb
          clear hca hcb
          by_cases h2 : 0 ≤ hexV a ∧ 0 ≤ hexV b
          · have HN := hide (nib (hexV a) (hexV b) ⟨h2.1, hra.2⟩ ⟨h2.2, hrb.2⟩)
            have HH2 : Hid (nameD (s.drop q) = (nameD (s.drop (q + 3))).map (UInt8.ofNat (16 * hexV a + hexV b).toNat :: ·)) := by
              have := HH.out; rw [if_pos h2] at this; exact this
            have hd1 : decide (hexV a < 0) = false := by simp; omega
            have hd2 : decide (hexV b < 0) = false := by simp; omega
            have hcv : (((UInt8.ofNat (16 * hexV a + hexV b).toNat).toNat : Nat) : Int) = 16 * hexV a + hexV b := by
              simp only [UInt8.toNat_ofNat']; omega
            have HCV := hide hcv
            clear hcv
            generalize UInt8.ofNat (16 * hexV a + hexV b).toNat = cc at *
            have hnib := HN.out
            generalize hexV a = va at *
            generalize hexV b = vb at *
            go_wp2_with (first
              | (go_at_call 152; with_reducible (refine (HCA.out _).mono ?_); rintro e w' ⟨rfl, rfl⟩)
              | (go_at_call 152; with_reducible (refine (HCB.out _).mono ?_); rintro e w' ⟨rfl, rfl⟩))
            have hw1 : IntKind.i64.wrap ((q : Int) + 1) = (q : Int) + 1 := IntWalk.i64_in _ (by omega)
            have hw2 : IntKind.i64.wrap ((q : Int) + 2) = (q : Int) + 2 := IntWalk.i64_in _ (by omega)
            go_quiet ((go_at_call 152; first | with_reducible exact Calls.quiet_of_same ((HCA.out _).mono fun e w' h => ⟨h.1, h.2.symm⟩) | with_reducible exact Calls.quiet_of_same ((HCB.out _).mono fun e w' h => ⟨h.1, h.2.symm⟩)))
            clear hw1 hw2
            have hown' := own_keep hown ((Fr.refl [] wr).drewN nq) (by simp)
            have hfr' := hfr.drewN nq
            go_wp2_with (at_builtin; refine app_u8 rfl (.tmp 72) (.tmp 74) rfl _ out (wr.drewN nq) W0.heap.size _ _ cc HCV.out.symm rfl rfl hown' rfl (by omega) hfr'.size ?_; intro v1 w1 hown1 hf1 _)
            go_roundw
            case rel =>
              refine ⟨q + 3, out ++ [cc], by omega, by simp; omega, by go_num, by rw [List.length_append]; exact hown1, fr_app hfr' hown' (Nat.le_refl _) hf1, ?_⟩
              have := hrel.out
              rw [HH2.out, map_map_cons] at this
              exact this
            case measure => simp [intOf]; omega
          · have HF : Hid (nameD s = none) := by
              have := hrel.out
              rw [HH.out, if_neg h2] at this
              exact this
            by_cases ha0 : 0 ≤ hexV a
            · have hb0 : hexV b < 0 := by omega
              have hd1 : decide (hexV a < 0) = false := by simp; omega
              have hd2 : decide (hexV b < 0) = true := by simp; omega
              clear h2
              generalize hexV a = va at *
              generalize hexV b = vb at *
              go_wp2_with (first
                | (go_at_call 152; with_reducible (refine (HCA.out _).mono ?_); rintro e w' ⟨rfl, rfl⟩)
                | (go_at_call 152; with_reducible (refine (HCB.out _).mono ?_); rintro e w' ⟨rfl, rfl⟩)
                | (go_at_call 119; refine (fail_any _ _).mono ?_; rintro e w' ⟨rfl, rfl⟩))
              refine ⟨rfl, ?_⟩
              have hRR := HR.out
              rw [HF.out] at hRR
              rw [hRR]
              exact ⟨rfl, hf0.then0 hfr⟩
            · have hd1 : decide (hexV a < 0) = true := by simp; omega
              clear h2
              generalize hexV a = va at *
              go_wp2_with (first
                | (go_at_call 152; with_reducible (refine (HCA.out _).mono ?_); rintro e w' ⟨rfl, rfl⟩)
                | (go_at_call 119; refine (fail_any _ _).mono ?_; rintro e w' ⟨rfl, rfl⟩))
              refine ⟨rfl, ?_⟩
              have hRR := HR.out
              rw [HF.out] at hRR
              rw [hRR]
              exact ⟨rfl, hf0.then0 hfr⟩
        · have hq2d : decide ((s.length : Int) ≤ (q : Int) + 2) = true := by simp; omega
          have HF : Hid (nameD s = none) := by
            have := hrel.out
            rw [nameD_short hu h35 (by omega)] at this
            exact this
          clear hu h35
          go_wp2_with (go_at_call 119; refine (fail_any _ _).mono ?_; rintro e w' ⟨rfl, rfl⟩)
          refine ⟨rfl, ?_⟩
          have hRR := HR.out
          rw [HF.out] at hRR
          rw [hRR]
          exact ⟨rfl, hf0.then0 hfr⟩
      · have hc35 : ((u.toNat : Int) == 35) = false := by simp; omega
        have HH := hide (nameD_plain hu h35)
        clear hu h35
        go_wp2_with (at_builtin; refine app_u8 rfl (.tmp 72) (.tmp 74) rfl _ out wr W0.heap.size _ _ u rfl rfl rfl hown rfl (by omega) hfr.size ?_; intro v1 w1 hown1 hf1 _)
        go_roundw
        case rel =>
          refine ⟨q + 1, out ++ [u], by omega, by simp; omega, by go_num, by rw [List.length_append]; exact hown1, fr_app hfr hown (Nat.le_refl _) hf1, ?_⟩
          have := hrel.out
          rw [HH.out, map_map_cons] at this
          exact this
        case measure => simp [intOf]; omega
    · have hd : decide ((q : Int) < (s.length : Int)) = false := by simp; omega
      have HF : Hid (nameD s = some out) := by
        have := hrel.out
        rw [List.drop_eq_nil_of_le (by omega)] at this
        simp only [nameD, Option.map_some, List.append_nil] at this
        exact this
      have hRR : Hid (R = if out = [] ∨ (0 : UInt8) ∈ out then .error 23 else if 127 < out.length then .error 25 else .ok (out, j)) := by
        have := HR.out
        rw [HF.out] at this
        exact this
      have hrbo : RB wr (fun g => W0.heap.size ≤ g) Ao out.length out := Rd.of_own hown
      by_cases hne : out = []
      · have HE : Hid (R = .error 23) := by rw [hRR.out, if_pos (.inl hne)]; rfl
        have hl0 : ((out.length : Int) == 0) = true := by rw [hne]; rfl
        clear hne
        go_wp2_with (go_at_call 119; refine (fail_any _ _).mono ?_; rintro e w' ⟨rfl, rfl⟩)
        refine ⟨rfl, ?_⟩
        rw [HE.out]
        exact ⟨rfl, hf0.then0 hfr⟩
      · have hl0 : ((out.length : Int) == 0) = false := by
          have := List.length_pos_iff.2 hne
          simp
          omega
        have hct := fun w' => scontains_u8 (fun g => W0.heap.size ≤ g) Ao out.length co out 0 w'
        have HCT := hide (scontains_u8 (fun g => W0.heap.size ≤ g) Ao out.length co out 0 wr hrbo (by omega))
        clear hct
        cases hz : hasB 0 out
        · rw [hz] at HCT
          have hz' : ¬ (0 : UInt8) ∈ out := by
            intro hm
            have : hasB 0 out = true := by simpa [hasB] using hm
            rw [hz] at this
            cases this
          have HNE : Hid (¬ (out = [] ∨ (0 : UInt8) ∈ out)) := fun h => h.elim hne hz'
          clear hne hz'
          by_cases h127 : 127 < out.length
          · have HE : Hid (R = .error 25) := by rw [hRR.out, if_neg HNE.out, if_pos h127]; rfl
            have hd7 : decide ((127 : Int) < (out.length : Int)) = true := by simp; omega
            go_wp2_with (first
              | (go_at_call 153; refine (HCT.out).mono ?_; rintro e w' ⟨rfl, rfl⟩)
              | (go_at_call 119; refine (fail_any _ _).mono ?_; rintro e w' ⟨rfl, rfl⟩))
            refine ⟨rfl, ?_⟩
            rw [HE.out]
            exact ⟨rfl, hf0.then0 hfr⟩
          · have HE : Hid (R = .ok (out, j)) := by rw [hRR.out, if_neg HNE.out, if_neg h127]; rfl
            have hd7 : decide ((127 : Int) < (out.length : Int)) = false := by simp; omega
            have hcv := conv_rb Tryz.underlying22 Tryz.underlying5 Tryz.underlying9 (c := co) hrbo
            go_wp2_with (go_at_call 153; refine (HCT.out).mono ?_; rintro e w' ⟨rfl, rfl⟩)
            go_ret
            rw [HE.out]
            exact ⟨rfl, HS0.out.keep0 hfr, hf0.then0 hfr⟩
        · rw [hz] at HCT
          have hz' : (0 : UInt8) ∈ out := by simpa [hasB] using hz
          have HE : Hid (R = .error 23) := by rw [hRR.out, if_pos (.inr hz')]; rfl
          clear hne hz'
          go_wp2_with (first
            | (go_at_call 153; refine (HCT.out).mono ?_; rintro e w' ⟨rfl, rfl⟩)
            | (go_at_call 119; refine (fail_any _ _).mono ?_; rintro e w' ⟨rfl, rfl⟩))
          refine ⟨rfl, ?_⟩
          rw [HE.out]
          exact ⟨rfl, hf0.then0 hfr⟩
end Go.Proofs.YtdjhjfpeckndkaaGreatDoor
