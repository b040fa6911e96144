/- Contract: the lexer's round. -/
import Derived.Test.YtdjhjfpeckndkaaGreatDoorBkScanR
set_option linter.unusedVariables false
set_option linter.unusedSimpArgs false
namespace Go.Proofs.YtdjhjfpeckndkaaGreatDoor
open Go.RowKit
/-- The place in a reader's object. -/
def posOf (w : World) (r : Nat) : Nat := match w.cell? ⟨r, 1, none⟩ with | some (.int _ x) => x.toNat | _ => 0
theorem Ss.pos {w : World} {r n c k : Nat} {A : Option Addr} {bs : List UInt8} (h : Ss w r A n c k bs) : posOf w r = k := by
  unfold posOf
  rw [h.blk.c2.2.1]
  simp
theorem escP_len (bs : List UInt8) (k : Nat) (d : UInt8) : (escP bs k d).1.length ≤ 1 := by
  unfold escP
  repeat' split
  all_goals simp
def StrQ (w : World) (r : Nat) (A : Option Addr) (n c : Nat) (bs : List UInt8) : Option (List UInt8 × Nat) → Ending → World → Prop
  | none, e, w' => e = panicE 14 ∧ Fr [r] w w'
  | some (out, j), e, w' => (65535 < out.length → e = panicE 9 ∧ Fr [r] w w') ∧ (out.length ≤ 65535 → e = .returned (strTok out) ∧ Ss w' r A n c j bs ∧ Fr [r] w w')
set_option maxRecDepth 100000 in
set_option maxHeartbeats 2000000 in
theorem round_any (r n c k : Nat) (A : Option Addr) (bs : List UInt8) (w : World) (hs : Ss w r A n c k bs) :
    Calls Tryz.prog 232 #[.pointer (some ⟨r, 0, none⟩)] w (StrQ w r A n c bs (roundP bs k 1 [])) := by
  obtain ⟨R, hR⟩ : ∃ R, R = roundP bs k 1 [] := ⟨_, rfl⟩
  rw [← hR]
  have HR := hide hR
  clear hR
  have hsm := hs.small
  have hlen' := hs.len
  have hAB := hs.blockA
  have HAB := hide hAB
  clear hAB
  have hkn := hs.le
  go_enter Tryz.func232, Tryz.ntmps232
  go_wp2_with fail
  obtain ⟨W0, hW0⟩ : ∃ W0, W0 = w.alloc (.cells #[.int .i64 0, .int .i64 0, .string ⟨#[]⟩] 212) := ⟨_, rfl⟩
  have hs0 : Ss W0 r A n c k bs := by rw [hW0]; exact hs.keep0 (by repeat (first | with_reducible exact Fr.refl _ _ | with_reducible assumption | with_reducible refine Fr.drewN ?_ _ | with_reducible refine Fr.drew ?_ | with_reducible refine Fr.alloc ?_ _ | ((with_reducible refine Fr.setCell ?_ ?_ _) <;> first | (apply Or.inl; simp; done) | (apply Or.inr; simp; done) | (apply Or.inr; simp; omega) | skip) | (refine Fr.then0 ?_ (by with_reducible assumption)) | (refine Fr.trans ?_ (by with_reducible assumption))))
  have hf0 : Fr [] w W0 := by rw [hW0]; exact (by repeat (first | with_reducible exact Fr.refl _ _ | with_reducible assumption | with_reducible refine Fr.drewN ?_ _ | with_reducible refine Fr.drew ?_ | with_reducible refine Fr.alloc ?_ _ | ((with_reducible refine Fr.setCell ?_ ?_ _) <;> first | (apply Or.inl; simp; done) | (apply Or.inr; simp; done) | (apply Or.inr; simp; omega) | skip) | (refine Fr.then0 ?_ (by with_reducible assumption)) | (refine Fr.trans ?_ (by with_reducible assumption))))
  have hB0 : Blk W0 w.heap.size 212 #[.int .i64 0, .int .i64 0, .string ⟨#[]⟩] := by rw [hW0]; exact Blk.new _ _ _
  rw [← hW0]
  clear hW0
  have hrne : w.heap.size ≠ r := fun h => by have := hs.blk.lt; omega
  have hAB0 : ∀ ad, A = some ad → 0 < n → ad.block < W0.heap.size := fun ad h1 h2 => by have := (HAB.out ad h1 h2).1; have := hf0.size; omega
  have HAB0 := hide hAB0
  clear hAB0
  generalize hg : w.heap.size = g at *
  have HG := hide hg
  clear hg
  go_loopw [3, 4] (fun o i wr => ∃ (q dp : Nat) (out : List UInt8), q ≤ n ∧ out.length ≤ q ∧ 1 ≤ dp ∧ dp ≤ q + 1 ∧ i = .int .i64 dp ∧ wr.ownsRow W0.heap.size 5 1 o out.length (u8s out) ∧ Ss wr r A n c q bs ∧ Fr [r] W0 wr ∧ Hid (roundP bs q dp out = R)) (fun _ _ wr => n - posOf wr r)
  case atStart => exact ⟨k, 1, [], hkn, Nat.zero_le _, Nat.le_refl _, by omega, rfl, own_nil _ _ _ _, hs0, Fr.refl _ _, by show _ = _; rw [HR.out]⟩
  case round =>
    obtain ⟨q, dp, out, hq, hoq, hd1, hdq, rfl, hown, hsq, hfr, hrel⟩ := hrel
    obtain ⟨Ao, co, rfl⟩ := own_slice hown
    have hpos := hsq.pos
    have HP := hide hpos
    clear hpos
    cases hu : bs[q]? with
    | none =>
      have HF : Hid (R = none) := by have := hrel.out; rw [round_end hu] at this; exact this.symm
      have HTK := hide (take_end r n c q A bs wr hsq hu)
      clear hu
      go_wp2_with (go_at_call 278; refine (HTK.out).mono ?_; rintro e w1 ⟨rfl, hf1⟩)
      refine ⟨rfl, ?_⟩
      rw [HF.out]
      exact ⟨rfl, (hf0.mono (fun _ h => by cases h)).trans' (hfr.trans hf1) (fun _ h => .inl h)⟩
    | some u =>
      have hlt : q < n := by have := (List.getElem?_eq_some_iff.1 hu).1; rw [hlen'] at this; exact this
      have HTK := hide (take_ok r n c q A bs u wr hsq hu)
      have hvr : ∀ g, g ∈ [r] → (Value.slice Ao out.length co).ownBlock ≠ some g := fun g hg => by
        rw [List.mem_singleton.1 hg]
        exact own_blk_ne hown hsq.blk (by decide)
      by_cases h40 : u.toNat = 40
      · have HS := hide (round_open (dp := dp) (acc := out) hu h40)
        obtain rfl : u = 40 := UInt8.toNat_inj.1 h40
        clear hu h40
        have hz : (((dp : Int) + 1) == 0) = false := by simp; omega
        go_wp2_with (first
          | (go_at_call 278; with_reducible (refine (HTK.out).mono ?_); rintro e w1 ⟨rfl, hs1, hf1⟩; have hown1 := own_keep hown hf1 hvr; have hfr1 := hfr.trans hf1)
          | (at_builtin; refine app_u8 rfl (.tmp 32) (.tmp 34) rfl _ out w1 W0.heap.size _ _ 40 rfl rfl rfl hown1 rfl (by omega) (Nat.le_trans (Nat.le_refl _) (hfr1).size) ?_; intro v2 w2 hown2 hf2 hb2))
        go_roundw
        case rel => exact ⟨q + 1, dp + 1, out ++ [40], by omega, by simp; omega, by omega, by omega, by go_num, by rw [List.length_append]; exact hown2, hs1.app hown1 HAB0.out hf2, fr_app hfr1 hown1 (Nat.le_refl _) hf2, by have := hrel.out; rw [HS.out] at this; exact this⟩
        case measure =>
          rw [(hs1.app hown1 HAB0.out hf2).pos, HP.out]
          omega
      · by_cases h41 : u.toNat = 41
        · obtain rfl : u = 41 := UInt8.toNat_inj.1 h41
          by_cases hdp : dp = 1
          · subst hdp
            have HF : Hid (R = some (out, q + 1)) := by have := hrel.out; rw [round_done hu h41] at this; exact this.symm
            clear hu h41 h40
            by_cases hbig : 65535 < out.length
            · have hTB := fun w' => text_big Ao out.length co w' hbig (by omega)
              have HTB := hide hTB
              clear hTB
              go_wp2_with (first
                | (go_at_call 278; with_reducible (refine (HTK.out).mono ?_); rintro e w1 ⟨rfl, hs1, hf1⟩; have hown1 := own_keep hown hf1 hvr; have hfr1 := hfr.trans hf1)
                | (go_at_call 281; refine (HTB.out _).mono ?_; rintro e w2 ⟨rfl, hf2⟩))
              refine ⟨rfl, ?_⟩
              rw [HF.out]
              exact ⟨fun _ => ⟨rfl, (hf0.mono (fun _ h => by cases h)).trans' (hfr1.then0 hf2) (fun _ h => .inl h)⟩, fun h => by omega⟩
            · have hTO := fun w' h => text_ok (fun g => W0.heap.size ≤ g) Ao out.length co out w' h (by omega)
              have HTO := hide hTO
              clear hTO
              go_wp2_with (first
                | (go_at_call 278; with_reducible (refine (HTK.out).mono ?_); rintro e w1 ⟨rfl, hs1, hf1⟩; have hown1 := own_keep hown hf1 hvr; have hfr1 := hfr.trans hf1)
                | (go_at_call 281; refine (HTO.out _ ?_).mono ?_; (· exact Rd.of_own hown1); rintro e w2 ⟨rfl, hf2⟩; have hB2 := (hB0.keep hfr1 (by simpa using hrne)).keep hf2 (by simp); obtain ⟨c0, c1, c2, cz⟩ := hB2.c3; have hs2 := hs1.keep0 hf2; have hfr2 := hfr1.then0 hf2))
              have hAg : ∀ ad, A = some ad → 0 < n → ad.block ∉ [g] := fun ad h1 h2 => by
                have := (HAB.out ad h1 h2).1
                have := HG.out
                simp
                omega
              have hgs := HG.out
              refine bodyPost_ret (v := strTok out) (by simp [strTok, results, Tryz.results232, go_sem, c0, c1, c2]) rfl ?_
              rw [HF.out]
              refine ⟨fun h => by omega, fun _ => ⟨rfl, hs2.keep (S := [g]) ?_ (by simpa using Ne.symm hrne) hAg, ?_⟩⟩
              · exact (by repeat (first | with_reducible exact Fr.refl _ _ | with_reducible assumption | with_reducible refine Fr.drewN ?_ _ | with_reducible refine Fr.drew ?_ | with_reducible refine Fr.alloc ?_ _ | ((with_reducible refine Fr.setCell ?_ ?_ _) <;> first | (apply Or.inl; simp; done) | (apply Or.inr; simp; done) | (apply Or.inr; simp; omega) | skip) | (refine Fr.then0 ?_ (by with_reducible assumption)) | (refine Fr.trans ?_ (by with_reducible assumption))))
              · refine (((Fr.setCell (p := ⟨g, 0, none⟩) ?_ ?_ _).setCell (p := ⟨g, 1, none⟩) ?_ _).setCell (p := ⟨g, 2, none⟩) ?_ _)
                · exact (hf0.mono (fun _ h => by cases h)).trans' hfr2 (fun _ h => .inl h)
                · exact .inr (by simp; omega)
                · exact .inr (by simp; omega)
                · exact .inr (by simp; omega)
          · have HS := hide (round_close (acc := out) hu h41 hdp)
            have hz : (((dp : Int) - 1) == 0) = false := by simp; omega
            clear hu h41 h40
            go_wp2_with (first
              | (go_at_call 278; with_reducible (refine (HTK.out).mono ?_); rintro e w1 ⟨rfl, hs1, hf1⟩; have hown1 := own_keep hown hf1 hvr; have hfr1 := hfr.trans hf1)
              | (at_builtin; refine app_u8 rfl (.tmp 32) (.tmp 34) rfl _ out w1 W0.heap.size _ _ 41 rfl rfl rfl hown1 rfl (by omega) (Nat.le_trans (Nat.le_refl _) (hfr1).size) ?_; intro v2 w2 hown2 hf2 hb2))
            go_roundw
            case rel => exact ⟨q + 1, dp - 1, out ++ [41], by omega, by simp; omega, by omega, by omega, by congr 1; omega, by rw [List.length_append]; exact hown2, hs1.app hown1 HAB0.out hf2, fr_app hfr1 hown1 (Nat.le_refl _) hf2, by have := hrel.out; rw [HS.out] at this; exact this⟩
            case measure =>
              rw [(hs1.app hown1 HAB0.out hf2).pos, HP.out]
              omega
        · have h40' : ((u.toNat : Int) == 40) = false := by simp; omega
          have h41' : ((u.toNat : Int) == 41) = false := by simp; omega
          by_cases h92 : u.toNat = 92
          · have h92' : ((u.toNat : Int) == 92) = true := by simp; omega
            cases hd : bs[q + 1]? with
            | none =>
              have HF : Hid (R = none) := by have := hrel.out; rw [round_esc_end hu h92 hd] at this; exact this.symm
              have hT2 := fun w' h => take_end r n c (q + 1) A bs w' h hd
              have HT2 := hide hT2
              clear hT2 hu hd h92 h40 h41
              go_wp2_with (first
                | (go_at_call 278; with_reducible (refine (HTK.out).mono ?_); rintro e w1 ⟨rfl, hs1, hf1⟩; have hown1 := own_keep hown hf1 hvr; have hfr1 := hfr.trans hf1)
                | (go_at_call 278; refine (HT2.out _ hs1).mono ?_; rintro e w2 ⟨rfl, hf2⟩))
              refine ⟨rfl, ?_⟩
              rw [HF.out]
              exact ⟨rfl, (hf0.mono (fun _ h => by cases h)).trans' (hfr1.trans hf2) (fun _ h => .inl h)⟩
            | some d =>
              have HS := hide (round_esc (dp := dp) (acc := out) hu h92 hd)
              have hge := escP_ge bs (q + 2) d
              have hel := escP_len bs (q + 2) d
              have hT2 := fun w' h => take_ok r n c (q + 1) A bs d w' h hd
              have HT2 := hide hT2
              have hE := fun w' h1 h2 h3 => escape_any r n c (q + 2) A bs W0.heap.size (.slice Ao out.length co) out d w' h1 h2 HAB0.out h3 (by omega)
              have HE := hide hE
              clear hT2 hE hu hd h92 h40 h41
              go_wp2_with (first
                | (go_at_call 278; with_reducible (refine (HTK.out).mono ?_); rintro e w1 ⟨rfl, hs1, hf1⟩; have hown1 := own_keep hown hf1 hvr; have hfr1 := hfr.trans hf1)
                | (go_at_call 278; refine (HT2.out _ hs1).mono ?_; rintro e w2 ⟨rfl, hs2, hf2⟩; have hown2 := own_keep hown1 hf2 hvr; have hfr2 := hfr1.trans hf2)
                | (go_at_call 279; refine (HE.out _ hs2 hown2 hfr2.size).mono ?_; rintro e w3 ⟨v3, rfl, hown3, hs3, hf3, hb3⟩))
              go_roundw
              case rel =>
                refine ⟨(escP bs (q + 2) d).2, dp, out ++ (escP bs (q + 2) d).1, hs3.le, by rw [List.length_append]; omega, hd1, by omega, rfl, hown3, hs3, ?_, by have := hrel.out; rw [HS.out] at this; exact this⟩
                refine hfr2.trans' hf3 (fun g hg => ?_)
                rcases List.mem_cons.1 hg with h | h
                · exact .inl (by rw [h]; exact List.mem_singleton.2 rfl)
                · exact .inr (own_base hown2 g (by simpa using h))
              case measure =>
                rw [hs3.pos, HP.out]
                omega
          · have h92' : ((u.toNat : Int) == 92) = false := by simp; omega
            have hz : (((dp : Int)) == 0) = false := by simp; omega
            by_cases h13 : u.toNat = 13
            · have h13' : ((u.toNat : Int) == 13) = true := by simp; omega
              have HS := hide (round_cr (dp := dp) (acc := out) hu h13)
              by_cases h10 : bs[q + 1]? = some 10
              · have hq2 : q + 1 < n := by have := (List.getElem?_eq_some_iff.1 h10).1; rw [hlen'] at this; exact this
                have hNX := fun w' h => next_yes r n c (q + 1) A bs 10 w' h h10
                have HNX := hide hNX
                have HS' : Hid (roundP bs q dp out = roundP bs (q + 2) dp (out ++ [10])) := by have := HS.out; rw [if_pos h10] at this; exact this
                clear hNX hu h10 h13 h92 h40 h41
                go_wp2_with (first
                  | (go_at_call 278; with_reducible (refine (HTK.out).mono ?_); rintro e w1 ⟨rfl, hs1, hf1⟩; have hown1 := own_keep hown hf1 hvr; have hfr1 := hfr.trans hf1)
                  | (go_at_call 280; refine (HNX.out _ hs1).mono ?_; rintro e w3 ⟨rfl, hs3, hf3⟩; have hown3 := own_keep hown1 hf3 hvr; have hfr3 := hfr1.trans hf3)
                  | (at_builtin; refine app_u8 rfl (.tmp 32) (.tmp 34) rfl _ out w3 W0.heap.size _ _ 10 rfl rfl rfl hown3 rfl (by omega) (Nat.le_trans (Nat.le_refl _) (hfr3).size) ?_; intro v2 w2 hown2 hf2 hb2))
                go_roundw
                case rel => exact ⟨q + 2, dp, out ++ [10], by omega, by simp; omega, by omega, by omega, rfl, by rw [List.length_append]; exact hown2, hs3.app hown3 HAB0.out hf2, fr_app hfr3 hown3 (Nat.le_refl _) hf2, by have := hrel.out; rw [HS'.out] at this; exact this⟩
                case measure =>
                  rw [(hs3.app hown3 HAB0.out hf2).pos, HP.out]
                  omega
              · have hNX := fun w' h => next_no r n c (q + 1) A bs 10 w' h h10
                have HNX := hide hNX
                have HS' : Hid (roundP bs q dp out = roundP bs (q + 1) dp (out ++ [10])) := by have := HS.out; rw [if_neg h10] at this; exact this
                clear hNX hu h10 h13 h92 h40 h41
                go_wp2_with (first
                  | (go_at_call 278; with_reducible (refine (HTK.out).mono ?_); rintro e w1 ⟨rfl, hs1, hf1⟩; have hown1 := own_keep hown hf1 hvr; have hfr1 := hfr.trans hf1)
                  | (go_at_call 280; refine (HNX.out _ hs1).mono ?_; rintro e w3 ⟨rfl, hs3, hf3⟩; have hown3 := own_keep hown1 hf3 hvr; have hfr3 := hfr1.trans hf3)
                  | (at_builtin; refine app_u8 rfl (.tmp 32) (.tmp 34) rfl _ out w3 W0.heap.size _ _ 10 rfl rfl rfl hown3 rfl (by omega) (Nat.le_trans (Nat.le_refl _) (hfr3).size) ?_; intro v2 w2 hown2 hf2 hb2))
                go_roundw
                case rel => exact ⟨q + 1, dp, out ++ [10], by omega, by simp; omega, by omega, by omega, rfl, by rw [List.length_append]; exact hown2, hs3.app hown3 HAB0.out hf2, fr_app hfr3 hown3 (Nat.le_refl _) hf2, by have := hrel.out; rw [HS'.out] at this; exact this⟩
                case measure =>
                  rw [(hs3.app hown3 HAB0.out hf2).pos, HP.out]
                  omega
            · have h13' : ((u.toNat : Int) == 13) = false := by simp; omega
              have HS := hide (round_plain (dp := dp) (acc := out) hu h40 h41 h92 h13)
              clear hu h13 h92 h40 h41
              go_wp2_with (first
                | (go_at_call 278; with_reducible (refine (HTK.out).mono ?_); rintro e w1 ⟨rfl, hs1, hf1⟩; have hown1 := own_keep hown hf1 hvr; have hfr1 := hfr.trans hf1)
                | (at_builtin; refine app_u8 rfl (.tmp 32) (.tmp 34) rfl _ out w1 W0.heap.size _ _ u rfl rfl rfl hown1 rfl (by omega) (Nat.le_trans (Nat.le_refl _) (hfr1).size) ?_; intro v2 w2 hown2 hf2 hb2))
              go_roundw
              case rel => exact ⟨q + 1, dp, out ++ [u], by omega, by simp; omega, by omega, by omega, rfl, by rw [List.length_append]; exact hown2, hs1.app hown1 HAB0.out hf2, fr_app hfr1 hown1 (Nat.le_refl _) hf2, by have := hrel.out; rw [HS.out] at this; exact this⟩
              case measure =>
                rw [(hs1.app hown1 HAB0.out hf2).pos, HP.out]
                omega
end Go.Proofs.YtdjhjfpeckndkaaGreatDoor
