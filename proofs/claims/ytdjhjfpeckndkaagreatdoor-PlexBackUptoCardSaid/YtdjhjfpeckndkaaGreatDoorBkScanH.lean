/- Contract: the lexer's strings in pointed brackets. -/
import Derived.Test.YtdjhjfpeckndkaaGreatDoorBkScanS
set_option linter.unusedVariables false
set_option linter.unusedSimpArgs false
namespace Go.Proofs.YtdjhjfpeckndkaaGreatDoor
open Go.RowKit
set_option maxHeartbeats 400000 in
theorem sblank_any (c : UInt8) (w : World) :
    Calls Tryz.prog 277 #[.int .u8 c.toNat] w fun e w' => e = .returned (.bool (blankB c)) ∧ w = w' := by
  go_enter Tryz.func277, Tryz.ntmps277
  go_wp2_with (go_at_call 113; refine (indexByte_any _ c _).mono ?_; rintro e w' ⟨rfl, rfl⟩)
  go_ret
  exact ⟨ret_bool (idx_blank c), rfl⟩
theorem odd_fin (odd : Int) (h : 0 ≤ odd ∧ odd ≤ 15) : odd * 16 = ((UInt8.ofNat (16 * odd).toNat).toNat : Int) := by
  simp only [UInt8.toNat_ofNat']
  omega
theorem odd_two (odd x : Int) (h : 0 ≤ odd ∧ odd ≤ 15) (hx : 0 ≤ x ∧ x ≤ 15) : 16 * odd + x = ((UInt8.ofNat (16 * odd + x).toNat).toNat : Int) := by
  simp only [UInt8.toNat_ofNat']
  omega
set_option maxRecDepth 100000 in
set_option maxHeartbeats 2000000 in
theorem hex_any (r n c k : Nat) (A : Option Addr) (bs : List UInt8) (w : World) (hs : Ss w r A n c k bs) :
    Calls Tryz.prog 282 #[.pointer (some ⟨r, 0, none⟩)] w (StrQ w r A n c bs (hexP bs (bs.drop k) k (-1) [])) := by
  obtain ⟨R, hR⟩ : ∃ R, R = hexP bs (bs.drop k) k (-1) [] := ⟨_, rfl⟩
  rw [← hR]
  have HR := hide hR
  clear hR
  have hsm := hs.small
  have hlen' := hs.len
  have HAB := hide hs.blockA
  have hkn := hs.le
  go_enter Tryz.func282, Tryz.ntmps282
  go_wp2_with fail
  obtain ⟨W0, hW0⟩ : ∃ W0, W0 = w.alloc (.cells #[.int .i64 0, .int .i64 0, .string ⟨#[]⟩] 212) := ⟨_, rfl⟩
  have hs0 : Ss W0 r A n c k bs := by rw [hW0]; exact hs.keep0 (by repeat (first | with_reducible exact Fr.refl _ _ | with_reducible assumption | with_reducible refine Fr.drewN ?_ _ | with_reducible refine Fr.drew ?_ | with_reducible refine Fr.alloc ?_ _ | ((with_reducible refine Fr.setCell ?_ ?_ _) <;> first | (apply Or.inl; simp; done) | (apply Or.inr; simp; done) | (apply Or.inr; simp; omega) | skip) | (refine Fr.then0 ?_ (by with_reducible assumption)) | (refine Fr.trans ?_ (by with_reducible assumption))))
  have hf0 : Fr [] w W0 := by rw [hW0]; exact (by repeat (first | with_reducible exact Fr.refl _ _ | with_reducible assumption | with_reducible refine Fr.drewN ?_ _ | with_reducible refine Fr.drew ?_ | with_reducible refine Fr.alloc ?_ _ | ((with_reducible refine Fr.setCell ?_ ?_ _) <;> first | (apply Or.inl; simp; done) | (apply Or.inr; simp; done) | (apply Or.inr; simp; omega) | skip) | (refine Fr.then0 ?_ (by with_reducible assumption)) | (refine Fr.trans ?_ (by with_reducible assumption))))
  have hB0 : Blk W0 w.heap.size 212 #[.int .i64 0, .int .i64 0, .string ⟨#[]⟩] := by rw [hW0]; exact Blk.new _ _ _
  rw [← hW0]
  clear hW0
  have hrne : w.heap.size ≠ r := fun h => by have := hs.blk.lt; omega
  have hAB0 : ∀ ad, A = some ad → 0 < n → ad.block < W0.heap.size := fun ad h1 h2 => by have := (HAB.out ad h1 h2).1; have := hf0.size; omega
  have HAB0 := hide hAB0
  clear hAB0
  generalize hg : w.heap.size = g at *
  have HG := hide hg
  clear hg
  go_loopw [3, 4] (fun o i wr => ∃ (q : Nat) (odd : Int) (out : List UInt8), q ≤ n ∧ out.length ≤ q ∧ -1 ≤ odd ∧ odd ≤ 15 ∧ i = .int .i64 odd ∧ wr.ownsRow W0.heap.size 5 1 o out.length (u8s out) ∧ Ss wr r A n c q bs ∧ Fr [r] W0 wr ∧ Hid (hexP bs (bs.drop q) q odd out = R)) (fun _ _ wr => n - posOf wr r)
  case atStart => exact ⟨k, -1, [], hkn, Nat.zero_le _, by omega, by omega, rfl, own_nil _ _ _ _, hs0, Fr.refl _ _, by show _ = _; rw [HR.out]⟩
  case round =>
    obtain ⟨q, odd, out, hq, hoq, ho1, ho2, rfl, hown, hsq, hfr, hrel⟩ := hrel
    obtain ⟨Ao, co, rfl⟩ := own_slice hown
    have HP := hide hsq.pos
    cases hu : bs[q]? with
    | none =>
      have HF : Hid (R = none) := by
        have := hrel.out
        rw [List.drop_eq_nil_of_le (List.getElem?_eq_none_iff.1 hu)] at this
        exact this.symm
      have HTK := hide (take_end r n c q A bs wr hsq hu)
      clear hu
      go_wp2_with (go_at_call 278; refine (HTK.out).mono ?_; rintro e w1 ⟨rfl, hf1⟩)
      refine ⟨rfl, ?_⟩
      rw [HF.out]
      exact ⟨rfl, (hf0.mono (fun _ h => by cases h)).trans' (hfr.trans hf1) (fun _ h => .inl h)⟩
    | some u =>
      have hlt : q < n := by have := (List.getElem?_eq_some_iff.1 hu).1; rw [hlen'] at this; exact this
      have HTK := hide (take_ok r n c q A bs u wr hsq hu)
      have hvr : ∀ g, g ∈ [r] → (Value.slice Ao out.length co).ownBlock ≠ some g := fun g hg => by
        rw [List.mem_singleton.1 hg]
        exact own_blk_ne hown hsq.blk (by decide)
      have hst : hexP bs (u :: bs.drop (q + 1)) q odd out = R := by have := hrel.out; rw [drop_at bs q u hu] at this; exact this
      have HBK := hide (fun w' => sblank_any u w')
      clear hrel hu
      cases hb : blankB u
      · have hb' := hb
        by_cases h62 : u.toNat = 62
        · have h62' : ((u.toNat : Int) == 62) = true := by simp; omega
          have HF : Hid (R = some (if 0 ≤ odd then out ++ [UInt8.ofNat (16 * odd).toNat] else out, q + 1)) := by
            rw [hexP, if_neg (by simp [hb]), if_pos h62] at hst
            exact hst.symm
          clear hst h62
          by_cases hodd : 0 ≤ odd
          · have hd1 : decide (0 ≤ odd) = true := by simp; omega
            rw [if_pos hodd] at HF
            have HC := hide (odd_fin odd ⟨hodd, ho2⟩)
            generalize UInt8.ofNat (16 * odd).toNat = cc at *
            by_cases hbig : 65535 < (out.length + 1)
            · have HTB := hide (fun (A' : Option Addr) (c' : Nat) w' => text_big A' (out.length + 1) c' w' hbig (by omega))
              go_wp2_with (first
                | (go_at_call 278; with_reducible (refine (HTK.out).mono ?_); rintro e w1 ⟨rfl, hs1, hf1⟩; have hown1 := own_keep hown hf1 hvr; have hfr1 := hfr.trans hf1)
                | (go_at_call 277; refine (HBK.out _).mono ?_; rintro e w' ⟨rfl, rfl⟩)
                | (at_builtin; refine app_u8 rfl (.tmp 33) (.tmp 37) rfl _ out w1 W0.heap.size _ _ cc HC.out rfl rfl hown1 rfl (by omega) hfr1.size ?_; intro v2 w2 hown2 hf2 hb2; obtain ⟨A2, c2', rfl⟩ := own_slice hown2)
                | (go_at_call 281; refine (HTB.out _ _ _).mono ?_; rintro e w3 ⟨rfl, hf3⟩))
              refine ⟨rfl, ?_⟩
              rw [HF.out]
              exact ⟨fun _ => ⟨rfl, (hf0.mono (fun _ h => by cases h)).trans' ((fr_app hfr1 hown1 (Nat.le_refl _) hf2).then0 hf3) (fun _ h => .inl h)⟩, fun h => by first | omega | (simp at h; omega)⟩
            · have HTO := hide (fun (A' : Option Addr) (c' : Nat) w' h => text_ok (fun g => W0.heap.size ≤ g) A' (out.length + 1) c' (out ++ [cc]) w' h (by omega))
              go_wp2_with (first
                | (go_at_call 278; with_reducible (refine (HTK.out).mono ?_); rintro e w1 ⟨rfl, hs1, hf1⟩; have hown1 := own_keep hown hf1 hvr; have hfr1 := hfr.trans hf1)
                | (go_at_call 277; refine (HBK.out _).mono ?_; rintro e w' ⟨rfl, rfl⟩)
                | (at_builtin; refine app_u8 rfl (.tmp 33) (.tmp 37) rfl _ out w1 W0.heap.size _ _ cc HC.out rfl rfl hown1 rfl (by omega) hfr1.size ?_; intro v2 w2 hown2 hf2 hb2; obtain ⟨A2, c2', rfl⟩ := own_slice hown2)
                | (go_at_call 281; refine (HTO.out _ _ _ ?_).mono ?_; (· exact Rd.of_own hown2); rintro e w3 ⟨rfl, hf3⟩; have hB2 := (hB0.keep (fr_app hfr1 hown1 (Nat.le_refl _) hf2) (by simpa using hrne)).keep hf3 (by simp); obtain ⟨c0, c1, c2, cz⟩ := hB2.c3; have hs3 := (hs1.app hown1 HAB0.out hf2).keep0 hf3; have hfr3 := (fr_app hfr1 hown1 (Nat.le_refl _) hf2).then0 hf3))
              have hAg : ∀ ad, A = some ad → 0 < n → ad.block ∉ [g] := fun ad h1 h2 => by
                have := (HAB.out ad h1 h2).1
                have := HG.out
                simp
                omega
              have hgs := HG.out
              refine bodyPost_ret (v := strTok (out ++ [cc])) (by simp [strTok, results, Tryz.results282, go_sem, c0, c1, c2]) rfl ?_
              rw [HF.out]
              refine ⟨fun h => by first | omega | (simp at h; omega), fun _ => ⟨rfl, hs3.keep (S := [g]) ?_ (by simpa using Ne.symm hrne) hAg, ?_⟩⟩
              · exact (by repeat (first | with_reducible exact Fr.refl _ _ | with_reducible assumption | with_reducible refine Fr.drewN ?_ _ | with_reducible refine Fr.drew ?_ | with_reducible refine Fr.alloc ?_ _ | ((with_reducible refine Fr.setCell ?_ ?_ _) <;> first | (apply Or.inl; simp; done) | (apply Or.inr; simp; done) | (apply Or.inr; simp; omega) | skip) | (refine Fr.then0 ?_ (by with_reducible assumption)) | (refine Fr.trans ?_ (by with_reducible assumption))))
              · refine (((Fr.setCell (p := ⟨g, 0, none⟩) ?_ ?_ _).setCell (p := ⟨g, 1, none⟩) ?_ _).setCell (p := ⟨g, 2, none⟩) ?_ _)
                · exact (hf0.mono (fun _ h => by cases h)).trans' hfr3 (fun _ h => .inl h)
                · exact .inr (by simp; omega)
                · exact .inr (by simp; omega)
                · exact .inr (by simp; omega)
          · have hd1 : decide (0 ≤ odd) = false := by simp; omega
            rw [if_neg hodd] at HF
            by_cases hbig : 65535 < out.length
            · have HTB := hide (fun (A' : Option Addr) (c' : Nat) w' => text_big A' out.length c' w' hbig (by omega))
              go_wp2_with (first
                | (go_at_call 278; with_reducible (refine (HTK.out).mono ?_); rintro e w1 ⟨rfl, hs1, hf1⟩; have hown1 := own_keep hown hf1 hvr; have hfr1 := hfr.trans hf1)
                | (go_at_call 277; refine (HBK.out _).mono ?_; rintro e w' ⟨rfl, rfl⟩)
                | (go_at_call 281; refine (HTB.out _ _ _).mono ?_; rintro e w3 ⟨rfl, hf3⟩))
              refine ⟨rfl, ?_⟩
              rw [HF.out]
              exact ⟨fun _ => ⟨rfl, (hf0.mono (fun _ h => by cases h)).trans' ((hfr1).then0 hf3) (fun _ h => .inl h)⟩, fun h => by first | omega | (simp at h; omega)⟩
            · have HTO := hide (fun (A' : Option Addr) (c' : Nat) w' h => text_ok (fun g => W0.heap.size ≤ g) A' out.length c' (out) w' h (by omega))
              go_wp2_with (first
                | (go_at_call 278; with_reducible (refine (HTK.out).mono ?_); rintro e w1 ⟨rfl, hs1, hf1⟩; have hown1 := own_keep hown hf1 hvr; have hfr1 := hfr.trans hf1)
                | (go_at_call 277; refine (HBK.out _).mono ?_; rintro e w' ⟨rfl, rfl⟩)
                | (go_at_call 281; refine (HTO.out _ _ _ ?_).mono ?_; (· exact Rd.of_own hown1); rintro e w3 ⟨rfl, hf3⟩; have hB2 := (hB0.keep (hfr1) (by simpa using hrne)).keep hf3 (by simp); obtain ⟨c0, c1, c2, cz⟩ := hB2.c3; have hs3 := (hs1).keep0 hf3; have hfr3 := (hfr1).then0 hf3))
              have hAg : ∀ ad, A = some ad → 0 < n → ad.block ∉ [g] := fun ad h1 h2 => by
                have := (HAB.out ad h1 h2).1
                have := HG.out
                simp
                omega
              have hgs := HG.out
              refine bodyPost_ret (v := strTok (out)) (by simp [strTok, results, Tryz.results282, go_sem, c0, c1, c2]) rfl ?_
              rw [HF.out]
              refine ⟨fun h => by first | omega | (simp at h; omega), fun _ => ⟨rfl, hs3.keep (S := [g]) ?_ (by simpa using Ne.symm hrne) hAg, ?_⟩⟩
              · exact (by repeat (first | with_reducible exact Fr.refl _ _ | with_reducible assumption | with_reducible refine Fr.drewN ?_ _ | with_reducible refine Fr.drew ?_ | with_reducible refine Fr.alloc ?_ _ | ((with_reducible refine Fr.setCell ?_ ?_ _) <;> first | (apply Or.inl; simp; done) | (apply Or.inr; simp; done) | (apply Or.inr; simp; omega) | skip) | (refine Fr.then0 ?_ (by with_reducible assumption)) | (refine Fr.trans ?_ (by with_reducible assumption))))
              · refine (((Fr.setCell (p := ⟨g, 0, none⟩) ?_ ?_ _).setCell (p := ⟨g, 1, none⟩) ?_ _).setCell (p := ⟨g, 2, none⟩) ?_ _)
                · exact (hf0.mono (fun _ h => by cases h)).trans' hfr3 (fun _ h => .inl h)
                · exact .inr (by simp; omega)
                · exact .inr (by simp; omega)
                · exact .inr (by simp; omega)
        · have h62' : ((u.toNat : Int) == 62) = false := by simp; omega
          have HDG := hide (fun w' => sdigit_any u w')
          have hrv := hexV_range u
          by_cases hneg : hexV u < 0
          · have HF : Hid (R = none) := by
              rw [hexP, if_neg (by simp [hb]), if_neg h62, if_pos hneg] at hst
              exact hst.symm
            have hd1 : decide (hexV u < 0) = true := by simp; omega
            clear hst h62
            generalize hexV u = va at *
            go_wp2_with (first
              | (go_at_call 278; with_reducible (refine (HTK.out).mono ?_); rintro e w1 ⟨rfl, hs1, hf1⟩; have hown1 := own_keep hown hf1 hvr; have hfr1 := hfr.trans hf1)
              | (go_at_call 277; refine (HBK.out _).mono ?_; rintro e w' ⟨rfl, rfl⟩)
              | (go_at_call 307; refine (HDG.out _).mono ?_; rintro e w' ⟨rfl, rfl⟩))
            refine ⟨rfl, ?_⟩
            rw [HF.out]
            exact ⟨rfl, (hf0.mono (fun _ h => by cases h)).trans' hfr1 (fun _ h => .inl h)⟩
          · have hd1 : decide (hexV u < 0) = false := by simp; omega
            by_cases hodd : odd < 0
            · have hd2 : decide (odd < 0) = true := by simp; omega
              have HS : Hid (hexP bs (bs.drop (q + 1)) (q + 1) (hexV u) out = R) := by
                rw [hexP, if_neg (by simp [hb]), if_neg h62, if_neg hneg, if_pos hodd] at hst
                exact hst
              clear hst h62
              generalize hexV u = va at *
              go_wp2_with (first
                | (go_at_call 278; with_reducible (refine (HTK.out).mono ?_); rintro e w1 ⟨rfl, hs1, hf1⟩; have hown1 := own_keep hown hf1 hvr; have hfr1 := hfr.trans hf1)
                | (go_at_call 277; refine (HBK.out _).mono ?_; rintro e w' ⟨rfl, rfl⟩)
                | (go_at_call 307; refine (HDG.out _).mono ?_; rintro e w' ⟨rfl, rfl⟩))
              go_roundw
              case rel => exact ⟨q + 1, va, out, by omega, by omega, by omega, by omega, rfl, hown1, hs1, hfr1, HS⟩
              case measure =>
                rw [hs1.pos, HP.out]
                omega
            · have hd2 : decide (odd < 0) = false := by simp; omega
              have HN := hide (nib odd (hexV u) ⟨by omega, ho2⟩ ⟨by omega, hrv.2⟩)
              have HC := hide (odd_two odd (hexV u) ⟨by omega, ho2⟩ ⟨by omega, hrv.2⟩)
              have HS : Hid (hexP bs (bs.drop (q + 1)) (q + 1) (-1) (out ++ [UInt8.ofNat (16 * odd + hexV u).toNat]) = R) := by
                rw [hexP, if_neg (by simp [hb]), if_neg h62, if_neg hneg, if_neg hodd] at hst
                exact hst
              clear hst h62
              generalize UInt8.ofNat (16 * odd + hexV u).toNat = cc at *
              have hn := HN.out
              generalize hexV u = va at *
              go_wp2_with (first
                | (go_at_call 278; with_reducible (refine (HTK.out).mono ?_); rintro e w1 ⟨rfl, hs1, hf1⟩; have hown1 := own_keep hown hf1 hvr; have hfr1 := hfr.trans hf1)
                | (go_at_call 277; refine (HBK.out _).mono ?_; rintro e w' ⟨rfl, rfl⟩)
                | (go_at_call 307; refine (HDG.out _).mono ?_; rintro e w' ⟨rfl, rfl⟩)
                | (at_builtin; refine app_u8 rfl (.tmp 15) (.tmp 21) rfl _ out w1 W0.heap.size _ _ cc HC.out rfl rfl hown1 rfl (by omega) hfr1.size ?_; intro v2 w2 hown2 hf2 hb2))
              go_roundw
              case rel => exact ⟨q + 1, -1, out ++ [cc], by omega, by simp; omega, by omega, by omega, rfl, by rw [List.length_append]; exact hown2, hs1.app hown1 HAB0.out hf2, fr_app hfr1 hown1 (Nat.le_refl _) hf2, HS⟩
              case measure =>
                rw [(hs1.app hown1 HAB0.out hf2).pos, HP.out]
                omega
      · have HS : Hid (hexP bs (bs.drop (q + 1)) (q + 1) odd out = R) := by
          rw [hexP, if_pos hb] at hst
          exact hst
        clear hst
        go_wp2_with (first
          | (go_at_call 278; with_reducible (refine (HTK.out).mono ?_); rintro e w1 ⟨rfl, hs1, hf1⟩; have hown1 := own_keep hown hf1 hvr; have hfr1 := hfr.trans hf1)
          | (go_at_call 277; refine (HBK.out _).mono ?_; rintro e w' ⟨rfl, rfl⟩))
        go_roundw
        case rel => exact ⟨q + 1, odd, out, by omega, by omega, by omega, by omega, rfl, hown1, hs1, hfr1, HS⟩
        case measure =>
          rw [hs1.pos, HP.out]
          omega
end Go.Proofs.YtdjhjfpeckndkaaGreatDoor
