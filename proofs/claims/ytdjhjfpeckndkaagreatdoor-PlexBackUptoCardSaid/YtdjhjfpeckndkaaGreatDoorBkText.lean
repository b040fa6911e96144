/- Contracts: the reader's open, text. -/
import Derived.Test.YtdjhjfpeckndkaaGreatDoorBkScanX
set_option linter.unusedVariables false
set_option linter.unusedSimpArgs false
namespace Go.Proofs.YtdjhjfpeckndkaaGreatDoor
open Go.RowKit
section
variable {w w' : World} {r n c k : Nat} {A : Option Addr} {refs : Bool} {bs : List UInt8} {S : List Nat}
theorem St.keepA (h : St w r A n c k refs bs) (hf : Fr S w w') (hr : r ∉ S) (hS : ∀ ad, A = some ad → 0 < n → ad.block ∉ S) : St w' r A n c k refs bs :=
  ⟨h.blk.keep hf hr, by
    refine ⟨h.rb.1, fun hn => ?_⟩
    obtain ⟨ad, e, hb, hc⟩ := h.rb.2 hn
    exact ⟨ad, e, hb, fun j u hu => hf.cell (hc j u hu) (by rw [block_of_add]; exact hS ad e (by omega))⟩, h.cap, h.small, h.le⟩
theorem St.blockA (h : St w r A n c k refs bs) : ∀ ad, A = some ad → 0 < n → ad.block < w.heap.size ∧ ad.block ≠ r := by
  intro ad e hn
  obtain ⟨ad', e', hb, hc⟩ := h.rb.2 (by omega)
  have : ad = ad' := by rw [e] at e'; injection e'
  subst this
  have hl : 0 < (u8s bs).length := by rw [u8s_length, h.len]; exact hn
  have := World.block_lt_of_cell? w _ (hc 0 _ (List.getElem?_eq_getElem hl))
  rw [block_of_add] at this
  exact ⟨this, hb⟩
theorem obj_frame {S : List Nat} {W w : World} {g : Nat} {v0 v1 v2 v3 v4 v5 : Value} (hf : Fr S W w) (hg : g ∈ S ∨ W.heap.size ≤ g) :
    Fr S W ((((((w.setCell ⟨g, 0, none⟩ v0).setCell ⟨g, 1, none⟩ v1).setCell ⟨g, 2, none⟩ v2).setCell ⟨g, 3, none⟩ v3).setCell ⟨g, 4, none⟩ v4).setCell ⟨g, 5, none⟩ v5) :=
  (((((hf.setCell (p := ⟨g, 0, none⟩) hg _).setCell (p := ⟨g, 1, none⟩) hg _).setCell (p := ⟨g, 2, none⟩) hg _).setCell (p := ⟨g, 3, none⟩) hg _).setCell (p := ⟨g, 4, none⟩) hg _).setCell (p := ⟨g, 5, none⟩) hg _
/-- Behind the result's block being written. -/
theorem St.obj {g : Nat} {v0 v1 v2 v3 v4 v5 : Value} (h : St w r A n c k refs bs) (hg : g ≠ r) (hA : ∀ ad, A = some ad → 0 < n → ad.block ≠ g) :
    St ((((((w.setCell ⟨g, 0, none⟩ v0).setCell ⟨g, 1, none⟩ v1).setCell ⟨g, 2, none⟩ v2).setCell ⟨g, 3, none⟩ v3).setCell ⟨g, 4, none⟩ v4).setCell ⟨g, 5, none⟩ v5) r A n c k refs bs :=
  h.keepA (S := [g]) (obj_frame (Fr.refl _ _) (.inl (by simp))) (by simpa using Ne.symm hg) (fun ad h1 h2 => by simpa using hA ad h1 h2)
end
theorem openP_cons {bs : List UInt8} {q : Nat} {u : UInt8} (hu : bs[q]? = some u) : openP (bs.drop q) = ((blankB u || decide (0 ≤ hexV u)) && openP (bs.drop (q + 1))) := by
  rw [drop_at bs q u hu]
  simp [openP]
theorem openP_end {bs : List UInt8} {q : Nat} (h : bs.length ≤ q) : openP (bs.drop q) = true := by
  rw [List.drop_eq_nil_of_le h]; rfl
theorem hexV_gt : hexV 62 < 0 := by decide
set_option maxRecDepth 100000 in
set_option maxHeartbeats 1000000 in
theorem open_round (r n c k : Nat) (A : Option Addr) (refs : Bool) (bs : List UInt8) (w : World) (hs : St w r A n c k refs bs) (hu : bs[k]? = some 40) :
    Calls Tryz.prog 156 #[.pointer (some ⟨r, 0, none⟩)] w fun e w' => e = .returned (.bool true) ∧ ∃ m, w' = w.drewN m := by
  have hlt : k < n := by have := (List.getElem?_eq_some_iff.1 hu).1; rw [hs.len] at this; exact this
  have hsm := hs.small
  have hi1 : (0 : Int) ≤ (k : Int) := by omega
  have hi2 : (k : Int) < (n : Int) := by omega
  have hq : ((41 : Int) == 62) = false := rfl
  obtain ⟨ad, rfl, hadr, hcb⟩ := hs.rb.at2 hu
  clear hu
  obtain ⟨c0, c1, c2, cz⟩ := hs.blk.c3
  go_enter Tryz.func156, Tryz.ntmps156
  go_wp2
  go_quiet (fail)
  go_wp2
  go_loopw [4] (fun i wr => i = .int .i64 ((k : Int) + 1) ∧ ∃ m, wr = w.drewN m) (fun _ _ => 0)
  case atStart => exact ⟨rfl, _, rfl⟩
  case round =>
    obtain ⟨rfl, m, rfl⟩ := hrel
    by_cases hd : (k : Int) + 1 < n
    · have hd1 : decide ((k : Int) + 1 < (n : Int)) = true := by simp; omega
      go_wp2
      go_ret
      exact ⟨rfl, _, rfl⟩
    · have hd1 : decide ((k : Int) + 1 < (n : Int)) = false := by simp; omega
      go_wp2
      go_ret
      exact ⟨rfl, _, rfl⟩
set_option maxRecDepth 100000 in
set_option maxHeartbeats 1000000 in
theorem open_hex (r n c k : Nat) (A : Option Addr) (refs : Bool) (bs : List UInt8) (w : World) (hs : St w r A n c k refs bs) (hu : bs[k]? = some 60) :
    Calls Tryz.prog 156 #[.pointer (some ⟨r, 0, none⟩)] w fun e w' => e = .returned (.bool (openP (bs.drop (k + 1)))) ∧ ∃ m, w' = w.drewN m := by
  have hlt : k < n := by have := (List.getElem?_eq_some_iff.1 hu).1; rw [hs.len] at this; exact this
  have hsm := hs.small
  have hlen' := hs.len
  have hi1 : (0 : Int) ≤ (k : Int) := by omega
  have hi2 : (k : Int) < (n : Int) := by omega
  have hq : ((62 : Int) == 62) = true := rfl
  obtain ⟨ad, rfl, hadr, hcb⟩ := hs.rb.at2 hu
  clear hu
  obtain ⟨c0, c1, c2, cz⟩ := hs.blk.c3
  obtain ⟨R, hR⟩ : ∃ R, R = openP (bs.drop (k + 1)) := ⟨_, rfl⟩
  rw [← hR]
  have HR := hide hR
  clear hR
  go_enter Tryz.func156, Tryz.ntmps156
  go_wp2
  go_quiet (fail)
  go_wp2
  go_loopw [4] (fun i wr => ∃ q m, q ≤ n ∧ i = .int .i64 (q : Nat) ∧ wr = w.drewN m ∧ Hid (openP (bs.drop q) = R)) (fun i _ => n - (intOf i).toNat)
  case atStart => exact ⟨k + 1, _, by omega, by go_num, rfl, by show _ = _; rw [HR.out]⟩
  case round =>
    obtain ⟨q, m, hqn, rfl, rfl, hrel⟩ := hrel
    cases hu : bs[q]? with
    | none =>
      have hge : n ≤ q := by have := List.getElem?_eq_none_iff.1 hu; omega
      have hd1 : decide ((q : Int) < (n : Int)) = false := by simp; omega
      have HF : Hid (R = true) := by have := hrel.out; rw [openP_end (by omega)] at this; exact this.symm
      clear hu
      go_wp2
      go_ret
      exact ⟨ret_bool (by rw [HF.out]), _, rfl⟩
    | some u =>
      have hql : q < n := by have := (List.getElem?_eq_some_iff.1 hu).1; omega
      have hd1 : decide ((q : Int) < (n : Int)) = true := by simp; omega
      have hj2 : (q : Int) < (n : Int) := by omega
      obtain ⟨ad', hA', hadr', hcq⟩ := hs.rb.at2 hu
      obtain rfl : ad = ad' := by injection hA'
      have HO := hide (openP_cons hu)
      clear hA'
      have HBK := hide (fun w' => blank_any u w')
      have HDG := hide (fun w' => digit_any u w')
      by_cases h62 : u.toNat = 62
      · have h62' : ((u.toNat : Int) == 62) = true := by simp; omega
        have HF : Hid (R = false) := by
          have := hrel.out
          rw [HO.out] at this
          obtain rfl : u = 62 := UInt8.toNat_inj.1 h62
          rw [← this]; rfl
        clear hu h62
        go_wp2_with fail
        go_ret
        exact ⟨ret_bool (by rw [HF.out]), _, rfl⟩
      · have h62' : ((u.toNat : Int) == 62) = false := by simp; omega
        clear hu h62
        cases hb : blankB u
        · by_cases hx : hexV u < 0
          · have hd2 : decide (hexV u < 0) = true := by simp; omega
            have HF : Hid (R = false) := by
              have := hrel.out
              rw [HO.out, hb] at this
              rw [← this]; simp; intro h; omega
            clear hx
            generalize hexV u = va at *
            go_wp2_with (first | (go_at_call 60; refine (HBK.out _).mono ?_; rintro e w' ⟨rfl, rfl⟩) | (go_at_call 152; refine (HDG.out _).mono ?_; rintro e w' ⟨rfl, rfl⟩))
            go_ret
            exact ⟨ret_bool (by rw [HF.out]), _, rfl⟩
          · have hd2 : decide (hexV u < 0) = false := by simp; omega
            have HS : Hid (openP (bs.drop (q + 1)) = R) := by
              have := hrel.out
              rw [HO.out, hb, decide_eq_true (by omega)] at this
              have h : openP (bs.drop (q + 1)) = R := by simpa using this
              exact h
            clear hx
            generalize hexV u = va at *
            go_wp2_with (first | (go_at_call 60; refine (HBK.out _).mono ?_; rintro e w' ⟨rfl, rfl⟩) | (go_at_call 152; refine (HDG.out _).mono ?_; rintro e w' ⟨rfl, rfl⟩))
            go_roundw
            case rel => exact ⟨q + 1, _, by omega, by go_num, rfl, HS⟩
            case measure => simp [intOf]; omega
        · have HS : Hid (openP (bs.drop (q + 1)) = R) := by
            have := hrel.out
            rw [HO.out, hb] at this
            have h : openP (bs.drop (q + 1)) = R := by simpa using this
            exact h
          go_wp2_with (first | (go_at_call 60; refine (HBK.out _).mono ?_; rintro e w' ⟨rfl, rfl⟩) | (go_at_call 152; refine (HDG.out _).mono ?_; rintro e w' ⟨rfl, rfl⟩))
          go_roundw
          case rel => exact ⟨q + 1, _, by omega, by go_num, rfl, HS⟩
          case measure => simp [intOf]; omega
end Go.Proofs.YtdjhjfpeckndkaaGreatDoor
