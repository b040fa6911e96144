/- Contracts: plex.whole; the reader's state; skip. -/
import Derived.Test.YtdjhjfpeckndkaaGreatDoorBkNum
import Derived.Test.YtdjhjfpeckndkaaGreatDoorBkHex
set_option linter.unusedVariables false
set_option linter.unusedSimpArgs false
namespace Go.Proofs.YtdjhjfpeckndkaaGreatDoor
open Go.RowKit

/-- plex.whole's number. -/
def pwholeN (l : List UInt8) : Nat := if l ≠ [] ∧ l.length ≤ 10 ∧ plainD l = true then numD 0 l else 0
theorem numD10 (l : List UInt8) (h : plainD l = true) (h10 : l.length ≤ 10) (k : Nat) : numD 0 (l.take k) < 10000000000 := by
  have h1 := numD_lt (l.take k) 0 (plainD_take l k h)
  have h2 : (l.take k).length ≤ 10 := by rw [List.length_take]; omega
  have h4 : 10 ^ (l.take k).length ≤ 10000000000 := Nat.le_trans (Nat.pow_le_pow_right (by omega) h2) (by decide)
  omega
set_option maxRecDepth 100000 in
set_option maxHeartbeats 400000 in
theorem pwhole_any (l : List UInt8) (most : Int) (w : World) (hl : l.length ≤ 4611686018427387903) :
    Calls Tryz.prog 185 #[.string ⟨l.toArray⟩, .int .i64 most] w fun e w' => e = .returned (.tuple #[.int .i64 (pwholeN l), .bool (pwholeB l most)]) ∧ Fr [] w w' := by
  by_cases h : l ≠ [] ∧ l.length ≤ 10 ∧ plainD l = true
  · have e1 : pwholeN l = numD 0 l := by unfold pwholeN; rw [if_pos h]
    have e2 : pwholeB l most = decide ((numD 0 l : Int) ≤ most) := by unfold pwholeB; rw [decide_eq_true ⟨h.1, h.2.1⟩, h.2.2]; rfl
    rw [e1, e2]
    clear e1 e2
    obtain ⟨hne1, h10, hp⟩ := h
    have hne2 : l.isEmpty = false := by cases l; exact absurd rfl hne1; rfl
    have hd : decide ((10 : Int) < (l.length : Int)) = false := by simp; omega
    obtain ⟨v, hv⟩ : ∃ v, v = numD 0 l := ⟨_, rfl⟩
    rw [← hv]
    have HV := hide hv
    clear hv
    have hpt := fun w => trim_yes l w (by omega) hp
    have HT := hide hpt
    clear hpt
    go_enter Tryz.func185, Tryz.ntmps185
    go_wp2_with (go_at_call 167; refine (HT.out _).mono ?_; rintro e w1 ⟨rfl, hf1⟩)
    obtain ⟨cc, W1, hcv, hf3, hsz1, hcl1, _, _⟩ := conv_bytes (P := Tryz.prog) Tryz.underlying9 Tryz.underlying22 Tryz.underlying5 l w1
    have HC1 := hide hcl1
    clear hcl1 hsz1
    generalize w1.heap.size = g1 at *
    go_simp
    go_wp2_with fail
    go_loop [6, 24] (fun nn i => ∃ k : Nat, k ≤ l.length ∧ i = .int .i64 k ∧ nn = .int .i64 (numD 0 (l.take k) : Nat)) (fun _ i => l.length - (intOf i).toNat)
    case atStart => exact ⟨0, Nat.zero_le _, rfl, rfl⟩
    case round =>
      obtain ⟨k, hk, rfl, rfl⟩ := hrel
      have hcap := numD10 l hp h10 k
      by_cases hlt : k < l.length
      · obtain ⟨u, hu⟩ : ∃ u, l[k]? = some u := ⟨_, List.getElem?_eq_getElem hlt⟩
        obtain ⟨hcu, _⟩ := HC1.out k u hu
        have hisd : 48 ≤ u.toNat ∧ u.toNat ≤ 57 := by
          have := plainD_digs l hp u (List.mem_of_getElem? hu)
          simpa [isD] using this
        have HN := hide (numD_next hu)
        clear hu
        go_wp2
        go_round
        case rel => exact ⟨k + 1, by omega, by go_num, by rw [HN.out]; unfold digV; congr 1; omega⟩
        case measure => simp [intOf]; omega
      · have HF : Hid (numD 0 (l.take k) = v) := by
          have : numD 0 (l.take k) = v := by rw [HV.out, List.take_of_length_le (by omega)]
          exact this
        rw [HF.out] at hcap ⊢
        go_wp2
        go_ret2
        exact ⟨rfl, (by repeat (first | with_reducible exact Fr.refl _ _ | with_reducible assumption | with_reducible refine Fr.drewN ?_ _ | with_reducible refine Fr.drew ?_ | with_reducible refine Fr.alloc ?_ _ | ((with_reducible refine Fr.setCell ?_ ?_ _) <;> first | (apply Or.inl; simp; done) | (apply Or.inr; simp; done) | (apply Or.inr; simp; omega) | skip) | (refine Fr.then0 ?_ (by with_reducible assumption)) | (refine Fr.trans ?_ (by with_reducible assumption))))⟩
  · have e1 : pwholeN l = 0 := by unfold pwholeN; rw [if_neg h]
    have e2 : pwholeB l most = false := by
      unfold pwholeB
      by_cases h1 : l ≠ [] ∧ l.length ≤ 10
      · have : plainD l = false := by
          cases hp : plainD l
          · rfl
          · exact absurd ⟨h1.1, h1.2, hp⟩ h
        rw [this]; simp
      · rw [decide_eq_false h1]; rfl
    rw [e1, e2]
    clear e1 e2
    by_cases hne1 : l = []
    · subst hne1
      go_enter Tryz.func185, Tryz.ntmps185
      go_wp2
      go_ret2
      exact ⟨rfl, (by repeat (first | with_reducible exact Fr.refl _ _ | with_reducible assumption | with_reducible refine Fr.drewN ?_ _ | with_reducible refine Fr.drew ?_ | with_reducible refine Fr.alloc ?_ _ | ((with_reducible refine Fr.setCell ?_ ?_ _) <;> first | (apply Or.inl; simp; done) | (apply Or.inr; simp; done) | (apply Or.inr; simp; omega) | skip) | (refine Fr.then0 ?_ (by with_reducible assumption)) | (refine Fr.trans ?_ (by with_reducible assumption))))⟩
    · have hne2 : l.isEmpty = false := by cases l; exact absurd rfl hne1; rfl
      by_cases h10 : l.length ≤ 10
      · have hd : decide ((10 : Int) < (l.length : Int)) = false := by simp; omega
        have hp : plainD l = false := by
          cases hp : plainD l
          · rfl
          · exact absurd ⟨hne1, h10, hp⟩ h
        have hpt := fun w => trim_no l w (by omega) hp
        have HT := hide hpt
        clear hpt h
        go_enter Tryz.func185, Tryz.ntmps185
        go_wp2_with (go_at_call 167; refine (HT.out _).mono ?_; rintro e w1 ⟨⟨x, y, rfl⟩, hf1⟩)
        go_ret2
        exact ⟨rfl, (by repeat (first | with_reducible exact Fr.refl _ _ | with_reducible assumption | with_reducible refine Fr.drewN ?_ _ | with_reducible refine Fr.drew ?_ | with_reducible refine Fr.alloc ?_ _ | ((with_reducible refine Fr.setCell ?_ ?_ _) <;> first | (apply Or.inl; simp; done) | (apply Or.inr; simp; done) | (apply Or.inr; simp; omega) | skip) | (refine Fr.then0 ?_ (by with_reducible assumption)) | (refine Fr.trans ?_ (by with_reducible assumption))))⟩
      · have hd : decide ((10 : Int) < (l.length : Int)) = true := by simp; omega
        clear h
        go_enter Tryz.func185, Tryz.ntmps185
        go_wp2
        go_ret2
        exact ⟨rfl, (by repeat (first | with_reducible exact Fr.refl _ _ | with_reducible assumption | with_reducible refine Fr.drewN ?_ _ | with_reducible refine Fr.drew ?_ | with_reducible refine Fr.alloc ?_ _ | ((with_reducible refine Fr.setCell ?_ ?_ _) <;> first | (apply Or.inl; simp; done) | (apply Or.inr; simp; done) | (apply Or.inr; simp; omega) | skip) | (refine Fr.then0 ?_ (by with_reducible assumption)) | (refine Fr.trans ?_ (by with_reducible assumption))))⟩

/-- The reader's object: the bytes, the place, whether there are references. -/
structure St (w : World) (r : Nat) (A : Option Addr) (n c k : Nat) (refs : Bool) (bs : List UInt8) : Prop where
  blk : Blk w r 121 #[.slice A n c, .int .i64 k, .bool refs]
  rb : RB w (fun g => g ≠ r) A n bs
  cap : n ≤ c
  small : n ≤ 1073741824
  le : k ≤ n
section
variable {w w' : World} {r n c k : Nat} {A : Option Addr} {refs : Bool} {bs : List UInt8} {S : List Nat}
theorem St.keep (h : St w r A n c k refs bs) (hf : Fr S w w') (hr : r ∉ S) (hS : ∀ g, g ≠ r → g < w.heap.size → g ∉ S) : St w' r A n c k refs bs :=
  ⟨h.blk.keep hf hr, by
    have h1 : RB w (fun g => g ≠ r ∧ g < w.heap.size) A n bs := h.rb.more fun g hg hn => ⟨hn, hg⟩
    exact (h1.keep hf fun g hg => hS g hg.1 hg.2).more fun g _ hg => hg.1, h.cap, h.small, h.le⟩
theorem St.keep0 (h : St w r A n c k refs bs) (hf : Fr [] w w') : St w' r A n c k refs bs := h.keep hf (by simp) (fun _ _ _ => by simp)
theorem St.len (h : St w r A n c k refs bs) : bs.length = n := h.rb.len
theorem St.set_ (h : St w r A n c k refs bs) (j : Nat) (hj : j ≤ n) : St (w.setCell ⟨r, 1, none⟩ (.int .i64 j)) r A n c j refs bs :=
  ⟨by have := h.blk.set_ 1 (.int .i64 j); simpa using this, h.rb.keep ((Fr.refl [r] w).setCell (.inl (by simp)) _) (fun g hg => by simpa using hg), h.cap, h.small, hj⟩
end
abbrev panicE (e : Int) : Ending := .panicked [{ v := .iface 35 (.int .i64 e), recovered := false }]
set_option maxHeartbeats 400000 in
theorem fail_any (x : Int) (w : World) : Calls Tryz.prog 119 #[.int .i64 x] w fun e w' => e = panicE x ∧ w = w' := by
  go_enter Tryz.func119, Tryz.ntmps119
  go_wp2
  exact ⟨rfl, rfl, rfl⟩

set_option maxRecDepth 100000 in
set_option maxHeartbeats 400000 in
theorem skip_ok (r n c k : Nat) (A : Option Addr) (refs : Bool) (bs : List UInt8) (u : UInt8) (w : World) (hs : St w r A n c k refs bs) (hu : bs[skipF bs k]? = some u) :
    Calls Tryz.prog 154 #[.pointer (some ⟨r, 0, none⟩)] w fun e w' => e = .returned (.int .u8 u.toNat) ∧ St w' r A n c (skipF bs k) refs bs ∧ Fr [r] w w' := by
  have hlt : skipF bs k < n := by have := (List.getElem?_eq_some_iff.1 hu).1; rw [hs.len] at this; exact this
  obtain ⟨c0, c1, c2, cz⟩ := hs.blk.c3
  have hkn := hs.le
  have hsm := hs.small
  have hin : insideF n k = k := by unfold insideF; rw [if_neg (by omega)]; simp
  have hsk := fun w' (h : RB w' (fun g => g ≠ r) A n bs) => skip_any _ A n c k bs w' h (by omega)
  rw [hin] at hsk
  have HK := hide hsk
  clear hsk
  obtain ⟨ad, rfl, hadr, hcb⟩ := hs.rb.at2 hu
  have hcx : ∀ x, (w.setCell ⟨r, 1, none⟩ x).cell? (ad.add (skipF bs k)) = some (.int .u8 u.toNat) := fun x => by
    rw [World.cell?_setCell_other _ _ _ _ (fun e => hadr (by rw [← block_of_add ad (skipF bs k), ← e]))]
    exact hcb
  have hset := hs.set_ (skipF bs k) (by omega)
  have HU := hide hu
  clear hu
  generalize skipF bs k = j at *
  have hd1 : decide ((n : Int) ≤ (j : Int)) = false := by simp; omega
  have hd2 : decide (n ≤ j) = false := by simp; omega
  go_enter Tryz.func154, Tryz.ntmps154
  go_wp2
  go_still_tail 12, (by kernel_rfl)
  still_call ((HK.out w.drew hs.rb).mono fun e w' h => ⟨h.1, h.2.symm⟩)
  repeat still_step
  refine wpStill_nil ?_
  go_wp2
  go_quiet (fail)
  go_wp2
  go_quiet (fail)
  go_wp2
  go_ret
  exact ⟨rfl, hset.keep0 (by repeat (first | with_reducible exact Fr.refl _ _ | with_reducible assumption | with_reducible refine Fr.drewN ?_ _ | with_reducible refine Fr.drew ?_ | with_reducible refine Fr.alloc ?_ _ | ((with_reducible refine Fr.setCell ?_ ?_ _) <;> first | (apply Or.inl; simp; done) | (apply Or.inr; simp; done) | (apply Or.inr; simp; omega) | skip) | (refine Fr.then0 ?_ (by with_reducible assumption)) | (refine Fr.trans ?_ (by with_reducible assumption)))), (by repeat (first | with_reducible exact Fr.refl _ _ | with_reducible assumption | with_reducible refine Fr.drewN ?_ _ | with_reducible refine Fr.drew ?_ | with_reducible refine Fr.alloc ?_ _ | ((with_reducible refine Fr.setCell ?_ ?_ _) <;> first | (apply Or.inl; simp; done) | (apply Or.inr; simp; done) | (apply Or.inr; simp; omega) | skip) | (refine Fr.then0 ?_ (by with_reducible assumption)) | (refine Fr.trans ?_ (by with_reducible assumption))))⟩
set_option maxRecDepth 100000 in
set_option maxHeartbeats 400000 in
theorem skip_end' (r n c k : Nat) (A : Option Addr) (refs : Bool) (bs : List UInt8) (w : World) (hs : St w r A n c k refs bs) (hu : bs[skipF bs k]? = none) :
    Calls Tryz.prog 154 #[.pointer (some ⟨r, 0, none⟩)] w fun e w' => e = panicE 24 ∧ Fr [r] w w' := by
  have hlt : n ≤ skipF bs k := by have := List.getElem?_eq_none_iff.1 hu; rw [hs.len] at this; exact this
  obtain ⟨c0, c1, c2, cz⟩ := hs.blk.c3
  have hkn := hs.le
  have hsm := hs.small
  have hle := skipF_le bs k (by rw [hs.len]; exact hkn)
  rw [hs.len] at hle
  have hin : insideF n k = k := by unfold insideF; rw [if_neg (by omega)]; simp
  have hsk := fun w' (h : RB w' (fun g => g ≠ r) A n bs) => skip_any _ A n c k bs w' h (by omega)
  rw [hin] at hsk
  have HK := hide hsk
  clear hsk hu
  generalize skipF bs k = j at *
  have hd1 : decide ((n : Int) ≤ (j : Int)) = true := by simp; omega
  have hd2 : decide (n ≤ j) = true := by simp; omega
  go_enter Tryz.func154, Tryz.ntmps154
  go_wp2
  go_still_tail 12, (by kernel_rfl)
  still_call ((HK.out w.drew hs.rb).mono fun e w' h => ⟨h.1, h.2.symm⟩)
  repeat still_step
  refine wpStill_nil ?_
  go_wp2
  go_quiet (fail)
  go_wp2_with (go_at_call 119; refine (fail_any _ _).mono ?_; rintro e w' ⟨rfl, rfl⟩)
  exact ⟨rfl, rfl, (by repeat (first | with_reducible exact Fr.refl _ _ | with_reducible assumption | with_reducible refine Fr.drewN ?_ _ | with_reducible refine Fr.drew ?_ | with_reducible refine Fr.alloc ?_ _ | ((with_reducible refine Fr.setCell ?_ ?_ _) <;> first | (apply Or.inl; simp; done) | (apply Or.inr; simp; done) | (apply Or.inr; simp; omega) | skip) | (refine Fr.then0 ?_ (by with_reducible assumption)) | (refine Fr.trans ?_ (by with_reducible assumption))))⟩
end Go.Proofs.YtdjhjfpeckndkaaGreatDoor
