/- Contracts: the lexer's reader: more, take, next. -/
import Derived.Test.YtdjhjfpeckndkaaGreatDoorBkName
set_option linter.unusedVariables false
set_option linter.unusedSimpArgs false
namespace Go.Proofs.YtdjhjfpeckndkaaGreatDoor
open Go.RowKit
/-- The lexer's reader: the bytes and the place. -/
structure Ss (w : World) (r : Nat) (A : Option Addr) (n c k : Nat) (bs : List UInt8) : Prop where
  blk : Blk w r 231 #[.slice A n c, .int .i64 k]
  rb : RB w (fun g => g ≠ r) A n bs
  cap : n ≤ c
  small : n ≤ 1073741824
  le : k ≤ n
section
variable {w w' : World} {r n c k : Nat} {A : Option Addr} {bs : List UInt8} {S : List Nat}
theorem Ss.keep (h : Ss w r A n c k bs) (hf : Fr S w w') (hr : r ∉ S) (hS : ∀ ad, A = some ad → 0 < n → ad.block ∉ S) : Ss w' r A n c k bs :=
  ⟨h.blk.keep hf hr, by
    refine ⟨h.rb.1, fun hn => ?_⟩
    obtain ⟨ad, e, hb, hc⟩ := h.rb.2 hn
    exact ⟨ad, e, hb, fun j u hu => hf.cell (hc j u hu) (by rw [block_of_add]; exact hS ad e (by omega))⟩, h.cap, h.small, h.le⟩
theorem Ss.keep0 (h : Ss w r A n c k bs) (hf : Fr [] w w') : Ss w' r A n c k bs := h.keep hf (by simp) (fun _ _ _ => by simp)
theorem Ss.len (h : Ss w r A n c k bs) : bs.length = n := h.rb.len
theorem Ss.set_ (h : Ss w r A n c k bs) (j : Nat) (hj : j ≤ n) : Ss (w.setCell ⟨r, 1, none⟩ (.int .i64 j)) r A n c j bs :=
  ⟨by have := h.blk.set_ 1 (.int .i64 j); simpa using this, h.rb.keep ((Fr.refl [r] w).setCell (.inl (by simp)) _) (fun g hg => by simpa using hg), h.cap, h.small, hj⟩
theorem Ss.blockA (h : Ss w r A n c k bs) : ∀ ad, A = some ad → 0 < n → ad.block < w.heap.size ∧ ad.block ≠ r := by
  intro ad e hn
  obtain ⟨ad', e', hb, hc⟩ := h.rb.2 (by omega)
  have : ad = ad' := by rw [e] at e'; injection e'
  subst this
  have hl : 0 < (u8s bs).length := by rw [u8s_length, h.len]; exact hn
  have := World.block_lt_of_cell? w _ (hc 0 _ (List.getElem?_eq_getElem hl))
  rw [block_of_add] at this
  exact ⟨this, hb⟩
end
set_option maxHeartbeats 400000 in
theorem more_any (r n c k : Nat) (A : Option Addr) (bs : List UInt8) (w : World) (hs : Ss w r A n c k bs) :
    Calls Tryz.prog 231 #[.pointer (some ⟨r, 0, none⟩)] w fun e w' => e = .returned (.bool (decide (k < n))) ∧ ∃ m, w' = w.drewN m := by
  obtain ⟨c0, c1, cz⟩ := hs.blk.c2
  go_enter Tryz.func231, Tryz.ntmps231
  go_wp2
  go_quiet (fail)
  go_wp2
  go_ret
  exact ⟨ret_bool (by simp), _, rfl⟩
set_option maxRecDepth 100000 in
set_option maxHeartbeats 400000 in
theorem take_ok (r n c k : Nat) (A : Option Addr) (bs : List UInt8) (u : UInt8) (w : World) (hs : Ss w r A n c k bs) (hu : bs[k]? = some u) :
    Calls Tryz.prog 278 #[.pointer (some ⟨r, 0, none⟩)] w fun e w' => e = .returned (.int .u8 u.toNat) ∧ Ss w' r A n c (k + 1) bs ∧ Fr [r] w w' := by
  have hlt : k < n := by have := (List.getElem?_eq_some_iff.1 hu).1; rw [hs.len] at this; exact this
  have hsm := hs.small
  have hm := more_any r n c k A bs w hs
  rw [decide_eq_true hlt] at hm
  have HM := hide hm
  clear hm
  obtain ⟨ad, rfl, hadr, hcb⟩ := hs.rb.at2 hu
  have HU := hide hu
  clear hu
  obtain ⟨c0, c1, cz⟩ := hs.blk.c2
  go_enter Tryz.func278, Tryz.ntmps278
  go_wp2_with (go_at_call 231; refine (HM.out).mono ?_; rintro e w1 ⟨rfl, m, rfl⟩)
  obtain ⟨W0, hW0⟩ : ∃ W0, W0 = (w.drewN m).setCell ⟨r, 1, none⟩ (.int .i64 ((k : Int) + 1)) := ⟨_, rfl⟩
  have hset : Ss W0 r (some ad) n c (k + 1) bs := by rw [hW0]; exact (hs.keep0 ((Fr.refl _ _).drewN m)).set_ (k + 1) (by omega)
  have hf0 : Fr [r] w W0 := by rw [hW0]; exact (by repeat (first | with_reducible exact Fr.refl _ _ | with_reducible assumption | with_reducible refine Fr.drewN ?_ _ | with_reducible refine Fr.drew ?_ | with_reducible refine Fr.alloc ?_ _ | ((with_reducible refine Fr.setCell ?_ ?_ _) <;> first | (apply Or.inl; simp; done) | (apply Or.inr; simp; done) | (apply Or.inr; simp; omega) | skip) | (refine Fr.then0 ?_ (by with_reducible assumption)) | (refine Fr.trans ?_ (by with_reducible assumption))))
  rw [← hW0]
  clear hW0 c0 c1 cz hcb hs
  obtain ⟨c0, c1, cz⟩ := hset.blk.c2
  obtain ⟨ad', hA, _, hcb⟩ := hset.rb.at2 HU.out
  obtain rfl : ad = ad' := by injection hA
  have hw1 : IntKind.i64.wrap (((k + 1 : Nat) : Int) - 1) = (k : Int) := by rw [show (((k + 1 : Nat) : Int) - 1) = (k : Int) by omega]; exact IntWalk.i64_in _ (by omega)
  go_quiet (fail)
  clear hw1
  go_wp2
  go_ret
  exact ⟨rfl, hset.keep0 (by repeat (first | with_reducible exact Fr.refl _ _ | with_reducible assumption | with_reducible refine Fr.drewN ?_ _ | with_reducible refine Fr.drew ?_ | with_reducible refine Fr.alloc ?_ _ | ((with_reducible refine Fr.setCell ?_ ?_ _) <;> first | (apply Or.inl; simp; done) | (apply Or.inr; simp; done) | (apply Or.inr; simp; omega) | skip) | (refine Fr.then0 ?_ (by with_reducible assumption)) | (refine Fr.trans ?_ (by with_reducible assumption)))), hf0.then0 (by repeat (first | with_reducible exact Fr.refl _ _ | with_reducible assumption | with_reducible refine Fr.drewN ?_ _ | with_reducible refine Fr.drew ?_ | with_reducible refine Fr.alloc ?_ _ | ((with_reducible refine Fr.setCell ?_ ?_ _) <;> first | (apply Or.inl; simp; done) | (apply Or.inr; simp; done) | (apply Or.inr; simp; omega) | skip) | (refine Fr.then0 ?_ (by with_reducible assumption)) | (refine Fr.trans ?_ (by with_reducible assumption))))⟩
set_option maxHeartbeats 400000 in
theorem take_end (r n c k : Nat) (A : Option Addr) (bs : List UInt8) (w : World) (hs : Ss w r A n c k bs) (hu : bs[k]? = none) :
    Calls Tryz.prog 278 #[.pointer (some ⟨r, 0, none⟩)] w fun e w' => e = panicE 14 ∧ Fr [r] w w' := by
  have hlt : ¬ k < n := by have := List.getElem?_eq_none_iff.1 hu; rw [hs.len] at this; omega
  have hm := more_any r n c k A bs w hs
  rw [decide_eq_false hlt] at hm
  have HM := hide hm
  clear hm hu
  go_enter Tryz.func278, Tryz.ntmps278
  go_wp2_with (go_at_call 231; refine (HM.out).mono ?_; rintro e w1 ⟨rfl, m, rfl⟩)
  exact ⟨rfl, rfl, (by repeat (first | with_reducible exact Fr.refl _ _ | with_reducible assumption | with_reducible refine Fr.drewN ?_ _ | with_reducible refine Fr.drew ?_ | with_reducible refine Fr.alloc ?_ _ | ((with_reducible refine Fr.setCell ?_ ?_ _) <;> first | (apply Or.inl; simp; done) | (apply Or.inr; simp; done) | (apply Or.inr; simp; omega) | skip) | (refine Fr.then0 ?_ (by with_reducible assumption)) | (refine Fr.trans ?_ (by with_reducible assumption))))⟩
set_option maxRecDepth 100000 in
set_option maxHeartbeats 400000 in
theorem next_yes (r n c k : Nat) (A : Option Addr) (bs : List UInt8) (u : UInt8) (w : World) (hs : Ss w r A n c k bs) (hu : bs[k]? = some u) :
    Calls Tryz.prog 280 #[.pointer (some ⟨r, 0, none⟩), .int .u8 u.toNat] w fun e w' => e = .returned (.bool true) ∧ Ss w' r A n c (k + 1) bs ∧ Fr [r] w w' := by
  have hlt : k < n := by have := (List.getElem?_eq_some_iff.1 hu).1; rw [hs.len] at this; exact this
  have hsm := hs.small
  have hm := fun nq => more_any r n c k A bs (w.drewN nq) (hs.keep0 ((Fr.refl _ _).drewN nq))
  rw [decide_eq_true hlt] at hm
  have HM := hide hm
  clear hm
  obtain ⟨ad, rfl, hadr, hcb⟩ := hs.rb.at2 hu
  have HU := hide hu
  clear hu
  obtain ⟨c0, c1, cz⟩ := hs.blk.c2
  go_enter Tryz.func280, Tryz.ntmps280
  go_wp2
  go_quiet ((go_at_call 231; exact Calls.quiet_of (HM.out _)))
  go_wp2
  go_ret
  exact ⟨rfl, (hs.keep0 ((Fr.refl _ _).drewN nq)).set_ (k + 1) (by omega), (by repeat (first | with_reducible exact Fr.refl _ _ | with_reducible assumption | with_reducible refine Fr.drewN ?_ _ | with_reducible refine Fr.drew ?_ | with_reducible refine Fr.alloc ?_ _ | ((with_reducible refine Fr.setCell ?_ ?_ _) <;> first | (apply Or.inl; simp; done) | (apply Or.inr; simp; done) | (apply Or.inr; simp; omega) | skip) | (refine Fr.then0 ?_ (by with_reducible assumption)) | (refine Fr.trans ?_ (by with_reducible assumption))))⟩
set_option maxRecDepth 100000 in
set_option maxHeartbeats 400000 in
theorem next_no (r n c k : Nat) (A : Option Addr) (bs : List UInt8) (x : UInt8) (w : World) (hs : Ss w r A n c k bs) (hx : ¬ bs[k]? = some x) :
    Calls Tryz.prog 280 #[.pointer (some ⟨r, 0, none⟩), .int .u8 x.toNat] w fun e w' => e = .returned (.bool false) ∧ Ss w' r A n c k bs ∧ Fr [r] w w' := by
  have hsm := hs.small
  obtain ⟨c0, c1, cz⟩ := hs.blk.c2
  have hm := fun nq => more_any r n c k A bs (w.drewN nq) (hs.keep0 ((Fr.refl _ _).drewN nq))
  by_cases hlt : k < n
  · rw [decide_eq_true hlt] at hm
    have HM := hide hm
    clear hm
    obtain ⟨u, hu⟩ : ∃ u, bs[k]? = some u := ⟨_, List.getElem?_eq_getElem (by rw [hs.len]; exact hlt)⟩
    have hne : ((u.toNat : Int) == (x.toNat : Int)) = false := by
      simp
      intro h
      exact hx (by rw [hu, UInt8.toNat_inj.1 (show u.toNat = x.toNat by omega)])
    clear hx
    obtain ⟨ad, rfl, hadr, hcb⟩ := hs.rb.at2 hu
    have HU := hide hu
    clear hu
    go_enter Tryz.func280, Tryz.ntmps280
    go_wp2
    go_quiet ((go_at_call 231; exact Calls.quiet_of (HM.out _)))
    go_wp2
    go_ret
    exact ⟨rfl, hs.keep0 (by repeat (first | with_reducible exact Fr.refl _ _ | with_reducible assumption | with_reducible refine Fr.drewN ?_ _ | with_reducible refine Fr.drew ?_ | with_reducible refine Fr.alloc ?_ _ | ((with_reducible refine Fr.setCell ?_ ?_ _) <;> first | (apply Or.inl; simp; done) | (apply Or.inr; simp; done) | (apply Or.inr; simp; omega) | skip) | (refine Fr.then0 ?_ (by with_reducible assumption)) | (refine Fr.trans ?_ (by with_reducible assumption)))), (by repeat (first | with_reducible exact Fr.refl _ _ | with_reducible assumption | with_reducible refine Fr.drewN ?_ _ | with_reducible refine Fr.drew ?_ | with_reducible refine Fr.alloc ?_ _ | ((with_reducible refine Fr.setCell ?_ ?_ _) <;> first | (apply Or.inl; simp; done) | (apply Or.inr; simp; done) | (apply Or.inr; simp; omega) | skip) | (refine Fr.then0 ?_ (by with_reducible assumption)) | (refine Fr.trans ?_ (by with_reducible assumption))))⟩
  · rw [decide_eq_false hlt] at hm
    have HM := hide hm
    clear hm hx
    go_enter Tryz.func280, Tryz.ntmps280
    go_wp2
    go_quiet ((go_at_call 231; exact Calls.quiet_of (HM.out _)))
    go_wp2
    go_ret
    exact ⟨rfl, hs.keep0 (by repeat (first | with_reducible exact Fr.refl _ _ | with_reducible assumption | with_reducible refine Fr.drewN ?_ _ | with_reducible refine Fr.drew ?_ | with_reducible refine Fr.alloc ?_ _ | ((with_reducible refine Fr.setCell ?_ ?_ _) <;> first | (apply Or.inl; simp; done) | (apply Or.inr; simp; done) | (apply Or.inr; simp; omega) | skip) | (refine Fr.then0 ?_ (by with_reducible assumption)) | (refine Fr.trans ?_ (by with_reducible assumption)))), (by repeat (first | with_reducible exact Fr.refl _ _ | with_reducible assumption | with_reducible refine Fr.drewN ?_ _ | with_reducible refine Fr.drew ?_ | with_reducible refine Fr.alloc ?_ _ | ((with_reducible refine Fr.setCell ?_ ?_ _) <;> first | (apply Or.inl; simp; done) | (apply Or.inr; simp; done) | (apply Or.inr; simp; omega) | skip) | (refine Fr.then0 ?_ (by with_reducible assumption)) | (refine Fr.trans ?_ (by with_reducible assumption))))⟩
end Go.Proofs.YtdjhjfpeckndkaaGreatDoor
