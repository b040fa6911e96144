/- Contract: the reader's object, at a word. -/
import Derived.Test.YtdjhjfpeckndkaaGreatDoorBkWord
set_option linter.unusedVariables false
set_option linter.unusedSimpArgs false
namespace Go.Proofs.YtdjhjfpeckndkaaGreatDoor
open Go.RowKit
def ObjQ (w : World) (r : Nat) (A : Option Addr) (n c : Nat) (refs : Bool) (bs : List UInt8) : Option PObj × Nat → Ending → World → Prop
  | (some (.mk kd x t _ _ _), j), e, w' => e = .returned (pobjV kd x t) ∧ St w' r A n c j refs bs ∧ Fr [r] w w'
  | (none, _), e, w' => e = panicE 23 ∧ Fr [r] w w'
set_option maxRecDepth 100000 in
set_option maxHeartbeats 1000000 in
theorem object_word (r n c k : Nat) (A : Option Addr) (refs : Bool) (bs : List UInt8) (deep : Int) (u : UInt8) (w : World) (hs : St w r A n c k refs bs) (hb : wordBad bs refs k = false) (hu : bs[k]? = some u)
    (h47 : ((u.toNat : Int) == 47) = false) (h91 : ((u.toNat : Int) == 91) = false) (h40 : ((u.toNat : Int) == 40) = false) (h60 : ((u.toNat : Int) == 60) = false) :
    Calls Tryz.prog 68 #[.pointer (some ⟨r, 0, none⟩), .int .i64 deep] w (ObjQ w r A n c refs bs (wordO bs refs k)) := by
  have hlt : k < n := by have := (List.getElem?_eq_some_iff.1 hu).1; rw [hs.len] at this; exact this
  have hsm := hs.small
  have hi1 : (0 : Int) ≤ (k : Int) := by omega
  have hi2 : (k : Int) < (n : Int) := by omega
  have HW := hide (fun w' (h : St w' r A n c k refs bs) => word_obj_any r n c k A refs bs w' h hb)
  have HU := hide hu
  clear hu hb
  generalize wordO bs refs k = R at *
  generalize wordS bs k = s at *
  go_enter Tryz.func68, Tryz.ntmps68
  go_wp2_with fail
  obtain ⟨W0, hW0⟩ : ∃ W0, W0 = w.alloc (.cells #[.int .i64 0, .int .i64 0, .string ⟨#[]⟩, .slice none 0 0, .slice none 0 0, .slice none 0 0] 31) := ⟨_, rfl⟩
  have hs0 : St W0 r A n c k refs bs := by rw [hW0]; exact hs.keep0 (by repeat (first | with_reducible exact Fr.refl _ _ | with_reducible assumption | with_reducible refine Fr.drewN ?_ _ | with_reducible refine Fr.drew ?_ | with_reducible refine Fr.alloc ?_ _ | ((with_reducible refine Fr.setCell ?_ ?_ _) <;> first | (apply Or.inl; simp; done) | (apply Or.inr; simp; done) | (apply Or.inr; simp; omega) | skip) | (refine Fr.then0 ?_ (by with_reducible assumption)) | (refine Fr.trans ?_ (by with_reducible assumption))))
  have hf0 : Fr [r] w W0 := by rw [hW0]; exact (by repeat (first | with_reducible exact Fr.refl _ _ | with_reducible assumption | with_reducible refine Fr.drewN ?_ _ | with_reducible refine Fr.drew ?_ | with_reducible refine Fr.alloc ?_ _ | ((with_reducible refine Fr.setCell ?_ ?_ _) <;> first | (apply Or.inl; simp; done) | (apply Or.inr; simp; done) | (apply Or.inr; simp; omega) | skip) | (refine Fr.then0 ?_ (by with_reducible assumption)) | (refine Fr.trans ?_ (by with_reducible assumption))))
  have hB0 : Blk W0 w.heap.size 31 #[.int .i64 0, .int .i64 0, .string ⟨#[]⟩, .slice none 0 0, .slice none 0 0, .slice none 0 0] := by rw [hW0]; exact Blk.new _ _ _
  rw [← hW0]
  clear hW0
  obtain ⟨q, hq⟩ : ∃ q, q = w.heap.size := ⟨_, rfl⟩
  rw [← hq] at hB0 ⊢
  have HQ : Hid (w.heap.size ≤ q) := hide (by omega)
  clear hq
  have hAq : ∀ ad, A = some ad → 0 < n → ad.block ≠ q := fun ad h1 h2 => by
    have := (hs.blockA ad h1 h2).1
    have := HQ.out
    omega
  have HAQ := hide hAq
  clear hAq
  have nqr : q ≠ r := hB0.ne_ hs0.blk (by decide)
  have nqr' := Ne.symm nqr
  obtain ⟨ad, hA, hadr, hcb⟩ := hs0.rb.at2 HU.out
  subst hA
  obtain ⟨c0, c1, c2, cz⟩ := hs0.blk.c3
  go_quiet (fail)
  have hs1 : ∀ m, St (W0.drewN m) r (some ad) n c k refs bs := fun m => hs0.keep0 ((Fr.refl _ _).drewN m)
  obtain ⟨o, j⟩ := R
  cases o with
  | none =>
    go_wp2_with (first
      | (go_at_call 123; refine (HW.out _ (hs1 _)).mono ?_; rintro e w1 ⟨rfl, hs2, hf1⟩)
      | (go_at_call 119; refine (fail_any _ _).mono ?_; rintro e w2 ⟨rfl, rfl⟩))
    exact ⟨rfl, rfl, ((hf0.drewN _).trans hf1).alloc _⟩
  | some o =>
    obtain ⟨kd, x, t, _, _, _⟩ := o
    go_wp2_with (go_at_call 123; refine (HW.out _ (hs1 _)).mono ?_; rintro e w1 ⟨rfl, hs2, hf1⟩; have hB1 := (hB0.drewN _).keep hf1 (by simpa using nqr); have hfw := (hf0.drewN _).trans hf1; obtain ⟨d0, d1, d2, d3, d4, d5, dz⟩ := hB1.c6; have hlt1 := hB1.lt; have hne1 := Nat.ne_of_lt hlt1)
    refine bodyPost_ret (v := pobjV kd x t) (by simp [pobjV, results, Tryz.results68, go_sem, d0, d1, d2, d3, d4, d5, hlt1, hne1]) rfl ⟨rfl, ?_, ?_⟩
    · exact (St.obj hs2 nqr HAQ.out).keep0 ((Fr.refl _ _).alloc _)
    · exact (obj_frame hfw (.inr HQ.out)).alloc _
end Go.Proofs.YtdjhjfpeckndkaaGreatDoor
