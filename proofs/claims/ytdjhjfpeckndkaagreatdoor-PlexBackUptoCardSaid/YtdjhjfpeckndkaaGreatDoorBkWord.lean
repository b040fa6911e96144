/- Contract: the reader's word. -/
import Derived.Test.YtdjhjfpeckndkaaGreatDoorBkRef
set_option linter.unusedVariables false
set_option linter.unusedSimpArgs false
namespace Go.Proofs.YtdjhjfpeckndkaaGreatDoor
open Go.RowKit
set_option maxRecDepth 100000 in
set_option maxHeartbeats 1000000 in
theorem word_null (r n c k : Nat) (A : Option Addr) (refs : Bool) (bs : List UInt8) (w : World) (hs : St w r A n c k refs bs) (h : wordS bs k = nullW) :
    Calls Tryz.prog 123 #[.pointer (some ⟨r, 0, none⟩)] w fun e w' => e = .returned (.tuple #[pobjV 0 0 [], .string ⟨(wordS bs k).toArray⟩, .bool true]) ∧ St w' r A n c (wordF bs k) refs bs ∧ Fr [r] w w' := by
  have hkn := hs.le
  have hsm := hs.small
  have hcap := hs.cap
  have HWD := hide (fun w' (h : RB w' (fun g => g ≠ r) A n bs) => by have := word_any _ A n c k bs w' h (by omega) hcap; rw [insideF_at n k hkn] at this; exact this)
  have hjn : wordF bs k ≤ n := by have := wordF_le bs k (by rw [hs.len]; exact hkn); rw [hs.len] at this; exact this
  have hsl : (wordS bs k).length ≤ n := by have := wordS_len bs k; rw [hs.len] at this; exact this
  generalize wordF bs k = j at *
  generalize wordS bs k = s at *
  subst h
  go_enter Tryz.func123, Tryz.ntmps123
  go_wp2_with fail
  obtain ⟨W0, hW0⟩ : ∃ W0, W0 = w.alloc (.cells #[.int .i64 0, .int .i64 0, .string ⟨#[]⟩, .slice none 0 0, .slice none 0 0, .slice none 0 0] 31) := ⟨_, rfl⟩
  have hs0 : St W0 r A n c k refs bs := by rw [hW0]; exact hs.keep0 (by repeat (first | with_reducible exact Fr.refl _ _ | with_reducible assumption | with_reducible refine Fr.drewN ?_ _ | with_reducible refine Fr.drew ?_ | with_reducible refine Fr.alloc ?_ _ | ((with_reducible refine Fr.setCell ?_ ?_ _) <;> first | (apply Or.inl; simp; done) | (apply Or.inr; simp; done) | (apply Or.inr; simp; omega) | skip) | (refine Fr.then0 ?_ (by with_reducible assumption)) | (refine Fr.trans ?_ (by with_reducible assumption))))
  have hf0 : Fr [r] w W0 := by rw [hW0]; exact (by repeat (first | with_reducible exact Fr.refl _ _ | with_reducible assumption | with_reducible refine Fr.drewN ?_ _ | with_reducible refine Fr.drew ?_ | with_reducible refine Fr.alloc ?_ _ | ((with_reducible refine Fr.setCell ?_ ?_ _) <;> first | (apply Or.inl; simp; done) | (apply Or.inr; simp; done) | (apply Or.inr; simp; omega) | skip) | (refine Fr.then0 ?_ (by with_reducible assumption)) | (refine Fr.trans ?_ (by with_reducible assumption))))
  have hB0 : Blk W0 w.heap.size 31 #[.int .i64 0, .int .i64 0, .string ⟨#[]⟩, .slice none 0 0, .slice none 0 0, .slice none 0 0] := by rw [hW0]; exact Blk.new _ _ _
  rw [← hW0]
  clear hW0
  obtain ⟨q, hq⟩ : ∃ q, q = w.heap.size := ⟨_, rfl⟩
  rw [← hq] at hB0 ⊢
  have HQ : Hid (w.heap.size ≤ q) := hide (by omega)
  clear hq
  have hAq : ∀ ad, A = some ad → 0 < n → ad.block ≠ q := fun ad h1 h2 => by
    have := (hs.blockA ad h1 h2).1
    have := HQ.out
    omega
  have HAQ := hide hAq
  clear hAq
  have nqr : q ≠ r := hB0.ne_ hs0.blk (by decide)
  have nqr' := Ne.symm nqr
  obtain ⟨c0, c1, c2, cz⟩ := hs0.blk.c3
  obtain ⟨b0, b1, b2, b3, b4, b5, bz⟩ := hB0.c6
  have hlt0 := hB0.lt
  have hne0 := Nat.ne_of_lt hlt0
  go_quiet ((go_at_call 16; exact Calls.quiet_of_same ((HWD.out _ (hs0.rb.keep0 (by repeat (first | with_reducible exact Fr.refl _ _ | with_reducible assumption | with_reducible refine Fr.drewN ?_ _ | with_reducible refine Fr.drew ?_ | with_reducible refine Fr.alloc ?_ _ | ((with_reducible refine Fr.setCell ?_ ?_ _) <;> first | (apply Or.inl; simp; done) | (apply Or.inr; simp; done) | (apply Or.inr; simp; omega) | skip) | (refine Fr.then0 ?_ (by with_reducible assumption)) | (refine Fr.trans ?_ (by with_reducible assumption)))))).mono fun e w' h => ⟨h.1, h.2.symm⟩)))
  obtain ⟨m0, hm0⟩ : ∃ m, m = nq := ⟨_, rfl⟩
  have hset := (hs0.keep0 ((Fr.refl _ _).drewN m0)).set_ j hjn
  have hfs : Fr [r] w ((W0.drewN m0).setCell ⟨r, 1, none⟩ (.int .i64 j)) := (hf0.drewN m0).setCell (.inl (by simp)) _
  have hBs : Blk ((W0.drewN m0).setCell ⟨r, 1, none⟩ (.int .i64 j)) q 31 #[.int .i64 0, .int .i64 0, .string ⟨#[]⟩, .slice none 0 0, .slice none 0 0, .slice none 0 0] := (hB0.drewN m0).far (p := ⟨r, 1, none⟩) nqr _
  rw [← hm0]
  clear hm0
  go_wp2_with fail
  refine bodyPost_ret (v := .tuple #[pobjV 0 0 [], .string ⟨(nullW).toArray⟩, .bool true]) (by simp [pobjV, results, Tryz.results123, go_sem, b0, b1, b2, b3, b4, b5, hlt0, hne0]) rfl ⟨rfl, ?_, ?_⟩
  · exact St.obj (hset) nqr HAQ.out
  · exact obj_frame (hfs) (.inr HQ.out)
set_option maxRecDepth 100000 in
set_option maxHeartbeats 1000000 in
theorem word_true (r n c k : Nat) (A : Option Addr) (refs : Bool) (bs : List UInt8) (w : World) (hs : St w r A n c k refs bs) (h : wordS bs k = trueW) :
    Calls Tryz.prog 123 #[.pointer (some ⟨r, 0, none⟩)] w fun e w' => e = .returned (.tuple #[pobjV 1 1 [], .string ⟨(wordS bs k).toArray⟩, .bool true]) ∧ St w' r A n c (wordF bs k) refs bs ∧ Fr [r] w w' := by
  have hkn := hs.le
  have hsm := hs.small
  have hcap := hs.cap
  have HWD := hide (fun w' (h : RB w' (fun g => g ≠ r) A n bs) => by have := word_any _ A n c k bs w' h (by omega) hcap; rw [insideF_at n k hkn] at this; exact this)
  have hjn : wordF bs k ≤ n := by have := wordF_le bs k (by rw [hs.len]; exact hkn); rw [hs.len] at this; exact this
  have hsl : (wordS bs k).length ≤ n := by have := wordS_len bs k; rw [hs.len] at this; exact this
  generalize wordF bs k = j at *
  generalize wordS bs k = s at *
  subst h
  go_enter Tryz.func123, Tryz.ntmps123
  go_wp2_with fail
  obtain ⟨W0, hW0⟩ : ∃ W0, W0 = w.alloc (.cells #[.int .i64 0, .int .i64 0, .string ⟨#[]⟩, .slice none 0 0, .slice none 0 0, .slice none 0 0] 31) := ⟨_, rfl⟩
  have hs0 : St W0 r A n c k refs bs := by rw [hW0]; exact hs.keep0 (by repeat (first | with_reducible exact Fr.refl _ _ | with_reducible assumption | with_reducible refine Fr.drewN ?_ _ | with_reducible refine Fr.drew ?_ | with_reducible refine Fr.alloc ?_ _ | ((with_reducible refine Fr.setCell ?_ ?_ _) <;> first | (apply Or.inl; simp; done) | (apply Or.inr; simp; done) | (apply Or.inr; simp; omega) | skip) | (refine Fr.then0 ?_ (by with_reducible assumption)) | (refine Fr.trans ?_ (by with_reducible assumption))))
  have hf0 : Fr [r] w W0 := by rw [hW0]; exact (by repeat (first | with_reducible exact Fr.refl _ _ | with_reducible assumption | with_reducible refine Fr.drewN ?_ _ | with_reducible refine Fr.drew ?_ | with_reducible refine Fr.alloc ?_ _ | ((with_reducible refine Fr.setCell ?_ ?_ _) <;> first | (apply Or.inl; simp; done) | (apply Or.inr; simp; done) | (apply Or.inr; simp; omega) | skip) | (refine Fr.then0 ?_ (by with_reducible assumption)) | (refine Fr.trans ?_ (by with_reducible assumption))))
  have hB0 : Blk W0 w.heap.size 31 #[.int .i64 0, .int .i64 0, .string ⟨#[]⟩, .slice none 0 0, .slice none 0 0, .slice none 0 0] := by rw [hW0]; exact Blk.new _ _ _
  rw [← hW0]
  clear hW0
  obtain ⟨q, hq⟩ : ∃ q, q = w.heap.size := ⟨_, rfl⟩
  rw [← hq] at hB0 ⊢
  have HQ : Hid (w.heap.size ≤ q) := hide (by omega)
  clear hq
  have hAq : ∀ ad, A = some ad → 0 < n → ad.block ≠ q := fun ad h1 h2 => by
    have := (hs.blockA ad h1 h2).1
    have := HQ.out
    omega
  have HAQ := hide hAq
  clear hAq
  have nqr : q ≠ r := hB0.ne_ hs0.blk (by decide)
  have nqr' := Ne.symm nqr
  obtain ⟨c0, c1, c2, cz⟩ := hs0.blk.c3
  obtain ⟨b0, b1, b2, b3, b4, b5, bz⟩ := hB0.c6
  have hlt0 := hB0.lt
  have hne0 := Nat.ne_of_lt hlt0
  go_quiet ((go_at_call 16; exact Calls.quiet_of_same ((HWD.out _ (hs0.rb.keep0 (by repeat (first | with_reducible exact Fr.refl _ _ | with_reducible assumption | with_reducible refine Fr.drewN ?_ _ | with_reducible refine Fr.drew ?_ | with_reducible refine Fr.alloc ?_ _ | ((with_reducible refine Fr.setCell ?_ ?_ _) <;> first | (apply Or.inl; simp; done) | (apply Or.inr; simp; done) | (apply Or.inr; simp; omega) | skip) | (refine Fr.then0 ?_ (by with_reducible assumption)) | (refine Fr.trans ?_ (by with_reducible assumption)))))).mono fun e w' h => ⟨h.1, h.2.symm⟩)))
  obtain ⟨m0, hm0⟩ : ∃ m, m = nq := ⟨_, rfl⟩
  have hset := (hs0.keep0 ((Fr.refl _ _).drewN m0)).set_ j hjn
  have hfs : Fr [r] w ((W0.drewN m0).setCell ⟨r, 1, none⟩ (.int .i64 j)) := (hf0.drewN m0).setCell (.inl (by simp)) _
  have hBs : Blk ((W0.drewN m0).setCell ⟨r, 1, none⟩ (.int .i64 j)) q 31 #[.int .i64 0, .int .i64 0, .string ⟨#[]⟩, .slice none 0 0, .slice none 0 0, .slice none 0 0] := (hB0.drewN m0).far (p := ⟨r, 1, none⟩) nqr _
  rw [← hm0]
  clear hm0
  go_wp2_with fail
  refine bodyPost_ret (v := .tuple #[pobjV 1 1 [], .string ⟨(trueW).toArray⟩, .bool true]) (by simp [pobjV, results, Tryz.results123, go_sem, b0, b1, b2, b3, b4, b5, hlt0, hne0]) rfl ⟨rfl, ?_, ?_⟩
  · exact St.obj (hset) nqr HAQ.out
  · exact obj_frame (hfs) (.inr HQ.out)
set_option maxRecDepth 100000 in
set_option maxHeartbeats 1000000 in
theorem word_false (r n c k : Nat) (A : Option Addr) (refs : Bool) (bs : List UInt8) (w : World) (hs : St w r A n c k refs bs) (h : wordS bs k = falseW) :
    Calls Tryz.prog 123 #[.pointer (some ⟨r, 0, none⟩)] w fun e w' => e = .returned (.tuple #[pobjV 1 0 [], .string ⟨(wordS bs k).toArray⟩, .bool true]) ∧ St w' r A n c (wordF bs k) refs bs ∧ Fr [r] w w' := by
  have hkn := hs.le
  have hsm := hs.small
  have hcap := hs.cap
  have HWD := hide (fun w' (h : RB w' (fun g => g ≠ r) A n bs) => by have := word_any _ A n c k bs w' h (by omega) hcap; rw [insideF_at n k hkn] at this; exact this)
  have hjn : wordF bs k ≤ n := by have := wordF_le bs k (by rw [hs.len]; exact hkn); rw [hs.len] at this; exact this
  have hsl : (wordS bs k).length ≤ n := by have := wordS_len bs k; rw [hs.len] at this; exact this
  generalize wordF bs k = j at *
  generalize wordS bs k = s at *
  subst h
  go_enter Tryz.func123, Tryz.ntmps123
  go_wp2_with fail
  obtain ⟨W0, hW0⟩ : ∃ W0, W0 = w.alloc (.cells #[.int .i64 0, .int .i64 0, .string ⟨#[]⟩, .slice none 0 0, .slice none 0 0, .slice none 0 0] 31) := ⟨_, rfl⟩
  have hs0 : St W0 r A n c k refs bs := by rw [hW0]; exact hs.keep0 (by repeat (first | with_reducible exact Fr.refl _ _ | with_reducible assumption | with_reducible refine Fr.drewN ?_ _ | with_reducible refine Fr.drew ?_ | with_reducible refine Fr.alloc ?_ _ | ((with_reducible refine Fr.setCell ?_ ?_ _) <;> first | (apply Or.inl; simp; done) | (apply Or.inr; simp; done) | (apply Or.inr; simp; omega) | skip) | (refine Fr.then0 ?_ (by with_reducible assumption)) | (refine Fr.trans ?_ (by with_reducible assumption))))
  have hf0 : Fr [r] w W0 := by rw [hW0]; exact (by repeat (first | with_reducible exact Fr.refl _ _ | with_reducible assumption | with_reducible refine Fr.drewN ?_ _ | with_reducible refine Fr.drew ?_ | with_reducible refine Fr.alloc ?_ _ | ((with_reducible refine Fr.setCell ?_ ?_ _) <;> first | (apply Or.inl; simp; done) | (apply Or.inr; simp; done) | (apply Or.inr; simp; omega) | skip) | (refine Fr.then0 ?_ (by with_reducible assumption)) | (refine Fr.trans ?_ (by with_reducible assumption))))
  have hB0 : Blk W0 w.heap.size 31 #[.int .i64 0, .int .i64 0, .string ⟨#[]⟩, .slice none 0 0, .slice none 0 0, .slice none 0 0] := by rw [hW0]; exact Blk.new _ _ _
  rw [← hW0]
  clear hW0
  obtain ⟨q, hq⟩ : ∃ q, q = w.heap.size := ⟨_, rfl⟩
  rw [← hq] at hB0 ⊢
  have HQ : Hid (w.heap.size ≤ q) := hide (by omega)
  clear hq
  have hAq : ∀ ad, A = some ad → 0 < n → ad.block ≠ q := fun ad h1 h2 => by
    have := (hs.blockA ad h1 h2).1
    have := HQ.out
    omega
  have HAQ := hide hAq
  clear hAq
  have nqr : q ≠ r := hB0.ne_ hs0.blk (by decide)
  have nqr' := Ne.symm nqr
  obtain ⟨c0, c1, c2, cz⟩ := hs0.blk.c3
  obtain ⟨b0, b1, b2, b3, b4, b5, bz⟩ := hB0.c6
  have hlt0 := hB0.lt
  have hne0 := Nat.ne_of_lt hlt0
  go_quiet ((go_at_call 16; exact Calls.quiet_of_same ((HWD.out _ (hs0.rb.keep0 (by repeat (first | with_reducible exact Fr.refl _ _ | with_reducible assumption | with_reducible refine Fr.drewN ?_ _ | with_reducible refine Fr.drew ?_ | with_reducible refine Fr.alloc ?_ _ | ((with_reducible refine Fr.setCell ?_ ?_ _) <;> first | (apply Or.inl; simp; done) | (apply Or.inr; simp; done) | (apply Or.inr; simp; omega) | skip) | (refine Fr.then0 ?_ (by with_reducible assumption)) | (refine Fr.trans ?_ (by with_reducible assumption)))))).mono fun e w' h => ⟨h.1, h.2.symm⟩)))
  obtain ⟨m0, hm0⟩ : ∃ m, m = nq := ⟨_, rfl⟩
  have hset := (hs0.keep0 ((Fr.refl _ _).drewN m0)).set_ j hjn
  have hfs : Fr [r] w ((W0.drewN m0).setCell ⟨r, 1, none⟩ (.int .i64 j)) := (hf0.drewN m0).setCell (.inl (by simp)) _
  have hBs : Blk ((W0.drewN m0).setCell ⟨r, 1, none⟩ (.int .i64 j)) q 31 #[.int .i64 0, .int .i64 0, .string ⟨#[]⟩, .slice none 0 0, .slice none 0 0, .slice none 0 0] := (hB0.drewN m0).far (p := ⟨r, 1, none⟩) nqr _
  rw [← hm0]
  clear hm0
  go_wp2_with fail
  refine bodyPost_ret (v := .tuple #[pobjV 1 0 [], .string ⟨(falseW).toArray⟩, .bool true]) (by simp [pobjV, results, Tryz.results123, go_sem, b0, b1, b2, b3, b4, b5, hlt0, hne0]) rfl ⟨rfl, ?_, ?_⟩
  · exact St.obj (hset) nqr HAQ.out
  · exact obj_frame (hfs) (.inr HQ.out)
set_option maxRecDepth 100000 in
set_option maxHeartbeats 1000000 in
theorem word_ref (r n c k : Nat) (A : Option Addr) (refs : Bool) (bs : List UInt8) (w : World) (hs : St w r A n c k refs bs) (h1 : ¬ wordS bs k = nullW) (h2 : ¬ wordS bs k = trueW) (h3 : ¬ wordS bs k = falseW) (m j2 : Nat) (hrf : refP bs refs (wordF bs k) (wordS bs k) = some (m, j2)) :
    Calls Tryz.prog 123 #[.pointer (some ⟨r, 0, none⟩)] w fun e w' => e = .returned (.tuple #[pobjV 8 m [], .string ⟨(wordS bs k).toArray⟩, .bool true]) ∧ St w' r A n c j2 refs bs ∧ Fr [r] w w' := by
  have hkn := hs.le
  have hsm := hs.small
  have hcap := hs.cap
  have HWD := hide (fun w' (h : RB w' (fun g => g ≠ r) A n bs) => by have := word_any _ A n c k bs w' h (by omega) hcap; rw [insideF_at n k hkn] at this; exact this)
  have hjn : wordF bs k ≤ n := by have := wordF_le bs k (by rw [hs.len]; exact hkn); rw [hs.len] at this; exact this
  have hsl : (wordS bs k).length ≤ n := by have := wordS_len bs k; rw [hs.len] at this; exact this
  have HRF := hide (fun w' (h : St w' r A n c (wordF bs k) refs bs) => ref_any r n c (wordF bs k) A refs bs (wordS bs k) w' h (by omega))
  rw [hrf] at HRF
  clear hrf
  generalize wordF bs k = j at *
  generalize wordS bs k = s at *
  have hx1 : (s == [110, 117, 108, 108]) = false := beq_eq_false_iff_ne.2 h1
  have hx2 : (s == [116, 114, 117, 101]) = false := beq_eq_false_iff_ne.2 h2
  have hx3 : (s == [102, 97, 108, 115, 101]) = false := beq_eq_false_iff_ne.2 h3
  go_enter Tryz.func123, Tryz.ntmps123
  go_wp2_with fail
  obtain ⟨W0, hW0⟩ : ∃ W0, W0 = w.alloc (.cells #[.int .i64 0, .int .i64 0, .string ⟨#[]⟩, .slice none 0 0, .slice none 0 0, .slice none 0 0] 31) := ⟨_, rfl⟩
  have hs0 : St W0 r A n c k refs bs := by rw [hW0]; exact hs.keep0 (by repeat (first | with_reducible exact Fr.refl _ _ | with_reducible assumption | with_reducible refine Fr.drewN ?_ _ | with_reducible refine Fr.drew ?_ | with_reducible refine Fr.alloc ?_ _ | ((with_reducible refine Fr.setCell ?_ ?_ _) <;> first | (apply Or.inl; simp; done) | (apply Or.inr; simp; done) | (apply Or.inr; simp; omega) | skip) | (refine Fr.then0 ?_ (by with_reducible assumption)) | (refine Fr.trans ?_ (by with_reducible assumption))))
  have hf0 : Fr [r] w W0 := by rw [hW0]; exact (by repeat (first | with_reducible exact Fr.refl _ _ | with_reducible assumption | with_reducible refine Fr.drewN ?_ _ | with_reducible refine Fr.drew ?_ | with_reducible refine Fr.alloc ?_ _ | ((with_reducible refine Fr.setCell ?_ ?_ _) <;> first | (apply Or.inl; simp; done) | (apply Or.inr; simp; done) | (apply Or.inr; simp; omega) | skip) | (refine Fr.then0 ?_ (by with_reducible assumption)) | (refine Fr.trans ?_ (by with_reducible assumption))))
  have hB0 : Blk W0 w.heap.size 31 #[.int .i64 0, .int .i64 0, .string ⟨#[]⟩, .slice none 0 0, .slice none 0 0, .slice none 0 0] := by rw [hW0]; exact Blk.new _ _ _
  rw [← hW0]
  clear hW0
  obtain ⟨q, hq⟩ : ∃ q, q = w.heap.size := ⟨_, rfl⟩
  rw [← hq] at hB0 ⊢
  have HQ : Hid (w.heap.size ≤ q) := hide (by omega)
  clear hq
  have hAq : ∀ ad, A = some ad → 0 < n → ad.block ≠ q := fun ad h1 h2 => by
    have := (hs.blockA ad h1 h2).1
    have := HQ.out
    omega
  have HAQ := hide hAq
  clear hAq
  have nqr : q ≠ r := hB0.ne_ hs0.blk (by decide)
  have nqr' := Ne.symm nqr
  obtain ⟨c0, c1, c2, cz⟩ := hs0.blk.c3
  obtain ⟨b0, b1, b2, b3, b4, b5, bz⟩ := hB0.c6
  have hlt0 := hB0.lt
  have hne0 := Nat.ne_of_lt hlt0
  go_quiet ((go_at_call 16; exact Calls.quiet_of_same ((HWD.out _ (hs0.rb.keep0 (by repeat (first | with_reducible exact Fr.refl _ _ | with_reducible assumption | with_reducible refine Fr.drewN ?_ _ | with_reducible refine Fr.drew ?_ | with_reducible refine Fr.alloc ?_ _ | ((with_reducible refine Fr.setCell ?_ ?_ _) <;> first | (apply Or.inl; simp; done) | (apply Or.inr; simp; done) | (apply Or.inr; simp; omega) | skip) | (refine Fr.then0 ?_ (by with_reducible assumption)) | (refine Fr.trans ?_ (by with_reducible assumption)))))).mono fun e w' h => ⟨h.1, h.2.symm⟩)))
  obtain ⟨m0, hm0⟩ : ∃ m, m = nq := ⟨_, rfl⟩
  have hset := (hs0.keep0 ((Fr.refl _ _).drewN m0)).set_ j hjn
  have hfs : Fr [r] w ((W0.drewN m0).setCell ⟨r, 1, none⟩ (.int .i64 j)) := (hf0.drewN m0).setCell (.inl (by simp)) _
  have hBs : Blk ((W0.drewN m0).setCell ⟨r, 1, none⟩ (.int .i64 j)) q 31 #[.int .i64 0, .int .i64 0, .string ⟨#[]⟩, .slice none 0 0, .slice none 0 0, .slice none 0 0] := (hB0.drewN m0).far (p := ⟨r, 1, none⟩) nqr _
  rw [← hm0]
  clear hm0
  go_wp2_with (go_at_call 158; refine (HRF.out _ hset).mono ?_; rintro e w1 ⟨rfl, hs1, hf1⟩; have hB1 := hBs.keep hf1 (by simpa using nqr); have hfw := hfs.trans hf1; obtain ⟨d0, d1, d2, d3, d4, d5, dz⟩ := hB1.c6; have hlt1 := hB1.lt; have hne1 := Nat.ne_of_lt hlt1)
  refine bodyPost_ret (v := .tuple #[pobjV 8 m [], .string ⟨s.toArray⟩, .bool true]) (by simp [pobjV, results, Tryz.results123, go_sem, b0, b1, b2, b3, b4, b5, hlt0, hne0, d0, d1, d2, d3, d4, d5, hlt1, hne1]) rfl ⟨rfl, ?_, ?_⟩
  · exact (St.obj (hs1) nqr HAQ.out).keep0 ((Fr.refl _ _).alloc _)
  · exact (obj_frame (hfw) (.inr HQ.out)).alloc _
set_option maxRecDepth 100000 in
set_option maxHeartbeats 1000000 in
theorem word_num (r n c k : Nat) (A : Option Addr) (refs : Bool) (bs : List UInt8) (w : World) (hs : St w r A n c k refs bs) (h1 : ¬ wordS bs k = nullW) (h2 : ¬ wordS bs k = trueW) (h3 : ¬ wordS bs k = falseW) (hrf : refP bs refs (wordF bs k) (wordS bs k) = none) (hbad : (wordS bs k).length ≤ 64 → badW (wordS bs k) = false) (hnum : numO (wordS bs k) = true) :
    Calls Tryz.prog 123 #[.pointer (some ⟨r, 0, none⟩)] w fun e w' => e = .returned (.tuple #[pobjV (numK (wordS bs k)) (numV (wordS bs k)) [], .string ⟨(wordS bs k).toArray⟩, .bool true]) ∧ St w' r A n c (wordF bs k) refs bs ∧ Fr [r] w w' := by
  have hkn := hs.le
  have hsm := hs.small
  have hcap := hs.cap
  have HWD := hide (fun w' (h : RB w' (fun g => g ≠ r) A n bs) => by have := word_any _ A n c k bs w' h (by omega) hcap; rw [insideF_at n k hkn] at this; exact this)
  have hjn : wordF bs k ≤ n := by have := wordF_le bs k (by rw [hs.len]; exact hkn); rw [hs.len] at this; exact this
  have hsl : (wordS bs k).length ≤ n := by have := wordS_len bs k; rw [hs.len] at this; exact this
  have HRF := hide (fun w' (h : St w' r A n c (wordF bs k) refs bs) => ref_any r n c (wordF bs k) A refs bs (wordS bs k) w' h (by omega))
  rw [hrf] at HRF
  have HNB := hide (fun w' => number_any (wordS bs k) w' (by omega) hbad)
  rw [hnum] at HNB
  clear hrf hbad hnum
  generalize wordF bs k = j at *
  generalize wordS bs k = s at *
  have hx1 : (s == [110, 117, 108, 108]) = false := beq_eq_false_iff_ne.2 h1
  have hx2 : (s == [116, 114, 117, 101]) = false := beq_eq_false_iff_ne.2 h2
  have hx3 : (s == [102, 97, 108, 115, 101]) = false := beq_eq_false_iff_ne.2 h3
  generalize numK s = nk at *
  generalize numV s = nv at *
  go_enter Tryz.func123, Tryz.ntmps123
  go_wp2_with fail
  obtain ⟨W0, hW0⟩ : ∃ W0, W0 = w.alloc (.cells #[.int .i64 0, .int .i64 0, .string ⟨#[]⟩, .slice none 0 0, .slice none 0 0, .slice none 0 0] 31) := ⟨_, rfl⟩
  have hs0 : St W0 r A n c k refs bs := by rw [hW0]; exact hs.keep0 (by repeat (first | with_reducible exact Fr.refl _ _ | with_reducible assumption | with_reducible refine Fr.drewN ?_ _ | with_reducible refine Fr.drew ?_ | with_reducible refine Fr.alloc ?_ _ | ((with_reducible refine Fr.setCell ?_ ?_ _) <;> first | (apply Or.inl; simp; done) | (apply Or.inr; simp; done) | (apply Or.inr; simp; omega) | skip) | (refine Fr.then0 ?_ (by with_reducible assumption)) | (refine Fr.trans ?_ (by with_reducible assumption))))
  have hf0 : Fr [r] w W0 := by rw [hW0]; exact (by repeat (first | with_reducible exact Fr.refl _ _ | with_reducible assumption | with_reducible refine Fr.drewN ?_ _ | with_reducible refine Fr.drew ?_ | with_reducible refine Fr.alloc ?_ _ | ((with_reducible refine Fr.setCell ?_ ?_ _) <;> first | (apply Or.inl; simp; done) | (apply Or.inr; simp; done) | (apply Or.inr; simp; omega) | skip) | (refine Fr.then0 ?_ (by with_reducible assumption)) | (refine Fr.trans ?_ (by with_reducible assumption))))
  have hB0 : Blk W0 w.heap.size 31 #[.int .i64 0, .int .i64 0, .string ⟨#[]⟩, .slice none 0 0, .slice none 0 0, .slice none 0 0] := by rw [hW0]; exact Blk.new _ _ _
  rw [← hW0]
  clear hW0
  obtain ⟨q, hq⟩ : ∃ q, q = w.heap.size := ⟨_, rfl⟩
  rw [← hq] at hB0 ⊢
  have HQ : Hid (w.heap.size ≤ q) := hide (by omega)
  clear hq
  have hAq : ∀ ad, A = some ad → 0 < n → ad.block ≠ q := fun ad h1 h2 => by
    have := (hs.blockA ad h1 h2).1
    have := HQ.out
    omega
  have HAQ := hide hAq
  clear hAq
  have nqr : q ≠ r := hB0.ne_ hs0.blk (by decide)
  have nqr' := Ne.symm nqr
  obtain ⟨c0, c1, c2, cz⟩ := hs0.blk.c3
  obtain ⟨b0, b1, b2, b3, b4, b5, bz⟩ := hB0.c6
  have hlt0 := hB0.lt
  have hne0 := Nat.ne_of_lt hlt0
  go_quiet ((go_at_call 16; exact Calls.quiet_of_same ((HWD.out _ (hs0.rb.keep0 (by repeat (first | with_reducible exact Fr.refl _ _ | with_reducible assumption | with_reducible refine Fr.drewN ?_ _ | with_reducible refine Fr.drew ?_ | with_reducible refine Fr.alloc ?_ _ | ((with_reducible refine Fr.setCell ?_ ?_ _) <;> first | (apply Or.inl; simp; done) | (apply Or.inr; simp; done) | (apply Or.inr; simp; omega) | skip) | (refine Fr.then0 ?_ (by with_reducible assumption)) | (refine Fr.trans ?_ (by with_reducible assumption)))))).mono fun e w' h => ⟨h.1, h.2.symm⟩)))
  obtain ⟨m0, hm0⟩ : ∃ m, m = nq := ⟨_, rfl⟩
  have hset := (hs0.keep0 ((Fr.refl _ _).drewN m0)).set_ j hjn
  have hfs : Fr [r] w ((W0.drewN m0).setCell ⟨r, 1, none⟩ (.int .i64 j)) := (hf0.drewN m0).setCell (.inl (by simp)) _
  have hBs : Blk ((W0.drewN m0).setCell ⟨r, 1, none⟩ (.int .i64 j)) q 31 #[.int .i64 0, .int .i64 0, .string ⟨#[]⟩, .slice none 0 0, .slice none 0 0, .slice none 0 0] := (hB0.drewN m0).far (p := ⟨r, 1, none⟩) nqr _
  rw [← hm0]
  clear hm0
  go_wp2_with (first
    | (go_at_call 158; refine (HRF.out _ hset).mono ?_; rintro e w1 ⟨rfl, hf1⟩; have hs1 := hset.keep0 hf1; have hB1 := hBs.keep hf1 (by simp); have hfw := hfs.then0 hf1)
    | (go_at_call 159; refine (HNB.out _).mono ?_; rintro e w2 ⟨rfl, hf2⟩; have hf2' : Fr [] w1 w2 := Fr.trans (by repeat (first | with_reducible exact Fr.refl _ _ | with_reducible assumption | with_reducible refine Fr.drewN ?_ _ | with_reducible refine Fr.drew ?_ | with_reducible refine Fr.alloc ?_ _ | ((with_reducible refine Fr.setCell ?_ ?_ _) <;> first | (apply Or.inl; simp; done) | (apply Or.inr; simp; done) | (apply Or.inr; simp; omega) | skip) | (refine Fr.then0 ?_ (by with_reducible assumption)) | (refine Fr.trans ?_ (by with_reducible assumption)))) hf2; have hs2 := hs1.keep0 hf2'; have hB2 := hB1.keep hf2' (by simp); have hfw2 := hfw.then0 hf2'; obtain ⟨d0, d1, d2, d3, d4, d5, dz⟩ := hB2.c6; have hlt2 := hB2.lt; have hne2 := Nat.ne_of_lt hlt2))
  refine bodyPost_ret (v := .tuple #[pobjV nk nv [], .string ⟨s.toArray⟩, .bool true]) (by simp [pobjV, results, Tryz.results123, go_sem, b0, b1, b2, b3, b4, b5, hlt0, hne0, d0, d1, d2, d3, d4, d5, hlt2, hne2]) rfl ⟨rfl, ?_, ?_⟩
  · exact (St.obj (hs2) nqr HAQ.out).keep0 ((Fr.refl _ _).alloc _)
  · exact (obj_frame (hfw2) (.inr HQ.out)).alloc _
set_option maxRecDepth 100000 in
set_option maxHeartbeats 1000000 in
theorem word_none (r n c k : Nat) (A : Option Addr) (refs : Bool) (bs : List UInt8) (w : World) (hs : St w r A n c k refs bs) (h1 : ¬ wordS bs k = nullW) (h2 : ¬ wordS bs k = trueW) (h3 : ¬ wordS bs k = falseW) (hrf : refP bs refs (wordF bs k) (wordS bs k) = none) (hbad : (wordS bs k).length ≤ 64 → badW (wordS bs k) = false) (hnum : numO (wordS bs k) = false) :
    Calls Tryz.prog 123 #[.pointer (some ⟨r, 0, none⟩)] w fun e w' => e = .returned (.tuple #[pobjV 0 0 [], .string ⟨(wordS bs k).toArray⟩, .bool false]) ∧ St w' r A n c (wordF bs k) refs bs ∧ Fr [r] w w' := by
  have hkn := hs.le
  have hsm := hs.small
  have hcap := hs.cap
  have HWD := hide (fun w' (h : RB w' (fun g => g ≠ r) A n bs) => by have := word_any _ A n c k bs w' h (by omega) hcap; rw [insideF_at n k hkn] at this; exact this)
  have hjn : wordF bs k ≤ n := by have := wordF_le bs k (by rw [hs.len]; exact hkn); rw [hs.len] at this; exact this
  have hsl : (wordS bs k).length ≤ n := by have := wordS_len bs k; rw [hs.len] at this; exact this
  have HRF := hide (fun w' (h : St w' r A n c (wordF bs k) refs bs) => ref_any r n c (wordF bs k) A refs bs (wordS bs k) w' h (by omega))
  rw [hrf] at HRF
  have HNB := hide (fun w' => number_any (wordS bs k) w' (by omega) hbad)
  rw [hnum] at HNB
  clear hrf hbad hnum
  generalize wordF bs k = j at *
  generalize wordS bs k = s at *
  have hx1 : (s == [110, 117, 108, 108]) = false := beq_eq_false_iff_ne.2 h1
  have hx2 : (s == [116, 114, 117, 101]) = false := beq_eq_false_iff_ne.2 h2
  have hx3 : (s == [102, 97, 108, 115, 101]) = false := beq_eq_false_iff_ne.2 h3
  generalize numK s = nk at *
  generalize numV s = nv at *
  go_enter Tryz.func123, Tryz.ntmps123
  go_wp2_with fail
  obtain ⟨W0, hW0⟩ : ∃ W0, W0 = w.alloc (.cells #[.int .i64 0, .int .i64 0, .string ⟨#[]⟩, .slice none 0 0, .slice none 0 0, .slice none 0 0] 31) := ⟨_, rfl⟩
  have hs0 : St W0 r A n c k refs bs := by rw [hW0]; exact hs.keep0 (by repeat (first | with_reducible exact Fr.refl _ _ | with_reducible assumption | with_reducible refine Fr.drewN ?_ _ | with_reducible refine Fr.drew ?_ | with_reducible refine Fr.alloc ?_ _ | ((with_reducible refine Fr.setCell ?_ ?_ _) <;> first | (apply Or.inl; simp; done) | (apply Or.inr; simp; done) | (apply Or.inr; simp; omega) | skip) | (refine Fr.then0 ?_ (by with_reducible assumption)) | (refine Fr.trans ?_ (by with_reducible assumption))))
  have hf0 : Fr [r] w W0 := by rw [hW0]; exact (by repeat (first | with_reducible exact Fr.refl _ _ | with_reducible assumption | with_reducible refine Fr.drewN ?_ _ | with_reducible refine Fr.drew ?_ | with_reducible refine Fr.alloc ?_ _ | ((with_reducible refine Fr.setCell ?_ ?_ _) <;> first | (apply Or.inl; simp; done) | (apply Or.inr; simp; done) | (apply Or.inr; simp; omega) | skip) | (refine Fr.then0 ?_ (by with_reducible assumption)) | (refine Fr.trans ?_ (by with_reducible assumption))))
  have hB0 : Blk W0 w.heap.size 31 #[.int .i64 0, .int .i64 0, .string ⟨#[]⟩, .slice none 0 0, .slice none 0 0, .slice none 0 0] := by rw [hW0]; exact Blk.new _ _ _
  rw [← hW0]
  clear hW0
  obtain ⟨q, hq⟩ : ∃ q, q = w.heap.size := ⟨_, rfl⟩
  rw [← hq] at hB0 ⊢
  have HQ : Hid (w.heap.size ≤ q) := hide (by omega)
  clear hq
  have hAq : ∀ ad, A = some ad → 0 < n → ad.block ≠ q := fun ad h1 h2 => by
    have := (hs.blockA ad h1 h2).1
    have := HQ.out
    omega
  have HAQ := hide hAq
  clear hAq
  have nqr : q ≠ r := hB0.ne_ hs0.blk (by decide)
  have nqr' := Ne.symm nqr
  obtain ⟨c0, c1, c2, cz⟩ := hs0.blk.c3
  obtain ⟨b0, b1, b2, b3, b4, b5, bz⟩ := hB0.c6
  have hlt0 := hB0.lt
  have hne0 := Nat.ne_of_lt hlt0
  go_quiet ((go_at_call 16; exact Calls.quiet_of_same ((HWD.out _ (hs0.rb.keep0 (by repeat (first | with_reducible exact Fr.refl _ _ | with_reducible assumption | with_reducible refine Fr.drewN ?_ _ | with_reducible refine Fr.drew ?_ | with_reducible refine Fr.alloc ?_ _ | ((with_reducible refine Fr.setCell ?_ ?_ _) <;> first | (apply Or.inl; simp; done) | (apply Or.inr; simp; done) | (apply Or.inr; simp; omega) | skip) | (refine Fr.then0 ?_ (by with_reducible assumption)) | (refine Fr.trans ?_ (by with_reducible assumption)))))).mono fun e w' h => ⟨h.1, h.2.symm⟩)))
  obtain ⟨m0, hm0⟩ : ∃ m, m = nq := ⟨_, rfl⟩
  have hset := (hs0.keep0 ((Fr.refl _ _).drewN m0)).set_ j hjn
  have hfs : Fr [r] w ((W0.drewN m0).setCell ⟨r, 1, none⟩ (.int .i64 j)) := (hf0.drewN m0).setCell (.inl (by simp)) _
  have hBs : Blk ((W0.drewN m0).setCell ⟨r, 1, none⟩ (.int .i64 j)) q 31 #[.int .i64 0, .int .i64 0, .string ⟨#[]⟩, .slice none 0 0, .slice none 0 0, .slice none 0 0] := (hB0.drewN m0).far (p := ⟨r, 1, none⟩) nqr _
  rw [← hm0]
  clear hm0
  go_wp2_with (first
    | (go_at_call 158; refine (HRF.out _ hset).mono ?_; rintro e w1 ⟨rfl, hf1⟩; have hs1 := hset.keep0 hf1; have hB1 := hBs.keep hf1 (by simp); have hfw := hfs.then0 hf1)
    | (go_at_call 159; refine (HNB.out _).mono ?_; rintro e w2 ⟨rfl, hf2⟩; have hf2' : Fr [] w1 w2 := Fr.trans (by repeat (first | with_reducible exact Fr.refl _ _ | with_reducible assumption | with_reducible refine Fr.drewN ?_ _ | with_reducible refine Fr.drew ?_ | with_reducible refine Fr.alloc ?_ _ | ((with_reducible refine Fr.setCell ?_ ?_ _) <;> first | (apply Or.inl; simp; done) | (apply Or.inr; simp; done) | (apply Or.inr; simp; omega) | skip) | (refine Fr.then0 ?_ (by with_reducible assumption)) | (refine Fr.trans ?_ (by with_reducible assumption)))) hf2; have hs2 := hs1.keep0 hf2'; have hB2 := hB1.keep hf2' (by simp); have hfw2 := hfw.then0 hf2'; obtain ⟨d0, d1, d2, d3, d4, d5, dz⟩ := hB2.c6; have hlt2 := hB2.lt; have hne2 := Nat.ne_of_lt hlt2))
  refine bodyPost_ret (v := .tuple #[pobjV 0 0 [], .string ⟨s.toArray⟩, .bool false]) (by simp [pobjV, results, Tryz.results123, go_sem, b0, b1, b2, b3, b4, b5, hlt0, hne0, d0, d1, d2, d3, d4, d5, hlt2, hne2]) rfl ⟨rfl, ?_, ?_⟩
  · exact (St.obj (hs2) nqr HAQ.out).keep0 ((Fr.refl _ _).alloc _)
  · exact (obj_frame (hfw2) (.inr HQ.out)).alloc _
def WordQ (w : World) (r : Nat) (A : Option Addr) (n c : Nat) (refs : Bool) (bs s : List UInt8) : Option PObj × Nat → Ending → World → Prop
  | (some (.mk kd x t _ _ _), j), e, w' => e = .returned (.tuple #[pobjV kd x t, .string ⟨s.toArray⟩, .bool true]) ∧ St w' r A n c j refs bs ∧ Fr [r] w w'
  | (none, j), e, w' => e = .returned (.tuple #[pobjV 0 0 [], .string ⟨s.toArray⟩, .bool false]) ∧ St w' r A n c j refs bs ∧ Fr [r] w w'
theorem word_obj_any (r n c k : Nat) (A : Option Addr) (refs : Bool) (bs : List UInt8) (w : World) (hs : St w r A n c k refs bs) (hb : wordBad bs refs k = false) :
    Calls Tryz.prog 123 #[.pointer (some ⟨r, 0, none⟩)] w (WordQ w r A n c refs bs (wordS bs k) (wordO bs refs k)) := by
  by_cases h1 : wordS bs k = nullW
  · have e : wordO bs refs k = (some (simpleO 0 0 []), wordF bs k) := by unfold wordO; simp [h1]
    rw [e]
    exact word_null r n c k A refs bs w hs h1
  by_cases h2 : wordS bs k = trueW
  · have e : wordO bs refs k = (some (simpleO 1 1 []), wordF bs k) := by unfold wordO; simp [h2, trueW, nullW]
    rw [e]
    exact word_true r n c k A refs bs w hs h2
  by_cases h3 : wordS bs k = falseW
  · have e : wordO bs refs k = (some (simpleO 1 0 []), wordF bs k) := by unfold wordO; simp [h3, trueW, nullW, falseW]
    rw [e]
    exact word_false r n c k A refs bs w hs h3
  cases hr : refP bs refs (wordF bs k) (wordS bs k) with
  | some p =>
    obtain ⟨m, j2⟩ := p
    have e : wordO bs refs k = (some (simpleO 8 m []), j2) := by unfold wordO; simp only [if_neg h1, if_neg h2, if_neg h3, hr]
    rw [e]
    exact word_ref r n c k A refs bs w hs h1 h2 h3 m j2 hr
  | none =>
    have hbad : (wordS bs k).length ≤ 64 → badW (wordS bs k) = false := fun hl => by
      unfold wordBad at hb
      simpa [hl, h1, h2, h3, hr] using hb
    cases hn : numO (wordS bs k)
    · have e : wordO bs refs k = (none, wordF bs k) := by unfold wordO; simp [if_neg h1, if_neg h2, if_neg h3, hr, hn]
      rw [e]
      exact word_none r n c k A refs bs w hs h1 h2 h3 hr hbad hn
    · have e : wordO bs refs k = (some (simpleO (numK (wordS bs k)) (numV (wordS bs k)) []), wordF bs k) := by unfold wordO; simp [if_neg h1, if_neg h2, if_neg h3, hr, hn]
      rw [e]
      exact word_num r n c k A refs bs w hs h1 h2 h3 hr hbad hn
end Go.Proofs.YtdjhjfpeckndkaaGreatDoor
