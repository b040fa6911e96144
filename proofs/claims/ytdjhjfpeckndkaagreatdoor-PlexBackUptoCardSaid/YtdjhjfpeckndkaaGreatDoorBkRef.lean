/- Contract: the reader's ref. -/
import Derived.Test.YtdjhjfpeckndkaaGreatDoorBkTextC
set_option linter.unusedVariables false
set_option linter.unusedSimpArgs false
namespace Go.Proofs.YtdjhjfpeckndkaaGreatDoor
open Go.RowKit
theorem pwholeN_eq {l : List UInt8} {m : Int} (h : pwholeB l m = true) : pwholeN l = numD 0 l := by
  unfold pwholeB at h
  simp only [Bool.and_eq_true, decide_eq_true_eq] at h
  unfold pwholeN
  rw [if_pos ⟨h.1.1.1, h.1.1.2, h.1.2⟩]
theorem insideF_at (n k : Nat) (h : k ≤ n) : insideF n (k : Int) = k := by unfold insideF; rw [if_neg (by omega)]; simp
def RefQ (w : World) (r : Nat) (A : Option Addr) (n c : Nat) (refs : Bool) (bs : List UInt8) : Option (Nat × Nat) → Ending → World → Prop
  | some (m, j), e, w' => e = .returned (.tuple #[pobjV 8 m [], .bool true]) ∧ St w' r A n c j refs bs ∧ Fr [r] w w'
  | none, e, w' => e = .returned (.tuple #[pobjV 0 0 [], .bool false]) ∧ Fr [] w w'
theorem refP_no1 {bs : List UInt8} {refs : Bool} {k : Nat} {l : List UInt8} (h : (refs && pwholeB l 4096 && decide (1 ≤ numD 0 l)) = false) : refP bs refs k l = none := by
  unfold refP; simp only [h, Bool.false_and, Bool.false_eq_true, if_false]
theorem refP_no2 {bs : List UInt8} {refs : Bool} {k : Nat} {l : List UInt8} (h : ¬ wordS bs (skipF bs k) = [48]) : refP bs refs k l = none := by
  unfold refP; simp [h]
theorem refP_no3 {bs : List UInt8} {refs : Bool} {k : Nat} {l : List UInt8} (h : ¬ wordS bs (skipF bs (wordF bs (skipF bs k))) = [82]) : refP bs refs k l = none := by
  unfold refP; simp [h]
theorem refP_yes {bs : List UInt8} {refs : Bool} {k : Nat} {l : List UInt8} (h : (refs && pwholeB l 4096 && decide (1 ≤ numD 0 l)) = true) (h1 : wordS bs (skipF bs k) = [48]) (h2 : wordS bs (skipF bs (wordF bs (skipF bs k))) = [82]) :
    refP bs refs k l = some (numD 0 l, wordF bs (skipF bs (wordF bs (skipF bs k)))) := by
  unfold refP; simp only [h, h1, h2, decide_true, Bool.and_self, if_true]
set_option maxRecDepth 100000 in
set_option maxHeartbeats 1000000 in
theorem ref_n1 (r n c k : Nat) (A : Option Addr) (bs l : List UInt8) (w : World) (hs : St w r A n c k false bs) (hl : l.length ≤ 4611686018427387903)  :
    Calls Tryz.prog 158 #[.pointer (some ⟨r, 0, none⟩), .string ⟨l.toArray⟩] w fun e w' => e = .returned (.tuple #[pobjV 0 0 [], .bool false]) ∧ Fr [] w w' := by
  have hkn := hs.le
  have hsm := hs.small
  have hcap := hs.cap
  have HWH := hide (fun w' => pwhole_any l 4096 w' hl)
  have HSK := hide (fun w' (q : Nat) (hq : q ≤ n) (h : RB w' (fun g => g ≠ r) A n bs) => by have := skip_any _ A n c q bs w' h (by omega); rw [insideF_at n q hq] at this; exact this)
  have HWD := hide (fun w' (q : Nat) (hq : q ≤ n) (h : RB w' (fun g => g ≠ r) A n bs) => by have := word_any _ A n c q bs w' h (by omega) hcap; rw [insideF_at n q hq] at this; exact this)
  go_enter Tryz.func158, Tryz.ntmps158
  go_wp2_with fail
  obtain ⟨W0, hW0⟩ : ∃ W0, W0 = w.alloc (.cells #[.int .i64 0, .int .i64 0, .string ⟨#[]⟩, .slice none 0 0, .slice none 0 0, .slice none 0 0] 31) := ⟨_, rfl⟩
  have hs0 : St W0 r A n c k false bs := by rw [hW0]; exact hs.keep0 (by repeat (first | with_reducible exact Fr.refl _ _ | with_reducible assumption | with_reducible refine Fr.drewN ?_ _ | with_reducible refine Fr.drew ?_ | with_reducible refine Fr.alloc ?_ _ | ((with_reducible refine Fr.setCell ?_ ?_ _) <;> first | (apply Or.inl; simp; done) | (apply Or.inr; simp; done) | (apply Or.inr; simp; omega) | skip) | (refine Fr.then0 ?_ (by with_reducible assumption)) | (refine Fr.trans ?_ (by with_reducible assumption))))
  have hf0 : Fr [] w W0 := by rw [hW0]; exact (by repeat (first | with_reducible exact Fr.refl _ _ | with_reducible assumption | with_reducible refine Fr.drewN ?_ _ | with_reducible refine Fr.drew ?_ | with_reducible refine Fr.alloc ?_ _ | ((with_reducible refine Fr.setCell ?_ ?_ _) <;> first | (apply Or.inl; simp; done) | (apply Or.inr; simp; done) | (apply Or.inr; simp; omega) | skip) | (refine Fr.then0 ?_ (by with_reducible assumption)) | (refine Fr.trans ?_ (by with_reducible assumption))))
  have hB0 : Blk W0 w.heap.size 31 #[.int .i64 0, .int .i64 0, .string ⟨#[]⟩, .slice none 0 0, .slice none 0 0, .slice none 0 0] := by rw [hW0]; exact Blk.new _ _ _
  rw [← hW0]
  clear hW0
  obtain ⟨q, hq⟩ : ∃ q, q = w.heap.size := ⟨_, rfl⟩
  rw [← hq] at hB0 ⊢
  have HQ : Hid (w.heap.size ≤ q) := hide (by omega)
  clear hq
  go_wp2_with (go_at_call 185; refine (HWH.out _).mono ?_; rintro e w1 ⟨rfl, hf1⟩; have hs1 := hs0.keep0 hf1; have hB1 := hB0.keep hf1 (by simp); have hfw := hf0.then0 hf1; obtain ⟨c0, c1, c2, cz⟩ := hs1.blk.c3; obtain ⟨b0, b1, b2, b3, b4, b5, bz⟩ := hB1.c6; have hlt := hB1.lt; have hne := Nat.ne_of_lt hlt)
  refine bodyPost_ret (v := .tuple #[pobjV 0 0 [], .bool false]) (by simp [pobjV, results, Tryz.results158, go_sem, c0, c1, c2, b0, b1, b2, b3, b4, b5, hlt, hne]) rfl ⟨rfl, obj_frame (hfw) (.inr HQ.out)⟩
set_option maxRecDepth 100000 in
set_option maxHeartbeats 1000000 in
theorem ref_n2 (r n c k : Nat) (A : Option Addr) (bs l : List UInt8) (w : World) (hs : St w r A n c k true bs) (hl : l.length ≤ 4611686018427387903)  (hb : pwholeB l 4096 = false) :
    Calls Tryz.prog 158 #[.pointer (some ⟨r, 0, none⟩), .string ⟨l.toArray⟩] w fun e w' => e = .returned (.tuple #[pobjV 0 0 [], .bool false]) ∧ Fr [] w w' := by
  have hkn := hs.le
  have hsm := hs.small
  have hcap := hs.cap
  have HWH := hide (fun w' => pwhole_any l 4096 w' hl)
  have HSK := hide (fun w' (q : Nat) (hq : q ≤ n) (h : RB w' (fun g => g ≠ r) A n bs) => by have := skip_any _ A n c q bs w' h (by omega); rw [insideF_at n q hq] at this; exact this)
  have HWD := hide (fun w' (q : Nat) (hq : q ≤ n) (h : RB w' (fun g => g ≠ r) A n bs) => by have := word_any _ A n c q bs w' h (by omega) hcap; rw [insideF_at n q hq] at this; exact this)
  rw [hb] at HWH
  go_enter Tryz.func158, Tryz.ntmps158
  go_wp2_with fail
  obtain ⟨W0, hW0⟩ : ∃ W0, W0 = w.alloc (.cells #[.int .i64 0, .int .i64 0, .string ⟨#[]⟩, .slice none 0 0, .slice none 0 0, .slice none 0 0] 31) := ⟨_, rfl⟩
  have hs0 : St W0 r A n c k true bs := by rw [hW0]; exact hs.keep0 (by repeat (first | with_reducible exact Fr.refl _ _ | with_reducible assumption | with_reducible refine Fr.drewN ?_ _ | with_reducible refine Fr.drew ?_ | with_reducible refine Fr.alloc ?_ _ | ((with_reducible refine Fr.setCell ?_ ?_ _) <;> first | (apply Or.inl; simp; done) | (apply Or.inr; simp; done) | (apply Or.inr; simp; omega) | skip) | (refine Fr.then0 ?_ (by with_reducible assumption)) | (refine Fr.trans ?_ (by with_reducible assumption))))
  have hf0 : Fr [] w W0 := by rw [hW0]; exact (by repeat (first | with_reducible exact Fr.refl _ _ | with_reducible assumption | with_reducible refine Fr.drewN ?_ _ | with_reducible refine Fr.drew ?_ | with_reducible refine Fr.alloc ?_ _ | ((with_reducible refine Fr.setCell ?_ ?_ _) <;> first | (apply Or.inl; simp; done) | (apply Or.inr; simp; done) | (apply Or.inr; simp; omega) | skip) | (refine Fr.then0 ?_ (by with_reducible assumption)) | (refine Fr.trans ?_ (by with_reducible assumption))))
  have hB0 : Blk W0 w.heap.size 31 #[.int .i64 0, .int .i64 0, .string ⟨#[]⟩, .slice none 0 0, .slice none 0 0, .slice none 0 0] := by rw [hW0]; exact Blk.new _ _ _
  rw [← hW0]
  clear hW0
  obtain ⟨q, hq⟩ : ∃ q, q = w.heap.size := ⟨_, rfl⟩
  rw [← hq] at hB0 ⊢
  have HQ : Hid (w.heap.size ≤ q) := hide (by omega)
  clear hq
  go_wp2_with (go_at_call 185; refine (HWH.out _).mono ?_; rintro e w1 ⟨rfl, hf1⟩; have hs1 := hs0.keep0 hf1; have hB1 := hB0.keep hf1 (by simp); have hfw := hf0.then0 hf1; obtain ⟨c0, c1, c2, cz⟩ := hs1.blk.c3; obtain ⟨b0, b1, b2, b3, b4, b5, bz⟩ := hB1.c6; have hlt := hB1.lt; have hne := Nat.ne_of_lt hlt)
  refine bodyPost_ret (v := .tuple #[pobjV 0 0 [], .bool false]) (by simp [pobjV, results, Tryz.results158, go_sem, c0, c1, c2, b0, b1, b2, b3, b4, b5, hlt, hne]) rfl ⟨rfl, obj_frame (hfw) (.inr HQ.out)⟩
set_option maxRecDepth 100000 in
set_option maxHeartbeats 1000000 in
theorem ref_n3 (r n c k : Nat) (A : Option Addr) (bs l : List UInt8) (w : World) (hs : St w r A n c k true bs) (hl : l.length ≤ 4611686018427387903)  (hb : pwholeB l 4096 = true) (hv : pwholeN l < 1) :
    Calls Tryz.prog 158 #[.pointer (some ⟨r, 0, none⟩), .string ⟨l.toArray⟩] w fun e w' => e = .returned (.tuple #[pobjV 0 0 [], .bool false]) ∧ Fr [] w w' := by
  have hkn := hs.le
  have hsm := hs.small
  have hcap := hs.cap
  have HWH := hide (fun w' => pwhole_any l 4096 w' hl)
  have HSK := hide (fun w' (q : Nat) (hq : q ≤ n) (h : RB w' (fun g => g ≠ r) A n bs) => by have := skip_any _ A n c q bs w' h (by omega); rw [insideF_at n q hq] at this; exact this)
  have HWD := hide (fun w' (q : Nat) (hq : q ≤ n) (h : RB w' (fun g => g ≠ r) A n bs) => by have := word_any _ A n c q bs w' h (by omega) hcap; rw [insideF_at n q hq] at this; exact this)
  rw [hb] at HWH
  generalize pwholeN l = v at *
  have hd : decide ((v : Int) < 1) = true := by simp; omega
  go_enter Tryz.func158, Tryz.ntmps158
  go_wp2_with fail
  obtain ⟨W0, hW0⟩ : ∃ W0, W0 = w.alloc (.cells #[.int .i64 0, .int .i64 0, .string ⟨#[]⟩, .slice none 0 0, .slice none 0 0, .slice none 0 0] 31) := ⟨_, rfl⟩
  have hs0 : St W0 r A n c k true bs := by rw [hW0]; exact hs.keep0 (by repeat (first | with_reducible exact Fr.refl _ _ | with_reducible assumption | with_reducible refine Fr.drewN ?_ _ | with_reducible refine Fr.drew ?_ | with_reducible refine Fr.alloc ?_ _ | ((with_reducible refine Fr.setCell ?_ ?_ _) <;> first | (apply Or.inl; simp; done) | (apply Or.inr; simp; done) | (apply Or.inr; simp; omega) | skip) | (refine Fr.then0 ?_ (by with_reducible assumption)) | (refine Fr.trans ?_ (by with_reducible assumption))))
  have hf0 : Fr [] w W0 := by rw [hW0]; exact (by repeat (first | with_reducible exact Fr.refl _ _ | with_reducible assumption | with_reducible refine Fr.drewN ?_ _ | with_reducible refine Fr.drew ?_ | with_reducible refine Fr.alloc ?_ _ | ((with_reducible refine Fr.setCell ?_ ?_ _) <;> first | (apply Or.inl; simp; done) | (apply Or.inr; simp; done) | (apply Or.inr; simp; omega) | skip) | (refine Fr.then0 ?_ (by with_reducible assumption)) | (refine Fr.trans ?_ (by with_reducible assumption))))
  have hB0 : Blk W0 w.heap.size 31 #[.int .i64 0, .int .i64 0, .string ⟨#[]⟩, .slice none 0 0, .slice none 0 0, .slice none 0 0] := by rw [hW0]; exact Blk.new _ _ _
  rw [← hW0]
  clear hW0
  obtain ⟨q, hq⟩ : ∃ q, q = w.heap.size := ⟨_, rfl⟩
  rw [← hq] at hB0 ⊢
  have HQ : Hid (w.heap.size ≤ q) := hide (by omega)
  clear hq
  go_wp2_with (go_at_call 185; refine (HWH.out _).mono ?_; rintro e w1 ⟨rfl, hf1⟩; have hs1 := hs0.keep0 hf1; have hB1 := hB0.keep hf1 (by simp); have hfw := hf0.then0 hf1; obtain ⟨c0, c1, c2, cz⟩ := hs1.blk.c3; obtain ⟨b0, b1, b2, b3, b4, b5, bz⟩ := hB1.c6; have hlt := hB1.lt; have hne := Nat.ne_of_lt hlt)
  refine bodyPost_ret (v := .tuple #[pobjV 0 0 [], .bool false]) (by simp [pobjV, results, Tryz.results158, go_sem, c0, c1, c2, b0, b1, b2, b3, b4, b5, hlt, hne]) rfl ⟨rfl, obj_frame (hfw) (.inr HQ.out)⟩
set_option maxRecDepth 100000 in
set_option maxHeartbeats 1000000 in
theorem ref_n4 (r n c k : Nat) (A : Option Addr) (bs l : List UInt8) (w : World) (hs : St w r A n c k true bs) (hl : l.length ≤ 4611686018427387903)  (hb : pwholeB l 4096 = true) (hv : ¬ pwholeN l < 1) (h1 : ¬ wordS bs (skipF bs k) = [48]) :
    Calls Tryz.prog 158 #[.pointer (some ⟨r, 0, none⟩), .string ⟨l.toArray⟩] w fun e w' => e = .returned (.tuple #[pobjV 0 0 [], .bool false]) ∧ Fr [] w w' := by
  have hkn := hs.le
  have hsm := hs.small
  have hcap := hs.cap
  have HWH := hide (fun w' => pwhole_any l 4096 w' hl)
  have HSK := hide (fun w' (q : Nat) (hq : q ≤ n) (h : RB w' (fun g => g ≠ r) A n bs) => by have := skip_any _ A n c q bs w' h (by omega); rw [insideF_at n q hq] at this; exact this)
  have HWD := hide (fun w' (q : Nat) (hq : q ≤ n) (h : RB w' (fun g => g ≠ r) A n bs) => by have := word_any _ A n c q bs w' h (by omega) hcap; rw [insideF_at n q hq] at this; exact this)
  rw [hb] at HWH
  generalize pwholeN l = v at *
  have hd : decide ((v : Int) < 1) = false := by simp; omega
  have ha1 : skipF bs k ≤ n := by have := skipF_le bs k (by rw [hs.len]; exact hkn); rw [hs.len] at this; exact this
  have hj1 : wordF bs (skipF bs k) ≤ n := by have := wordF_le bs (skipF bs k) (by rw [hs.len]; exact ha1); rw [hs.len] at this; exact this
  have ha2 : skipF bs (wordF bs (skipF bs k)) ≤ n := by have := skipF_le bs (wordF bs (skipF bs k)) (by rw [hs.len]; exact hj1); rw [hs.len] at this; exact this
  have hj2 : wordF bs (skipF bs (wordF bs (skipF bs k))) ≤ n := by have := wordF_le bs (skipF bs (wordF bs (skipF bs k))) (by rw [hs.len]; exact ha2); rw [hs.len] at this; exact this
  have HSK1 := hide (fun w' (h : RB w' (fun g => g ≠ r) A n bs) => HSK.out w' k hkn h)
  have HWD1 := hide (fun w' (h : RB w' (fun g => g ≠ r) A n bs) => HWD.out w' (skipF bs k) ha1 h)
  have HSK2 := hide (fun w' (h : RB w' (fun g => g ≠ r) A n bs) => HSK.out w' (wordF bs (skipF bs k)) hj1 h)
  have HWD2 := hide (fun w' (h : RB w' (fun g => g ≠ r) A n bs) => HWD.out w' (skipF bs (wordF bs (skipF bs k))) ha2 h)
  clear HSK HWD
  generalize wordF bs (skipF bs (wordF bs (skipF bs k))) = j2 at *
  generalize wordS bs (skipF bs (wordF bs (skipF bs k))) = s2 at *
  generalize skipF bs (wordF bs (skipF bs k)) = a2 at *
  generalize wordF bs (skipF bs k) = j1 at *
  generalize wordS bs (skipF bs k) = s1 at *
  generalize skipF bs k = a1 at *
  have hx : (s1 == [48]) = false := beq_eq_false_iff_ne.2 h1
  go_enter Tryz.func158, Tryz.ntmps158
  go_wp2_with fail
  obtain ⟨W0, hW0⟩ : ∃ W0, W0 = w.alloc (.cells #[.int .i64 0, .int .i64 0, .string ⟨#[]⟩, .slice none 0 0, .slice none 0 0, .slice none 0 0] 31) := ⟨_, rfl⟩
  have hs0 : St W0 r A n c k true bs := by rw [hW0]; exact hs.keep0 (by repeat (first | with_reducible exact Fr.refl _ _ | with_reducible assumption | with_reducible refine Fr.drewN ?_ _ | with_reducible refine Fr.drew ?_ | with_reducible refine Fr.alloc ?_ _ | ((with_reducible refine Fr.setCell ?_ ?_ _) <;> first | (apply Or.inl; simp; done) | (apply Or.inr; simp; done) | (apply Or.inr; simp; omega) | skip) | (refine Fr.then0 ?_ (by with_reducible assumption)) | (refine Fr.trans ?_ (by with_reducible assumption))))
  have hf0 : Fr [] w W0 := by rw [hW0]; exact (by repeat (first | with_reducible exact Fr.refl _ _ | with_reducible assumption | with_reducible refine Fr.drewN ?_ _ | with_reducible refine Fr.drew ?_ | with_reducible refine Fr.alloc ?_ _ | ((with_reducible refine Fr.setCell ?_ ?_ _) <;> first | (apply Or.inl; simp; done) | (apply Or.inr; simp; done) | (apply Or.inr; simp; omega) | skip) | (refine Fr.then0 ?_ (by with_reducible assumption)) | (refine Fr.trans ?_ (by with_reducible assumption))))
  have hB0 : Blk W0 w.heap.size 31 #[.int .i64 0, .int .i64 0, .string ⟨#[]⟩, .slice none 0 0, .slice none 0 0, .slice none 0 0] := by rw [hW0]; exact Blk.new _ _ _
  rw [← hW0]
  clear hW0
  obtain ⟨q, hq⟩ : ∃ q, q = w.heap.size := ⟨_, rfl⟩
  rw [← hq] at hB0 ⊢
  have HQ : Hid (w.heap.size ≤ q) := hide (by omega)
  clear hq
  go_wp2_with (go_at_call 185; refine (HWH.out _).mono ?_; rintro e w1 ⟨rfl, hf1⟩; have hs1 := hs0.keep0 hf1; have hB1 := hB0.keep hf1 (by simp); have hfw := hf0.then0 hf1; obtain ⟨c0, c1, c2, cz⟩ := hs1.blk.c3; obtain ⟨b0, b1, b2, b3, b4, b5, bz⟩ := hB1.c6; have hlt := hB1.lt; have hne := Nat.ne_of_lt hlt)
  go_quiet ((first | (go_at_call 18; exact Calls.quiet_of_same ((HSK1.out _ (hs1.rb.keep0 (by repeat (first | with_reducible exact Fr.refl _ _ | with_reducible assumption | with_reducible refine Fr.drewN ?_ _ | with_reducible refine Fr.drew ?_ | with_reducible refine Fr.alloc ?_ _ | ((with_reducible refine Fr.setCell ?_ ?_ _) <;> first | (apply Or.inl; simp; done) | (apply Or.inr; simp; done) | (apply Or.inr; simp; omega) | skip) | (refine Fr.then0 ?_ (by with_reducible assumption)) | (refine Fr.trans ?_ (by with_reducible assumption)))))).mono fun e w' h => ⟨h.1, h.2.symm⟩)) | (go_at_call 16; exact Calls.quiet_of_same ((HWD1.out _ (hs1.rb.keep0 (by repeat (first | with_reducible exact Fr.refl _ _ | with_reducible assumption | with_reducible refine Fr.drewN ?_ _ | with_reducible refine Fr.drew ?_ | with_reducible refine Fr.alloc ?_ _ | ((with_reducible refine Fr.setCell ?_ ?_ _) <;> first | (apply Or.inl; simp; done) | (apply Or.inr; simp; done) | (apply Or.inr; simp; omega) | skip) | (refine Fr.then0 ?_ (by with_reducible assumption)) | (refine Fr.trans ?_ (by with_reducible assumption)))))).mono fun e w' h => ⟨h.1, h.2.symm⟩))))
  go_wp2
  refine bodyPost_ret (v := .tuple #[pobjV 0 0 [], .bool false]) (by simp [pobjV, results, Tryz.results158, go_sem, c0, c1, c2, b0, b1, b2, b3, b4, b5, hlt, hne]) rfl ⟨rfl, obj_frame (hfw.drewN _) (.inr HQ.out)⟩
set_option maxRecDepth 100000 in
set_option maxHeartbeats 1000000 in
theorem ref_n5 (r n c k : Nat) (A : Option Addr) (bs l : List UInt8) (w : World) (hs : St w r A n c k true bs) (hl : l.length ≤ 4611686018427387903)  (hb : pwholeB l 4096 = true) (hv : ¬ pwholeN l < 1) (h1 : wordS bs (skipF bs k) = [48]) (h2 : ¬ wordS bs (skipF bs (wordF bs (skipF bs k))) = [82]) :
    Calls Tryz.prog 158 #[.pointer (some ⟨r, 0, none⟩), .string ⟨l.toArray⟩] w fun e w' => e = .returned (.tuple #[pobjV 0 0 [], .bool false]) ∧ Fr [] w w' := by
  have hkn := hs.le
  have hsm := hs.small
  have hcap := hs.cap
  have HWH := hide (fun w' => pwhole_any l 4096 w' hl)
  have HSK := hide (fun w' (q : Nat) (hq : q ≤ n) (h : RB w' (fun g => g ≠ r) A n bs) => by have := skip_any _ A n c q bs w' h (by omega); rw [insideF_at n q hq] at this; exact this)
  have HWD := hide (fun w' (q : Nat) (hq : q ≤ n) (h : RB w' (fun g => g ≠ r) A n bs) => by have := word_any _ A n c q bs w' h (by omega) hcap; rw [insideF_at n q hq] at this; exact this)
  rw [hb] at HWH
  generalize pwholeN l = v at *
  have hd : decide ((v : Int) < 1) = false := by simp; omega
  have ha1 : skipF bs k ≤ n := by have := skipF_le bs k (by rw [hs.len]; exact hkn); rw [hs.len] at this; exact this
  have hj1 : wordF bs (skipF bs k) ≤ n := by have := wordF_le bs (skipF bs k) (by rw [hs.len]; exact ha1); rw [hs.len] at this; exact this
  have ha2 : skipF bs (wordF bs (skipF bs k)) ≤ n := by have := skipF_le bs (wordF bs (skipF bs k)) (by rw [hs.len]; exact hj1); rw [hs.len] at this; exact this
  have hj2 : wordF bs (skipF bs (wordF bs (skipF bs k))) ≤ n := by have := wordF_le bs (skipF bs (wordF bs (skipF bs k))) (by rw [hs.len]; exact ha2); rw [hs.len] at this; exact this
  have HSK1 := hide (fun w' (h : RB w' (fun g => g ≠ r) A n bs) => HSK.out w' k hkn h)
  have HWD1 := hide (fun w' (h : RB w' (fun g => g ≠ r) A n bs) => HWD.out w' (skipF bs k) ha1 h)
  have HSK2 := hide (fun w' (h : RB w' (fun g => g ≠ r) A n bs) => HSK.out w' (wordF bs (skipF bs k)) hj1 h)
  have HWD2 := hide (fun w' (h : RB w' (fun g => g ≠ r) A n bs) => HWD.out w' (skipF bs (wordF bs (skipF bs k))) ha2 h)
  clear HSK HWD
  generalize wordF bs (skipF bs (wordF bs (skipF bs k))) = j2 at *
  generalize wordS bs (skipF bs (wordF bs (skipF bs k))) = s2 at *
  generalize skipF bs (wordF bs (skipF bs k)) = a2 at *
  generalize wordF bs (skipF bs k) = j1 at *
  generalize wordS bs (skipF bs k) = s1 at *
  generalize skipF bs k = a1 at *
  subst h1
  have hx : (s2 == [82]) = false := beq_eq_false_iff_ne.2 h2
  go_enter Tryz.func158, Tryz.ntmps158
  go_wp2_with fail
  obtain ⟨W0, hW0⟩ : ∃ W0, W0 = w.alloc (.cells #[.int .i64 0, .int .i64 0, .string ⟨#[]⟩, .slice none 0 0, .slice none 0 0, .slice none 0 0] 31) := ⟨_, rfl⟩
  have hs0 : St W0 r A n c k true bs := by rw [hW0]; exact hs.keep0 (by repeat (first | with_reducible exact Fr.refl _ _ | with_reducible assumption | with_reducible refine Fr.drewN ?_ _ | with_reducible refine Fr.drew ?_ | with_reducible refine Fr.alloc ?_ _ | ((with_reducible refine Fr.setCell ?_ ?_ _) <;> first | (apply Or.inl; simp; done) | (apply Or.inr; simp; done) | (apply Or.inr; simp; omega) | skip) | (refine Fr.then0 ?_ (by with_reducible assumption)) | (refine Fr.trans ?_ (by with_reducible assumption))))
  have hf0 : Fr [] w W0 := by rw [hW0]; exact (by repeat (first | with_reducible exact Fr.refl _ _ | with_reducible assumption | with_reducible refine Fr.drewN ?_ _ | with_reducible refine Fr.drew ?_ | with_reducible refine Fr.alloc ?_ _ | ((with_reducible refine Fr.setCell ?_ ?_ _) <;> first | (apply Or.inl; simp; done) | (apply Or.inr; simp; done) | (apply Or.inr; simp; omega) | skip) | (refine Fr.then0 ?_ (by with_reducible assumption)) | (refine Fr.trans ?_ (by with_reducible assumption))))
  have hB0 : Blk W0 w.heap.size 31 #[.int .i64 0, .int .i64 0, .string ⟨#[]⟩, .slice none 0 0, .slice none 0 0, .slice none 0 0] := by rw [hW0]; exact Blk.new _ _ _
  rw [← hW0]
  clear hW0
  obtain ⟨q, hq⟩ : ∃ q, q = w.heap.size := ⟨_, rfl⟩
  rw [← hq] at hB0 ⊢
  have HQ : Hid (w.heap.size ≤ q) := hide (by omega)
  clear hq
  go_wp2_with (go_at_call 185; refine (HWH.out _).mono ?_; rintro e w1 ⟨rfl, hf1⟩; have hs1 := hs0.keep0 hf1; have hB1 := hB0.keep hf1 (by simp); have hfw := hf0.then0 hf1; obtain ⟨c0, c1, c2, cz⟩ := hs1.blk.c3; obtain ⟨b0, b1, b2, b3, b4, b5, bz⟩ := hB1.c6; have hlt := hB1.lt; have hne := Nat.ne_of_lt hlt)
  go_quiet ((first | (go_at_call 18; exact Calls.quiet_of_same ((HSK1.out _ (hs1.rb.keep0 (by repeat (first | with_reducible exact Fr.refl _ _ | with_reducible assumption | with_reducible refine Fr.drewN ?_ _ | with_reducible refine Fr.drew ?_ | with_reducible refine Fr.alloc ?_ _ | ((with_reducible refine Fr.setCell ?_ ?_ _) <;> first | (apply Or.inl; simp; done) | (apply Or.inr; simp; done) | (apply Or.inr; simp; omega) | skip) | (refine Fr.then0 ?_ (by with_reducible assumption)) | (refine Fr.trans ?_ (by with_reducible assumption)))))).mono fun e w' h => ⟨h.1, h.2.symm⟩)) | (go_at_call 16; exact Calls.quiet_of_same ((HWD1.out _ (hs1.rb.keep0 (by repeat (first | with_reducible exact Fr.refl _ _ | with_reducible assumption | with_reducible refine Fr.drewN ?_ _ | with_reducible refine Fr.drew ?_ | with_reducible refine Fr.alloc ?_ _ | ((with_reducible refine Fr.setCell ?_ ?_ _) <;> first | (apply Or.inl; simp; done) | (apply Or.inr; simp; done) | (apply Or.inr; simp; omega) | skip) | (refine Fr.then0 ?_ (by with_reducible assumption)) | (refine Fr.trans ?_ (by with_reducible assumption)))))).mono fun e w' h => ⟨h.1, h.2.symm⟩))))
  obtain ⟨W1, hW1⟩ : ∃ W1, W1 = w1.drewN nq := ⟨_, rfl⟩
  have hs2 : St W1 r A n c k true bs := by rw [hW1]; exact hs1.keep0 (by repeat (first | with_reducible exact Fr.refl _ _ | with_reducible assumption | with_reducible refine Fr.drewN ?_ _ | with_reducible refine Fr.drew ?_ | with_reducible refine Fr.alloc ?_ _ | ((with_reducible refine Fr.setCell ?_ ?_ _) <;> first | (apply Or.inl; simp; done) | (apply Or.inr; simp; done) | (apply Or.inr; simp; omega) | skip) | (refine Fr.then0 ?_ (by with_reducible assumption)) | (refine Fr.trans ?_ (by with_reducible assumption))))
  have hB2 := hB1.drewN nq
  have hfw2 := hfw.drewN nq
  rw [← hW1] at hB2 hfw2 ⊢
  clear hW1 c0 c1 c2 cz b0 b1 b2 b3 b4 b5 bz hlt hne
  obtain ⟨c0, c1, c2, cz⟩ := hs2.blk.c3
  obtain ⟨b0, b1, b2, b3, b4, b5, bz⟩ := hB2.c6
  have hlt := hB2.lt
  have hne := Nat.ne_of_lt hlt
  go_wp2
  go_quiet ((first | (go_at_call 18; exact Calls.quiet_of_same ((HSK2.out _ (hs2.rb.keep0 (by repeat (first | with_reducible exact Fr.refl _ _ | with_reducible assumption | with_reducible refine Fr.drewN ?_ _ | with_reducible refine Fr.drew ?_ | with_reducible refine Fr.alloc ?_ _ | ((with_reducible refine Fr.setCell ?_ ?_ _) <;> first | (apply Or.inl; simp; done) | (apply Or.inr; simp; done) | (apply Or.inr; simp; omega) | skip) | (refine Fr.then0 ?_ (by with_reducible assumption)) | (refine Fr.trans ?_ (by with_reducible assumption)))))).mono fun e w' h => ⟨h.1, h.2.symm⟩)) | (go_at_call 16; exact Calls.quiet_of_same ((HWD2.out _ (hs2.rb.keep0 (by repeat (first | with_reducible exact Fr.refl _ _ | with_reducible assumption | with_reducible refine Fr.drewN ?_ _ | with_reducible refine Fr.drew ?_ | with_reducible refine Fr.alloc ?_ _ | ((with_reducible refine Fr.setCell ?_ ?_ _) <;> first | (apply Or.inl; simp; done) | (apply Or.inr; simp; done) | (apply Or.inr; simp; omega) | skip) | (refine Fr.then0 ?_ (by with_reducible assumption)) | (refine Fr.trans ?_ (by with_reducible assumption)))))).mono fun e w' h => ⟨h.1, h.2.symm⟩))))
  go_wp2
  refine bodyPost_ret (v := .tuple #[pobjV 0 0 [], .bool false]) (by simp [pobjV, results, Tryz.results158, go_sem, c0, c1, c2, b0, b1, b2, b3, b4, b5, hlt, hne]) rfl ⟨rfl, obj_frame (hfw2.drewN _) (.inr HQ.out)⟩
set_option maxRecDepth 100000 in
set_option maxHeartbeats 1000000 in
theorem ref_yes (r n c k : Nat) (A : Option Addr) (bs l : List UInt8) (w : World) (hs : St w r A n c k true bs) (hl : l.length ≤ 4611686018427387903)  (hb : pwholeB l 4096 = true) (hv : ¬ pwholeN l < 1) (h1 : wordS bs (skipF bs k) = [48]) (h2 : wordS bs (skipF bs (wordF bs (skipF bs k))) = [82]) :
    Calls Tryz.prog 158 #[.pointer (some ⟨r, 0, none⟩), .string ⟨l.toArray⟩] w fun e w' => e = .returned (.tuple #[pobjV 8 (pwholeN l) [], .bool true]) ∧ St w' r A n c (wordF bs (skipF bs (wordF bs (skipF bs k)))) true bs ∧ Fr [r] w w' := by
  have hkn := hs.le
  have hsm := hs.small
  have hcap := hs.cap
  have HWH := hide (fun w' => pwhole_any l 4096 w' hl)
  have HSK := hide (fun w' (q : Nat) (hq : q ≤ n) (h : RB w' (fun g => g ≠ r) A n bs) => by have := skip_any _ A n c q bs w' h (by omega); rw [insideF_at n q hq] at this; exact this)
  have HWD := hide (fun w' (q : Nat) (hq : q ≤ n) (h : RB w' (fun g => g ≠ r) A n bs) => by have := word_any _ A n c q bs w' h (by omega) hcap; rw [insideF_at n q hq] at this; exact this)
  rw [hb] at HWH
  generalize pwholeN l = v at *
  have hd : decide ((v : Int) < 1) = false := by simp; omega
  have ha1 : skipF bs k ≤ n := by have := skipF_le bs k (by rw [hs.len]; exact hkn); rw [hs.len] at this; exact this
  have hj1 : wordF bs (skipF bs k) ≤ n := by have := wordF_le bs (skipF bs k) (by rw [hs.len]; exact ha1); rw [hs.len] at this; exact this
  have ha2 : skipF bs (wordF bs (skipF bs k)) ≤ n := by have := skipF_le bs (wordF bs (skipF bs k)) (by rw [hs.len]; exact hj1); rw [hs.len] at this; exact this
  have hj2 : wordF bs (skipF bs (wordF bs (skipF bs k))) ≤ n := by have := wordF_le bs (skipF bs (wordF bs (skipF bs k))) (by rw [hs.len]; exact ha2); rw [hs.len] at this; exact this
  have HSK1 := hide (fun w' (h : RB w' (fun g => g ≠ r) A n bs) => HSK.out w' k hkn h)
  have HWD1 := hide (fun w' (h : RB w' (fun g => g ≠ r) A n bs) => HWD.out w' (skipF bs k) ha1 h)
  have HSK2 := hide (fun w' (h : RB w' (fun g => g ≠ r) A n bs) => HSK.out w' (wordF bs (skipF bs k)) hj1 h)
  have HWD2 := hide (fun w' (h : RB w' (fun g => g ≠ r) A n bs) => HWD.out w' (skipF bs (wordF bs (skipF bs k))) ha2 h)
  clear HSK HWD
  generalize wordF bs (skipF bs (wordF bs (skipF bs k))) = j2 at *
  generalize wordS bs (skipF bs (wordF bs (skipF bs k))) = s2 at *
  generalize skipF bs (wordF bs (skipF bs k)) = a2 at *
  generalize wordF bs (skipF bs k) = j1 at *
  generalize wordS bs (skipF bs k) = s1 at *
  generalize skipF bs k = a1 at *
  subst h1
  subst h2
  go_enter Tryz.func158, Tryz.ntmps158
  go_wp2_with fail
  obtain ⟨W0, hW0⟩ : ∃ W0, W0 = w.alloc (.cells #[.int .i64 0, .int .i64 0, .string ⟨#[]⟩, .slice none 0 0, .slice none 0 0, .slice none 0 0] 31) := ⟨_, rfl⟩
  have hs0 : St W0 r A n c k true bs := by rw [hW0]; exact hs.keep0 (by repeat (first | with_reducible exact Fr.refl _ _ | with_reducible assumption | with_reducible refine Fr.drewN ?_ _ | with_reducible refine Fr.drew ?_ | with_reducible refine Fr.alloc ?_ _ | ((with_reducible refine Fr.setCell ?_ ?_ _) <;> first | (apply Or.inl; simp; done) | (apply Or.inr; simp; done) | (apply Or.inr; simp; omega) | skip) | (refine Fr.then0 ?_ (by with_reducible assumption)) | (refine Fr.trans ?_ (by with_reducible assumption))))
  have hf0 : Fr [] w W0 := by rw [hW0]; exact (by repeat (first | with_reducible exact Fr.refl _ _ | with_reducible assumption | with_reducible refine Fr.drewN ?_ _ | with_reducible refine Fr.drew ?_ | with_reducible refine Fr.alloc ?_ _ | ((with_reducible refine Fr.setCell ?_ ?_ _) <;> first | (apply Or.inl; simp; done) | (apply Or.inr; simp; done) | (apply Or.inr; simp; omega) | skip) | (refine Fr.then0 ?_ (by with_reducible assumption)) | (refine Fr.trans ?_ (by with_reducible assumption))))
  have hB0 : Blk W0 w.heap.size 31 #[.int .i64 0, .int .i64 0, .string ⟨#[]⟩, .slice none 0 0, .slice none 0 0, .slice none 0 0] := by rw [hW0]; exact Blk.new _ _ _
  rw [← hW0]
  clear hW0
  obtain ⟨q, hq⟩ : ∃ q, q = w.heap.size := ⟨_, rfl⟩
  rw [← hq] at hB0 ⊢
  have HQ : Hid (w.heap.size ≤ q) := hide (by omega)
  clear hq
  go_wp2_with (go_at_call 185; refine (HWH.out _).mono ?_; rintro e w1 ⟨rfl, hf1⟩; have hs1 := hs0.keep0 hf1; have hB1 := hB0.keep hf1 (by simp); have hfw := hf0.then0 hf1; obtain ⟨c0, c1, c2, cz⟩ := hs1.blk.c3; obtain ⟨b0, b1, b2, b3, b4, b5, bz⟩ := hB1.c6; have hlt := hB1.lt; have hne := Nat.ne_of_lt hlt)
  go_quiet ((first | (go_at_call 18; exact Calls.quiet_of_same ((HSK1.out _ (hs1.rb.keep0 (by repeat (first | with_reducible exact Fr.refl _ _ | with_reducible assumption | with_reducible refine Fr.drewN ?_ _ | with_reducible refine Fr.drew ?_ | with_reducible refine Fr.alloc ?_ _ | ((with_reducible refine Fr.setCell ?_ ?_ _) <;> first | (apply Or.inl; simp; done) | (apply Or.inr; simp; done) | (apply Or.inr; simp; omega) | skip) | (refine Fr.then0 ?_ (by with_reducible assumption)) | (refine Fr.trans ?_ (by with_reducible assumption)))))).mono fun e w' h => ⟨h.1, h.2.symm⟩)) | (go_at_call 16; exact Calls.quiet_of_same ((HWD1.out _ (hs1.rb.keep0 (by repeat (first | with_reducible exact Fr.refl _ _ | with_reducible assumption | with_reducible refine Fr.drewN ?_ _ | with_reducible refine Fr.drew ?_ | with_reducible refine Fr.alloc ?_ _ | ((with_reducible refine Fr.setCell ?_ ?_ _) <;> first | (apply Or.inl; simp; done) | (apply Or.inr; simp; done) | (apply Or.inr; simp; omega) | skip) | (refine Fr.then0 ?_ (by with_reducible assumption)) | (refine Fr.trans ?_ (by with_reducible assumption)))))).mono fun e w' h => ⟨h.1, h.2.symm⟩))))
  obtain ⟨W1, hW1⟩ : ∃ W1, W1 = w1.drewN nq := ⟨_, rfl⟩
  have hs2 : St W1 r A n c k true bs := by rw [hW1]; exact hs1.keep0 (by repeat (first | with_reducible exact Fr.refl _ _ | with_reducible assumption | with_reducible refine Fr.drewN ?_ _ | with_reducible refine Fr.drew ?_ | with_reducible refine Fr.alloc ?_ _ | ((with_reducible refine Fr.setCell ?_ ?_ _) <;> first | (apply Or.inl; simp; done) | (apply Or.inr; simp; done) | (apply Or.inr; simp; omega) | skip) | (refine Fr.then0 ?_ (by with_reducible assumption)) | (refine Fr.trans ?_ (by with_reducible assumption))))
  have hB2 := hB1.drewN nq
  have hfw2 := hfw.drewN nq
  rw [← hW1] at hB2 hfw2 ⊢
  clear hW1 c0 c1 c2 cz b0 b1 b2 b3 b4 b5 bz hlt hne
  obtain ⟨c0, c1, c2, cz⟩ := hs2.blk.c3
  obtain ⟨b0, b1, b2, b3, b4, b5, bz⟩ := hB2.c6
  have hlt := hB2.lt
  have hne := Nat.ne_of_lt hlt
  go_wp2
  go_quiet ((first | (go_at_call 18; exact Calls.quiet_of_same ((HSK2.out _ (hs2.rb.keep0 (by repeat (first | with_reducible exact Fr.refl _ _ | with_reducible assumption | with_reducible refine Fr.drewN ?_ _ | with_reducible refine Fr.drew ?_ | with_reducible refine Fr.alloc ?_ _ | ((with_reducible refine Fr.setCell ?_ ?_ _) <;> first | (apply Or.inl; simp; done) | (apply Or.inr; simp; done) | (apply Or.inr; simp; omega) | skip) | (refine Fr.then0 ?_ (by with_reducible assumption)) | (refine Fr.trans ?_ (by with_reducible assumption)))))).mono fun e w' h => ⟨h.1, h.2.symm⟩)) | (go_at_call 16; exact Calls.quiet_of_same ((HWD2.out _ (hs2.rb.keep0 (by repeat (first | with_reducible exact Fr.refl _ _ | with_reducible assumption | with_reducible refine Fr.drewN ?_ _ | with_reducible refine Fr.drew ?_ | with_reducible refine Fr.alloc ?_ _ | ((with_reducible refine Fr.setCell ?_ ?_ _) <;> first | (apply Or.inl; simp; done) | (apply Or.inr; simp; done) | (apply Or.inr; simp; omega) | skip) | (refine Fr.then0 ?_ (by with_reducible assumption)) | (refine Fr.trans ?_ (by with_reducible assumption)))))).mono fun e w' h => ⟨h.1, h.2.symm⟩))))
  have nqr : q ≠ r := hB2.ne_ hs2.blk (by decide)
  have nqr' := Ne.symm nqr
  go_wp2_with fail
  refine bodyPost_ret (v := .tuple #[pobjV 8 v [], .bool true]) (by simp [pobjV, results, Tryz.results158, go_sem, c0, c1, c2, b0, b1, b2, b3, b4, b5, hlt, hne]) rfl ⟨rfl, ?_, ?_⟩
  · exact ((hs2.keep0 ((Fr.refl _ _).drewN _)).set_ j2 hj2).obj nqr (fun ad h1 h2 => by
        have := (hs.blockA ad h1 h2).1
        have := HQ.out
        omega)
  · exact obj_frame (((hfw2.mono (fun _ h => by cases h)).drewN _).setCell (p := ⟨r, 1, none⟩) (.inl (by simp)) _) (.inr HQ.out)
theorem ref_any (r n c k : Nat) (A : Option Addr) (refs : Bool) (bs l : List UInt8) (w : World) (hs : St w r A n c k refs bs) (hl : l.length ≤ 4611686018427387903) :
    Calls Tryz.prog 158 #[.pointer (some ⟨r, 0, none⟩), .string ⟨l.toArray⟩] w (RefQ w r A n c refs bs (refP bs refs k l)) := by
  cases refs
  · rw [refP_no1 (by simp)]
    exact ref_n1 r n c k A bs l w hs hl
  · cases hb : pwholeB l 4096
    · rw [refP_no1 (by simp [hb])]
      exact ref_n2 r n c k A bs l w hs hl hb
    · by_cases hv : pwholeN l < 1
      · rw [refP_no1 (by rw [← pwholeN_eq hb]; simp [hb]; omega)]
        exact ref_n3 r n c k A bs l w hs hl hb hv
      · by_cases h1 : wordS bs (skipF bs k) = [48]
        · by_cases h2 : wordS bs (skipF bs (wordF bs (skipF bs k))) = [82]
          · rw [refP_yes (by rw [← pwholeN_eq hb]; simp [hb]; omega) h1 h2, ← pwholeN_eq hb]
            exact ref_yes r n c k A bs l w hs hl hb hv h1 h2
          · rw [refP_no3 h2]
            exact ref_n5 r n c k A bs l w hs hl hb hv h1 h2
        · rw [refP_no2 h1]
          exact ref_n4 r n c k A bs l w hs hl hb hv h1
end Go.Proofs.YtdjhjfpeckndkaaGreatDoor
