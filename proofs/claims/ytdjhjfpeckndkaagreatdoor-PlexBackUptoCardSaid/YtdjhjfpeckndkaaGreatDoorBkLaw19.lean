/- Contracts: law 19's answers, PlexPlaces. -/
import Derived.Test.YtdjhjfpeckndkaaGreatDoorBkObject
import Derived.Lib.SlBytesConst
set_option linter.unusedVariables false
set_option linter.unusedSimpArgs false
namespace Go.Proofs.YtdjhjfpeckndkaaGreatDoor
open Go.RowKit
theorem addr_add0 (g j : Nat) : (⟨g, 0, none⟩ : Addr).add j = ⟨g, j, none⟩ := by
  unfold Addr.add
  split <;> simp_all
theorem RB.new {w : World} {t : TypeId} (fr : Nat × Nat) (bs : List UInt8) {n : Nat} (hn : bs.length = n) : RB (w.alloc (.cells (u8s bs).toArray t fr)) (fun _ => True) (some ⟨w.heap.size, 0, none⟩) n bs := by
  refine ⟨by rw [u8s_length]; omega, fun _ => ⟨_, rfl, trivial, fun j u hu => ?_⟩⟩
  have h := cell_of_row _ w.heap.size j _ t fr (heap_alloc_new w (.cells (u8s bs).toArray t fr))
  rw [addr_add0, h]
  simpa using hu
def refT : List UInt8 := [51, 32, 48, 32, 82]
theorem refT_skip : skipF refT 0 = 0 := by decide +kernel
theorem refT_bad : wordBad refT true 0 = false := by decide +kernel
theorem refT_obj : wordO refT true 0 = (some (simpleO 8 3 []), 5) := by rfl
theorem refT_object (r n c : Nat) (A : Option Addr) (W : World) (hs : St W r A n c 0 true refT) :
    Calls Tryz.prog 68 #[.pointer (some ⟨r, 0, none⟩), .int .i64 0] W fun e w' => e = .returned (pobjV 8 3 []) ∧ St w' r A n c 5 true refT ∧ Fr [r] W w' := by
  have h := object_word r n c 0 A true refT 0 51 W hs refT_bad rfl (by decide) (by decide) (by decide) (by decide)
  rw [refT_obj] at h
  exact h
set_option maxRecDepth 100000 in
set_option maxHeartbeats 1000000 in
theorem answers_any (w : World) : Calls Tryz.prog 15 #[] w fun e w' => e = .returned (.bool true) ∧ Fr [] w w' := by
  have HO := hide (fun (c : Nat) (A : Option Addr) (W : World) (hr : RB W (fun _ => True) A 5 refT) (hc : 5 ≤ c) =>
    Object_ok 5 c 0 A refT 0 W hr hc (by omega) (by omega) (by rw [refT_skip]; omega) 8 3 [] none none none 0 0 0 0 0 0 5 (fun _ _ => True) (fun _ _ _ _ _ _ _ => trivial)
      (fun r W' h => by rw [refT_skip] at h; exact (refT_object r 5 c A W' h).mono fun e w' q => ⟨q.1, q.2.1, q.2.2, trivial⟩))
  have hcv := Lib.run_convert_bytes_const (P := Tryz.prog) w 22 5 #[.int .u8 51, .int .u8 32, .int .u8 48, .int .u8 32, .int .u8 82] 5 5 Tryz.underlying22 Tryz.underlying5
  have hrb : RB (w.alloc (.cells #[.int .u8 51, .int .u8 32, .int .u8 48, .int .u8 32, .int .u8 82] 5 (5, 6))) (fun _ => True) (some ⟨w.heap.size, 0, none⟩) 5 refT := RB.new (t := 5) (5, 6) refT rfl
  have hf : Fr [] w (w.alloc (.cells #[.int .u8 51, .int .u8 32, .int .u8 48, .int .u8 32, .int .u8 82] 5 (5, 6))) := (Fr.refl _ _).alloc _
  go_enter Tryz.func15, Tryz.ntmps15
  go_wp2_with (go_at_call 23; refine (HO.out _ _ _ hrb (by omega)).mono ?_; rintro e w1 ⟨rfl, hf1, _⟩)
  go_ret
  exact ⟨rfl, (hf.trans hf1).alloc _⟩
set_option maxRecDepth 100000 in
set_option maxHeartbeats 1000000 in
theorem PlexPlaces_any (A : Option Addr) (n c : Nat) (at_ : Int) (bs : List UInt8) (w : World) (hr : RB w (fun _ => True) A n bs) (hnc : n ≤ c) :
    Calls Tryz.prog 3 #[.slice A n c, .int .i64 at_] w fun e w' => e = .returned (.bool true) ∧ Fr [] w w' := by
  have HA := hide answers_any
  by_cases hbig : (10000 : Int) < (n : Int)
  · have hd : decide ((10000 : Int) < (n : Int)) = true := by simpa using hbig
    go_enter Tryz.func3, Tryz.ntmps3
    go_wp2_with (go_at_call 15; refine (HA.out _).mono ?_; rintro e w1 ⟨rfl, hf1⟩)
    go_ret
    exact ⟨rfl, hf1⟩
  · have hd : decide ((10000 : Int) < (n : Int)) = false := by simp at hbig ⊢; exact hbig
    have hn : n ≤ 10000 := by omega
    have HWD := hide (fun w' (h : RB w' (fun _ => True) A n bs) => word_any _ A n c at_ bs w' h (by omega) hnc)
    have HSK := hide (fun w' (h : RB w' (fun _ => True) A n bs) => skip_any _ A n c at_ bs w' h (by omega))
    have hin : insideF n at_ ≤ n := insideF_le n at_
    have HRW := hide (fun w' (h : RB w' (fun _ => True) A n bs) => rword_any _ A n c (insideF n at_) bs w' h (by omega) hin)
    have HRS := hide (fun w' (h : RB w' (fun _ => True) A n bs) => rskip_any _ A n c (insideF n at_) bs w' h (by omega) hin)
    have hge := wordF_ge bs (insideF n at_)
    have hle := wordF_le bs (insideF n at_) (by rw [hr.len]; exact hin)
    rw [hr.len] at hle
    have hin2 : insideF n at_ = (if at_ < 0 ∨ (n : Int) < at_ then n else at_.toNat) := rfl
    obtain ⟨A', hsl, hrb'⟩ := slice_rb Tryz.underlying22 size_u8 hr hge hle hnc
    have HRB' := hide hrb'
    have hws : ((bs.take (wordF bs (insideF n at_))).drop (insideF n at_)) = wordS bs (insideF n at_) := rfl
    rw [hws] at HRB'
    have hcv : ∀ w', Fr [] w w' → (convert 22 9 (.slice A' (wordF bs (insideF n at_) - insideF n at_) (c - insideF n at_))).run Tryz.prog w' = .ok (.string ⟨(wordS bs (insideF n at_)).toArray⟩) w' := fun w' hf =>
      conv_rb Tryz.underlying22 Tryz.underlying5 Tryz.underlying9 (HRB'.out.keep0 hf)
    clear hws
    generalize wordF bs (insideF n at_) = j at *
    generalize wordS bs (insideF n at_) = s at *
    generalize skipF bs (insideF n at_) = a at *
    have HCV := hide hcv
    clear hcv hrb'
    have hslk := hsl
    clear hsl
    by_cases h1 : at_ < 0
    · have hk : insideF n at_ = n := by rw [hin2, if_pos (.inl h1)]
      rw [hk] at hin hge hslk HCV HRW HRS
      have hd1 : decide (at_ < 0) = true := by simpa using h1
      clear hk hin2 hge hle
      go_enter Tryz.func3, Tryz.ntmps3
      go_wp2_with (first
        | (go_at_call 15; refine (HA.out _).mono ?_; rintro e w1 ⟨rfl, hf1⟩; have hcv1 := HCV.out w1 hf1)
        | (go_at_call 16; refine (HWD.out _ hr).mono ?_; rintro e w2 ⟨rfl, rfl⟩)
        | (go_at_call 18; refine (HSK.out _ (hr.keep0 hf1)).mono ?_; rintro e w2 ⟨rfl, rfl⟩)
        | (go_at_call 17; refine (HRW.out _ hr).mono ?_; rintro e w2 ⟨rfl, rfl⟩)
        | (go_at_call 19; refine (HRS.out _ (hr.keep0 hf1)).mono ?_; rintro e w2 ⟨rfl, rfl⟩))
      go_ret
      exact ⟨rfl, hf1⟩
    by_cases h2 : (n : Int) < at_
    · have hk : insideF n at_ = n := by rw [hin2, if_pos (.inr h2)]
      rw [hk] at hin hge hslk HCV HRW HRS
      have hd1 : decide (at_ < 0) = false := by simpa using h1
      have hd2 : decide ((n : Int) < at_) = true := by simpa using h2
      clear hk hin2 hge hle
      go_enter Tryz.func3, Tryz.ntmps3
      go_wp2_with (first
        | (go_at_call 15; refine (HA.out _).mono ?_; rintro e w1 ⟨rfl, hf1⟩; have hcv1 := HCV.out w1 hf1)
        | (go_at_call 16; refine (HWD.out _ hr).mono ?_; rintro e w2 ⟨rfl, rfl⟩)
        | (go_at_call 18; refine (HSK.out _ (hr.keep0 hf1)).mono ?_; rintro e w2 ⟨rfl, rfl⟩)
        | (go_at_call 17; refine (HRW.out _ hr).mono ?_; rintro e w2 ⟨rfl, rfl⟩)
        | (go_at_call 19; refine (HRS.out _ (hr.keep0 hf1)).mono ?_; rintro e w2 ⟨rfl, rfl⟩))
      go_ret
      exact ⟨rfl, hf1⟩
    · obtain ⟨k, rfl⟩ := Int.eq_ofNat_of_zero_le (show 0 ≤ at_ by omega)
      have hk : insideF n (k : Int) = k := insideF_at n k (by omega)
      rw [hk] at hin hge hslk HCV HRW HRS
      have hd1 : decide ((k : Int) < 0) = false := by simp
      have hd2 : decide ((n : Int) < (k : Int)) = false := by simp; omega
      clear hk hin2 hge hle
      go_enter Tryz.func3, Tryz.ntmps3
      go_wp2_with (first
        | (go_at_call 15; refine (HA.out _).mono ?_; rintro e w1 ⟨rfl, hf1⟩; have hcv1 := HCV.out w1 hf1)
        | (go_at_call 16; refine (HWD.out _ hr).mono ?_; rintro e w2 ⟨rfl, rfl⟩)
        | (go_at_call 18; refine (HSK.out _ (hr.keep0 hf1)).mono ?_; rintro e w2 ⟨rfl, rfl⟩)
        | (go_at_call 17; refine (HRW.out _ hr).mono ?_; rintro e w2 ⟨rfl, rfl⟩)
        | (go_at_call 19; refine (HRS.out _ (hr.keep0 hf1)).mono ?_; rintro e w2 ⟨rfl, rfl⟩))
      go_ret
      exact ⟨rfl, hf1⟩
end Go.Proofs.YtdjhjfpeckndkaaGreatDoor
