/- Contracts: package paint's clips. -/
import Derived.Test.YtndfdekcdhlgoaaDoorScPaE
set_option linter.unusedVariables false
set_option linter.unusedSimpArgs false
namespace Go.Proofs.YtndfdekcdhlgoaaDoor
open Go.RowKit
set_option maxRecDepth 100000 in
theorem pclip1_any {w0 : World} {N : Nat → Prop} {A : Option Addr} {n c : Nat} {d : ClipD} {eo : Bool} (hl : LR w0 N 7 SegC A n d.path) (w : World) (hf : Fr [] w0 w) :
    Calls Tryd.prog 56 #[.agg #[.slice A n c, .bool eo]] w fun e w' => e = .returned (.bool (!clipB d)) ∧ Fr [] w w' := by
  have HI := hide (fun W (h : Fr [] w W) => pSound_any (c := c) hl W (hf.trans h))
  have hc : clipB d = (!decide (n = 0) && pathB d.path) := by unfold clipB; rw [← hl.len]; congr 1; simp
  rw [hc]
  generalize pathB d.path = R at *
  clear hl hc
  by_cases h0 : n = 0
  · have e0 : ((n : Int) == 0) = true := by simp; omega
    rw [decide_eq_true h0]
    clear h0
    go_enter Tryd.func56, Tryd.ntmps56
    go_wp2
    go_ret
    exact ⟨rfl, (by repeat (first | with_reducible exact Fr.refl _ _ | with_reducible assumption | with_reducible refine Fr.drewN ?_ _ | with_reducible refine Fr.drew ?_ | with_reducible refine Fr.alloc ?_ _ | ((with_reducible refine Fr.setCell ?_ ?_ _) <;> first | (apply Or.inl; simp; done) | (apply Or.inr; simp; done) | (apply Or.inr; simp; omega) | skip) | (refine Fr.then0 ?_ (by with_reducible assumption)) | (refine Fr.trans ?_ (by with_reducible assumption))))⟩
  · have e0 : ((n : Int) == 0) = false := by simp; omega
    rw [decide_eq_false h0]
    clear h0
    go_enter Tryd.func56, Tryd.ntmps56
    go_wp2_with (go_at_call 44; refine (HI.out _ (by repeat (first | with_reducible exact Fr.refl _ _ | with_reducible assumption | with_reducible refine Fr.drewN ?_ _ | with_reducible refine Fr.drew ?_ | with_reducible refine Fr.alloc ?_ _ | ((with_reducible refine Fr.setCell ?_ ?_ _) <;> first | (apply Or.inl; simp; done) | (apply Or.inr; simp; done) | (apply Or.inr; simp; omega) | skip) | (refine Fr.then0 ?_ (by with_reducible assumption)) | (refine Fr.trans ?_ (by with_reducible assumption))))).mono ?_; rintro e w5 ⟨rfl, hf5⟩)
    go_ret
    exact ⟨by cases R <;> rfl, (by repeat (first | with_reducible exact Fr.refl _ _ | with_reducible assumption | with_reducible refine Fr.drewN ?_ _ | with_reducible refine Fr.drew ?_ | with_reducible refine Fr.alloc ?_ _ | ((with_reducible refine Fr.setCell ?_ ?_ _) <;> first | (apply Or.inl; simp; done) | (apply Or.inr; simp; done) | (apply Or.inr; simp; omega) | skip) | (refine Fr.then0 ?_ (by with_reducible assumption)) | (refine Fr.trans ?_ (by with_reducible assumption))))⟩
theorem elx_clip {w : World} {N : Nat → Prop} {A : Option Addr} {n : Nat} {l : List ClipD} (hl : LR w N 2 (ClipC w N) A n l) : l.length = n := hl.len
set_option maxRecDepth 100000 in
set_option maxHeartbeats 2000000 in
theorem idx_clip {w0 : World} {N : Nat → Prop} {A : Option Addr} {n c : Nat} {l : List ClipD} (hl : LR w0 N 2 (ClipC w0 N) A n l) (hn : n ≤ 4611686018427387904) (w : World) (hf : Fr [] w0 w) :
    Calls Tryd.prog 70 #[.slice A n c, .func (.func 56) #[] #[]] w (SomeI (l.any (fun d : ClipD => !clipB d)) w) := by
  obtain ⟨R, hR⟩ : ∃ R, R = l.any (fun d : ClipD => !clipB d) := ⟨_, rfl⟩
  rw [← hR]
  have HR := hide hR
  have HEL := hide (fun (W : World) (h : Fr [] w0 W) (k : Nat) (hk : k < n) => clip_elem (hl.keep h (by simp) (fun _ _ h0 => h0.keep h (by simp))) hk)
  have HLN := hide hl.len
  clear hl hR
  go_enter Tryd.func70, Tryd.ntmps70
  go_wp2
  go_loopw [8] (fun i w2 => ∃ k : Nat, k ≤ n ∧ i = .int .i64 k ∧ Fr [] w w2 ∧ Hid ((l.take k).any (fun d : ClipD => !clipB d) = false)) (fun i _ => n - (intOf i).toNat)
  case atStart => exact ⟨0, Nat.zero_le _, rfl, Fr.refl _ _, hide (by simp)⟩
  case round =>
    obtain ⟨k, hk, rfl, hfr, hall⟩ := hrel
    by_cases hlt : k < n
    · have hdk : decide ((k : Int) < (n : Int)) = true := by simp; omega
      obtain ⟨ad, d, Ap, np, cp, rfl, hlk, hq1, hq2, hq3, a0, a1⟩ := HEL.out wr (hf.trans hfr) k hlt
      have HS1 := hide (show l.take (k + 1) = l.take k ++ [d] by rw [List.take_add_one, hlk]; rfl)
      have HMEM := hide (List.mem_of_getElem? hlk)
      have HC := hide (fun W (h : Fr [] wr W) => pclip1_any (c := cp) (eo := d.eo) hq3 W h)
      clear hlk
      cases hp : ((fun d : ClipD => !clipB d)) d
      · have HA : Hid ((l.take (k + 1)).any (fun d : ClipD => !clipB d) = false) := hide (by rw [HS1.out, List.any_append, hall.out]; simpa using hp)
        have HP : Hid (((fun d : ClipD => !clipB d)) d = false) := hide hp
        clear hp
        go_wp2_with (go_at_call 56; refine (HC.out _ (by repeat (first | with_reducible exact Fr.refl _ _ | with_reducible assumption | with_reducible refine Fr.drewN ?_ _ | with_reducible refine Fr.drew ?_ | with_reducible refine Fr.alloc ?_ _ | ((with_reducible refine Fr.setCell ?_ ?_ _) <;> first | (apply Or.inl; simp; done) | (apply Or.inr; simp; done) | (apply Or.inr; simp; omega) | skip) | (refine Fr.then0 ?_ (by with_reducible assumption)) | (refine Fr.trans ?_ (by with_reducible assumption))))).mono ?_; rw [show _ = false from HP.out]; rintro e w5 ⟨rfl, hf5⟩)
        exact ⟨⟨k + 1, by omega, by go_num, hfr.trans (by repeat (first | with_reducible exact Fr.refl _ _ | with_reducible assumption | with_reducible refine Fr.drewN ?_ _ | with_reducible refine Fr.drew ?_ | with_reducible refine Fr.alloc ?_ _ | ((with_reducible refine Fr.setCell ?_ ?_ _) <;> first | (apply Or.inl; simp; done) | (apply Or.inr; simp; done) | (apply Or.inr; simp; omega) | skip) | (refine Fr.then0 ?_ (by with_reducible assumption)) | (refine Fr.trans ?_ (by with_reducible assumption)))), HA⟩, by simp [intOf]; omega⟩
      · have HX : Hid (R = true) := hide (by rw [HR.out, List.any_eq_true]; exact ⟨d, HMEM.out, hp⟩)
        have HP : Hid (((fun d : ClipD => !clipB d)) d = true) := hide hp
        clear hp
        go_wp2_with (go_at_call 56; refine (HC.out _ (by repeat (first | with_reducible exact Fr.refl _ _ | with_reducible assumption | with_reducible refine Fr.drewN ?_ _ | with_reducible refine Fr.drew ?_ | with_reducible refine Fr.alloc ?_ _ | ((with_reducible refine Fr.setCell ?_ ?_ _) <;> first | (apply Or.inl; simp; done) | (apply Or.inr; simp; done) | (apply Or.inr; simp; omega) | skip) | (refine Fr.then0 ?_ (by with_reducible assumption)) | (refine Fr.trans ?_ (by with_reducible assumption))))).mono ?_; rw [show _ = true from HP.out]; rintro e w5 ⟨rfl, hf5⟩)
        go_ret
        exact ⟨k, rfl, by rw [HX.out]; simp, hfr.trans (by repeat (first | with_reducible exact Fr.refl _ _ | with_reducible assumption | with_reducible refine Fr.drewN ?_ _ | with_reducible refine Fr.drew ?_ | with_reducible refine Fr.alloc ?_ _ | ((with_reducible refine Fr.setCell ?_ ?_ _) <;> first | (apply Or.inl; simp; done) | (apply Or.inr; simp; done) | (apply Or.inr; simp; omega) | skip) | (refine Fr.then0 ?_ (by with_reducible assumption)) | (refine Fr.trans ?_ (by with_reducible assumption))))⟩
    · have hdk : decide ((k : Int) < (n : Int)) = false := by simp; omega
      have HX : Hid (R = false) := hide (by have := hall.out; rw [List.take_of_length_le (by rw [HLN.out]; omega)] at this; rw [HR.out, this])
      go_wp2
      go_ret
      exact ⟨-1, rfl, by rw [HX.out]; rfl, hfr⟩
set_option maxRecDepth 100000 in
theorem cf_clip {w0 : World} {N : Nat → Prop} {A : Option Addr} {n c : Nat} {l : List ClipD} (hl : LR w0 N 2 (ClipC w0 N) A n l) (hn : n ≤ 4611686018427387904) (w : World) (hf : Fr [] w0 w) :
    Calls Tryd.prog 55 #[.slice A n c, .func (.func 56) #[] #[]] w fun e w' => e = .returned (.bool (l.any (fun d : ClipD => !clipB d))) ∧ Fr [] w w' := by
  have HI := hide (fun W (h : Fr [] w W) => idx_clip (c := c) hl hn W (hf.trans h))
  generalize l.any (fun d : ClipD => !clipB d) = R at *
  clear hl
  go_enter Tryd.func55, Tryd.ntmps55
  go_wp2_with (go_at_call 70; refine (HI.out _ (by repeat (first | with_reducible exact Fr.refl _ _ | with_reducible assumption | with_reducible refine Fr.drewN ?_ _ | with_reducible refine Fr.drew ?_ | with_reducible refine Fr.alloc ?_ _ | ((with_reducible refine Fr.setCell ?_ ?_ _) <;> first | (apply Or.inl; simp; done) | (apply Or.inr; simp; done) | (apply Or.inr; simp; omega) | skip) | (refine Fr.then0 ?_ (by with_reducible assumption)) | (refine Fr.trans ?_ (by with_reducible assumption))))).mono ?_; rintro e w5 ⟨i, rfl, hi, hf5⟩; have HB := hide hi; clear hi)
  go_ret
  exact ⟨ret_bool HB.out, (by repeat (first | with_reducible exact Fr.refl _ _ | with_reducible assumption | with_reducible refine Fr.drewN ?_ _ | with_reducible refine Fr.drew ?_ | with_reducible refine Fr.alloc ?_ _ | ((with_reducible refine Fr.setCell ?_ ?_ _) <;> first | (apply Or.inl; simp; done) | (apply Or.inr; simp; done) | (apply Or.inr; simp; omega) | skip) | (refine Fr.then0 ?_ (by with_reducible assumption)) | (refine Fr.trans ?_ (by with_reducible assumption))))⟩
theorem clips_any_all (l : List ClipD) : clipsB l = (decide (l.length ≤ 16) && !(l.any fun d => !clipB d)) := by
  unfold clipsB
  congr 1
  rw [List.all_eq_not_any_not]
set_option maxRecDepth 100000 in
theorem pclips_any {w0 : World} {N : Nat → Prop} {A : Option Addr} {n c : Nat} {l : List ClipD} (hl : LR w0 N 2 (ClipC w0 N) A n l) (w : World) (hf : Fr [] w0 w) :
    Calls Tryd.prog 41 #[.slice A n c] w fun e w' => e = .returned (.bool (clipsB l)) ∧ Fr [] w w' := by
  rw [clips_any_all, hl.len]
  by_cases h0 : n ≤ 16
  · have e0 : decide ((n : Int) ≤ 16) = true := by simp; omega
    have HI := hide (fun W (h : Fr [] w W) => cf_clip (c := c) hl (by omega) W (hf.trans h))
    generalize l.any (fun d => !clipB d) = R at *
    rw [decide_eq_true h0]
    clear hl h0
    go_enter Tryd.func41, Tryd.ntmps41
    go_wp2_with (go_at_call 55; refine (HI.out _ (by repeat (first | with_reducible exact Fr.refl _ _ | with_reducible assumption | with_reducible refine Fr.drewN ?_ _ | with_reducible refine Fr.drew ?_ | with_reducible refine Fr.alloc ?_ _ | ((with_reducible refine Fr.setCell ?_ ?_ _) <;> first | (apply Or.inl; simp; done) | (apply Or.inr; simp; done) | (apply Or.inr; simp; omega) | skip) | (refine Fr.then0 ?_ (by with_reducible assumption)) | (refine Fr.trans ?_ (by with_reducible assumption))))).mono ?_; rintro e w5 ⟨rfl, hf5⟩)
    go_ret
    exact ⟨rfl, (by repeat (first | with_reducible exact Fr.refl _ _ | with_reducible assumption | with_reducible refine Fr.drewN ?_ _ | with_reducible refine Fr.drew ?_ | with_reducible refine Fr.alloc ?_ _ | ((with_reducible refine Fr.setCell ?_ ?_ _) <;> first | (apply Or.inl; simp; done) | (apply Or.inr; simp; done) | (apply Or.inr; simp; omega) | skip) | (refine Fr.then0 ?_ (by with_reducible assumption)) | (refine Fr.trans ?_ (by with_reducible assumption))))⟩
  · have e0 : decide ((n : Int) ≤ 16) = false := by simp; omega
    rw [decide_eq_false h0]
    clear hl h0
    go_enter Tryd.func41, Tryd.ntmps41
    go_wp2
    go_ret
    exact ⟨rfl, (by repeat (first | with_reducible exact Fr.refl _ _ | with_reducible assumption | with_reducible refine Fr.drewN ?_ _ | with_reducible refine Fr.drew ?_ | with_reducible refine Fr.alloc ?_ _ | ((with_reducible refine Fr.setCell ?_ ?_ _) <;> first | (apply Or.inl; simp; done) | (apply Or.inr; simp; done) | (apply Or.inr; simp; omega) | skip) | (refine Fr.then0 ?_ (by with_reducible assumption)) | (refine Fr.trans ?_ (by with_reducible assumption))))⟩
end Go.Proofs.YtndfdekcdhlgoaaDoor
