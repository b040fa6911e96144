/- Contracts: the reference's SoundItem. -/
/- Contracts: the reference's SoundPage. -/
/- Contracts: the law's sound. -/
import Derived.Test.YtndfdekcdhlgoaaDoorScR12G
import Derived.Test.YtndfdekcdhlgoaaDoorScR12H
import Derived.Test.YtndfdekcdhlgoaaDoorScR12I
import Derived.Test.YtndfdekcdhlgoaaDoorScR12A
set_option linter.unusedVariables false
set_option linter.unusedSimpArgs false
namespace Go.Proofs.YtndfdekcdhlgoaaDoor
open Go.RowKit
set_option maxRecDepth 100000 in
set_option maxHeartbeats 8000000 in
theorem soundItem_any {w0 : World} {N : Nat → Prop} {kd sp p0 p1 p2 p3 pw pc pj pm pf fo m0 m1 m2 m3 m4 m5 : Int} {path : List SegD} {clips : List ClipD} {dash : List Int} {bytes : List UInt8} {Ap Ac Ad Ab : Option Addr} {np cp nc cc nd cd nb cb : Nat}
    (hs : ItemS w0 N ⟨kd, path, ⟨sp, p0, p1, p2, p3⟩, clips, ⟨pw, pc, pj, pm, dash, pf⟩, fo, ⟨m0, m1, m2, m3, m4, m5⟩, bytes⟩ Ap np cp Ac nc cc Ad nd cd Ab nb cb) (w : World) (hf : Fr [] w0 w) :
    Calls Tryd.prog 35 #[.agg #[.int .i64 kd, .slice Ap np cp, .int .i64 sp, .int .i64 p0, .int .i64 p1, .int .i64 p2, .int .i64 p3, .slice Ac nc cc, .int .i64 pw, .int .i64 pc, .int .i64 pj, .int .i64 pm, .slice Ad nd cd, .int .i64 pf, .int .i64 fo, .int .i64 m0, .int .i64 m1, .int .i64 m2, .int .i64 m3, .int .i64 m4, .int .i64 m5, .slice Ab nb cb]] w fun e w' => e = .returned (.bool (itemB ⟨kd, path, ⟨sp, p0, p1, p2, p3⟩, clips, ⟨pw, pc, pj, pm, dash, pf⟩, fo, ⟨m0, m1, m2, m3, m4, m5⟩, bytes⟩)) ∧ Fr [] w w' := by
  by_cases hsp : sp = 1 ∨ sp = 3 ∨ sp = 4
  · rcases hsp with h1 | h1 | h1
    · subst h1; exact soundItem_1 hs w hf
    · subst h1; exact soundItem_3 hs w hf
    · subst h1; exact soundItem_4 hs w hf
  · have HF : Hid (itemB ⟨kd, path, ⟨sp, p0, p1, p2, p3⟩, clips, ⟨pw, pc, pj, pm, dash, pf⟩, fo, ⟨m0, m1, m2, m3, m4, m5⟩, bytes⟩ = false) := hide (item_col (colB_space _ hsp))
    have d1 : (sp != 1) = true := by simp; omega
    have d3 : (sp != 3) = true := by simp; omega
    have d4 : (sp != 4) = true := by simp; omega
    rw [HF.out]
    clear hs HF hsp
    go_enter Tryd.func35, Tryd.ntmps35
    go_wp2
    go_ret
    exact ⟨rfl, (by repeat (first | with_reducible exact Fr.refl _ _ | with_reducible assumption | with_reducible refine Fr.drewN ?_ _ | with_reducible refine Fr.drew ?_ | with_reducible refine Fr.alloc ?_ _ | ((with_reducible refine Fr.setCell ?_ ?_ _) <;> first | (apply Or.inl; simp; done) | (apply Or.inr; simp; done) | (apply Or.inr; simp; omega) | skip) | (refine Fr.then0 ?_ (by with_reducible assumption)) | (refine Fr.trans ?_ (by with_reducible assumption))))⟩
end Go.Proofs.YtndfdekcdhlgoaaDoor
namespace Go.Proofs.YtndfdekcdhlgoaaDoor
open Go.RowKit
theorem sound_item {w0 : World} {N : Nat → Prop} {d : ItemD} {Ap Ac Ad Ab : Option Addr} {np cp nc cc nd cd nb cb : Nat} (hs : ItemS w0 N d Ap np cp Ac nc cc Ad nd cd Ab nb cb) (w : World) (hf : Fr [] w0 w) :
    Calls Tryd.prog 35 #[.agg #[.int .i64 d.kind, .slice Ap np cp, .int .i64 d.col.space, .int .i64 d.col.p0, .int .i64 d.col.p1, .int .i64 d.col.p2, .int .i64 d.col.p3, .slice Ac nc cc, .int .i64 d.pen.width, .int .i64 d.pen.cap, .int .i64 d.pen.join, .int .i64 d.pen.miter, .slice Ad nd cd, .int .i64 d.pen.phase, .int .i64 d.font, .int .i64 d.mat.m0, .int .i64 d.mat.m1, .int .i64 d.mat.m2, .int .i64 d.mat.m3, .int .i64 d.mat.m4, .int .i64 d.mat.m5, .slice Ab nb cb]] w fun e w' => e = .returned (.bool (itemB d)) ∧ Fr [] w w' :=
  soundItem_any (kd := d.kind) (sp := d.col.space) (p0 := d.col.p0) (p1 := d.col.p1) (p2 := d.col.p2) (p3 := d.col.p3) (pw := d.pen.width) (pc := d.pen.cap) (pj := d.pen.join) (pm := d.pen.miter) (pf := d.pen.phase) (fo := d.font) (m0 := d.mat.m0) (m1 := d.mat.m1) (m2 := d.mat.m2) (m3 := d.mat.m3) (m4 := d.mat.m4) (m5 := d.mat.m5) (path := d.path) (clips := d.clips) (dash := d.pen.dash) (bytes := d.bytes) hs w hf
set_option maxRecDepth 100000 in
set_option maxHeartbeats 2000000 in
theorem soundPage12_any {w0 : World} {N : Nat → Prop} {p : PageD} {A : Option Addr} {n c : Nat} (hl : LR w0 N 22 (ItemC w0 N) A n p.items) (w : World) (hf : Fr [] w0 w) :
    Calls Tryd.prog 18 #[.agg #[.int .i64 p.w, .int .i64 p.h, .slice A n c]] w fun e w' => e = .returned (.bool (pageB p)) ∧ Fr [] w w' := by
  have hp : pageB p = (sideB p.w && sideB p.h && decide (n ≤ 4096) && p.items.all itemB) := by unfold pageB; rw [hl.len]
  obtain ⟨R, hR⟩ : ∃ R, R = p.items.all itemB := ⟨_, rfl⟩
  rw [hp, ← hR]
  have HR := hide hR
  have HEL := hide (fun (W : World) (h : Fr [] w0 W) (k : Nat) (hk : k < n) => item_elem (hl.keep h (by simp) (fun _ _ h0 => h0.keep h (by simp))) hk)
  have HLN := hide hl.len
  clear hp hR hl
  cases h1 : sideB p.w
  · go_enter Tryd.func18, Tryd.ntmps18
    go_wp2_with (go_at_call 34; refine (side12_any _ _).mono ?_; simp only [h1]; rintro e w' ⟨rfl, rfl⟩)
    go_ret
    exact ⟨rfl, (by repeat (first | with_reducible exact Fr.refl _ _ | with_reducible assumption | with_reducible refine Fr.drewN ?_ _ | with_reducible refine Fr.drew ?_ | with_reducible refine Fr.alloc ?_ _ | ((with_reducible refine Fr.setCell ?_ ?_ _) <;> first | (apply Or.inl; simp; done) | (apply Or.inr; simp; done) | (apply Or.inr; simp; omega) | skip) | (refine Fr.then0 ?_ (by with_reducible assumption)) | (refine Fr.trans ?_ (by with_reducible assumption))))⟩
  cases h2 : sideB p.h
  · go_enter Tryd.func18, Tryd.ntmps18
    go_wp2_with (go_at_call 34; refine (side12_any _ _).mono ?_; simp only [h1, h2]; rintro e w' ⟨rfl, rfl⟩)
    go_ret
    exact ⟨rfl, (by repeat (first | with_reducible exact Fr.refl _ _ | with_reducible assumption | with_reducible refine Fr.drewN ?_ _ | with_reducible refine Fr.drew ?_ | with_reducible refine Fr.alloc ?_ _ | ((with_reducible refine Fr.setCell ?_ ?_ _) <;> first | (apply Or.inl; simp; done) | (apply Or.inr; simp; done) | (apply Or.inr; simp; omega) | skip) | (refine Fr.then0 ?_ (by with_reducible assumption)) | (refine Fr.trans ?_ (by with_reducible assumption))))⟩
  by_cases hn : n ≤ 4096
  · have e0 : decide ((4096 : Int) < (n : Int)) = false := by simp; omega
    rw [decide_eq_true hn]
    go_enter Tryd.func18, Tryd.ntmps18
    go_wp2_with (go_at_call 34; refine (side12_any _ _).mono ?_; simp only [h1, h2]; rintro e w' ⟨rfl, rfl⟩)
    clear h1 h2
    obtain ⟨g, hg⟩ : ∃ g, g = w.heap.size := ⟨_, rfl⟩
    obtain ⟨W1, hW1⟩ : ∃ W1, W1 = w.alloc (.cells #[.int .i64 p.w, .int .i64 p.h, .slice A n c] 31) := ⟨_, rfl⟩
    have hB : Blk W1 g 31 #[.int .i64 p.w, .int .i64 p.h, .slice A n c] := by rw [hW1, hg]; exact Blk.new _ _ _
    have hf1 : Fr [] w W1 := by rw [hW1]; exact (by repeat (first | with_reducible exact Fr.refl _ _ | with_reducible assumption | with_reducible refine Fr.drewN ?_ _ | with_reducible refine Fr.drew ?_ | with_reducible refine Fr.alloc ?_ _ | ((with_reducible refine Fr.setCell ?_ ?_ _) <;> first | (apply Or.inl; simp; done) | (apply Or.inr; simp; done) | (apply Or.inr; simp; omega) | skip) | (refine Fr.then0 ?_ (by with_reducible assumption)) | (refine Fr.trans ?_ (by with_reducible assumption))))
    rw [← hW1, ← hg]
    clear hW1 hg
    go_loopw [3] (fun i w2 => ∃ k : Nat, k ≤ n ∧ i = .int .i64 k ∧ Fr [] W1 w2 ∧ Hid ((p.items.take k).all itemB = true)) (fun i _ => n - (intOf i).toNat)
    case atStart => exact ⟨0, Nat.zero_le _, rfl, Fr.refl _ _, hide (by simp)⟩
    case round =>
      obtain ⟨k, hk, rfl, hfr, hall⟩ := hrel
      have hB2 := hB.keep hfr (by simp)
      have c2 : wr.cell? ⟨g, 2, none⟩ = some (.slice A n c) := hB2.cell 2
      by_cases hlt : k < n
      · have hdk : decide ((k : Int) < (n : Int)) = true := by simp; omega
        obtain ⟨ad, d, Ap, np, cp, Ac, nc, cc, Ad, nd, cd, Ab, nb, cb, rfl, hlk, hit, HCE⟩ := HEL.out wr ((hf.trans hf1).trans hfr) k hlt
        have HS1 := hide (show p.items.take (k + 1) = p.items.take k ++ [d] by rw [List.take_add_one, hlk]; rfl)
        have HMEM := hide (List.mem_of_getElem? hlk)
        have HC := hide (fun W (h : Fr [] wr W) => sound_item hit W h)
        clear hlk hit
        cases hp : itemB d
        · have HX : Hid (R = false) := hide (by rw [HR.out, Bool.eq_false_iff]; intro ha; have := List.all_eq_true.1 ha d HMEM.out; rw [hp] at this; cases this)
          rw [hp] at HC
          clear hp
          go_wp2_with (first | (refine wpList_load_cells rfl 43 _ rfl _ rfl _ _ HCE.out Tryd.underlying43 rfl (by kernel_rfl) ?_) | (go_at_call 35; refine (HC.out _ (by repeat (first | with_reducible exact Fr.refl _ _ | with_reducible assumption | with_reducible refine Fr.drewN ?_ _ | with_reducible refine Fr.drew ?_ | with_reducible refine Fr.alloc ?_ _ | ((with_reducible refine Fr.setCell ?_ ?_ _) <;> first | (apply Or.inl; simp; done) | (apply Or.inr; simp; done) | (apply Or.inr; simp; omega) | skip) | (refine Fr.then0 ?_ (by with_reducible assumption)) | (refine Fr.trans ?_ (by with_reducible assumption))))).mono ?_; rintro e w5 ⟨rfl, hf5⟩))
          go_ret
          exact ⟨by rw [HX.out]; rfl, hf1.trans (hfr.trans (by repeat (first | with_reducible exact Fr.refl _ _ | with_reducible assumption | with_reducible refine Fr.drewN ?_ _ | with_reducible refine Fr.drew ?_ | with_reducible refine Fr.alloc ?_ _ | ((with_reducible refine Fr.setCell ?_ ?_ _) <;> first | (apply Or.inl; simp; done) | (apply Or.inr; simp; done) | (apply Or.inr; simp; omega) | skip) | (refine Fr.then0 ?_ (by with_reducible assumption)) | (refine Fr.trans ?_ (by with_reducible assumption)))))⟩
        · have HA : Hid ((p.items.take (k + 1)).all itemB = true) := hide (by rw [HS1.out, List.all_append, hall.out]; simp [hp])
          rw [hp] at HC
          clear hp
          go_wp2_with (first | (refine wpList_load_cells rfl 43 _ rfl _ rfl _ _ HCE.out Tryd.underlying43 rfl (by kernel_rfl) ?_) | (go_at_call 35; refine (HC.out _ (by repeat (first | with_reducible exact Fr.refl _ _ | with_reducible assumption | with_reducible refine Fr.drewN ?_ _ | with_reducible refine Fr.drew ?_ | with_reducible refine Fr.alloc ?_ _ | ((with_reducible refine Fr.setCell ?_ ?_ _) <;> first | (apply Or.inl; simp; done) | (apply Or.inr; simp; done) | (apply Or.inr; simp; omega) | skip) | (refine Fr.then0 ?_ (by with_reducible assumption)) | (refine Fr.trans ?_ (by with_reducible assumption))))).mono ?_; rintro e w5 ⟨rfl, hf5⟩))
          exact ⟨⟨k + 1, by omega, by go_num, hfr.trans (by repeat (first | with_reducible exact Fr.refl _ _ | with_reducible assumption | with_reducible refine Fr.drewN ?_ _ | with_reducible refine Fr.drew ?_ | with_reducible refine Fr.alloc ?_ _ | ((with_reducible refine Fr.setCell ?_ ?_ _) <;> first | (apply Or.inl; simp; done) | (apply Or.inr; simp; done) | (apply Or.inr; simp; omega) | skip) | (refine Fr.then0 ?_ (by with_reducible assumption)) | (refine Fr.trans ?_ (by with_reducible assumption)))), HA⟩, by simp [intOf]; omega⟩
      · have hdk : decide ((k : Int) < (n : Int)) = false := by simp; omega
        have HX : Hid (R = true) := hide (by have := hall.out; rw [List.take_of_length_le (by rw [HLN.out]; omega)] at this; rw [HR.out, this])
        go_wp2
        go_ret
        exact ⟨by rw [HX.out]; rfl, hf1.trans hfr⟩
  · have e0 : decide ((4096 : Int) < (n : Int)) = true := by simp; omega
    rw [decide_eq_false hn]
    go_enter Tryd.func18, Tryd.ntmps18
    go_wp2_with (go_at_call 34; refine (side12_any _ _).mono ?_; simp only [h1, h2]; rintro e w' ⟨rfl, rfl⟩)
    go_ret
    exact ⟨rfl, (by repeat (first | with_reducible exact Fr.refl _ _ | with_reducible assumption | with_reducible refine Fr.drewN ?_ _ | with_reducible refine Fr.drew ?_ | with_reducible refine Fr.alloc ?_ _ | ((with_reducible refine Fr.setCell ?_ ?_ _) <;> first | (apply Or.inl; simp; done) | (apply Or.inr; simp; done) | (apply Or.inr; simp; omega) | skip) | (refine Fr.then0 ?_ (by with_reducible assumption)) | (refine Fr.trans ?_ (by with_reducible assumption))))⟩
end Go.Proofs.YtndfdekcdhlgoaaDoor
namespace Go.Proofs.YtndfdekcdhlgoaaDoor
open Go.RowKit
set_option maxRecDepth 100000 in
set_option maxHeartbeats 2000000 in
theorem sound26_any {w0 : World} {N : Nat → Prop} {l : List PageD} {A : Option Addr} {n c : Nat} (hl : LR w0 N 3 (PageC w0 N) A n l) (hn : n ≤ 4611686018427387904) (w : World) (hf : Fr [] w0 w) :
    Calls Tryd.prog 7 #[.slice A n c] w fun e w' => e = .returned (.bool (pagesB l)) ∧ Fr [] w w' := by
  obtain ⟨R, hR⟩ : ∃ R, R = pagesB l := ⟨_, rfl⟩
  rw [← hR]
  have HR := hide hR
  have HEL := hide (fun (W : World) (h : Fr [] w0 W) (k : Nat) (hk : k < n) => page_elem (hl.keep h (by simp) (fun _ _ h0 => h0.keep h (by simp))) hk)
  have HLN := hide hl.len
  clear hR hl
  go_enter Tryd.func7, Tryd.ntmps7
  go_wp2
  go_loopw [3] (fun i w2 => ∃ k : Nat, k ≤ n ∧ i = .int .i64 k ∧ Fr [] w w2 ∧ Hid (pagesB (l.take k) = true)) (fun i _ => n - (intOf i).toNat)
  case atStart => exact ⟨0, Nat.zero_le _, rfl, Fr.refl _ _, hide (by simp [pagesB])⟩
  case round =>
    obtain ⟨k, hk, rfl, hfr, hall⟩ := hrel
    by_cases hlt : k < n
    · have hdk : decide ((k : Int) < (n : Int)) = true := by simp; omega
      obtain ⟨ad, d, Ai, ni, ci, rfl, hlk, hi1, hi2, hi3, a0, a1, a2⟩ := HEL.out wr (hf.trans hfr) k hlt
      have HS1 := hide (show l.take (k + 1) = l.take k ++ [d] by rw [List.take_add_one, hlk]; rfl)
      have HMEM := hide (List.mem_of_getElem? hlk)
      have HC := hide (fun W (h : Fr [] wr W) => soundPage12_any (c := ci) hi3 W h)
      clear hlk
      cases hp : pageB d
      · have HX : Hid (R = false) := hide (by rw [HR.out, Bool.eq_false_iff]; intro ha; have := List.all_eq_true.1 ha d HMEM.out; rw [hp] at this; cases this)
        rw [hp] at HC
        clear hp
        go_wp2_with (go_at_call 18; refine (HC.out _ (by repeat (first | with_reducible exact Fr.refl _ _ | with_reducible assumption | with_reducible refine Fr.drewN ?_ _ | with_reducible refine Fr.drew ?_ | with_reducible refine Fr.alloc ?_ _ | ((with_reducible refine Fr.setCell ?_ ?_ _) <;> first | (apply Or.inl; simp; done) | (apply Or.inr; simp; done) | (apply Or.inr; simp; omega) | skip) | (refine Fr.then0 ?_ (by with_reducible assumption)) | (refine Fr.trans ?_ (by with_reducible assumption))))).mono ?_; rintro e w5 ⟨rfl, hf5⟩)
        go_ret
        exact ⟨by rw [HX.out]; rfl, hfr.trans (by repeat (first | with_reducible exact Fr.refl _ _ | with_reducible assumption | with_reducible refine Fr.drewN ?_ _ | with_reducible refine Fr.drew ?_ | with_reducible refine Fr.alloc ?_ _ | ((with_reducible refine Fr.setCell ?_ ?_ _) <;> first | (apply Or.inl; simp; done) | (apply Or.inr; simp; done) | (apply Or.inr; simp; omega) | skip) | (refine Fr.then0 ?_ (by with_reducible assumption)) | (refine Fr.trans ?_ (by with_reducible assumption))))⟩
      · have HA : Hid (pagesB (l.take (k + 1)) = true) := hide (by rw [HS1.out]; unfold pagesB at hall ⊢; rw [List.all_append, hall.out]; simp [hp])
        rw [hp] at HC
        clear hp
        go_wp2_with (go_at_call 18; refine (HC.out _ (by repeat (first | with_reducible exact Fr.refl _ _ | with_reducible assumption | with_reducible refine Fr.drewN ?_ _ | with_reducible refine Fr.drew ?_ | with_reducible refine Fr.alloc ?_ _ | ((with_reducible refine Fr.setCell ?_ ?_ _) <;> first | (apply Or.inl; simp; done) | (apply Or.inr; simp; done) | (apply Or.inr; simp; omega) | skip) | (refine Fr.then0 ?_ (by with_reducible assumption)) | (refine Fr.trans ?_ (by with_reducible assumption))))).mono ?_; rintro e w5 ⟨rfl, hf5⟩)
        exact ⟨⟨k + 1, by omega, by go_num, hfr.trans (by repeat (first | with_reducible exact Fr.refl _ _ | with_reducible assumption | with_reducible refine Fr.drewN ?_ _ | with_reducible refine Fr.drew ?_ | with_reducible refine Fr.alloc ?_ _ | ((with_reducible refine Fr.setCell ?_ ?_ _) <;> first | (apply Or.inl; simp; done) | (apply Or.inr; simp; done) | (apply Or.inr; simp; omega) | skip) | (refine Fr.then0 ?_ (by with_reducible assumption)) | (refine Fr.trans ?_ (by with_reducible assumption)))), HA⟩, by simp [intOf]; omega⟩
    · have hdk : decide ((k : Int) < (n : Int)) = false := by simp; omega
      have HX : Hid (R = true) := hide (by have := hall.out; rw [List.take_of_length_le (by rw [HLN.out]; omega)] at this; rw [HR.out, this])
      go_wp2
      go_ret
      exact ⟨by rw [HX.out]; rfl, hfr⟩
end Go.Proofs.YtndfdekcdhlgoaaDoor
