/- Contracts: package paint's items. -/
/- Contracts: package paint's Sound. -/
import Derived.Test.YtndfdekcdhlgoaaDoorScPaK
import Derived.Test.YtndfdekcdhlgoaaDoorScPaL
import Derived.Test.YtndfdekcdhlgoaaDoorScPaM
import Derived.Test.YtndfdekcdhlgoaaDoorScR12A
set_option linter.unusedVariables false
set_option linter.unusedSimpArgs false
namespace Go.Proofs.YtndfdekcdhlgoaaDoor
open Go.RowKit
theorem pitem_any {w0 : World} {N : Nat → Prop} {kd sp p0 p1 p2 p3 pw pc pj pm pf fo m0 m1 m2 m3 m4 m5 : Int} {path : List SegD} {clips : List ClipD} {dash : List Int} {bytes : List UInt8} {Ap Ac Ad Ab : Option Addr} {np cp nc cc nd cd nb cb : Nat}
    (hs : ItemS w0 N ⟨kd, path, ⟨sp, p0, p1, p2, p3⟩, clips, ⟨pw, pc, pj, pm, dash, pf⟩, fo, ⟨m0, m1, m2, m3, m4, m5⟩, bytes⟩ Ap np cp Ac nc cc Ad nd cd Ab nb cb) (hF : Fonts w0) (w : World) (hf : Fr [] w0 w) :
    Calls Tryd.prog 25 #[.agg #[.int .i64 kd, .slice Ap np cp, .int .i64 sp, .int .i64 p0, .int .i64 p1, .int .i64 p2, .int .i64 p3, .slice Ac nc cc, .int .i64 pw, .int .i64 pc, .int .i64 pj, .int .i64 pm, .slice Ad nd cd, .int .i64 pf, .int .i64 fo, .int .i64 m0, .int .i64 m1, .int .i64 m2, .int .i64 m3, .int .i64 m4, .int .i64 m5, .slice Ab nb cb]] w fun e w' => e = .returned (.bool (itemB ⟨kd, path, ⟨sp, p0, p1, p2, p3⟩, clips, ⟨pw, pc, pj, pm, dash, pf⟩, fo, ⟨m0, m1, m2, m3, m4, m5⟩, bytes⟩)) ∧ Fr [] w w' := by
  cases hco : colB ⟨sp, p0, p1, p2, p3⟩
  · exact pitem_col hs hF w hf hco
  cases hcl : clipsB clips
  · exact pitem_clips hs hF w hf hco hcl
  by_cases hk4 : kd = 4
  · subst hk4; exact pitem_4 hs hF w hf hco hcl
  cases hpb : pathB path
  · exact pitem_path hs hF w hf hco hcl hk4 hpb
  by_cases h1 : kd = 1
  · subst h1; exact pitem_k1 hs hF w hf hco hcl hpb
  by_cases h2 : kd = 2
  · subst h2; exact pitem_k2 hs hF w hf hco hcl hpb
  by_cases h3 : kd = 3
  · subst h3; exact pitem_k3 hs hF w hf hco hcl hpb
  exact pitem_other hs hF w hf hco hcl hpb hk4 (by omega)
end Go.Proofs.YtndfdekcdhlgoaaDoor
namespace Go.Proofs.YtndfdekcdhlgoaaDoor
open Go.RowKit
set_option maxRecDepth 100000 in
theorem psound1_any {w0 : World} {N : Nat → Prop} {d : ItemD} {Ap Ac Ad Ab : Option Addr} {np cp nc cc nd cd nb cb : Nat} (hs : ItemS w0 N d Ap np cp Ac nc cc Ad nd cd Ab nb cb) (hF : Fonts w0) (w : World) (hf : Fr [] w0 w) :
    Calls Tryd.prog 24 #[.agg #[.int .i64 d.kind, .slice Ap np cp, .int .i64 d.col.space, .int .i64 d.col.p0, .int .i64 d.col.p1, .int .i64 d.col.p2, .int .i64 d.col.p3, .slice Ac nc cc, .int .i64 d.pen.width, .int .i64 d.pen.cap, .int .i64 d.pen.join, .int .i64 d.pen.miter, .slice Ad nd cd, .int .i64 d.pen.phase, .int .i64 d.font, .int .i64 d.mat.m0, .int .i64 d.mat.m1, .int .i64 d.mat.m2, .int .i64 d.mat.m3, .int .i64 d.mat.m4, .int .i64 d.mat.m5, .slice Ab nb cb]] w fun e w' => e = .returned (.bool (!itemB d)) ∧ Fr [] w w' := by
  have HI := hide (fun W (h : Fr [] w W) => pitem_any (kd := d.kind) (sp := d.col.space) (p0 := d.col.p0) (p1 := d.col.p1) (p2 := d.col.p2) (p3 := d.col.p3) (pw := d.pen.width) (pc := d.pen.cap) (pj := d.pen.join) (pm := d.pen.miter) (pf := d.pen.phase) (fo := d.font) (m0 := d.mat.m0) (m1 := d.mat.m1) (m2 := d.mat.m2) (m3 := d.mat.m3) (m4 := d.mat.m4) (m5 := d.mat.m5) (path := d.path) (clips := d.clips) (dash := d.pen.dash) (bytes := d.bytes) hs hF W (hf.trans h))
  have HB : Hid (itemB ⟨d.kind, d.path, ⟨d.col.space, d.col.p0, d.col.p1, d.col.p2, d.col.p3⟩, d.clips, ⟨d.pen.width, d.pen.cap, d.pen.join, d.pen.miter, d.pen.dash, d.pen.phase⟩, d.font, ⟨d.mat.m0, d.mat.m1, d.mat.m2, d.mat.m3, d.mat.m4, d.mat.m5⟩, d.bytes⟩ = itemB d) := hide rfl
  rw [HB.out] at HI
  generalize itemB d = R at *
  have hB := Blk.new w 43 #[.int .i64 d.kind, .slice Ap np cp, .int .i64 d.col.space, .int .i64 d.col.p0, .int .i64 d.col.p1, .int .i64 d.col.p2, .int .i64 d.col.p3, .slice Ac nc cc, .int .i64 d.pen.width, .int .i64 d.pen.cap, .int .i64 d.pen.join, .int .i64 d.pen.miter, .slice Ad nd cd, .int .i64 d.pen.phase, .int .i64 d.font, .int .i64 d.mat.m0, .int .i64 d.mat.m1, .int .i64 d.mat.m2, .int .i64 d.mat.m3, .int .i64 d.mat.m4, .int .i64 d.mat.m5, .slice Ab nb cb]
  clear hs HB hF
  go_enter Tryd.func24, Tryd.ntmps24
  go_wp2_with (first | (refine wpList_load_row rfl 43 _ rfl _ rfl _ _ _ _ hB Tryd.underlying43 rfl (by kernel_rfl) ?_; clear hB) | (go_at_call 25; refine (HI.out _ (by repeat (first | with_reducible exact Fr.refl _ _ | with_reducible assumption | with_reducible refine Fr.drewN ?_ _ | with_reducible refine Fr.drew ?_ | with_reducible refine Fr.alloc ?_ _ | ((with_reducible refine Fr.setCell ?_ ?_ _) <;> first | (apply Or.inl; simp; done) | (apply Or.inr; simp; done) | (apply Or.inr; simp; omega) | skip) | (refine Fr.then0 ?_ (by with_reducible assumption)) | (refine Fr.trans ?_ (by with_reducible assumption))))).mono ?_; rintro e w5 ⟨rfl, hf5⟩))
  go_ret
  exact ⟨rfl, (by repeat (first | with_reducible exact Fr.refl _ _ | with_reducible assumption | with_reducible refine Fr.drewN ?_ _ | with_reducible refine Fr.drew ?_ | with_reducible refine Fr.alloc ?_ _ | ((with_reducible refine Fr.setCell ?_ ?_ _) <;> first | (apply Or.inl; simp; done) | (apply Or.inr; simp; done) | (apply Or.inr; simp; omega) | skip) | (refine Fr.then0 ?_ (by with_reducible assumption)) | (refine Fr.trans ?_ (by with_reducible assumption))))⟩
theorem elx_item {w : World} {N : Nat → Prop} {A : Option Addr} {n : Nat} {l : List ItemD} (hl : LR w N 22 (ItemC w N) A n l) : l.length = n := hl.len
set_option maxRecDepth 100000 in
set_option maxHeartbeats 2000000 in
theorem idx_item {w0 : World} {N : Nat → Prop} {A : Option Addr} {n c : Nat} {l : List ItemD} (hl : LR w0 N 22 (ItemC w0 N) A n l) (hn : n ≤ 4611686018427387904) (hF : Fonts w0) (w : World) (hf : Fr [] w0 w) :
    Calls Tryd.prog 39 #[.slice A n c, .func (.func 24) #[] #[]] w (SomeI (l.any (fun d : ItemD => !itemB d)) w) := by
  obtain ⟨R, hR⟩ : ∃ R, R = l.any (fun d : ItemD => !itemB d) := ⟨_, rfl⟩
  rw [← hR]
  have HR := hide hR
  have HEL := hide (fun (W : World) (h : Fr [] w0 W) (k : Nat) (hk : k < n) => item_elem (hl.keep h (by simp) (fun _ _ h0 => h0.keep h (by simp))) hk)
  have HLN := hide hl.len
  clear hl hR
  go_enter Tryd.func39, Tryd.ntmps39
  go_wp2
  go_loopw [8] (fun i w2 => ∃ k : Nat, k ≤ n ∧ i = .int .i64 k ∧ Fr [] w w2 ∧ Hid ((l.take k).any (fun d : ItemD => !itemB d) = false)) (fun i _ => n - (intOf i).toNat)
  case atStart => exact ⟨0, Nat.zero_le _, rfl, Fr.refl _ _, hide (by simp)⟩
  case round =>
    obtain ⟨k, hk, rfl, hfr, hall⟩ := hrel
    by_cases hlt : k < n
    · have hdk : decide ((k : Int) < (n : Int)) = true := by simp; omega
      obtain ⟨ad, d, Ap, np, cp, Ac, nc, cc, Ad, nd, cd, Ab, nb, cb, rfl, hlk, hit, HCE⟩ := HEL.out wr (hf.trans hfr) k hlt
      have HS1 := hide (show l.take (k + 1) = l.take k ++ [d] by rw [List.take_add_one, hlk]; rfl)
      have HMEM := hide (List.mem_of_getElem? hlk)
      have HC := hide (fun W (h : Fr [] wr W) => psound1_any hit (hF.keep ((hf.trans hfr)) (by simp)) W h)
      clear hlk
      cases hp : ((fun d : ItemD => !itemB d)) d
      · have HA : Hid ((l.take (k + 1)).any (fun d : ItemD => !itemB d) = false) := hide (by rw [HS1.out, List.any_append, hall.out]; simpa using hp)
        have HP : Hid (((fun d : ItemD => !itemB d)) d = false) := hide hp
        clear hp
        go_wp2_with (first | (refine wpList_load_cells rfl 43 _ rfl _ rfl _ _ HCE.out Tryd.underlying43 rfl (by kernel_rfl) ?_; clear HCE) | (go_at_call 24; refine (HC.out _ (by repeat (first | with_reducible exact Fr.refl _ _ | with_reducible assumption | with_reducible refine Fr.drewN ?_ _ | with_reducible refine Fr.drew ?_ | with_reducible refine Fr.alloc ?_ _ | ((with_reducible refine Fr.setCell ?_ ?_ _) <;> first | (apply Or.inl; simp; done) | (apply Or.inr; simp; done) | (apply Or.inr; simp; omega) | skip) | (refine Fr.then0 ?_ (by with_reducible assumption)) | (refine Fr.trans ?_ (by with_reducible assumption))))).mono ?_; rw [show _ = false from HP.out]; rintro e w5 ⟨rfl, hf5⟩))
        exact ⟨⟨k + 1, by omega, by go_num, hfr.trans (by repeat (first | with_reducible exact Fr.refl _ _ | with_reducible assumption | with_reducible refine Fr.drewN ?_ _ | with_reducible refine Fr.drew ?_ | with_reducible refine Fr.alloc ?_ _ | ((with_reducible refine Fr.setCell ?_ ?_ _) <;> first | (apply Or.inl; simp; done) | (apply Or.inr; simp; done) | (apply Or.inr; simp; omega) | skip) | (refine Fr.then0 ?_ (by with_reducible assumption)) | (refine Fr.trans ?_ (by with_reducible assumption)))), HA⟩, by simp [intOf]; omega⟩
      · have HX : Hid (R = true) := hide (by rw [HR.out, List.any_eq_true]; exact ⟨d, HMEM.out, hp⟩)
        have HP : Hid (((fun d : ItemD => !itemB d)) d = true) := hide hp
        clear hp
        go_wp2_with (first | (refine wpList_load_cells rfl 43 _ rfl _ rfl _ _ HCE.out Tryd.underlying43 rfl (by kernel_rfl) ?_; clear HCE) | (go_at_call 24; refine (HC.out _ (by repeat (first | with_reducible exact Fr.refl _ _ | with_reducible assumption | with_reducible refine Fr.drewN ?_ _ | with_reducible refine Fr.drew ?_ | with_reducible refine Fr.alloc ?_ _ | ((with_reducible refine Fr.setCell ?_ ?_ _) <;> first | (apply Or.inl; simp; done) | (apply Or.inr; simp; done) | (apply Or.inr; simp; omega) | skip) | (refine Fr.then0 ?_ (by with_reducible assumption)) | (refine Fr.trans ?_ (by with_reducible assumption))))).mono ?_; rw [show _ = true from HP.out]; rintro e w5 ⟨rfl, hf5⟩))
        go_ret
        exact ⟨k, rfl, by rw [HX.out]; simp, hfr.trans (by repeat (first | with_reducible exact Fr.refl _ _ | with_reducible assumption | with_reducible refine Fr.drewN ?_ _ | with_reducible refine Fr.drew ?_ | with_reducible refine Fr.alloc ?_ _ | ((with_reducible refine Fr.setCell ?_ ?_ _) <;> first | (apply Or.inl; simp; done) | (apply Or.inr; simp; done) | (apply Or.inr; simp; omega) | skip) | (refine Fr.then0 ?_ (by with_reducible assumption)) | (refine Fr.trans ?_ (by with_reducible assumption))))⟩
    · have hdk : decide ((k : Int) < (n : Int)) = false := by simp; omega
      have HX : Hid (R = false) := hide (by have := hall.out; rw [List.take_of_length_le (by rw [HLN.out]; omega)] at this; rw [HR.out, this])
      go_wp2
      go_ret
      exact ⟨-1, rfl, by rw [HX.out]; rfl, hfr⟩
set_option maxRecDepth 100000 in
theorem cf_item {w0 : World} {N : Nat → Prop} {A : Option Addr} {n c : Nat} {l : List ItemD} (hl : LR w0 N 22 (ItemC w0 N) A n l) (hn : n ≤ 4611686018427387904) (hF : Fonts w0) (w : World) (hf : Fr [] w0 w) :
    Calls Tryd.prog 23 #[.slice A n c, .func (.func 24) #[] #[]] w fun e w' => e = .returned (.bool (l.any (fun d : ItemD => !itemB d))) ∧ Fr [] w w' := by
  have HI := hide (fun W (h : Fr [] w W) => idx_item (c := c) hl hn hF W (hf.trans h))
  generalize l.any (fun d : ItemD => !itemB d) = R at *
  clear hl
  go_enter Tryd.func23, Tryd.ntmps23
  go_wp2_with (go_at_call 39; refine (HI.out _ (by repeat (first | with_reducible exact Fr.refl _ _ | with_reducible assumption | with_reducible refine Fr.drewN ?_ _ | with_reducible refine Fr.drew ?_ | with_reducible refine Fr.alloc ?_ _ | ((with_reducible refine Fr.setCell ?_ ?_ _) <;> first | (apply Or.inl; simp; done) | (apply Or.inr; simp; done) | (apply Or.inr; simp; omega) | skip) | (refine Fr.then0 ?_ (by with_reducible assumption)) | (refine Fr.trans ?_ (by with_reducible assumption))))).mono ?_; rintro e w5 ⟨i, rfl, hi, hf5⟩; have HB := hide hi; clear hi)
  go_ret
  exact ⟨ret_bool HB.out, (by repeat (first | with_reducible exact Fr.refl _ _ | with_reducible assumption | with_reducible refine Fr.drewN ?_ _ | with_reducible refine Fr.drew ?_ | with_reducible refine Fr.alloc ?_ _ | ((with_reducible refine Fr.setCell ?_ ?_ _) <;> first | (apply Or.inl; simp; done) | (apply Or.inr; simp; done) | (apply Or.inr; simp; omega) | skip) | (refine Fr.then0 ?_ (by with_reducible assumption)) | (refine Fr.trans ?_ (by with_reducible assumption))))⟩
theorem page_all (p : PageD) : pageB p = (sideB p.w && sideB p.h && decide (p.items.length ≤ 4096) && !(p.items.any fun d => !itemB d)) := by
  unfold pageB
  congr 1
  rw [List.all_eq_not_any_not]
set_option maxRecDepth 100000 in
theorem pSoundPage_any {w0 : World} {N : Nat → Prop} {p : PageD} {A : Option Addr} {n c : Nat} (hl : LR w0 N 22 (ItemC w0 N) A n p.items) (hF : Fonts w0) (w : World) (hf : Fr [] w0 w) :
    Calls Tryd.prog 11 #[.agg #[.int .i64 p.w, .int .i64 p.h, .slice A n c]] w fun e w' => e = .returned (.bool (pageB p)) ∧ Fr [] w w' := by
  rw [page_all, hl.len]
  have HI := fun h => hide (fun W (h1 : Fr [] w W) => cf_item (c := c) hl h hF W (hf.trans h1))
  generalize p.items.any (fun d => !itemB d) = R at *
  clear hl hF
  by_cases hn : n ≤ 4096
  · have e0 : decide ((n : Int) ≤ 4096) = true := by simp; omega
    have HJ := HI (by omega)
    rw [decide_eq_true hn]
    clear HI hn
    cases h1 : sideB p.w <;> cases h2 : sideB p.h
    all_goals
      go_enter Tryd.func11, Tryd.ntmps11
      go_wp2_with (first | (go_at_call 22; refine (pside_any _ _).mono ?_; simp only [h1, h2]; rintro e w' ⟨rfl, rfl⟩) | (go_at_call 23; refine (HJ.out _ (by repeat (first | with_reducible exact Fr.refl _ _ | with_reducible assumption | with_reducible refine Fr.drewN ?_ _ | with_reducible refine Fr.drew ?_ | with_reducible refine Fr.alloc ?_ _ | ((with_reducible refine Fr.setCell ?_ ?_ _) <;> first | (apply Or.inl; simp; done) | (apply Or.inr; simp; done) | (apply Or.inr; simp; omega) | skip) | (refine Fr.then0 ?_ (by with_reducible assumption)) | (refine Fr.trans ?_ (by with_reducible assumption))))).mono ?_; rintro e w5 ⟨rfl, hf5⟩))
      go_ret
      exact ⟨rfl, (by repeat (first | with_reducible exact Fr.refl _ _ | with_reducible assumption | with_reducible refine Fr.drewN ?_ _ | with_reducible refine Fr.drew ?_ | with_reducible refine Fr.alloc ?_ _ | ((with_reducible refine Fr.setCell ?_ ?_ _) <;> first | (apply Or.inl; simp; done) | (apply Or.inr; simp; done) | (apply Or.inr; simp; omega) | skip) | (refine Fr.then0 ?_ (by with_reducible assumption)) | (refine Fr.trans ?_ (by with_reducible assumption))))⟩
  · have e0 : decide ((n : Int) ≤ 4096) = false := by simp; omega
    rw [decide_eq_false hn]
    clear HI hn
    cases h1 : sideB p.w <;> cases h2 : sideB p.h
    all_goals
      go_enter Tryd.func11, Tryd.ntmps11
      go_wp2_with (go_at_call 22; refine (pside_any _ _).mono ?_; simp only [h1, h2]; rintro e w' ⟨rfl, rfl⟩)
      go_ret
      exact ⟨rfl, (by repeat (first | with_reducible exact Fr.refl _ _ | with_reducible assumption | with_reducible refine Fr.drewN ?_ _ | with_reducible refine Fr.drew ?_ | with_reducible refine Fr.alloc ?_ _ | ((with_reducible refine Fr.setCell ?_ ?_ _) <;> first | (apply Or.inl; simp; done) | (apply Or.inr; simp; done) | (apply Or.inr; simp; omega) | skip) | (refine Fr.then0 ?_ (by with_reducible assumption)) | (refine Fr.trans ?_ (by with_reducible assumption))))⟩
set_option maxRecDepth 100000 in
theorem print1_any {w0 : World} {N : Nat → Prop} {p : PageD} {A : Option Addr} {n c : Nat} (hl : LR w0 N 22 (ItemC w0 N) A n p.items) (hF : Fonts w0) (w : World) (hf : Fr [] w0 w) :
    Calls Tryd.prog 10 #[.agg #[.int .i64 p.w, .int .i64 p.h, .slice A n c]] w fun e w' => e = .returned (.bool (!pageB p)) ∧ Fr [] w w' := by
  have HI := hide (fun W (h1 : Fr [] w W) => pSoundPage_any (c := c) hl hF W (hf.trans h1))
  generalize pageB p = R at *
  clear hl hF
  go_enter Tryd.func10, Tryd.ntmps10
  go_wp2_with (go_at_call 11; refine (HI.out _ (by repeat (first | with_reducible exact Fr.refl _ _ | with_reducible assumption | with_reducible refine Fr.drewN ?_ _ | with_reducible refine Fr.drew ?_ | with_reducible refine Fr.alloc ?_ _ | ((with_reducible refine Fr.setCell ?_ ?_ _) <;> first | (apply Or.inl; simp; done) | (apply Or.inr; simp; done) | (apply Or.inr; simp; omega) | skip) | (refine Fr.then0 ?_ (by with_reducible assumption)) | (refine Fr.trans ?_ (by with_reducible assumption))))).mono ?_; rintro e w5 ⟨rfl, hf5⟩)
  go_ret
  exact ⟨rfl, (by repeat (first | with_reducible exact Fr.refl _ _ | with_reducible assumption | with_reducible refine Fr.drewN ?_ _ | with_reducible refine Fr.drew ?_ | with_reducible refine Fr.alloc ?_ _ | ((with_reducible refine Fr.setCell ?_ ?_ _) <;> first | (apply Or.inl; simp; done) | (apply Or.inr; simp; done) | (apply Or.inr; simp; omega) | skip) | (refine Fr.then0 ?_ (by with_reducible assumption)) | (refine Fr.trans ?_ (by with_reducible assumption))))⟩
theorem elx_page {w : World} {N : Nat → Prop} {A : Option Addr} {n : Nat} {l : List PageD} (hl : LR w N 3 (PageC w N) A n l) : l.length = n := hl.len
set_option maxRecDepth 100000 in
set_option maxHeartbeats 2000000 in
theorem idx_page {w0 : World} {N : Nat → Prop} {A : Option Addr} {n c : Nat} {l : List PageD} (hl : LR w0 N 3 (PageC w0 N) A n l) (hn : n ≤ 4611686018427387904) (hF : Fonts w0) (w : World) (hf : Fr [] w0 w) :
    Calls Tryd.prog 21 #[.slice A n c, .func (.func 10) #[] #[]] w (SomeI (l.any (fun d : PageD => !pageB d)) w) := by
  obtain ⟨R, hR⟩ : ∃ R, R = l.any (fun d : PageD => !pageB d) := ⟨_, rfl⟩
  rw [← hR]
  have HR := hide hR
  have HEL := hide (fun (W : World) (h : Fr [] w0 W) (k : Nat) (hk : k < n) => page_elem (hl.keep h (by simp) (fun _ _ h0 => h0.keep h (by simp))) hk)
  have HLN := hide hl.len
  clear hl hR
  go_enter Tryd.func21, Tryd.ntmps21
  go_wp2
  go_loopw [8] (fun i w2 => ∃ k : Nat, k ≤ n ∧ i = .int .i64 k ∧ Fr [] w w2 ∧ Hid ((l.take k).any (fun d : PageD => !pageB d) = false)) (fun i _ => n - (intOf i).toNat)
  case atStart => exact ⟨0, Nat.zero_le _, rfl, Fr.refl _ _, hide (by simp)⟩
  case round =>
    obtain ⟨k, hk, rfl, hfr, hall⟩ := hrel
    by_cases hlt : k < n
    · have hdk : decide ((k : Int) < (n : Int)) = true := by simp; omega
      obtain ⟨ad, d, Ai, ni, ci, rfl, hlk, hi1, hi2, hi3, a0, a1, a2⟩ := HEL.out wr (hf.trans hfr) k hlt
      have HS1 := hide (show l.take (k + 1) = l.take k ++ [d] by rw [List.take_add_one, hlk]; rfl)
      have HMEM := hide (List.mem_of_getElem? hlk)
      have HC := hide (fun W (h : Fr [] wr W) => print1_any (c := ci) hi3 (hF.keep ((hf.trans hfr)) (by simp)) W h)
      clear hlk
      cases hp : ((fun d : PageD => !pageB d)) d
      · have HA : Hid ((l.take (k + 1)).any (fun d : PageD => !pageB d) = false) := hide (by rw [HS1.out, List.any_append, hall.out]; simpa using hp)
        have HP : Hid (((fun d : PageD => !pageB d)) d = false) := hide hp
        clear hp
        go_wp2_with (go_at_call 10; refine (HC.out _ (by repeat (first | with_reducible exact Fr.refl _ _ | with_reducible assumption | with_reducible refine Fr.drewN ?_ _ | with_reducible refine Fr.drew ?_ | with_reducible refine Fr.alloc ?_ _ | ((with_reducible refine Fr.setCell ?_ ?_ _) <;> first | (apply Or.inl; simp; done) | (apply Or.inr; simp; done) | (apply Or.inr; simp; omega) | skip) | (refine Fr.then0 ?_ (by with_reducible assumption)) | (refine Fr.trans ?_ (by with_reducible assumption))))).mono ?_; rw [show _ = false from HP.out]; rintro e w5 ⟨rfl, hf5⟩)
        exact ⟨⟨k + 1, by omega, by go_num, hfr.trans (by repeat (first | with_reducible exact Fr.refl _ _ | with_reducible assumption | with_reducible refine Fr.drewN ?_ _ | with_reducible refine Fr.drew ?_ | with_reducible refine Fr.alloc ?_ _ | ((with_reducible refine Fr.setCell ?_ ?_ _) <;> first | (apply Or.inl; simp; done) | (apply Or.inr; simp; done) | (apply Or.inr; simp; omega) | skip) | (refine Fr.then0 ?_ (by with_reducible assumption)) | (refine Fr.trans ?_ (by with_reducible assumption)))), HA⟩, by simp [intOf]; omega⟩
      · have HX : Hid (R = true) := hide (by rw [HR.out, List.any_eq_true]; exact ⟨d, HMEM.out, hp⟩)
        have HP : Hid (((fun d : PageD => !pageB d)) d = true) := hide hp
        clear hp
        go_wp2_with (go_at_call 10; refine (HC.out _ (by repeat (first | with_reducible exact Fr.refl _ _ | with_reducible assumption | with_reducible refine Fr.drewN ?_ _ | with_reducible refine Fr.drew ?_ | with_reducible refine Fr.alloc ?_ _ | ((with_reducible refine Fr.setCell ?_ ?_ _) <;> first | (apply Or.inl; simp; done) | (apply Or.inr; simp; done) | (apply Or.inr; simp; omega) | skip) | (refine Fr.then0 ?_ (by with_reducible assumption)) | (refine Fr.trans ?_ (by with_reducible assumption))))).mono ?_; rw [show _ = true from HP.out]; rintro e w5 ⟨rfl, hf5⟩)
        go_ret
        exact ⟨k, rfl, by rw [HX.out]; simp, hfr.trans (by repeat (first | with_reducible exact Fr.refl _ _ | with_reducible assumption | with_reducible refine Fr.drewN ?_ _ | with_reducible refine Fr.drew ?_ | with_reducible refine Fr.alloc ?_ _ | ((with_reducible refine Fr.setCell ?_ ?_ _) <;> first | (apply Or.inl; simp; done) | (apply Or.inr; simp; done) | (apply Or.inr; simp; omega) | skip) | (refine Fr.then0 ?_ (by with_reducible assumption)) | (refine Fr.trans ?_ (by with_reducible assumption))))⟩
    · have hdk : decide ((k : Int) < (n : Int)) = false := by simp; omega
      have HX : Hid (R = false) := hide (by have := hall.out; rw [List.take_of_length_le (by rw [HLN.out]; omega)] at this; rw [HR.out, this])
      go_wp2
      go_ret
      exact ⟨-1, rfl, by rw [HX.out]; rfl, hfr⟩
set_option maxRecDepth 100000 in
theorem cf_page {w0 : World} {N : Nat → Prop} {A : Option Addr} {n c : Nat} {l : List PageD} (hl : LR w0 N 3 (PageC w0 N) A n l) (hn : n ≤ 4611686018427387904) (hF : Fonts w0) (w : World) (hf : Fr [] w0 w) :
    Calls Tryd.prog 9 #[.slice A n c, .func (.func 10) #[] #[]] w fun e w' => e = .returned (.bool (l.any (fun d : PageD => !pageB d))) ∧ Fr [] w w' := by
  have HI := hide (fun W (h : Fr [] w W) => idx_page (c := c) hl hn hF W (hf.trans h))
  generalize l.any (fun d : PageD => !pageB d) = R at *
  clear hl
  go_enter Tryd.func9, Tryd.ntmps9
  go_wp2_with (go_at_call 21; refine (HI.out _ (by repeat (first | with_reducible exact Fr.refl _ _ | with_reducible assumption | with_reducible refine Fr.drewN ?_ _ | with_reducible refine Fr.drew ?_ | with_reducible refine Fr.alloc ?_ _ | ((with_reducible refine Fr.setCell ?_ ?_ _) <;> first | (apply Or.inl; simp; done) | (apply Or.inr; simp; done) | (apply Or.inr; simp; omega) | skip) | (refine Fr.then0 ?_ (by with_reducible assumption)) | (refine Fr.trans ?_ (by with_reducible assumption))))).mono ?_; rintro e w5 ⟨i, rfl, hi, hf5⟩; have HB := hide hi; clear hi)
  go_ret
  exact ⟨ret_bool HB.out, (by repeat (first | with_reducible exact Fr.refl _ _ | with_reducible assumption | with_reducible refine Fr.drewN ?_ _ | with_reducible refine Fr.drew ?_ | with_reducible refine Fr.alloc ?_ _ | ((with_reducible refine Fr.setCell ?_ ?_ _) <;> first | (apply Or.inl; simp; done) | (apply Or.inr; simp; done) | (apply Or.inr; simp; omega) | skip) | (refine Fr.then0 ?_ (by with_reducible assumption)) | (refine Fr.trans ?_ (by with_reducible assumption))))⟩
end Go.Proofs.YtndfdekcdhlgoaaDoor
