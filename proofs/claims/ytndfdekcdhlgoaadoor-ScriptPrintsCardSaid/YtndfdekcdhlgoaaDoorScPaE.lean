/- Contracts: package path's Sound. -/
import Derived.Test.YtndfdekcdhlgoaaDoorScPaA
import Derived.Test.YtndfdekcdhlgoaaDoorScR12C
set_option linter.unusedVariables false
set_option linter.unusedSimpArgs false
namespace Go.Proofs.YtndfdekcdhlgoaaDoor
open Go.RowKit
set_option maxRecDepth 100000 in
theorem pfits_any {w0 : World} {N : Nat → Prop} {A : Option Addr} {n c : Nat} {l : List (Int × Int)} (hl : LR w0 N 2 PtC A n l) (hn : n ≤ 4611686018427387904) (w : World) (hf : Fr [] w0 w) :
    Calls Tryd.prog 63 #[.slice A n c] w fun e w' => e = .returned (.bool (!l.any badPt)) ∧ Fr [] w w' := by
  have HI := hide (fun W (h : Fr [] w W) => cf_fits (c := c) hl hn W (hf.trans h))
  generalize l.any badPt = R at *
  clear hl
  go_enter Tryd.func63, Tryd.ntmps63
  go_wp2_with (go_at_call 64; refine (HI.out _ (by repeat (first | with_reducible exact Fr.refl _ _ | with_reducible assumption | with_reducible refine Fr.drewN ?_ _ | with_reducible refine Fr.drew ?_ | with_reducible refine Fr.alloc ?_ _ | ((with_reducible refine Fr.setCell ?_ ?_ _) <;> first | (apply Or.inl; simp; done) | (apply Or.inr; simp; done) | (apply Or.inr; simp; omega) | skip) | (refine Fr.then0 ?_ (by with_reducible assumption)) | (refine Fr.trans ?_ (by with_reducible assumption))))).mono ?_; rintro e w5 ⟨rfl, hf5⟩)
  go_ret
  exact ⟨rfl, (by repeat (first | with_reducible exact Fr.refl _ _ | with_reducible assumption | with_reducible refine Fr.drewN ?_ _ | with_reducible refine Fr.drew ?_ | with_reducible refine Fr.alloc ?_ _ | ((with_reducible refine Fr.setCell ?_ ?_ _) <;> first | (apply Or.inl; simp; done) | (apply Or.inr; simp; done) | (apply Or.inr; simp; omega) | skip) | (refine Fr.then0 ?_ (by with_reducible assumption)) | (refine Fr.trans ?_ (by with_reducible assumption))))⟩
def SegD.pts (d : SegD) : List (Int × Int) := [(d.x0, d.y0), (d.x1, d.y1), (d.x2, d.y2)]
theorem lr_pts {w : World} {g : Nat} {t : TypeId} {k : Value} {x0 y0 x1 y1 x2 y2 : Int} (h : Blk w g t #[k, .int .i64 x0, .int .i64 y0, .int .i64 x1, .int .i64 y1, .int .i64 x2, .int .i64 y2]) :
    LR w (· = g) 2 PtC (some ⟨g, 1, none⟩) 3 [(x0, y0), (x1, y1), (x2, y2)] := by
  refine ⟨rfl, fun _ => ⟨_, rfl, rfl, fun i d hd => ⟨[.int .i64 d.1, .int .i64 d.2], rfl, rfl, fun j u hu => ?_⟩⟩⟩
  have hi : i < 3 := (List.getElem?_eq_some_iff.1 hd).1
  have hj : j < 2 := (List.getElem?_eq_some_iff.1 hu).1
  have c1 : w.cell? ⟨g, 1, none⟩ = some (.int .i64 x0) := h.cell 1
  have c2 : w.cell? ⟨g, 2, none⟩ = some (.int .i64 y0) := h.cell 2
  have c3 : w.cell? ⟨g, 3, none⟩ = some (.int .i64 x1) := h.cell 3
  have c4 : w.cell? ⟨g, 4, none⟩ = some (.int .i64 y1) := h.cell 4
  have c5 : w.cell? ⟨g, 5, none⟩ = some (.int .i64 x2) := h.cell 5
  have c6 : w.cell? ⟨g, 6, none⟩ = some (.int .i64 y2) := h.cell 6
  rcases (by omega : i = 0 ∨ i = 1 ∨ i = 2) with rfl | rfl | rfl <;> rcases (by omega : j = 0 ∨ j = 1) with rfl | rfl <;> simp at hd hu <;> subst hd <;> simp at hu <;> subst hu <;> simp [Addr.add, c1, c2, c3, c4, c5, c6]
theorem lr_pts2 {w : World} {g : Nat} {t : TypeId} {k a b : Value} {x1 y1 x2 y2 : Int} (h : Blk w g t #[k, a, b, .int .i64 x1, .int .i64 y1, .int .i64 x2, .int .i64 y2]) :
    LR w (· = g) 2 PtC (some ⟨g, 3, none⟩) 2 [(x1, y1), (x2, y2)] := by
  refine ⟨rfl, fun _ => ⟨_, rfl, rfl, fun i d hd => ⟨[.int .i64 d.1, .int .i64 d.2], rfl, rfl, fun j u hu => ?_⟩⟩⟩
  have hi : i < 2 := (List.getElem?_eq_some_iff.1 hd).1
  have hj : j < 2 := (List.getElem?_eq_some_iff.1 hu).1
  have c3 : w.cell? ⟨g, 3, none⟩ = some (.int .i64 x1) := h.cell 3
  have c4 : w.cell? ⟨g, 4, none⟩ = some (.int .i64 y1) := h.cell 4
  have c5 : w.cell? ⟨g, 5, none⟩ = some (.int .i64 x2) := h.cell 5
  have c6 : w.cell? ⟨g, 6, none⟩ = some (.int .i64 y2) := h.cell 6
  rcases (by omega : i = 0 ∨ i = 1) with rfl | rfl <;> rcases (by omega : j = 0 ∨ j = 1) with rfl | rfl <;> simp at hd hu <;> subst hd <;> simp at hu <;> subst hu <;> simp [Addr.add, c3, c4, c5, c6]
theorem segB_paint (last : Int) (d : SegD) (nn : Nat) (h : ptsP d.k = nn) : segB last d = (followB d.k last && !(d.pts.any badPt) && !((d.pts.drop nn).any notZero)) := by
  unfold ptsP at h
  unfold segB followB SegD.pts badPt notZero
  rw [Bool.eq_iff_iff]
  by_cases h1 : d.k = 1
  · rw [if_pos (.inl h1)] at h; obtain rfl : nn = 1 := by omega
    simp [h1]; grind
  by_cases h2 : d.k = 2
  · rw [if_pos (.inr h2)] at h; obtain rfl : nn = 1 := by omega
    simp [h2]; grind
  rw [if_neg (by omega)] at h
  by_cases h3 : d.k = 3
  · rw [if_pos h3] at h; obtain rfl : nn = 3 := by omega
    simp [h3]; grind
  rw [if_neg h3] at h
  by_cases h4 : d.k = 4
  · rw [if_pos h4] at h; obtain rfl : nn = 0 := by omega
    simp [h4]; grind
  rw [if_neg h4] at h; omega
theorem segB_none (last : Int) (d : SegD) (h : ptsP d.k < 0) : segB last d = false := by
  unfold ptsP at h
  by_cases h1 : d.k = 1 ∨ d.k = 2
  · rw [if_pos h1] at h; omega
  rw [if_neg h1] at h
  by_cases h3 : d.k = 3
  · rw [if_pos h3] at h; omega
  rw [if_neg h3] at h
  by_cases h4 : d.k = 4
  · rw [if_pos h4] at h; omega
  have h5 : ¬ d.k = 1 := fun h => h1 (.inl h)
  have h6 : ¬ d.k = 2 := fun h => h1 (.inr h)
  unfold segB
  simp [h3, h4, h5, h6]
set_option maxRecDepth 100000 in
set_option maxHeartbeats 8000000 in
theorem pSound_any {w0 : World} {N : Nat → Prop} {A : Option Addr} {n c : Nat} {l : List SegD} (hl : LR w0 N 7 SegC A n l) (w : World) (hf : Fr [] w0 w) :
    Calls Tryd.prog 44 #[.slice A n c] w fun e w' => e = .returned (.bool (pathB l)) ∧ Fr [] w w' := by
  obtain ⟨R, hR⟩ : ∃ R, R = pathB l := ⟨_, rfl⟩
  rw [← hR]
  by_cases hbig : 4096 < n
  · have hd : decide ((4096 : Int) < (n : Int)) = true := by simp; omega
    have : R = false := by rw [hR]; unfold pathB; rw [hl.len, decide_eq_false (by omega)]; rfl
    subst this
    clear hR hl
    go_enter Tryd.func44, Tryd.ntmps44
    go_wp2
    go_ret
    exact ⟨rfl, (by repeat (first | with_reducible exact Fr.refl _ _ | with_reducible assumption | with_reducible refine Fr.drewN ?_ _ | with_reducible refine Fr.drew ?_ | with_reducible refine Fr.alloc ?_ _ | ((with_reducible refine Fr.setCell ?_ ?_ _) <;> first | (apply Or.inl; simp; done) | (apply Or.inr; simp; done) | (apply Or.inr; simp; omega) | skip) | (refine Fr.then0 ?_ (by with_reducible assumption)) | (refine Fr.trans ?_ (by with_reducible assumption))))⟩
  have hd : decide ((4096 : Int) < (n : Int)) = false := by simp; omega
  have HR : Hid (R = segsB (lastK l 0) (l.drop 0)) := hide (by rw [hR]; unfold pathB; rw [hl.len, decide_eq_true (by omega)]; rfl)
  have HEL := hide (fun (w' : World) (h : Fr [] w0 w') (k : Nat) (hk : k < n) => seg_elem (hl.keep h (by simp) (fun _ _ h => h)) hk)
  have HLN := hide hl.len
  clear hl hR
  go_enter Tryd.func44, Tryd.ntmps44
  go_wp2
  go_loopw [3, 12] (fun z i wr => ∃ k : Nat, k ≤ n ∧ i = .int .i64 k ∧ z = .int .i64 (lastK l k) ∧ Fr [] w wr ∧ Hid (R = segsB (lastK l k) (l.drop k))) (fun _ i _ => n - (intOf i).toNat)
  case atStart => exact ⟨0, Nat.zero_le _, rfl, rfl, Fr.refl _ _, HR⟩
  case round =>
    obtain ⟨k, hk, rfl, rfl, hfr, hrel⟩ := hrel
    by_cases hlt : k < n
    · have hdk : decide ((k : Int) < (n : Int)) = true := by simp; omega
      obtain ⟨ad, d, rfl, hN, hlk, a0, a1, a2, a3, a4, a5, a6⟩ := HEL.out wr (hf.trans hfr) k hlt
      have HSTEP := hide (hrel.out.trans (segs_step hlk))
      have HLS := hide (lastK_succ hlk)
      generalize lastK l k = la at *
      have hB := Blk.new wr 91 #[.int .i64 d.k, .int .i64 d.x0, .int .i64 d.y0, .int .i64 d.x1, .int .i64 d.y1, .int .i64 d.x2, .int .i64 d.y2]
      have HPF := hide (fun W (h : Fr [] (wr.alloc (.cells #[.int .i64 d.k, .int .i64 d.x0, .int .i64 d.y0, .int .i64 d.x1, .int .i64 d.y1, .int .i64 d.x2, .int .i64 d.y2] 91)) W) => pfits_any (c := 3) (lr_pts hB) (by omega) W h)
      have HHB := hide hB
      clear hB hlk
      have hkd : ptsP d.k = 1 ∨ ptsP d.k = 3 ∨ ptsP d.k = 0 ∨ ptsP d.k = -1 := by unfold ptsP; split <;> (try split) <;> (try split) <;> simp
      rcases hkd with hp | hp | hp | hp
      · have HPT := hide hp
        have HSG : Hid (R = ((followB d.k la && !(d.pts.any badPt) && !((d.pts.drop 1).any notZero)) && segsB (lastK l (k + 1)) (l.drop (k + 1)))) := hide (by rw [HSTEP.out, segB_paint la d 1 hp])
        have HPZ := hide (fun W (h : Fr [] (wr.alloc (.cells #[.int .i64 d.k, .int .i64 d.x0, .int .i64 d.y0, .int .i64 d.x1, .int .i64 d.y1, .int .i64 d.x2, .int .i64 d.y2] 91)) W) => cf_zero (c := 2) (lr_pts2 HHB.out) (by omega) W h)
        clear hp
        cases hfo : followB d.k la
        · have HFO := hide hfo
          have HX : Hid (R = false) := hide (by rw [HSG.out, hfo]; rfl)
          clear hfo
          go_wp2_with (first | (go_at_call 61; refine (points_any _ _).mono ?_; rw [HPT.out]; rintro e w' ⟨rfl, rfl⟩) | (go_at_call 62; refine (pfollows_any _ _ _).mono ?_; rw [HFO.out]; rintro e w' ⟨rfl, rfl⟩))
          go_ret
          exact ⟨by rw [HX.out]; rfl, hfr.trans ((Fr.refl [] wr).alloc _)⟩
        cases hbd : d.pts.any badPt
        · cases hzr : List.any [(d.x1, d.y1), (d.x2, d.y2)] notZero
          · have HFO := hide hfo
            have HBD : Hid (List.any [(d.x0, d.y0), (d.x1, d.y1), (d.x2, d.y2)] badPt = false) := hide hbd
            have HZR := hide hzr
            have HX : Hid (R = segsB (lastK l (k + 1)) (l.drop (k + 1))) := hide (by rw [HSG.out, hfo, hbd, show (d.pts.drop 1).any notZero = false from hzr]; rfl)
            clear hfo hbd hzr
            go_wp2_with (first | (go_at_call 61; refine (points_any _ _).mono ?_; rw [HPT.out]; rintro e w' ⟨rfl, rfl⟩) | (go_at_call 62; refine (pfollows_any _ _ _).mono ?_; rw [HFO.out]; rintro e w' ⟨rfl, rfl⟩) | (go_at_call 63; refine (HPF.out _ (by repeat (first | with_reducible exact Fr.refl _ _ | with_reducible assumption | with_reducible refine Fr.drewN ?_ _ | with_reducible refine Fr.drew ?_ | with_reducible refine Fr.alloc ?_ _ | ((with_reducible refine Fr.setCell ?_ ?_ _) <;> first | (apply Or.inl; simp; done) | (apply Or.inr; simp; done) | (apply Or.inr; simp; omega) | skip) | (refine Fr.then0 ?_ (by with_reducible assumption)) | (refine Fr.trans ?_ (by with_reducible assumption))))).mono ?_; rw [HBD.out]; rintro e w5 ⟨rfl, hf5⟩; have hB5 := HHB.out.keep hf5 (by simp); obtain ⟨c0, c1, c2, c3, c4, c5, c6, cz⟩ := hB5.c7) | (go_at_call 64; refine (HPZ.out _ (by repeat (first | with_reducible exact Fr.refl _ _ | with_reducible assumption | with_reducible refine Fr.drewN ?_ _ | with_reducible refine Fr.drew ?_ | with_reducible refine Fr.alloc ?_ _ | ((with_reducible refine Fr.setCell ?_ ?_ _) <;> first | (apply Or.inl; simp; done) | (apply Or.inr; simp; done) | (apply Or.inr; simp; omega) | skip) | (refine Fr.then0 ?_ (by with_reducible assumption)) | (refine Fr.trans ?_ (by with_reducible assumption))))).mono ?_; rw [HZR.out]; rintro e w6 ⟨rfl, hf6⟩; have hB6 := hB5.keep hf6 (by simp); clear c0 c1 c2 c3 c4 c5 c6 cz; obtain ⟨c0, c1, c2, c3, c4, c5, c6, cz⟩ := hB6.c7))
            exact ⟨⟨k + 1, by omega, by go_num, by rw [HLS.out], hfr.trans (Fr.trans ((Fr.refl [] wr).alloc _) (by repeat (first | with_reducible exact Fr.refl _ _ | with_reducible assumption | with_reducible refine Fr.drewN ?_ _ | with_reducible refine Fr.drew ?_ | with_reducible refine Fr.alloc ?_ _ | ((with_reducible refine Fr.setCell ?_ ?_ _) <;> first | (apply Or.inl; simp; done) | (apply Or.inr; simp; done) | (apply Or.inr; simp; omega) | skip) | (refine Fr.then0 ?_ (by with_reducible assumption)) | (refine Fr.trans ?_ (by with_reducible assumption))))), HX⟩, by simp [intOf]; omega⟩
          · have HFO := hide hfo
            have HBD : Hid (List.any [(d.x0, d.y0), (d.x1, d.y1), (d.x2, d.y2)] badPt = false) := hide hbd
            have HZR := hide hzr
            have HX : Hid (R = false) := hide (by rw [HSG.out, hfo, hbd, show (d.pts.drop 1).any notZero = true from hzr]; rfl)
            clear hfo hbd hzr
            go_wp2_with (first | (go_at_call 61; refine (points_any _ _).mono ?_; rw [HPT.out]; rintro e w' ⟨rfl, rfl⟩) | (go_at_call 62; refine (pfollows_any _ _ _).mono ?_; rw [HFO.out]; rintro e w' ⟨rfl, rfl⟩) | (go_at_call 63; refine (HPF.out _ (by repeat (first | with_reducible exact Fr.refl _ _ | with_reducible assumption | with_reducible refine Fr.drewN ?_ _ | with_reducible refine Fr.drew ?_ | with_reducible refine Fr.alloc ?_ _ | ((with_reducible refine Fr.setCell ?_ ?_ _) <;> first | (apply Or.inl; simp; done) | (apply Or.inr; simp; done) | (apply Or.inr; simp; omega) | skip) | (refine Fr.then0 ?_ (by with_reducible assumption)) | (refine Fr.trans ?_ (by with_reducible assumption))))).mono ?_; rw [HBD.out]; rintro e w5 ⟨rfl, hf5⟩; have hB5 := HHB.out.keep hf5 (by simp); obtain ⟨c0, c1, c2, c3, c4, c5, c6, cz⟩ := hB5.c7) | (go_at_call 64; refine (HPZ.out _ (by repeat (first | with_reducible exact Fr.refl _ _ | with_reducible assumption | with_reducible refine Fr.drewN ?_ _ | with_reducible refine Fr.drew ?_ | with_reducible refine Fr.alloc ?_ _ | ((with_reducible refine Fr.setCell ?_ ?_ _) <;> first | (apply Or.inl; simp; done) | (apply Or.inr; simp; done) | (apply Or.inr; simp; omega) | skip) | (refine Fr.then0 ?_ (by with_reducible assumption)) | (refine Fr.trans ?_ (by with_reducible assumption))))).mono ?_; rw [HZR.out]; rintro e w6 ⟨rfl, hf6⟩; have hB6 := hB5.keep hf6 (by simp); clear c0 c1 c2 c3 c4 c5 c6 cz; obtain ⟨c0, c1, c2, c3, c4, c5, c6, cz⟩ := hB6.c7))
            go_ret
            exact ⟨by rw [HX.out]; rfl, hfr.trans (Fr.trans ((Fr.refl [] wr).alloc _) (by repeat (first | with_reducible exact Fr.refl _ _ | with_reducible assumption | with_reducible refine Fr.drewN ?_ _ | with_reducible refine Fr.drew ?_ | with_reducible refine Fr.alloc ?_ _ | ((with_reducible refine Fr.setCell ?_ ?_ _) <;> first | (apply Or.inl; simp; done) | (apply Or.inr; simp; done) | (apply Or.inr; simp; omega) | skip) | (refine Fr.then0 ?_ (by with_reducible assumption)) | (refine Fr.trans ?_ (by with_reducible assumption)))))⟩
        · have HFO := hide hfo
          have HBD : Hid (List.any [(d.x0, d.y0), (d.x1, d.y1), (d.x2, d.y2)] badPt = true) := hide hbd
          have HX : Hid (R = false) := hide (by rw [HSG.out, hfo, hbd]; rfl)
          clear hfo hbd
          go_wp2_with (first | (go_at_call 61; refine (points_any _ _).mono ?_; rw [HPT.out]; rintro e w' ⟨rfl, rfl⟩) | (go_at_call 62; refine (pfollows_any _ _ _).mono ?_; rw [HFO.out]; rintro e w' ⟨rfl, rfl⟩) | (go_at_call 63; refine (HPF.out _ (by repeat (first | with_reducible exact Fr.refl _ _ | with_reducible assumption | with_reducible refine Fr.drewN ?_ _ | with_reducible refine Fr.drew ?_ | with_reducible refine Fr.alloc ?_ _ | ((with_reducible refine Fr.setCell ?_ ?_ _) <;> first | (apply Or.inl; simp; done) | (apply Or.inr; simp; done) | (apply Or.inr; simp; omega) | skip) | (refine Fr.then0 ?_ (by with_reducible assumption)) | (refine Fr.trans ?_ (by with_reducible assumption))))).mono ?_; rw [HBD.out]; rintro e w5 ⟨rfl, hf5⟩; have hB5 := HHB.out.keep hf5 (by simp); obtain ⟨c0, c1, c2, c3, c4, c5, c6, cz⟩ := hB5.c7))
          go_ret
          exact ⟨by rw [HX.out]; rfl, hfr.trans (Fr.trans ((Fr.refl [] wr).alloc _) (by repeat (first | with_reducible exact Fr.refl _ _ | with_reducible assumption | with_reducible refine Fr.drewN ?_ _ | with_reducible refine Fr.drew ?_ | with_reducible refine Fr.alloc ?_ _ | ((with_reducible refine Fr.setCell ?_ ?_ _) <;> first | (apply Or.inl; simp; done) | (apply Or.inr; simp; done) | (apply Or.inr; simp; omega) | skip) | (refine Fr.then0 ?_ (by with_reducible assumption)) | (refine Fr.trans ?_ (by with_reducible assumption)))))⟩
      · have HPT := hide hp
        have HSG : Hid (R = ((followB d.k la && !(d.pts.any badPt) && !((d.pts.drop 3).any notZero)) && segsB (lastK l (k + 1)) (l.drop (k + 1)))) := hide (by rw [HSTEP.out, segB_paint la d 3 hp])
        have HPZ := hide (fun (A : Option Addr) W (h : Fr [] (wr.alloc (.cells #[.int .i64 d.k, .int .i64 d.x0, .int .i64 d.y0, .int .i64 d.x1, .int .i64 d.y1, .int .i64 d.x2, .int .i64 d.y2] 91)) W) => cf_zero (A := A) (c := 0) (LR.nil (w := wr.alloc (.cells #[.int .i64 d.k, .int .i64 d.x0, .int .i64 d.y0, .int .i64 d.x1, .int .i64 d.y1, .int .i64 d.x2, .int .i64 d.y2] 91)) (N := fun _ => True)) (by omega) W h)
        clear hp
        cases hfo : followB d.k la
        · have HFO := hide hfo
          have HX : Hid (R = false) := hide (by rw [HSG.out, hfo]; rfl)
          clear hfo
          go_wp2_with (first | (go_at_call 61; refine (points_any _ _).mono ?_; rw [HPT.out]; rintro e w' ⟨rfl, rfl⟩) | (go_at_call 62; refine (pfollows_any _ _ _).mono ?_; rw [HFO.out]; rintro e w' ⟨rfl, rfl⟩))
          go_ret
          exact ⟨by rw [HX.out]; rfl, hfr.trans ((Fr.refl [] wr).alloc _)⟩
        cases hbd : d.pts.any badPt
        · cases hzr : List.any [] notZero
          · have HFO := hide hfo
            have HBD : Hid (List.any [(d.x0, d.y0), (d.x1, d.y1), (d.x2, d.y2)] badPt = false) := hide hbd
            have HZR := hide hzr
            have HX : Hid (R = segsB (lastK l (k + 1)) (l.drop (k + 1))) := hide (by rw [HSG.out, hfo, hbd, show (d.pts.drop 3).any notZero = false from hzr]; rfl)
            clear hfo hbd hzr
            go_wp2_with (first | (go_at_call 61; refine (points_any _ _).mono ?_; rw [HPT.out]; rintro e w' ⟨rfl, rfl⟩) | (go_at_call 62; refine (pfollows_any _ _ _).mono ?_; rw [HFO.out]; rintro e w' ⟨rfl, rfl⟩) | (go_at_call 63; refine (HPF.out _ (by repeat (first | with_reducible exact Fr.refl _ _ | with_reducible assumption | with_reducible refine Fr.drewN ?_ _ | with_reducible refine Fr.drew ?_ | with_reducible refine Fr.alloc ?_ _ | ((with_reducible refine Fr.setCell ?_ ?_ _) <;> first | (apply Or.inl; simp; done) | (apply Or.inr; simp; done) | (apply Or.inr; simp; omega) | skip) | (refine Fr.then0 ?_ (by with_reducible assumption)) | (refine Fr.trans ?_ (by with_reducible assumption))))).mono ?_; rw [HBD.out]; rintro e w5 ⟨rfl, hf5⟩; have hB5 := HHB.out.keep hf5 (by simp); obtain ⟨c0, c1, c2, c3, c4, c5, c6, cz⟩ := hB5.c7) | (go_at_call 64; refine (HPZ.out _ _ (by repeat (first | with_reducible exact Fr.refl _ _ | with_reducible assumption | with_reducible refine Fr.drewN ?_ _ | with_reducible refine Fr.drew ?_ | with_reducible refine Fr.alloc ?_ _ | ((with_reducible refine Fr.setCell ?_ ?_ _) <;> first | (apply Or.inl; simp; done) | (apply Or.inr; simp; done) | (apply Or.inr; simp; omega) | skip) | (refine Fr.then0 ?_ (by with_reducible assumption)) | (refine Fr.trans ?_ (by with_reducible assumption))))).mono ?_; rw [HZR.out]; rintro e w6 ⟨rfl, hf6⟩; have hB6 := hB5.keep hf6 (by simp); clear c0 c1 c2 c3 c4 c5 c6 cz; obtain ⟨c0, c1, c2, c3, c4, c5, c6, cz⟩ := hB6.c7))
            exact ⟨⟨k + 1, by omega, by go_num, by rw [HLS.out], hfr.trans (Fr.trans ((Fr.refl [] wr).alloc _) (by repeat (first | with_reducible exact Fr.refl _ _ | with_reducible assumption | with_reducible refine Fr.drewN ?_ _ | with_reducible refine Fr.drew ?_ | with_reducible refine Fr.alloc ?_ _ | ((with_reducible refine Fr.setCell ?_ ?_ _) <;> first | (apply Or.inl; simp; done) | (apply Or.inr; simp; done) | (apply Or.inr; simp; omega) | skip) | (refine Fr.then0 ?_ (by with_reducible assumption)) | (refine Fr.trans ?_ (by with_reducible assumption))))), HX⟩, by simp [intOf]; omega⟩
          · have HFO := hide hfo
            have HBD : Hid (List.any [(d.x0, d.y0), (d.x1, d.y1), (d.x2, d.y2)] badPt = false) := hide hbd
            have HZR := hide hzr
            have HX : Hid (R = false) := hide (by rw [HSG.out, hfo, hbd, show (d.pts.drop 3).any notZero = true from hzr]; rfl)
            clear hfo hbd hzr
            go_wp2_with (first | (go_at_call 61; refine (points_any _ _).mono ?_; rw [HPT.out]; rintro e w' ⟨rfl, rfl⟩) | (go_at_call 62; refine (pfollows_any _ _ _).mono ?_; rw [HFO.out]; rintro e w' ⟨rfl, rfl⟩) | (go_at_call 63; refine (HPF.out _ (by repeat (first | with_reducible exact Fr.refl _ _ | with_reducible assumption | with_reducible refine Fr.drewN ?_ _ | with_reducible refine Fr.drew ?_ | with_reducible refine Fr.alloc ?_ _ | ((with_reducible refine Fr.setCell ?_ ?_ _) <;> first | (apply Or.inl; simp; done) | (apply Or.inr; simp; done) | (apply Or.inr; simp; omega) | skip) | (refine Fr.then0 ?_ (by with_reducible assumption)) | (refine Fr.trans ?_ (by with_reducible assumption))))).mono ?_; rw [HBD.out]; rintro e w5 ⟨rfl, hf5⟩; have hB5 := HHB.out.keep hf5 (by simp); obtain ⟨c0, c1, c2, c3, c4, c5, c6, cz⟩ := hB5.c7) | (go_at_call 64; refine (HPZ.out _ _ (by repeat (first | with_reducible exact Fr.refl _ _ | with_reducible assumption | with_reducible refine Fr.drewN ?_ _ | with_reducible refine Fr.drew ?_ | with_reducible refine Fr.alloc ?_ _ | ((with_reducible refine Fr.setCell ?_ ?_ _) <;> first | (apply Or.inl; simp; done) | (apply Or.inr; simp; done) | (apply Or.inr; simp; omega) | skip) | (refine Fr.then0 ?_ (by with_reducible assumption)) | (refine Fr.trans ?_ (by with_reducible assumption))))).mono ?_; rw [HZR.out]; rintro e w6 ⟨rfl, hf6⟩; have hB6 := hB5.keep hf6 (by simp); clear c0 c1 c2 c3 c4 c5 c6 cz; obtain ⟨c0, c1, c2, c3, c4, c5, c6, cz⟩ := hB6.c7))
            go_ret
            exact ⟨by rw [HX.out]; rfl, hfr.trans (Fr.trans ((Fr.refl [] wr).alloc _) (by repeat (first | with_reducible exact Fr.refl _ _ | with_reducible assumption | with_reducible refine Fr.drewN ?_ _ | with_reducible refine Fr.drew ?_ | with_reducible refine Fr.alloc ?_ _ | ((with_reducible refine Fr.setCell ?_ ?_ _) <;> first | (apply Or.inl; simp; done) | (apply Or.inr; simp; done) | (apply Or.inr; simp; omega) | skip) | (refine Fr.then0 ?_ (by with_reducible assumption)) | (refine Fr.trans ?_ (by with_reducible assumption)))))⟩
        · have HFO := hide hfo
          have HBD : Hid (List.any [(d.x0, d.y0), (d.x1, d.y1), (d.x2, d.y2)] badPt = true) := hide hbd
          have HX : Hid (R = false) := hide (by rw [HSG.out, hfo, hbd]; rfl)
          clear hfo hbd
          go_wp2_with (first | (go_at_call 61; refine (points_any _ _).mono ?_; rw [HPT.out]; rintro e w' ⟨rfl, rfl⟩) | (go_at_call 62; refine (pfollows_any _ _ _).mono ?_; rw [HFO.out]; rintro e w' ⟨rfl, rfl⟩) | (go_at_call 63; refine (HPF.out _ (by repeat (first | with_reducible exact Fr.refl _ _ | with_reducible assumption | with_reducible refine Fr.drewN ?_ _ | with_reducible refine Fr.drew ?_ | with_reducible refine Fr.alloc ?_ _ | ((with_reducible refine Fr.setCell ?_ ?_ _) <;> first | (apply Or.inl; simp; done) | (apply Or.inr; simp; done) | (apply Or.inr; simp; omega) | skip) | (refine Fr.then0 ?_ (by with_reducible assumption)) | (refine Fr.trans ?_ (by with_reducible assumption))))).mono ?_; rw [HBD.out]; rintro e w5 ⟨rfl, hf5⟩; have hB5 := HHB.out.keep hf5 (by simp); obtain ⟨c0, c1, c2, c3, c4, c5, c6, cz⟩ := hB5.c7))
          go_ret
          exact ⟨by rw [HX.out]; rfl, hfr.trans (Fr.trans ((Fr.refl [] wr).alloc _) (by repeat (first | with_reducible exact Fr.refl _ _ | with_reducible assumption | with_reducible refine Fr.drewN ?_ _ | with_reducible refine Fr.drew ?_ | with_reducible refine Fr.alloc ?_ _ | ((with_reducible refine Fr.setCell ?_ ?_ _) <;> first | (apply Or.inl; simp; done) | (apply Or.inr; simp; done) | (apply Or.inr; simp; omega) | skip) | (refine Fr.then0 ?_ (by with_reducible assumption)) | (refine Fr.trans ?_ (by with_reducible assumption)))))⟩
      · have HPT := hide hp
        have HSG : Hid (R = ((followB d.k la && !(d.pts.any badPt) && !((d.pts.drop 0).any notZero)) && segsB (lastK l (k + 1)) (l.drop (k + 1)))) := hide (by rw [HSTEP.out, segB_paint la d 0 hp])
        have HPZ := hide (fun W (h : Fr [] (wr.alloc (.cells #[.int .i64 d.k, .int .i64 d.x0, .int .i64 d.y0, .int .i64 d.x1, .int .i64 d.y1, .int .i64 d.x2, .int .i64 d.y2] 91)) W) => cf_zero (c := 3) (lr_pts HHB.out) (by omega) W h)
        clear hp
        cases hfo : followB d.k la
        · have HFO := hide hfo
          have HX : Hid (R = false) := hide (by rw [HSG.out, hfo]; rfl)
          clear hfo
          go_wp2_with (first | (go_at_call 61; refine (points_any _ _).mono ?_; rw [HPT.out]; rintro e w' ⟨rfl, rfl⟩) | (go_at_call 62; refine (pfollows_any _ _ _).mono ?_; rw [HFO.out]; rintro e w' ⟨rfl, rfl⟩))
          go_ret
          exact ⟨by rw [HX.out]; rfl, hfr.trans ((Fr.refl [] wr).alloc _)⟩
        cases hbd : d.pts.any badPt
        · cases hzr : List.any [(d.x0, d.y0), (d.x1, d.y1), (d.x2, d.y2)] notZero
          · have HFO := hide hfo
            have HBD : Hid (List.any [(d.x0, d.y0), (d.x1, d.y1), (d.x2, d.y2)] badPt = false) := hide hbd
            have HZR := hide hzr
            have HX : Hid (R = segsB (lastK l (k + 1)) (l.drop (k + 1))) := hide (by rw [HSG.out, hfo, hbd, show (d.pts.drop 0).any notZero = false from hzr]; rfl)
            clear hfo hbd hzr
            go_wp2_with (first | (go_at_call 61; refine (points_any _ _).mono ?_; rw [HPT.out]; rintro e w' ⟨rfl, rfl⟩) | (go_at_call 62; refine (pfollows_any _ _ _).mono ?_; rw [HFO.out]; rintro e w' ⟨rfl, rfl⟩) | (go_at_call 63; refine (HPF.out _ (by repeat (first | with_reducible exact Fr.refl _ _ | with_reducible assumption | with_reducible refine Fr.drewN ?_ _ | with_reducible refine Fr.drew ?_ | with_reducible refine Fr.alloc ?_ _ | ((with_reducible refine Fr.setCell ?_ ?_ _) <;> first | (apply Or.inl; simp; done) | (apply Or.inr; simp; done) | (apply Or.inr; simp; omega) | skip) | (refine Fr.then0 ?_ (by with_reducible assumption)) | (refine Fr.trans ?_ (by with_reducible assumption))))).mono ?_; rw [HBD.out]; rintro e w5 ⟨rfl, hf5⟩; have hB5 := HHB.out.keep hf5 (by simp); obtain ⟨c0, c1, c2, c3, c4, c5, c6, cz⟩ := hB5.c7) | (go_at_call 64; refine (HPZ.out _ (by repeat (first | with_reducible exact Fr.refl _ _ | with_reducible assumption | with_reducible refine Fr.drewN ?_ _ | with_reducible refine Fr.drew ?_ | with_reducible refine Fr.alloc ?_ _ | ((with_reducible refine Fr.setCell ?_ ?_ _) <;> first | (apply Or.inl; simp; done) | (apply Or.inr; simp; done) | (apply Or.inr; simp; omega) | skip) | (refine Fr.then0 ?_ (by with_reducible assumption)) | (refine Fr.trans ?_ (by with_reducible assumption))))).mono ?_; rw [HZR.out]; rintro e w6 ⟨rfl, hf6⟩; have hB6 := hB5.keep hf6 (by simp); clear c0 c1 c2 c3 c4 c5 c6 cz; obtain ⟨c0, c1, c2, c3, c4, c5, c6, cz⟩ := hB6.c7))
            exact ⟨⟨k + 1, by omega, by go_num, by rw [HLS.out], hfr.trans (Fr.trans ((Fr.refl [] wr).alloc _) (by repeat (first | with_reducible exact Fr.refl _ _ | with_reducible assumption | with_reducible refine Fr.drewN ?_ _ | with_reducible refine Fr.drew ?_ | with_reducible refine Fr.alloc ?_ _ | ((with_reducible refine Fr.setCell ?_ ?_ _) <;> first | (apply Or.inl; simp; done) | (apply Or.inr; simp; done) | (apply Or.inr; simp; omega) | skip) | (refine Fr.then0 ?_ (by with_reducible assumption)) | (refine Fr.trans ?_ (by with_reducible assumption))))), HX⟩, by simp [intOf]; omega⟩
          · have HFO := hide hfo
            have HBD : Hid (List.any [(d.x0, d.y0), (d.x1, d.y1), (d.x2, d.y2)] badPt = false) := hide hbd
            have HZR := hide hzr
            have HX : Hid (R = false) := hide (by rw [HSG.out, hfo, hbd, show (d.pts.drop 0).any notZero = true from hzr]; rfl)
            clear hfo hbd hzr
            go_wp2_with (first | (go_at_call 61; refine (points_any _ _).mono ?_; rw [HPT.out]; rintro e w' ⟨rfl, rfl⟩) | (go_at_call 62; refine (pfollows_any _ _ _).mono ?_; rw [HFO.out]; rintro e w' ⟨rfl, rfl⟩) | (go_at_call 63; refine (HPF.out _ (by repeat (first | with_reducible exact Fr.refl _ _ | with_reducible assumption | with_reducible refine Fr.drewN ?_ _ | with_reducible refine Fr.drew ?_ | with_reducible refine Fr.alloc ?_ _ | ((with_reducible refine Fr.setCell ?_ ?_ _) <;> first | (apply Or.inl; simp; done) | (apply Or.inr; simp; done) | (apply Or.inr; simp; omega) | skip) | (refine Fr.then0 ?_ (by with_reducible assumption)) | (refine Fr.trans ?_ (by with_reducible assumption))))).mono ?_; rw [HBD.out]; rintro e w5 ⟨rfl, hf5⟩; have hB5 := HHB.out.keep hf5 (by simp); obtain ⟨c0, c1, c2, c3, c4, c5, c6, cz⟩ := hB5.c7) | (go_at_call 64; refine (HPZ.out _ (by repeat (first | with_reducible exact Fr.refl _ _ | with_reducible assumption | with_reducible refine Fr.drewN ?_ _ | with_reducible refine Fr.drew ?_ | with_reducible refine Fr.alloc ?_ _ | ((with_reducible refine Fr.setCell ?_ ?_ _) <;> first | (apply Or.inl; simp; done) | (apply Or.inr; simp; done) | (apply Or.inr; simp; omega) | skip) | (refine Fr.then0 ?_ (by with_reducible assumption)) | (refine Fr.trans ?_ (by with_reducible assumption))))).mono ?_; rw [HZR.out]; rintro e w6 ⟨rfl, hf6⟩; have hB6 := hB5.keep hf6 (by simp); clear c0 c1 c2 c3 c4 c5 c6 cz; obtain ⟨c0, c1, c2, c3, c4, c5, c6, cz⟩ := hB6.c7))
            go_ret
            exact ⟨by rw [HX.out]; rfl, hfr.trans (Fr.trans ((Fr.refl [] wr).alloc _) (by repeat (first | with_reducible exact Fr.refl _ _ | with_reducible assumption | with_reducible refine Fr.drewN ?_ _ | with_reducible refine Fr.drew ?_ | with_reducible refine Fr.alloc ?_ _ | ((with_reducible refine Fr.setCell ?_ ?_ _) <;> first | (apply Or.inl; simp; done) | (apply Or.inr; simp; done) | (apply Or.inr; simp; omega) | skip) | (refine Fr.then0 ?_ (by with_reducible assumption)) | (refine Fr.trans ?_ (by with_reducible assumption)))))⟩
        · have HFO := hide hfo
          have HBD : Hid (List.any [(d.x0, d.y0), (d.x1, d.y1), (d.x2, d.y2)] badPt = true) := hide hbd
          have HX : Hid (R = false) := hide (by rw [HSG.out, hfo, hbd]; rfl)
          clear hfo hbd
          go_wp2_with (first | (go_at_call 61; refine (points_any _ _).mono ?_; rw [HPT.out]; rintro e w' ⟨rfl, rfl⟩) | (go_at_call 62; refine (pfollows_any _ _ _).mono ?_; rw [HFO.out]; rintro e w' ⟨rfl, rfl⟩) | (go_at_call 63; refine (HPF.out _ (by repeat (first | with_reducible exact Fr.refl _ _ | with_reducible assumption | with_reducible refine Fr.drewN ?_ _ | with_reducible refine Fr.drew ?_ | with_reducible refine Fr.alloc ?_ _ | ((with_reducible refine Fr.setCell ?_ ?_ _) <;> first | (apply Or.inl; simp; done) | (apply Or.inr; simp; done) | (apply Or.inr; simp; omega) | skip) | (refine Fr.then0 ?_ (by with_reducible assumption)) | (refine Fr.trans ?_ (by with_reducible assumption))))).mono ?_; rw [HBD.out]; rintro e w5 ⟨rfl, hf5⟩; have hB5 := HHB.out.keep hf5 (by simp); obtain ⟨c0, c1, c2, c3, c4, c5, c6, cz⟩ := hB5.c7))
          go_ret
          exact ⟨by rw [HX.out]; rfl, hfr.trans (Fr.trans ((Fr.refl [] wr).alloc _) (by repeat (first | with_reducible exact Fr.refl _ _ | with_reducible assumption | with_reducible refine Fr.drewN ?_ _ | with_reducible refine Fr.drew ?_ | with_reducible refine Fr.alloc ?_ _ | ((with_reducible refine Fr.setCell ?_ ?_ _) <;> first | (apply Or.inl; simp; done) | (apply Or.inr; simp; done) | (apply Or.inr; simp; omega) | skip) | (refine Fr.then0 ?_ (by with_reducible assumption)) | (refine Fr.trans ?_ (by with_reducible assumption)))))⟩
      · have HPT := hide hp
        have HX : Hid (R = false) := hide (by rw [HSTEP.out, segB_none la d (by omega)]; rfl)
        clear hp
        go_wp2_with (go_at_call 61; refine (points_any _ _).mono ?_; rw [HPT.out]; rintro e w' ⟨rfl, rfl⟩)
        go_ret
        exact ⟨by rw [HX.out]; rfl, hfr.trans ((Fr.refl [] wr).alloc _)⟩
    · have hdk : decide ((k : Int) < (n : Int)) = false := by simp; omega
      have HX : Hid (R = true) := hide (by rw [hrel.out, List.drop_eq_nil_of_le (by rw [HLN.out]; omega)]; rfl)
      go_wp2
      go_ret
      exact ⟨by rw [HX.out]; rfl, hfr⟩
end Go.Proofs.YtndfdekcdhlgoaaDoor
