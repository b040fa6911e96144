/- Contracts: the reference's texts of items: strokes. -/
import Derived.Test.YtndfdekcdhlgoaaDoorScR26A
set_option linter.unusedVariables false
set_option linter.unusedSimpArgs false
namespace Go.Proofs.YtndfdekcdhlgoaaDoor
open Go.RowKit
set_option maxRecDepth 100000 in
set_option maxHeartbeats 8000000 in
theorem item26_3 {w0 : World} {N : Nat → Prop} {sp p0 p1 p2 p3 pw pc pj pm pf fo m0 m1 m2 m3 m4 m5 : Int} {path : List SegD} {clips : List ClipD} {dash : List Int} {bytes : List UInt8} {Ap Ac Ad Ab : Option Addr} {np cp nc cc nd cd nb cb : Nat}
    (hs : ItemS w0 N ⟨3, path, ⟨sp, p0, p1, p2, p3⟩, clips, ⟨pw, pc, pj, pm, dash, pf⟩, fo, ⟨m0, m1, m2, m3, m4, m5⟩, bytes⟩ Ap np cp Ac nc cc Ad nd cd Ab nb cb) (hb : itemB ⟨3, path, ⟨sp, p0, p1, p2, p3⟩, clips, ⟨pw, pc, pj, pm, dash, pf⟩, fo, ⟨m0, m1, m2, m3, m4, m5⟩, bytes⟩ = true) (hW : itemW ⟨3, path, ⟨sp, p0, p1, p2, p3⟩, clips, ⟨pw, pc, pj, pm, dash, pf⟩, fo, ⟨m0, m1, m2, m3, m4, m5⟩, bytes⟩ ≤ 10000) (w : World) (hf : Fr [] w0 w) :
    Calls Tryd.prog 20 #[.agg #[.int .i64 3, .slice Ap np cp, .int .i64 sp, .int .i64 p0, .int .i64 p1, .int .i64 p2, .int .i64 p3, .slice Ac nc cc, .int .i64 pw, .int .i64 pc, .int .i64 pj, .int .i64 pm, .slice Ad nd cd, .int .i64 pf, .int .i64 fo, .int .i64 m0, .int .i64 m1, .int .i64 m2, .int .i64 m3, .int .i64 m4, .int .i64 m5, .slice Ab nb cb]] w fun e w' => e = .returned (.string ⟨(itemT ⟨3, path, ⟨sp, p0, p1, p2, p3⟩, clips, ⟨pw, pc, pj, pm, dash, pf⟩, fo, ⟨m0, m1, m2, m3, m4, m5⟩, bytes⟩).toArray⟩) ∧ Fr [] w w' := by
  obtain ⟨d, hd⟩ : ∃ d : ItemD, d = ⟨3, path, ⟨sp, p0, p1, p2, p3⟩, clips, ⟨pw, pc, pj, pm, dash, pf⟩, fo, ⟨m0, m1, m2, m3, m4, m5⟩, bytes⟩ := ⟨_, rfl⟩
  obtain ⟨R, hR⟩ : ∃ R, R = itemT d := ⟨_, rfl⟩
  rw [← hd] at hs hb hW
  rw [← hd, ← hR]
  have HR := hide hR
  have HD := hide hd
  have HSS := hide hs
  have hlen := itemT_len d hb
  have hcl : clipsB d.clips = true := by unfold itemB at hb; simp only [Bool.and_eq_true] at hb; exact hb.1.2
  have hsp : sp = 1 ∨ sp = 3 ∨ sp = 4 := by unfold itemB at hb; simp only [Bool.and_eq_true] at hb; have h1 := hb.1.1; unfold colB at h1; rw [hd] at h1; simp only [Bool.and_eq_true, decide_eq_true_eq] at h1; omega
  have hcT : (clipsT d.clips).length ≤ 2000000 := by
    have h1 : (itemT d).length = (clipsT d.clips).length + (kindT d.kind ++ colT d.col ++ restT d ++ [10]).length := by
      unfold itemT; simp only [List.length_append]; omega
    omega
  have hW' := hW
  unfold itemW at hW'
  rw [hs.path.len, hs.bytes.len, show d.pen.dash.length = nd by have := hs.dash.len1; simpa using this] at hW'
  have hnp : np ≤ 10000 := by omega
  have hnb : nb ≤ 10000 := by omega
  have hnd : nd ≤ 10000 := by omega
  clear hW'
  have HRL := hide (show R.length ≤ 2000000 by rw [hR]; omega)
  have HHB := hide hb
  have HCL := hide hcl
  have HNC := hide hs.clips.len
  have hnc : nc ≤ 16 := by unfold clipsB at hcl; simp only [Bool.and_eq_true, decide_eq_true_eq] at hcl; have := hs.clips.len; omega
  clear hR hd hb hcl hlen hW hs
  go_enter Tryd.func20, Tryd.ntmps20
  go_wp2
  obtain ⟨g, hg⟩ : ∃ g, g = w.heap.size := ⟨_, rfl⟩
  obtain ⟨W1, hW1⟩ : ∃ W1, W1 = w.alloc (.cells #[.int .i64 3, .slice Ap np cp, .int .i64 sp, .int .i64 p0, .int .i64 p1, .int .i64 p2, .int .i64 p3, .slice Ac nc cc, .int .i64 pw, .int .i64 pc, .int .i64 pj, .int .i64 pm, .slice Ad nd cd, .int .i64 pf, .int .i64 fo, .int .i64 m0, .int .i64 m1, .int .i64 m2, .int .i64 m3, .int .i64 m4, .int .i64 m5, .slice Ab nb cb] 43) := ⟨_, rfl⟩
  have hB : Blk W1 g 43 #[.int .i64 3, .slice Ap np cp, .int .i64 sp, .int .i64 p0, .int .i64 p1, .int .i64 p2, .int .i64 p3, .slice Ac nc cc, .int .i64 pw, .int .i64 pc, .int .i64 pj, .int .i64 pm, .slice Ad nd cd, .int .i64 pf, .int .i64 fo, .int .i64 m0, .int .i64 m1, .int .i64 m2, .int .i64 m3, .int .i64 m4, .int .i64 m5, .slice Ab nb cb] := by rw [hW1, hg]; exact Blk.new _ _ _
  have hf1 : Fr [] w W1 := by rw [hW1]; exact (by repeat (first | with_reducible exact Fr.refl _ _ | with_reducible assumption | with_reducible refine Fr.drewN ?_ _ | with_reducible refine Fr.drew ?_ | with_reducible refine Fr.alloc ?_ _ | ((with_reducible refine Fr.setCell ?_ ?_ _) <;> first | (apply Or.inl; simp; done) | (apply Or.inr; simp; done) | (apply Or.inr; simp; omega) | skip) | (refine Fr.then0 ?_ (by with_reducible assumption)) | (refine Fr.trans ?_ (by with_reducible assumption))))
  rw [← hW1, ← hg]
  clear hW1 hg
  generalize Value.agg #[.int .i64 3, .slice Ap np cp, .int .i64 sp, .int .i64 p0, .int .i64 p1, .int .i64 p2, .int .i64 p3, .slice Ac nc cc, .int .i64 pw, .int .i64 pc, .int .i64 pj, .int .i64 pm, .slice Ad nd cd, .int .i64 pf, .int .i64 fo, .int .i64 m0, .int .i64 m1, .int .i64 m2, .int .i64 m3, .int .i64 m4, .int .i64 m5, .slice Ab nb cb] = ag
  go_loopw [4, 3] (fun i s w2 => ∃ (k : Nat) (t : List UInt8), k ≤ nc ∧ i = .int .i64 k ∧ s = .string ⟨t.toArray⟩ ∧ Fr [] W1 w2 ∧ Hid (t = clipsT (d.clips.take k))) (fun i _ _ => nc - (intOf i).toNat)
  case atStart => exact ⟨0, [], Nat.zero_le _, rfl, rfl, Fr.refl _ _, hide (by simp [clipsT])⟩
  case round =>
    obtain ⟨k, t, hk, rfl, rfl, hfr, hrel⟩ := hrel
    have hBr := hB.keep hfr (by simp)
    have c7 : wr.cell? ⟨g, 7, none⟩ = some (.slice Ac nc cc) := hBr.cell 7
    have htl : t.length ≤ 2000000 := by rw [hrel.out]; exact Nat.le_trans (clipsT_take _ _) hcT
    by_cases hlt : k < nc
    · have hdk : decide ((k : Int) < (nc : Int)) = true := by simp; omega
      obtain ⟨ad, cl, Aq, nq, cq, rfl, hlk, hq1, hq2, hq3, a0, a1⟩ := clip_elem (HSS.out.keep ((hf.trans hf1).trans hfr) (by simp)).clips hlt
      have hSN := clipsT_snoc hlk
      have htl2 : (clipsT (d.clips.take (k + 1))).length ≤ 2000000 := Nat.le_trans (clipsT_take _ _) hcT
      have hnq : nq ≤ 4096 := by rw [← hq3.len]; exact clip_path HCL.out (List.mem_of_getElem? hlk)
      have HP := hide (fun W (h : Fr [] wr W) => path26_any (c := cq) hq3 (by omega) W h)
      have hpl := pathT_len cl.path
      rw [hq3.len] at hpl
      have hpl2 : (pathT cl.path).length ≤ 1000000 := by omega
      have HF := hide (show clipsT (d.clips.take (k + 1)) = t ++ clipT cl by rw [hSN, hrel.out])
      clear hlk hq3 hSN htl2 hpl hrel
      unfold clipT at HF
      generalize pathT cl.path = pt at *
      cases heo : cl.eo
      · rw [heo] at a1 HF
        have HE := hide (by rw [show (⟨#[99, 108, 105, 112]⟩ : ByteArray) = ⟨[99, 108, 105, 112].toArray⟩ from rfl, show (⟨#[10]⟩ : ByteArray) = ⟨[10].toArray⟩ from rfl, cat_str, cat_str, cat_str] : (⟨t.toArray⟩ : ByteArray) ++ ⟨#[99, 108, 105, 112]⟩ ++ ⟨pt.toArray⟩ ++ ⟨#[10]⟩ = ⟨(t ++ [99, 108, 105, 112] ++ pt ++ [10]).toArray⟩)
        have hc1 : ¬9223372036854775807 < t.length + 4 := by omega
        have hc2 : ¬9223372036854775807 < t.length + 4 + pt.length := by omega
        have hc3 : ¬9223372036854775807 < t.length + 4 + pt.length + 1 := by omega
        clear heo
        go_wp2_with (go_at_call 37; refine (HP.out _ (by repeat (first | with_reducible exact Fr.refl _ _ | with_reducible assumption | with_reducible refine Fr.drewN ?_ _ | with_reducible refine Fr.drew ?_ | with_reducible refine Fr.alloc ?_ _ | ((with_reducible refine Fr.setCell ?_ ?_ _) <;> first | (apply Or.inl; simp; done) | (apply Or.inr; simp; done) | (apply Or.inr; simp; omega) | skip) | (refine Fr.then0 ?_ (by with_reducible assumption)) | (refine Fr.trans ?_ (by with_reducible assumption))))).mono ?_; rintro e w5 ⟨rfl, hf5⟩)
        exact ⟨⟨k + 1, _, by omega, by go_num, congrArg Value.string HE.out, hfr.trans (by repeat (first | with_reducible exact Fr.refl _ _ | with_reducible assumption | with_reducible refine Fr.drewN ?_ _ | with_reducible refine Fr.drew ?_ | with_reducible refine Fr.alloc ?_ _ | ((with_reducible refine Fr.setCell ?_ ?_ _) <;> first | (apply Or.inl; simp; done) | (apply Or.inr; simp; done) | (apply Or.inr; simp; omega) | skip) | (refine Fr.then0 ?_ (by with_reducible assumption)) | (refine Fr.trans ?_ (by with_reducible assumption)))), hide (by rw [HF.out]; simp)⟩, by simp [intOf]; omega⟩
      · rw [heo] at a1 HF
        have HE := hide (by rw [show (⟨#[101, 111]⟩ : ByteArray) = ⟨[101, 111].toArray⟩ from rfl, show (⟨#[99, 108, 105, 112]⟩ : ByteArray) = ⟨[99, 108, 105, 112].toArray⟩ from rfl, show (⟨#[10]⟩ : ByteArray) = ⟨[10].toArray⟩ from rfl, cat_str, cat_str, cat_str, cat_str] : (⟨t.toArray⟩ : ByteArray) ++ ⟨#[101, 111]⟩ ++ ⟨#[99, 108, 105, 112]⟩ ++ ⟨pt.toArray⟩ ++ ⟨#[10]⟩ = ⟨(t ++ [101, 111] ++ [99, 108, 105, 112] ++ pt ++ [10]).toArray⟩)
        have hc0 : ¬9223372036854775807 < t.length + 2 := by omega
        have hc1 : ¬9223372036854775807 < t.length + 2 + 4 := by omega
        have hc2 : ¬9223372036854775807 < t.length + 2 + 4 + pt.length := by omega
        have hc3 : ¬9223372036854775807 < t.length + 2 + 4 + pt.length + 1 := by omega
        clear heo
        go_wp2_with (go_at_call 37; refine (HP.out _ (by repeat (first | with_reducible exact Fr.refl _ _ | with_reducible assumption | with_reducible refine Fr.drewN ?_ _ | with_reducible refine Fr.drew ?_ | with_reducible refine Fr.alloc ?_ _ | ((with_reducible refine Fr.setCell ?_ ?_ _) <;> first | (apply Or.inl; simp; done) | (apply Or.inr; simp; done) | (apply Or.inr; simp; omega) | skip) | (refine Fr.then0 ?_ (by with_reducible assumption)) | (refine Fr.trans ?_ (by with_reducible assumption))))).mono ?_; rintro e w5 ⟨rfl, hf5⟩)
        exact ⟨⟨k + 1, _, by omega, by go_num, congrArg Value.string HE.out, hfr.trans (by repeat (first | with_reducible exact Fr.refl _ _ | with_reducible assumption | with_reducible refine Fr.drewN ?_ _ | with_reducible refine Fr.drew ?_ | with_reducible refine Fr.alloc ?_ _ | ((with_reducible refine Fr.setCell ?_ ?_ _) <;> first | (apply Or.inl; simp; done) | (apply Or.inr; simp; done) | (apply Or.inr; simp; omega) | skip) | (refine Fr.then0 ?_ (by with_reducible assumption)) | (refine Fr.trans ?_ (by with_reducible assumption)))), hide (by rw [HF.out]; simp)⟩, by simp [intOf]; omega⟩
    · have hdk : decide ((k : Int) < (nc : Int)) = false := by simp; omega
      have HCT : Hid (t = clipsT d.clips) := hide (by rw [hrel.out, List.take_of_length_le (by rw [HNC.out]; omega)])
      clear hrel hdk
      have c0 : wr.cell? ⟨g, 0, none⟩ = some (.int .i64 3) := hBr.cell 0
      have c2 : wr.cell? ⟨g, 2, none⟩ = some (.int .i64 sp) := hBr.cell 2
      have hds := smallT_len sp (by omega)
      have HDC := hide (fun W => dec_any sp W (by omega) (by omega))
      go_wp2
      obtain ⟨wo, rfl⟩ : ∃ wo : World, wo = wr := ⟨_, rfl⟩
      have HK0 := hide (fun W (h : Fr [] wo W) => (⟨h.cell c0 (by simp), h.cell c2 (by simp), h⟩ : W.cell? ⟨g, 0, none⟩ = some (.int .i64 3) ∧ W.cell? ⟨g, 2, none⟩ = some (.int .i64 sp) ∧ Fr [] wo W))
      have HFR := hide hfr
      have hds2 : (decT sp).length ≤ 3 := by have h1 := hds; simp only [smallT, List.length_cons] at h1; omega
      clear hBr hfr hds
      obtain ⟨ds, hds0⟩ : ∃ x, decT sp = x := ⟨_, rfl⟩
      rw [hds0] at HDC hds2
      have HDS := hide hds0
      clear hds0
      have HE := hide (by rw [show (⟨#[115, 116, 114, 111, 107, 101]⟩ : ByteArray) = ⟨[115, 116, 114, 111, 107, 101].toArray⟩ from rfl, show (⟨#[32]⟩ : ByteArray) = ⟨[32].toArray⟩ from rfl, cat_str, cat_str, cat_str] : (⟨t.toArray⟩ : ByteArray) ++ ⟨#[115, 116, 114, 111, 107, 101]⟩ ++ ⟨#[32]⟩ ++ ⟨ds.toArray⟩ = ⟨(t ++ [115, 116, 114, 111, 107, 101] ++ [32] ++ ds).toArray⟩)
      have hc1 : ¬9223372036854775807 < t.length + 6 := by omega
      have hc2 : ¬9223372036854775807 < t.length + 6 + 1 := by omega
      have hc3 : ¬9223372036854775807 < t.length + 6 + 1 + ds.length := by omega
      go_cut [3] (fun s3 wx => s3 = .string ⟨(t ++ [115, 116, 114, 111, 107, 101] ++ [32] ++ ds).toArray⟩ ∧ Fr [] wo wx)
      case first =>
        refine wp_region_noPanic ?_
        refine wp_region_held_drew (S := fun w' => w'.cell? ⟨g, 0, none⟩ = some (.int .i64 3) ∧ w'.cell? ⟨g, 2, none⟩ = some (.int .i64 sp) ∧ Fr [] wo w') (by kernel_rfl) (HK0.out _ (by repeat (first | with_reducible exact Fr.refl _ _ | with_reducible assumption | with_reducible refine Fr.drewN ?_ _ | with_reducible refine Fr.drew ?_ | with_reducible refine Fr.alloc ?_ _ | ((with_reducible refine Fr.setCell ?_ ?_ _) <;> first | (apply Or.inl; simp; done) | (apply Or.inr; simp; done) | (apply Or.inr; simp; omega) | skip) | (refine Fr.then0 ?_ (by with_reducible assumption)) | (refine Fr.trans ?_ (by with_reducible assumption))))) (fun hHeld => ?_)
        (refine wpAnyH_take (i := 0) (v := ?_) rfl (by kernel_rfl) (by kernel_rfl) (by kernel_rfl) (fun _ _ _ h => h) (Or.inl ⟨by rfl, ?_⟩) (by assumption) ?_; rotate_left; (intro w hSw; (try dsimp only at hSw); go_simp; try (with_reducible rfl)); (try simp only [Act.put, List.getElem_toArray, List.getElem_cons_succ, List.getElem_cons_zero, List.setIfInBounds_toArray, List.set_cons_zero, List.set_cons_succ]))
        (refine wpAnyH_take (i := 2) (v := ?_) rfl (by kernel_rfl) (by kernel_rfl) (by kernel_rfl) (fun _ _ _ h => h) (Or.inl ⟨by rfl, ?_⟩) (by assumption) ?_; rotate_left; (intro w hSw; (try dsimp only at hSw); go_simp; try (with_reducible rfl)); (try simp only [Act.put, List.getElem_toArray, List.getElem_cons_succ, List.getElem_cons_zero, List.setIfInBounds_toArray, List.set_cons_zero, List.set_cons_succ]))
        (refine wpAnyH_take (i := 3) (v := ?_) rfl (by kernel_rfl) (by kernel_rfl) (by kernel_rfl) (fun _ _ _ h => h) (Or.inl ⟨by rfl, ?_⟩) (by assumption) ?_; rotate_left; (intro w hSw; (try dsimp only at hSw); go_simp; try (with_reducible rfl)); (try simp only [Act.put, List.getElem_toArray, List.getElem_cons_succ, List.getElem_cons_zero, List.setIfInBounds_toArray, List.set_cons_zero, List.set_cons_succ]))
        (refine wpAnyH_take (i := 8) (v := ?_) rfl (by kernel_rfl) (by kernel_rfl) (by kernel_rfl) (fun _ _ _ h => h) (Or.inl ⟨by rfl, ?_⟩) (by assumption) ?_; rotate_left; (intro w hSw; (try dsimp only at hSw); go_simp; try (with_reducible rfl)); (try simp only [Act.put, List.getElem_toArray, List.getElem_cons_succ, List.getElem_cons_zero, List.setIfInBounds_toArray, List.set_cons_zero, List.set_cons_succ]))
        (refine wpAnyH_take (i := 9) (v := ?_) rfl (by kernel_rfl) (by kernel_rfl) (by kernel_rfl) (fun _ _ _ h => h) (Or.inl ⟨by rfl, ?_⟩) (by assumption) ?_; rotate_left; (intro w hSw; (try dsimp only at hSw); go_simp; try (with_reducible rfl)); (try simp only [Act.put, List.getElem_toArray, List.getElem_cons_succ, List.getElem_cons_zero, List.setIfInBounds_toArray, List.set_cons_zero, List.set_cons_succ]))
        (refine wpAnyH_take (i := 10) (v := ?_) rfl (by kernel_rfl) (by kernel_rfl) (by kernel_rfl) (fun _ _ _ h => h) (Or.inl ⟨by rfl, ?_⟩) (by assumption) ?_; rotate_left; (intro w hSw; (try dsimp only at hSw); go_simp; try (with_reducible rfl)); (try simp only [Act.put, List.getElem_toArray, List.getElem_cons_succ, List.getElem_cons_zero, List.setIfInBounds_toArray, List.set_cons_zero, List.set_cons_succ]))
        refine wpAnyH_ready (rs := [1,11]) (by kernel_rfl) (by simp) (AllReadyH.cons rfl (fun K hK => ?_) ( AllReadyH.cons rfl (fun K hK => ?_) AllReadyH.nil))
        · go_simp
          refine hK.out _ _ (HK0.out _ (by repeat (first | with_reducible exact Fr.refl _ _ | with_reducible assumption | with_reducible refine Fr.drewN ?_ _ | with_reducible refine Fr.drew ?_ | with_reducible refine Fr.alloc ?_ _ | ((with_reducible refine Fr.setCell ?_ ?_ _) <;> first | (apply Or.inl; simp; done) | (apply Or.inr; simp; done) | (apply Or.inr; simp; omega) | skip) | (refine Fr.then0 ?_ (by with_reducible assumption)) | (refine Fr.trans ?_ (by with_reducible assumption))))) (fun hHeld => ?_); clear hK K; (try simp only [Act.put, List.setIfInBounds_toArray, List.set_cons_zero, List.set_cons_succ])
          (refine wpAnyH_take (i := 4) (v := ?_) rfl (by kernel_rfl) (by kernel_rfl) (by kernel_rfl) (fun _ _ _ h => h) (Or.inl ⟨by rfl, ?_⟩) (by assumption) ?_; rotate_left; (intro w hSw; (try dsimp only at hSw); go_simp; try (with_reducible rfl)); (try simp only [Act.put, List.getElem_toArray, List.getElem_cons_succ, List.getElem_cons_zero, List.setIfInBounds_toArray, List.set_cons_zero, List.set_cons_succ]))
          refine wpAnyH_ready (rs := [5,11]) (by kernel_rfl) (by simp) (AllReadyH.cons rfl (fun K hK => ?_) ( AllReadyH.cons rfl (fun K hK => ?_) AllReadyH.nil))
          · go_simp
            refine hK.out _ _ (HK0.out _ (by repeat (first | with_reducible exact Fr.refl _ _ | with_reducible assumption | with_reducible refine Fr.drewN ?_ _ | with_reducible refine Fr.drew ?_ | with_reducible refine Fr.alloc ?_ _ | ((with_reducible refine Fr.setCell ?_ ?_ _) <;> first | (apply Or.inl; simp; done) | (apply Or.inr; simp; done) | (apply Or.inr; simp; omega) | skip) | (refine Fr.then0 ?_ (by with_reducible assumption)) | (refine Fr.trans ?_ (by with_reducible assumption))))) (fun hHeld => ?_); clear hK K; (try simp only [Act.put, List.setIfInBounds_toArray, List.set_cons_zero, List.set_cons_succ])
            (refine wpAnyH_take (i := 6) (v := ?_) rfl (by kernel_rfl) (by kernel_rfl) (by kernel_rfl) (fun _ _ _ h => h) (Or.inl ⟨by rfl, ?_⟩) (by assumption) ?_; rotate_left; (intro w hSw; (try dsimp only at hSw); go_simp; try (with_reducible rfl)); (try simp only [Act.put, List.getElem_toArray, List.getElem_cons_succ, List.getElem_cons_zero, List.setIfInBounds_toArray, List.set_cons_zero, List.set_cons_succ]))
            (refine wpAnyH_take (i := 7) (v := ?_) rfl (by kernel_rfl) (by kernel_rfl) (by kernel_rfl) (fun _ _ _ h => h) (Or.inl ⟨by rfl, ?_⟩) (by assumption) ?_; rotate_left; (intro w hSw; (try dsimp only at hSw); go_simp; try (with_reducible rfl)); (try simp only [Act.put, List.getElem_toArray, List.getElem_cons_succ, List.getElem_cons_zero, List.setIfInBounds_toArray, List.set_cons_zero, List.set_cons_succ]))
            refine wpAnyH_ready (rs := [11]) (by kernel_rfl) (by simp) (AllReadyH.cons rfl (fun K hK => ?_) AllReadyH.nil)
            go_simp; go_at_call 38; refine (HDC.out _).mono ?_; rintro e w1 ⟨rfl, hf1⟩
            refine hK.out _ _ (HK0.out _ (by repeat (first | with_reducible exact Fr.refl _ _ | with_reducible assumption | with_reducible refine Fr.drewN ?_ _ | with_reducible refine Fr.drew ?_ | with_reducible refine Fr.alloc ?_ _ | ((with_reducible refine Fr.setCell ?_ ?_ _) <;> first | (apply Or.inl; simp; done) | (apply Or.inr; simp; done) | (apply Or.inr; simp; omega) | skip) | (refine Fr.then0 ?_ (by with_reducible assumption)) | (refine Fr.trans ?_ (by with_reducible assumption))))) (fun hHeld => ?_); clear hK K; (try simp only [Act.put, List.setIfInBounds_toArray, List.set_cons_zero, List.set_cons_succ])
            (refine wpAnyH_take (i := 12) (v := ?_) rfl (by kernel_rfl) (by kernel_rfl) (by kernel_rfl) (fun _ _ _ h => h) (Or.inl ⟨by rfl, ?_⟩) (by assumption) ?_; rotate_left; (intro w hSw; (try dsimp only at hSw); go_simp; try (with_reducible rfl)); (try simp only [Act.put, List.getElem_toArray, List.getElem_cons_succ, List.getElem_cons_zero, List.setIfInBounds_toArray, List.set_cons_zero, List.set_cons_succ]))
            (refine wpAnyH_take (i := 13) (v := ?_) rfl (by kernel_rfl) (by kernel_rfl) (by kernel_rfl) (fun _ _ _ h => h) (Or.inl ⟨by rfl, ?_⟩) (by assumption) ?_; rotate_left; (intro w hSw; (try dsimp only at hSw); go_simp; try (with_reducible rfl)); (try simp only [Act.put, List.getElem_toArray, List.getElem_cons_succ, List.getElem_cons_zero, List.setIfInBounds_toArray, List.set_cons_zero, List.set_cons_succ]))
            refine wpAnyH_done (by kernel_rfl) ?_ _; refine NoPanic.normal ?_; go_wp2_with fail; go_meet; exact ⟨congrArg Value.string HE.out, (by repeat (first | with_reducible exact Fr.refl _ _ | with_reducible assumption | with_reducible refine Fr.drewN ?_ _ | with_reducible refine Fr.drew ?_ | with_reducible refine Fr.alloc ?_ _ | ((with_reducible refine Fr.setCell ?_ ?_ _) <;> first | (apply Or.inl; simp; done) | (apply Or.inr; simp; done) | (apply Or.inr; simp; omega) | skip) | (refine Fr.then0 ?_ (by with_reducible assumption)) | (refine Fr.trans ?_ (by with_reducible assumption))))⟩
          · go_simp; go_at_call 38; refine (HDC.out _).mono ?_; rintro e w1 ⟨rfl, hf1⟩
            have hx : w1.cell? ⟨wo.heap.size, 3, none⟩ = some (.string ⟨#[115, 116, 114, 111, 107, 101]⟩) := hf1.cell (by go_simp) (by simp)
            refine hK.out _ _ (HK0.out _ (by repeat (first | with_reducible exact Fr.refl _ _ | with_reducible assumption | with_reducible refine Fr.drewN ?_ _ | with_reducible refine Fr.drew ?_ | with_reducible refine Fr.alloc ?_ _ | ((with_reducible refine Fr.setCell ?_ ?_ _) <;> first | (apply Or.inl; simp; done) | (apply Or.inr; simp; done) | (apply Or.inr; simp; omega) | skip) | (refine Fr.then0 ?_ (by with_reducible assumption)) | (refine Fr.trans ?_ (by with_reducible assumption))))) (fun hHeld => ?_); clear hK K; (try simp only [Act.put, List.setIfInBounds_toArray, List.set_cons_zero, List.set_cons_succ])
            refine wpAnyH_ready (rs := [5]) (by kernel_rfl) (by simp) (AllReadyH.cons rfl (fun K hK => ?_) AllReadyH.nil)
            go_simp
            refine hK.out _ _ (HK0.out _ (by repeat (first | with_reducible exact Fr.refl _ _ | with_reducible assumption | with_reducible refine Fr.drewN ?_ _ | with_reducible refine Fr.drew ?_ | with_reducible refine Fr.alloc ?_ _ | ((with_reducible refine Fr.setCell ?_ ?_ _) <;> first | (apply Or.inl; simp; done) | (apply Or.inr; simp; done) | (apply Or.inr; simp; omega) | skip) | (refine Fr.then0 ?_ (by with_reducible assumption)) | (refine Fr.trans ?_ (by with_reducible assumption))))) (fun hHeld => ?_); clear hK K; (try simp only [Act.put, List.setIfInBounds_toArray, List.set_cons_zero, List.set_cons_succ])
            (refine wpAnyH_take (i := 6) (v := ?_) rfl (by kernel_rfl) (by kernel_rfl) (by kernel_rfl) (fun _ _ _ h => h) (Or.inl ⟨by rfl, ?_⟩) (by assumption) ?_; rotate_left; (intro w hSw; (try dsimp only at hSw); go_simp; try (with_reducible rfl)); (try simp only [Act.put, List.getElem_toArray, List.getElem_cons_succ, List.getElem_cons_zero, List.setIfInBounds_toArray, List.set_cons_zero, List.set_cons_succ]))
            (refine wpAnyH_take (i := 7) (v := ?_) rfl (by kernel_rfl) (by kernel_rfl) (by kernel_rfl) (fun _ _ _ h => h) (Or.inl ⟨by rfl, ?_⟩) (by assumption) ?_; rotate_left; (intro w hSw; (try dsimp only at hSw); go_simp; try (with_reducible rfl)); (try simp only [Act.put, List.getElem_toArray, List.getElem_cons_succ, List.getElem_cons_zero, List.setIfInBounds_toArray, List.set_cons_zero, List.set_cons_succ]))
            (refine wpAnyH_take (i := 12) (v := ?_) rfl (by kernel_rfl) (by kernel_rfl) (by kernel_rfl) (fun _ _ _ h => h) (Or.inl ⟨by rfl, ?_⟩) (by assumption) ?_; rotate_left; (intro w hSw; (try dsimp only at hSw); go_simp; try (with_reducible rfl)); (try simp only [Act.put, List.getElem_toArray, List.getElem_cons_succ, List.getElem_cons_zero, List.setIfInBounds_toArray, List.set_cons_zero, List.set_cons_succ]))
            (refine wpAnyH_take (i := 13) (v := ?_) rfl (by kernel_rfl) (by kernel_rfl) (by kernel_rfl) (fun _ _ _ h => h) (Or.inl ⟨by rfl, ?_⟩) (by assumption) ?_; rotate_left; (intro w hSw; (try dsimp only at hSw); go_simp; try (with_reducible rfl)); (try simp only [Act.put, List.getElem_toArray, List.getElem_cons_succ, List.getElem_cons_zero, List.setIfInBounds_toArray, List.set_cons_zero, List.set_cons_succ]))
            refine wpAnyH_done (by kernel_rfl) ?_ _; refine NoPanic.normal ?_; go_wp2_with fail; go_meet; exact ⟨congrArg Value.string HE.out, (by repeat (first | with_reducible exact Fr.refl _ _ | with_reducible assumption | with_reducible refine Fr.drewN ?_ _ | with_reducible refine Fr.drew ?_ | with_reducible refine Fr.alloc ?_ _ | ((with_reducible refine Fr.setCell ?_ ?_ _) <;> first | (apply Or.inl; simp; done) | (apply Or.inr; simp; done) | (apply Or.inr; simp; omega) | skip) | (refine Fr.then0 ?_ (by with_reducible assumption)) | (refine Fr.trans ?_ (by with_reducible assumption))))⟩
        · go_simp; go_at_call 38; refine (HDC.out _).mono ?_; rintro e w1 ⟨rfl, hf1⟩
          refine hK.out _ _ (HK0.out _ (by repeat (first | with_reducible exact Fr.refl _ _ | with_reducible assumption | with_reducible refine Fr.drewN ?_ _ | with_reducible refine Fr.drew ?_ | with_reducible refine Fr.alloc ?_ _ | ((with_reducible refine Fr.setCell ?_ ?_ _) <;> first | (apply Or.inl; simp; done) | (apply Or.inr; simp; done) | (apply Or.inr; simp; omega) | skip) | (refine Fr.then0 ?_ (by with_reducible assumption)) | (refine Fr.trans ?_ (by with_reducible assumption))))) (fun hHeld => ?_); clear hK K; (try simp only [Act.put, List.setIfInBounds_toArray, List.set_cons_zero, List.set_cons_succ])
          refine wpAnyH_ready (rs := [1]) (by kernel_rfl) (by simp) (AllReadyH.cons rfl (fun K hK => ?_) AllReadyH.nil)
          go_simp
          refine hK.out _ _ (HK0.out _ (by repeat (first | with_reducible exact Fr.refl _ _ | with_reducible assumption | with_reducible refine Fr.drewN ?_ _ | with_reducible refine Fr.drew ?_ | with_reducible refine Fr.alloc ?_ _ | ((with_reducible refine Fr.setCell ?_ ?_ _) <;> first | (apply Or.inl; simp; done) | (apply Or.inr; simp; done) | (apply Or.inr; simp; omega) | skip) | (refine Fr.then0 ?_ (by with_reducible assumption)) | (refine Fr.trans ?_ (by with_reducible assumption))))) (fun hHeld => ?_); clear hK K; (try simp only [Act.put, List.setIfInBounds_toArray, List.set_cons_zero, List.set_cons_succ])
          (refine wpAnyH_take (i := 4) (v := ?_) rfl (by kernel_rfl) (by kernel_rfl) (by kernel_rfl) (fun _ _ _ h => h) (Or.inl ⟨by rfl, ?_⟩) (by assumption) ?_; rotate_left; (intro w hSw; (try dsimp only at hSw); go_simp; try (with_reducible rfl)); (try simp only [Act.put, List.getElem_toArray, List.getElem_cons_succ, List.getElem_cons_zero, List.setIfInBounds_toArray, List.set_cons_zero, List.set_cons_succ]))
          refine wpAnyH_ready (rs := [5]) (by kernel_rfl) (by simp) (AllReadyH.cons rfl (fun K hK => ?_) AllReadyH.nil)
          go_simp
          refine hK.out _ _ (HK0.out _ (by repeat (first | with_reducible exact Fr.refl _ _ | with_reducible assumption | with_reducible refine Fr.drewN ?_ _ | with_reducible refine Fr.drew ?_ | with_reducible refine Fr.alloc ?_ _ | ((with_reducible refine Fr.setCell ?_ ?_ _) <;> first | (apply Or.inl; simp; done) | (apply Or.inr; simp; done) | (apply Or.inr; simp; omega) | skip) | (refine Fr.then0 ?_ (by with_reducible assumption)) | (refine Fr.trans ?_ (by with_reducible assumption))))) (fun hHeld => ?_); clear hK K; (try simp only [Act.put, List.setIfInBounds_toArray, List.set_cons_zero, List.set_cons_succ])
          (refine wpAnyH_take (i := 6) (v := ?_) rfl (by kernel_rfl) (by kernel_rfl) (by kernel_rfl) (fun _ _ _ h => h) (Or.inl ⟨by rfl, ?_⟩) (by assumption) ?_; rotate_left; (intro w hSw; (try dsimp only at hSw); go_simp; try (with_reducible rfl)); (try simp only [Act.put, List.getElem_toArray, List.getElem_cons_succ, List.getElem_cons_zero, List.setIfInBounds_toArray, List.set_cons_zero, List.set_cons_succ]))
          (refine wpAnyH_take (i := 7) (v := ?_) rfl (by kernel_rfl) (by kernel_rfl) (by kernel_rfl) (fun _ _ _ h => h) (Or.inl ⟨by rfl, ?_⟩) (by assumption) ?_; rotate_left; (intro w hSw; (try dsimp only at hSw); go_simp; try (with_reducible rfl)); (try simp only [Act.put, List.getElem_toArray, List.getElem_cons_succ, List.getElem_cons_zero, List.setIfInBounds_toArray, List.set_cons_zero, List.set_cons_succ]))
          (refine wpAnyH_take (i := 12) (v := ?_) rfl (by kernel_rfl) (by kernel_rfl) (by kernel_rfl) (fun _ _ _ h => h) (Or.inl ⟨by rfl, ?_⟩) (by assumption) ?_; rotate_left; (intro w hSw; (try dsimp only at hSw); go_simp; try (with_reducible rfl)); (try simp only [Act.put, List.getElem_toArray, List.getElem_cons_succ, List.getElem_cons_zero, List.setIfInBounds_toArray, List.set_cons_zero, List.set_cons_succ]))
          (refine wpAnyH_take (i := 13) (v := ?_) rfl (by kernel_rfl) (by kernel_rfl) (by kernel_rfl) (fun _ _ _ h => h) (Or.inl ⟨by rfl, ?_⟩) (by assumption) ?_; rotate_left; (intro w hSw; (try dsimp only at hSw); go_simp; try (with_reducible rfl)); (try simp only [Act.put, List.getElem_toArray, List.getElem_cons_succ, List.getElem_cons_zero, List.setIfInBounds_toArray, List.set_cons_zero, List.set_cons_succ]))
          refine wpAnyH_done (by kernel_rfl) ?_ _; refine NoPanic.normal ?_; go_wp2_with fail; go_meet; exact ⟨congrArg Value.string HE.out, (by repeat (first | with_reducible exact Fr.refl _ _ | with_reducible assumption | with_reducible refine Fr.drewN ?_ _ | with_reducible refine Fr.drew ?_ | with_reducible refine Fr.alloc ?_ _ | ((with_reducible refine Fr.setCell ?_ ?_ _) <;> first | (apply Or.inl; simp; done) | (apply Or.inr; simp; done) | (apply Or.inr; simp; omega) | skip) | (refine Fr.then0 ?_ (by with_reducible assumption)) | (refine Fr.trans ?_ (by with_reducible assumption))))⟩
      case rest =>
        obtain ⟨hs3, hf3⟩ := hcut
        have hfw3 := (HFR.out.trans hf3)
        have HB3 := hide (hB.keep hfw3 (by simp))
        have hl0 : (t ++ [115, 116, 114, 111, 107, 101] ++ [32] ++ ds).length ≤ 2000010 := by simp only [List.length_append, List.length_cons, List.length_nil]; omega
        obtain ⟨A0, hA0⟩ : ∃ A0, A0 = t ++ [115, 116, 114, 111, 107, 101] ++ [32] ++ ds := ⟨_, rfl⟩
        rw [← hA0] at hs3 hl0
        have HA0 := hide hA0
        clear hA0 hB hf3
        subst hs3
        go_wp2
        go_loopw [5, 3] (fun i s w2 => ∃ (m : Nat) (u : List UInt8), m ≤ 4 ∧ (m : Int) ≤ sp ∧ i = .int .i64 m ∧ s = .string ⟨u.toArray⟩ ∧ u.length ≤ 2000010 + 24 * m ∧ Fr [] wc w2 ∧ Hid (u = A0 ++ numsT ([p0, p1, p2, p3].take m))) (fun i _ _ => 4 - (intOf i).toNat)
        case atStart => exact ⟨0, _, by omega, by omega, rfl, rfl, by omega, Fr.refl _ _, hide (by simp [numsT])⟩
        case round =>
          obtain ⟨m, u, hm, hms, rfl, rfl, hul, hfr2, hrel⟩ := hrel
          have hB4 := HB3.out.keep hfr2 (by simp)
          have c2 : wr.cell? ⟨g, 2, none⟩ = some (.int .i64 sp) := hB4.cell 2
          by_cases hlt2 : (m : Int) < sp
          · have hdm : decide ((m : Int) < sp) = true := by simpa using hlt2
            rcases (by omega : m = 0 ∨ m = 1 ∨ m = 2 ∨ m = 3) with rfl | rfl | rfl | rfl
            · rw [show ((0 : Nat) : Int) = 0 from rfl] at *
              have c3 : wr.cell? ⟨g, 3, none⟩ = some (.int .i64 p0) := hB4.cell 3
              have hx0 := numT_len p0
              have HX := hide (fun W => num26_any p0 W)
              have HF2 : Hid (u ++ numT p0 = A0 ++ numsT ([p0, p1, p2, p3].take 1)) := hide (by rw [hrel.out, numsT_snoc (k := 0) (d := p0) rfl]; simp)
              have HE2 := hide (cat_str u (numT p0))
              have hc4 : ¬9223372036854775807 < u.length + (numT p0).length := by omega
              clear hrel
              generalize numT p0 = nx at *
              go_wp2_with (go_at_call 19; refine (HX.out _).mono ?_; rintro e w1 ⟨rfl, hf1⟩)
              exact ⟨⟨1, u ++ nx, by omega, by omega, rfl, congrArg Value.string HE2.out, by simp only [List.length_append]; omega, hfr2.trans (by repeat (first | with_reducible exact Fr.refl _ _ | with_reducible assumption | with_reducible refine Fr.drewN ?_ _ | with_reducible refine Fr.drew ?_ | with_reducible refine Fr.alloc ?_ _ | ((with_reducible refine Fr.setCell ?_ ?_ _) <;> first | (apply Or.inl; simp; done) | (apply Or.inr; simp; done) | (apply Or.inr; simp; omega) | skip) | (refine Fr.then0 ?_ (by with_reducible assumption)) | (refine Fr.trans ?_ (by with_reducible assumption)))), HF2⟩, by simp [intOf]⟩
            · rw [show ((1 : Nat) : Int) = 1 from rfl] at *
              have c4 : wr.cell? ⟨g, 4, none⟩ = some (.int .i64 p1) := hB4.cell 4
              have hx0 := numT_len p1
              have HX := hide (fun W => num26_any p1 W)
              have HF2 : Hid (u ++ numT p1 = A0 ++ numsT ([p0, p1, p2, p3].take 2)) := hide (by rw [hrel.out, numsT_snoc (k := 1) (d := p1) rfl]; simp)
              have HE2 := hide (cat_str u (numT p1))
              have hc4 : ¬9223372036854775807 < u.length + (numT p1).length := by omega
              clear hrel
              generalize numT p1 = nx at *
              go_wp2_with (go_at_call 19; refine (HX.out _).mono ?_; rintro e w1 ⟨rfl, hf1⟩)
              exact ⟨⟨2, u ++ nx, by omega, by omega, rfl, congrArg Value.string HE2.out, by simp only [List.length_append]; omega, hfr2.trans (by repeat (first | with_reducible exact Fr.refl _ _ | with_reducible assumption | with_reducible refine Fr.drewN ?_ _ | with_reducible refine Fr.drew ?_ | with_reducible refine Fr.alloc ?_ _ | ((with_reducible refine Fr.setCell ?_ ?_ _) <;> first | (apply Or.inl; simp; done) | (apply Or.inr; simp; done) | (apply Or.inr; simp; omega) | skip) | (refine Fr.then0 ?_ (by with_reducible assumption)) | (refine Fr.trans ?_ (by with_reducible assumption)))), HF2⟩, by simp [intOf]⟩
            · rw [show ((2 : Nat) : Int) = 2 from rfl] at *
              have c5 : wr.cell? ⟨g, 5, none⟩ = some (.int .i64 p2) := hB4.cell 5
              have hx0 := numT_len p2
              have HX := hide (fun W => num26_any p2 W)
              have HF2 : Hid (u ++ numT p2 = A0 ++ numsT ([p0, p1, p2, p3].take 3)) := hide (by rw [hrel.out, numsT_snoc (k := 2) (d := p2) rfl]; simp)
              have HE2 := hide (cat_str u (numT p2))
              have hc4 : ¬9223372036854775807 < u.length + (numT p2).length := by omega
              clear hrel
              generalize numT p2 = nx at *
              go_wp2_with (go_at_call 19; refine (HX.out _).mono ?_; rintro e w1 ⟨rfl, hf1⟩)
              exact ⟨⟨3, u ++ nx, by omega, by omega, rfl, congrArg Value.string HE2.out, by simp only [List.length_append]; omega, hfr2.trans (by repeat (first | with_reducible exact Fr.refl _ _ | with_reducible assumption | with_reducible refine Fr.drewN ?_ _ | with_reducible refine Fr.drew ?_ | with_reducible refine Fr.alloc ?_ _ | ((with_reducible refine Fr.setCell ?_ ?_ _) <;> first | (apply Or.inl; simp; done) | (apply Or.inr; simp; done) | (apply Or.inr; simp; omega) | skip) | (refine Fr.then0 ?_ (by with_reducible assumption)) | (refine Fr.trans ?_ (by with_reducible assumption)))), HF2⟩, by simp [intOf]⟩
            · rw [show ((3 : Nat) : Int) = 3 from rfl] at *
              have c6 : wr.cell? ⟨g, 6, none⟩ = some (.int .i64 p3) := hB4.cell 6
              have hx0 := numT_len p3
              have HX := hide (fun W => num26_any p3 W)
              have HF2 : Hid (u ++ numT p3 = A0 ++ numsT ([p0, p1, p2, p3].take 4)) := hide (by rw [hrel.out, numsT_snoc (k := 3) (d := p3) rfl]; simp)
              have HE2 := hide (cat_str u (numT p3))
              have hc4 : ¬9223372036854775807 < u.length + (numT p3).length := by omega
              clear hrel
              generalize numT p3 = nx at *
              go_wp2_with (go_at_call 19; refine (HX.out _).mono ?_; rintro e w1 ⟨rfl, hf1⟩)
              exact ⟨⟨4, u ++ nx, by omega, by omega, rfl, congrArg Value.string HE2.out, by simp only [List.length_append]; omega, hfr2.trans (by repeat (first | with_reducible exact Fr.refl _ _ | with_reducible assumption | with_reducible refine Fr.drewN ?_ _ | with_reducible refine Fr.drew ?_ | with_reducible refine Fr.alloc ?_ _ | ((with_reducible refine Fr.setCell ?_ ?_ _) <;> first | (apply Or.inl; simp; done) | (apply Or.inr; simp; done) | (apply Or.inr; simp; omega) | skip) | (refine Fr.then0 ?_ (by with_reducible assumption)) | (refine Fr.trans ?_ (by with_reducible assumption)))), HF2⟩, by simp [intOf]⟩
          · have hdm : decide ((m : Int) < sp) = false := by simpa using hlt2
            have HU : Hid (u = A0 ++ numsT ([p0, p1, p2, p3].take sp.toNat)) := hide (by rw [hrel.out, show sp.toNat = m by omega])
            clear hrel
            have c0 : wr.cell? ⟨g, 0, none⟩ = some (.int .i64 3) := hB4.cell 0
            have hpen := item3_pen HHB.out (by rw [HD.out])
            rw [HD.out] at hpen
            dsimp only at hpen
            obtain ⟨⟨hpc1, hpc2⟩, ⟨hpj1, hpj2⟩, hpd⟩ := hpen
            have HLD := hide (show dash.length = nd by have h1 := HSS.out.dash.len1; rw [HD.out] at h1; simpa using h1)
            have hnd11 : nd ≤ 11 := by have h1 := HLD.out; omega
            have hfw4 := hfw3.trans hfr2
            have c8 : wr.cell? ⟨g, 8, none⟩ = some (.int .i64 pw) := hB4.cell 8
            have c9 : wr.cell? ⟨g, 9, none⟩ = some (.int .i64 pc) := hB4.cell 9
            have c10 : wr.cell? ⟨g, 10, none⟩ = some (.int .i64 pj) := hB4.cell 10
            have c11 : wr.cell? ⟨g, 11, none⟩ = some (.int .i64 pm) := hB4.cell 11
            have c12 : wr.cell? ⟨g, 12, none⟩ = some (.slice Ad nd cd) := hB4.cell 12
            have c13 : wr.cell? ⟨g, 13, none⟩ = some (.int .i64 pf) := hB4.cell 13
            have HHB4 := hide hB4
            clear hB4 hpd
            go_wp2
            obtain ⟨g2, hg2⟩ : ∃ x, x = wr.heap.size := ⟨_, rfl⟩
            obtain ⟨W2, hW2⟩ : ∃ W2, W2 = wr.alloc (.cells #[.int .i64 pw, .int .i64 pc, .int .i64 pj, .int .i64 pm, .slice Ad nd cd, .int .i64 pf] 39) := ⟨_, rfl⟩
            have hBp : Blk W2 g2 39 #[.int .i64 pw, .int .i64 pc, .int .i64 pj, .int .i64 pm, .slice Ad nd cd, .int .i64 pf] := by rw [hW2, hg2]; exact Blk.new _ _ _
            have hf2 : Fr [] wr W2 := by rw [hW2]; exact (by repeat (first | with_reducible exact Fr.refl _ _ | with_reducible assumption | with_reducible refine Fr.drewN ?_ _ | with_reducible refine Fr.drew ?_ | with_reducible refine Fr.alloc ?_ _ | ((with_reducible refine Fr.setCell ?_ ?_ _) <;> first | (apply Or.inl; simp; done) | (apply Or.inr; simp; done) | (apply Or.inr; simp; omega) | skip) | (refine Fr.then0 ?_ (by with_reducible assumption)) | (refine Fr.trans ?_ (by with_reducible assumption))))
            rw [← hW2, ← hg2]
            clear hW2 hg2 c0 c2 c8 c9 c10 c11 c12 c13
            generalize Value.agg #[.int .i64 pw, .int .i64 pc, .int .i64 pj, .int .i64 pm, .slice Ad nd cd, .int .i64 pf] = agp
            have hfw5 := hfw4.trans hf2
            have HHB5 := hide (HHB4.out.keep hf2 (by simp))
            have HNW := hide (fun W => num26_any pw W)
            have HNM := hide (fun W => num26_any pm W)
            have HDP := hide (fun W => dec_any pc W (by omega) (by omega))
            have HDJ := hide (fun W => dec_any pj W (by omega) (by omega))
            have HDN := hide (fun W => dec_any (nd : Int) W (by omega) (by omega))
            have l1 := numT_len pw
            have l2 := numT_len pm
            have l3 := decT_len2 pc (by omega)
            have l4 := decT_len2 pj (by omega)
            have l5 := decT_len2 (nd : Int) (by omega)
            obtain ⟨nw, e1⟩ : ∃ x, numT pw = x := ⟨_, rfl⟩
            obtain ⟨nm, e2⟩ : ∃ x, numT pm = x := ⟨_, rfl⟩
            obtain ⟨dc, e3⟩ : ∃ x, decT pc = x := ⟨_, rfl⟩
            obtain ⟨dj, e4⟩ : ∃ x, decT pj = x := ⟨_, rfl⟩
            obtain ⟨dn, e5⟩ : ∃ x, decT (nd : Int) = x := ⟨_, rfl⟩
            rw [e1] at HNW l1
            rw [e2] at HNM l2
            rw [e3] at HDP l3
            rw [e4] at HDJ l4
            rw [e5] at HDN l5
            have HE1 := hide e1
            have HE2 := hide e2
            have HE3 := hide e3
            have HE4 := hide e4
            have HE5 := hide e5
            clear e1 e2 e3 e4 e5
            have HE6 := hide (by rw [show (⟨#[32]⟩ : ByteArray) = ⟨[32].toArray⟩ from rfl, cat_str, cat_str, cat_str, cat_str, cat_str, cat_str, cat_str, cat_str] : (⟨u.toArray⟩ : ByteArray) ++ ⟨nw.toArray⟩ ++ ⟨#[32]⟩ ++ ⟨dc.toArray⟩ ++ ⟨#[32]⟩ ++ ⟨dj.toArray⟩ ++ ⟨nm.toArray⟩ ++ ⟨#[32]⟩ ++ ⟨dn.toArray⟩ = ⟨(u ++ nw ++ [32] ++ dc ++ [32] ++ dj ++ nm ++ [32] ++ dn).toArray⟩)
            have k1 : ¬9223372036854775807 < u.length + nw.length := by omega
            have k2 : ¬9223372036854775807 < u.length + nw.length + 1 := by omega
            have k3 : ¬9223372036854775807 < u.length + nw.length + 1 + dc.length := by omega
            have k4 : ¬9223372036854775807 < u.length + nw.length + 1 + dc.length + 1 := by omega
            have k5 : ¬9223372036854775807 < u.length + nw.length + 1 + dc.length + 1 + dj.length := by omega
            have k6 : ¬9223372036854775807 < u.length + nw.length + 1 + dc.length + 1 + dj.length + nm.length := by omega
            have k7 : ¬9223372036854775807 < u.length + nw.length + 1 + dc.length + 1 + dj.length + nm.length + 1 := by omega
            have k8 : ¬9223372036854775807 < u.length + nw.length + 1 + dc.length + 1 + dj.length + nm.length + 1 + dn.length := by omega
            have HK2 := hide (fun W (h : Fr [] W2 W) => (⟨(hBp.keep h (by simp)).c6.1, (hBp.keep h (by simp)).c6.2.1, (hBp.keep h (by simp)).c6.2.2.1, (hBp.keep h (by simp)).c6.2.2.2.1, (hBp.keep h (by simp)).c6.2.2.2.2.1, h⟩ : W.cell? ⟨g2, 0, none⟩ = some (.int .i64 pw) ∧ W.cell? ⟨g2, 1, none⟩ = some (.int .i64 pc) ∧ W.cell? ⟨g2, 2, none⟩ = some (.int .i64 pj) ∧ W.cell? ⟨g2, 3, none⟩ = some (.int .i64 pm) ∧ W.cell? ⟨g2, 4, none⟩ = some (.slice Ad nd cd) ∧ Fr [] W2 W))
            have HBP := hide hBp
            obtain ⟨p0c, p1c, p2c, p3c, p4c, p5c, pzc⟩ := hBp.c6
            clear hBp pzc p5c hfw3 hfw4 hf2 HHB4
            go_cut [3] (fun s3 wx => s3 = .string ⟨(u ++ nw ++ [32] ++ dc ++ [32] ++ dj ++ nm ++ [32] ++ dn).toArray⟩ ∧ Fr [] W2 wx)
            case first =>
              go_region_held3 (fun w' => w'.cell? ⟨g2, 0, none⟩ = some (.int .i64 pw) ∧ w'.cell? ⟨g2, 1, none⟩ = some (.int .i64 pc) ∧ w'.cell? ⟨g2, 2, none⟩ = some (.int .i64 pj) ∧ w'.cell? ⟨g2, 3, none⟩ = some (.int .i64 pm) ∧ w'.cell? ⟨g2, 4, none⟩ = some (.slice Ad nd cd) ∧ Fr [] W2 w')
                ((exact HK2.out _ (by repeat (first | with_reducible exact Fr.refl _ _ | with_reducible assumption | with_reducible refine Fr.drewN ?_ _ | with_reducible refine Fr.drew ?_ | with_reducible refine Fr.alloc ?_ _ | ((with_reducible refine Fr.setCell ?_ ?_ _) <;> first | (apply Or.inl; simp; done) | (apply Or.inr; simp; done) | (apply Or.inr; simp; omega) | skip) | (refine Fr.then0 ?_ (by with_reducible assumption)) | (refine Fr.trans ?_ (by with_reducible assumption))))))
                (first
                  | (go_simp; go_at_call 19; refine (num26_any _ _).mono ?_; (try rw [HE1.out]); (try rw [HE2.out]); rintro e w1 ⟨rfl, hf1⟩)
                  | (go_simp; go_at_call 38; refine (dec_any _ _ (by omega) (by omega)).mono ?_; (try rw [HE3.out]); (try rw [HE4.out]); (try rw [HE5.out]); rintro e w1 ⟨rfl, hf1⟩))
              all_goals
                go_wp2_with fail
                go_meet
                exact ⟨congrArg Value.string HE6.out, (by repeat (first | with_reducible exact Fr.refl _ _ | with_reducible assumption | with_reducible refine Fr.drewN ?_ _ | with_reducible refine Fr.drew ?_ | with_reducible refine Fr.alloc ?_ _ | ((with_reducible refine Fr.setCell ?_ ?_ _) <;> first | (apply Or.inl; simp; done) | (apply Or.inr; simp; done) | (apply Or.inr; simp; omega) | skip) | (refine Fr.then0 ?_ (by with_reducible assumption)) | (refine Fr.trans ?_ (by with_reducible assumption))))⟩
            case rest =>
              obtain ⟨hs5, hf5⟩ := hcut
              have hd0l : (u ++ nw ++ [32] ++ dc ++ [32] ++ dj ++ nm ++ [32] ++ dn).length ≤ 2000300 := by simp only [List.length_append, List.length_cons, List.length_nil]; omega
              obtain ⟨D0, hD0⟩ : ∃ D0, D0 = u ++ nw ++ [32] ++ dc ++ [32] ++ dj ++ nm ++ [32] ++ dn := ⟨_, rfl⟩
              rw [← hD0] at hs5 hd0l
              have HDE := hide hD0
              clear hD0 k1 k2 k3 k4 k5 k6 k7 k8 l1 l2 l3 l4 l5 p0c p1c p2c p3c p4c
              subst hs5
              have hfw6 := hfw5.trans hf5
              have HHB6 := hide (HHB5.out.keep hf5 (by simp))
              have HBP6 := hide (HBP.out.keep hf5 (by simp))
              have HRD := hide (fun W (h : Fr [] w0 W) => (by have h1 := (HSS.out.keep h (by simp)).dash; rw [HD.out] at h1; exact h1 : Rd W N 1 Ad nd (dash.map (Value.int .i64))))
              go_wp2
              go_loopw [11, 3] (fun i s w2 => ∃ (m : Nat) (v : List UInt8), m ≤ nd ∧ i = .int .i64 m ∧ s = .string ⟨v.toArray⟩ ∧ v.length ≤ 2000300 + 24 * m ∧ Fr [] wc w2 ∧ Hid (v = D0 ++ numsT (dash.take m))) (fun i _ _ => nd - (intOf i).toNat)
              case atStart => exact ⟨0, _, by omega, rfl, rfl, by omega, Fr.refl _ _, hide (by simp [numsT])⟩
              case round =>
                obtain ⟨q, v, hq, rfl, rfl, hvl, hfr6, hrel⟩ := hrel
                have hBp6 := HBP6.out.keep hfr6 (by simp)
                have hfw7 := hfw6.trans hfr6
                have p4 : wr.cell? ⟨g2, 4, none⟩ = some (.slice Ad nd cd) := hBp6.cell 4
                by_cases hlq : q < nd
                · have hdq : decide ((q : Int) < (nd : Int)) = true := by simp; omega
                  obtain ⟨adh, uu, rfl, hNN, hu, hcell⟩ := (HRD.out wr ((hf.trans hf1).trans hfw7)).at_ hlq
                  have hz : ∃ z, dash[q]? = some z ∧ uu = .int .i64 z := by
                    rw [List.getElem?_map] at hu
                    cases hh : dash[q]? with
                    | none => rw [hh] at hu; cases hu
                    | some z => rw [hh] at hu; exact ⟨z, rfl, by injection hu with h; exact h.symm⟩
                  obtain ⟨z, hz, rfl⟩ := hz
                  have hx0 := numT_len z
                  have HX := hide (fun W => num26_any z W)
                  have HF2 : Hid (v ++ numT z = D0 ++ numsT (dash.take (q + 1))) := hide (by rw [hrel.out, numsT_snoc hz]; simp)
                  have HEX := hide (cat_str v (numT z))
                  have hc4 : ¬9223372036854775807 < v.length + (numT z).length := by omega
                  clear hrel hz hu hNN
                  generalize numT z = nx at *
                  go_wp2_with (go_at_call 19; refine (HX.out _).mono ?_; rintro e w3 ⟨rfl, hf3x⟩)
                  exact ⟨⟨q + 1, v ++ nx, by omega, by go_num, congrArg Value.string HEX.out, by simp only [List.length_append]; omega, hfr6.trans (by repeat (first | with_reducible exact Fr.refl _ _ | with_reducible assumption | with_reducible refine Fr.drewN ?_ _ | with_reducible refine Fr.drew ?_ | with_reducible refine Fr.alloc ?_ _ | ((with_reducible refine Fr.setCell ?_ ?_ _) <;> first | (apply Or.inl; simp; done) | (apply Or.inr; simp; done) | (apply Or.inr; simp; omega) | skip) | (refine Fr.then0 ?_ (by with_reducible assumption)) | (refine Fr.trans ?_ (by with_reducible assumption)))), HF2⟩, by simp [intOf]; omega⟩
                · have hdq : decide ((q : Int) < (nd : Int)) = false := by simp; omega
                  have HV : Hid (v = D0 ++ numsT dash) := hide (by rw [hrel.out, List.take_of_length_le (by rw [HLD.out]; omega)])
                  clear hrel
                  have p5 : wr.cell? ⟨g2, 5, none⟩ = some (.int .i64 pf) := hBp6.cell 5
                  have c1 : wr.cell? ⟨g, 1, none⟩ = some (.slice Ap np cp) := (HHB6.out.keep hfr6 (by simp)).cell 1
                  have HP := hide (fun W (h : Fr [] wr W) => path26_any (c := cp) (HSS.out.keep ((hf.trans hf1).trans hfw7) (by simp)).path (by omega) W h)
                  have hpl := pathT_len d.path
                  rw [HSS.out.path.len] at hpl
                  have hpl2 : (pathT d.path).length ≤ 2000000 := by omega
                  have hx0 := numT_len pf
                  have HX := hide (fun W => num26_any pf W)
                  have HFI : Hid (v ++ numT pf ++ pathT d.path ++ [10] = R) := hide (by
                    rw [HR.out, HV.out, HDE.out, HU.out, HA0.out, HCT.out]
                    unfold itemT colT restT penT smallT kindT ColD.parts
                    rw [HD.out]; simp [← HDS.out, ← HE1.out, ← HE2.out, ← HE3.out, ← HE4.out, ← HE5.out, HLD.out])
                  clear hpl
                  generalize pathT d.path = pt at *
                  generalize numT pf = nx at *
                  have HEX := hide (by rw [show (⟨#[10]⟩ : ByteArray) = ⟨[10].toArray⟩ from rfl, cat_str, cat_str, cat_str] : (⟨v.toArray⟩ : ByteArray) ++ ⟨nx.toArray⟩ ++ ⟨pt.toArray⟩ ++ ⟨#[10]⟩ = ⟨(v ++ nx ++ pt ++ [10]).toArray⟩)
                  have hc4 : ¬9223372036854775807 < v.length + nx.length := by omega
                  have hc5 : ¬9223372036854775807 < v.length + nx.length + pt.length := by omega
                  have hc6 : ¬9223372036854775807 < v.length + nx.length + pt.length + 1 := by omega
                  go_wp2_with (first | (go_at_call 19; refine (HX.out _).mono ?_; rintro e w3 ⟨rfl, hf3x⟩; have c1x := hf3x.cell c1 (by simp)) | (go_at_call 37; refine (HP.out _ (by repeat (first | with_reducible exact Fr.refl _ _ | with_reducible assumption | with_reducible refine Fr.drewN ?_ _ | with_reducible refine Fr.drew ?_ | with_reducible refine Fr.alloc ?_ _ | ((with_reducible refine Fr.setCell ?_ ?_ _) <;> first | (apply Or.inl; simp; done) | (apply Or.inr; simp; done) | (apply Or.inr; simp; omega) | skip) | (refine Fr.then0 ?_ (by with_reducible assumption)) | (refine Fr.trans ?_ (by with_reducible assumption))))).mono ?_; rintro e w5 ⟨rfl, hf5x⟩))
                  go_ret
                  exact ⟨by rw [← HFI.out]; exact congrArg (fun x => Ending.returned (.string x)) HEX.out, hf1.trans (hfw7.trans (by repeat (first | with_reducible exact Fr.refl _ _ | with_reducible assumption | with_reducible refine Fr.drewN ?_ _ | with_reducible refine Fr.drew ?_ | with_reducible refine Fr.alloc ?_ _ | ((with_reducible refine Fr.setCell ?_ ?_ _) <;> first | (apply Or.inl; simp; done) | (apply Or.inr; simp; done) | (apply Or.inr; simp; omega) | skip) | (refine Fr.then0 ?_ (by with_reducible assumption)) | (refine Fr.trans ?_ (by with_reducible assumption)))))⟩
end Go.Proofs.YtndfdekcdhlgoaaDoor
