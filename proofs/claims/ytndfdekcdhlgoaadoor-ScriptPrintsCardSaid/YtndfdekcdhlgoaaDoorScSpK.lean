/- Contracts: script's Print. -/
import Derived.Test.YtndfdekcdhlgoaaDoorScSpG
import Derived.Test.YtndfdekcdhlgoaaDoorScSpH
import Derived.Test.YtndfdekcdhlgoaaDoorScSpI
import Derived.Test.YtndfdekcdhlgoaaDoorScSpJ
import Derived.Test.YtndfdekcdhlgoaaDoorScPaN
import Derived.Laws.Rows
set_option linter.unusedVariables false
set_option linter.unusedSimpArgs false
namespace Go.Proofs.YtndfdekcdhlgoaaDoor
open Go.RowKit
theorem item_pr {w : World} {base b : Nat} {bs : List UInt8} (h : Bu w base prT b bs) {d : ItemD} {Ap Ac Ad Ab : Option Addr} {np cp nc cc nd cd nb cb : Nat} (hs : ItemS w (fun g => g < base) d Ap np cp Ac nc cc Ad nd cd Ab nb cb) (hb : itemB d = true) (hlen : bs.length ≤ 200000000) :
    Calls Tryd.prog 15 #[.pointer (some ⟨b, 0, none⟩), .agg #[.int .i64 d.kind, .slice Ap np cp, .int .i64 d.col.space, .int .i64 d.col.p0, .int .i64 d.col.p1, .int .i64 d.col.p2, .int .i64 d.col.p3, .slice Ac nc cc, .int .i64 d.pen.width, .int .i64 d.pen.cap, .int .i64 d.pen.join, .int .i64 d.pen.miter, .slice Ad nd cd, .int .i64 d.pen.phase, .int .i64 d.font, .int .i64 d.mat.m0, .int .i64 d.mat.m1, .int .i64 d.mat.m2, .int .i64 d.mat.m3, .int .i64 d.mat.m4, .int .i64 d.mat.m5, .slice Ab nb cb]] w fun e w' => e = .returned (.tuple #[]) ∧ Grew w base prT b (bs ++ itemT d) w' := by
  have hk : d.kind = 1 ∨ d.kind = 2 ∨ d.kind = 3 ∨ d.kind = 4 := by
    have h := hb
    unfold itemB at h
    simp only [Bool.and_eq_true] at h
    have h1 := h.2
    by_cases h4 : d.kind = 4
    · omega
    rw [if_neg h4] at h1
    simp only [Bool.and_eq_true, decide_eq_true_eq] at h1
    omega
  obtain ⟨kd, path, ⟨sp, p0, p1, p2, p3⟩, clips, ⟨pw, pc, pj, pm, dash, pf⟩, fo, ⟨m0, m1, m2, m3, m4, m5⟩, bytes⟩ := d
  dsimp only at hk ⊢
  rcases hk with rfl | rfl | rfl | rfl
  · exact item_pr1 h hs hb hlen
  · exact item_pr2 h hs hb hlen
  · exact item_pr3 h hs hb hlen
  · exact item_pr4 h hs hb hlen
theorem itemsT_snoc {l : List ItemD} {k : Nat} {d : ItemD} (h : l[k]? = some d) : itemsT (l.take (k + 1)) = itemsT (l.take k) ++ itemT d := by
  rw [take_snoc h]; simp [itemsT]
theorem itemsT_take (l : List ItemD) (k : Nat) : (itemsT (l.take k)).length ≤ (itemsT l).length := by
  have h : itemsT l = itemsT (l.take k) ++ itemsT (l.drop k) := by unfold itemsT; rw [← List.flatMap_append, List.take_append_drop]
  rw [h, List.length_append]; omega
theorem pagesT_snoc {l : List PageD} {k : Nat} {d : PageD} (h : l[k]? = some d) : pagesT (l.take (k + 1)) = pagesT (l.take k) ++ pageT d := by
  rw [take_snoc h]; simp [pagesT]
theorem pagesT_take (l : List PageD) (k : Nat) : (pagesT (l.take k)).length ≤ (pagesT l).length := by
  have h : pagesT l = pagesT (l.take k) ++ pagesT (l.drop k) := by unfold pagesT; rw [← List.flatMap_append, List.take_append_drop]
  rw [h, List.length_append]; omega
theorem side_fits {n : Int} (h : sideB n = true) : fitsI n = true := by unfold sideB at h; unfold fitsI; simp at h ⊢; omega
theorem page_ok {p : PageD} (h : pageB p = true) : sideB p.w = true ∧ sideB p.h = true ∧ p.items.length ≤ 4096 ∧ ∀ d, d ∈ p.items → itemB d = true := by
  unfold pageB at h
  simp only [Bool.and_eq_true, decide_eq_true_eq, List.all_eq_true] at h
  exact ⟨h.1.1.1, h.1.1.2, h.1.2, h.2⟩
set_option maxRecDepth 100000 in
set_option maxHeartbeats 2000000 in
theorem sprint_bad {w : World} {l : List PageD} {A : Option Addr} {n c : Nat} (hl : LR w (fun g => g < w.heap.size) 3 (PageC w (fun g => g < w.heap.size)) A n l) (hF : Fonts w) (hn : n ≤ 1000000) (hb : pagesB l = false) :
    Calls Tryd.prog 6 #[.slice A n c] w fun e w' => e = .returned (.tuple #[.string ⟨#[]⟩, .int .i64 22]) ∧ Fr [] w w' := by
  have HCF := hide (fun W (h : Fr [] w W) => cf_page (c := c) hl (by omega) hF W h)
  have ha : l.any (fun d => !pageB d) = true := by
    have h1 : l.all pageB = false := hb
    rw [List.all_eq_not_any_not] at h1
    simpa using h1
  rw [ha] at HCF
  clear hl hb ha hF
  go_enter Tryd.func6, Tryd.ntmps6
  go_wp2_with (go_at_call 9; refine (HCF.out _ (by repeat (first | with_reducible exact Fr.refl _ _ | with_reducible assumption | with_reducible refine Fr.drewN ?_ _ | with_reducible refine Fr.drew ?_ | with_reducible refine Fr.alloc ?_ _ | ((with_reducible refine Fr.setCell ?_ ?_ _) <;> first | (apply Or.inl; simp; done) | (apply Or.inr; simp; done) | (apply Or.inr; simp; omega) | skip) | (refine Fr.then0 ?_ (by with_reducible assumption)) | (refine Fr.trans ?_ (by with_reducible assumption))))).mono ?_; rintro e w2 ⟨rfl, hf2⟩)
  go_ret2
  exact ⟨rfl, hf2⟩
set_option maxRecDepth 100000 in
set_option maxHeartbeats 8000000 in
theorem sprint_ok {w : World} {l : List PageD} {A : Option Addr} {n c : Nat} (hl : LR w (fun g => g < w.heap.size) 3 (PageC w (fun g => g < w.heap.size)) A n l) (hF : Fonts w) (hn : n ≤ 1000000) (hb : pagesB l = true) (hT : (pagesT l).length ≤ 1000000) :
    Calls Tryd.prog 6 #[.slice A n c] w fun e w' => e = .returned (.tuple #[.string ⟨(pagesT l).toArray⟩, .int .i64 0]) ∧ Fr [] w w' := by
  have HCF := hide (fun W (h : Fr [] w W) => cf_page (c := c) hl (by omega) hF W h)
  have ha : l.any (fun d => !pageB d) = false := by
    have h1 : l.all pageB = true := hb
    rw [List.all_eq_not_any_not] at h1
    simpa using h1
  rw [ha] at HCF
  obtain ⟨base, hbase⟩ : ∃ x, x = w.heap.size := ⟨_, rfl⟩
  have HBS := hide hbase
  rw [← hbase] at hl
  have HEL := hide (fun b W (hW : FrB base b w W) (k : Nat) (hk : k < n) => (by
    obtain ⟨S, hf, hS⟩ := hW.fr
    exact page_elem (hl.keep hf (fun g hg hm => by have := (hS g hm).1; omega) (fun _ _ h => h.keep hf (fun g hg hm => by have := (hS g hm).1; omega))) hk))
  have HLN := hide hl.len
  have HPB := hide (fun p (hp : p ∈ l) => page_ok (List.all_eq_true.1 (show l.all pageB = true from hb) p hp))
  have hbw : base ≤ w.heap.size := by omega
  clear hl hb ha hF hbase
  go_enter Tryd.func6, Tryd.ntmps6
  go_wp2_with (go_at_call 9; refine (HCF.out _ (by repeat (first | with_reducible exact Fr.refl _ _ | with_reducible assumption | with_reducible refine Fr.drewN ?_ _ | with_reducible refine Fr.drew ?_ | with_reducible refine Fr.alloc ?_ _ | ((with_reducible refine Fr.setCell ?_ ?_ _) <;> first | (apply Or.inl; simp; done) | (apply Or.inr; simp; done) | (apply Or.inr; simp; omega) | skip) | (refine Fr.then0 ?_ (by with_reducible assumption)) | (refine Fr.trans ?_ (by with_reducible assumption))))).mono ?_; rintro e w2 ⟨rfl, hf2⟩)
  obtain ⟨b, hbe⟩ : ∃ x, x = w2.heap.size := ⟨_, rfl⟩
  obtain ⟨W1, hW1⟩ : ∃ W1, W1 = w2.alloc (.cells #[.pointer none, .slice none 0 0] 52) := ⟨_, rfl⟩
  have hlob : base ≤ b := by rw [hbe]; exact Nat.le_trans hbw hf2.size
  have hBu : Bu W1 base prT b [] := ⟨hlob, .pointer none, .slice none 0 0, by rw [hW1, hbe]; exact Blk.new _ _ _, .inl rfl, own_nil _ _ _ _, by simp [Value.ownBlock], fun _ => rfl⟩
  have hf1 : Fr [] w W1 := by rw [hW1]; exact (by repeat (first | with_reducible exact Fr.refl _ _ | with_reducible assumption | with_reducible refine Fr.drewN ?_ _ | with_reducible refine Fr.drew ?_ | with_reducible refine Fr.alloc ?_ _ | ((with_reducible refine Fr.setCell ?_ ?_ _) <;> first | (apply Or.inl; simp; done) | (apply Or.inr; simp; done) | (apply Or.inr; simp; omega) | skip) | (refine Fr.then0 ?_ (by with_reducible assumption)) | (refine Fr.trans ?_ (by with_reducible assumption))))
  rw [← hW1, ← hbe]
  clear hW1 hbe
  have HF1 := hide (FrB.of0 hf1 : FrB base b w W1)
  have HBU := hide hBu
  have HELB := hide (HEL.out b)
  clear hf1 hBu HCF HEL
  go_loopw [13] (fun i w3 => ∃ k : Nat, k ≤ n ∧ i = .int .i64 k ∧ Grew W1 base prT b (pagesT (l.take k)) w3) (fun i _ => n - (intOf i).toNat)
  case atStart => exact ⟨0, Nat.zero_le _, rfl, by simpa [pagesT] using Grew.refl HBU.out⟩
  case round =>
    obtain ⟨k, hk, rfl, hgr⟩ := hrel
    have htk := Nat.le_trans (pagesT_take l k) hT
    by_cases hlt : k < n
    · have hdk : decide ((k : Int) < (n : Int)) = true := by simp; omega
      obtain ⟨ad, p, Ai, ni, ci, rfl, hlk, hi1, hi2, hi3, a0, a1, a2⟩ := HELB.out wr (HF1.out.trans hgr.2) k hlt
      obtain ⟨hsw, hsh, hil, hit⟩ := HPB.out p (List.mem_of_getElem? hlk)
      have hni : ni ≤ 4096 := by rw [← hi3.len]; exact hil
      have HSN := hide (pagesT_snoc hlk)
      have htk2 := Nat.le_trans (pagesT_take l (k + 1)) hT
      have hpL : (pagesT (l.take k)).length + (pageT p).length ≤ 1000000 := by rw [← List.length_append, ← HSN.out]; exact htk2
      have HIB := hide hit
      have HLI := hide hi3.len
      obtain ⟨T0, hT0⟩ : ∃ x, x = pagesT (l.take k) := ⟨_, rfl⟩
      rw [← hT0] at hgr HSN hpL htk
      have HGR := hide hgr
      have hbr := hgr.1.lt
      have hfp : Fr [] wr (wr.alloc (.cells #[.int .i64 p.w, .int .i64 p.h, .slice Ai ni ci] 31)) := (Fr.refl _ _).alloc _
      have hBp := Blk.new wr 31 #[.int .i64 p.w, .int .i64 p.h, .slice Ai ni ci]
      have hgp : wr.heap.size ≠ b := by omega
      have HFP := hide hfp
      have HBP := hide hBp
      have HGP := hide hgp
      have HEI := hide (fun W (hW : FrB base b wr W) (m : Nat) (hm : m < ni) => (by
        obtain ⟨S, hf, hS⟩ := hW.fr
        exact item_elem (hi3.keep hf (fun g hg hm => by have := (hS g hm).1; omega) (fun _ _ h => h.keep hf (fun g hg hm => by have := (hS g hm).1; omega))) hm))
      have hnw := numT_len p.w
      have hnh := numT_len p.h
      have HNM := hide (fun W (hW : Bu W base prT b (T0 ++ [112, 97, 103, 101])) => (numbersN_pr hW [p.w, p.h] (fun z hz => by
        simp only [List.mem_cons, List.not_mem_nil, or_false] at hz
        rcases hz with rfl | rfl
        · exact side_fits hsw
        · exact side_fits hsh) (by simp) (by simp only [List.length_append, List.length_cons, List.length_nil]; omega) : Calls Tryd.prog 13 #[.pointer (some ⟨b, 0, none⟩), .slice (some ⟨W.heap.size, 0, none⟩) 2 2] (W.alloc (.cells #[.int .i64 p.w, .int .i64 p.h] 3)) fun e w' => e = .returned (.tuple #[]) ∧ Grew W base prT b (T0 ++ [112, 97, 103, 101] ++ numsT [p.w, p.h]) w'))
      have hL2 : (T0 ++ [112, 97, 103, 101] ++ numsT [p.w, p.h]).length ≤ 1000100 := by simp only [numsT, List.flatMap_cons, List.flatMap_nil, List.length_append, List.length_cons, List.length_nil]; omega
      have HPT : Hid (T0 ++ [112, 97, 103, 101] ++ numsT [p.w, p.h] ++ [10] = T0 ++ headT p) := hide (by unfold headT numsT; simp)
      clear hlk hi3 hgr hT0 hfp hBp hgp hit hsw hsh hil
      go_wp2_with (go_at_call 12; refine (wstr_any (HGR.out.1.keep HFP.out) lies_printer (by decide) [112, 97, 103, 101] (by simp only [List.length_cons, List.length_nil]; omega)).mono ?_)
      rintro e w4 ⟨rfl, hg4⟩
      try intro hg4
      have y0 : w4.cell? ⟨wr.heap.size, 0, none⟩ = some (.int .i64 p.w) := (hg4.2.blk HBP.out HGP.out (by decide)).cell 0
      have y1 : w4.cell? ⟨wr.heap.size, 1, none⟩ = some (.int .i64 p.h) := (hg4.2.blk HBP.out HGP.out (by decide)).cell 1
      go_wp2_with (go_at_call 13; refine (HNM.out _ hg4.1).mono ?_)
      rintro e w5 ⟨rfl, hg5⟩
      try intro hg5
      have hq5 := hg4.trans hg5
      clear y0 y1
      go_wp2_with (go_at_call 14; refine (wbyte_any hq5.1 lies_printer (by decide) 10 10 rfl (by omega)).mono ?_)
      rintro e w6 ⟨rfl, hg6⟩
      try intro hg6
      have hq6 := hq5.trans hg6
      have y2 : w6.cell? ⟨wr.heap.size, 2, none⟩ = some (.slice Ai ni ci) := (hq6.2.blk HBP.out HGP.out (by decide)).cell 2
      have HQ6 : Hid (Grew (wr.alloc (.cells #[.int .i64 p.w, .int .i64 p.h, .slice Ai ni ci] 31)) base prT b (T0 ++ headT p) w6) := hide (by rw [← HPT.out]; exact hq6)
      have HW6 := hide ((FrB.of0 HFP.out).trans hq6.2)
      clear hq5 hq6 hg4 hg5 hg6
      go_wp2
      have HLQ := hide (show (T0 ++ headT p).length ≤ 1000200 by have h1 := headT_len p; rw [List.length_append]; omega)
      obtain ⟨wp, rfl⟩ : ∃ wp : World, wp = wr := ⟨_, rfl⟩
      go_loopw [30] (fun i w7 => ∃ m : Nat, m ≤ ni ∧ i = .int .i64 m ∧ FrB base b wp w7 ∧ Grew W1 base prT b (T0 ++ headT p ++ itemsT (p.items.take m)) w7) (fun i _ => ni - (intOf i).toNat)
      case atStart => exact ⟨0, Nat.zero_le _, rfl, HW6.out, by simpa [itemsT] using HGR.out.trans (Grew.after HFP.out HQ6.out)⟩
      case round =>
        obtain ⟨m, hm, rfl, hfw, hgr⟩ := hrel
        have hpg : (pageT p).length = (headT p).length + (itemsT p.items).length := by unfold pageT; rw [List.length_append]
        have hit2 := itemsT_take p.items m
        by_cases hlt2 : m < ni
        · have hdm : decide ((m : Int) < (ni : Int)) = true := by simp; omega
          obtain ⟨ad2, d, Ap, np, cp, Ac, nc, cc, Ad, nd, cd, Ab, nb, cb, rfl, hlk2, hit, HCE⟩ := HEI.out wr hfw m hlt2
          have hib := HIB.out d (List.mem_of_getElem? hlk2)
          have hit3 := itemsT_take p.items (m + 1)
          have HSN2 := hide (itemsT_snoc hlk2)
          have hL3 : (T0 ++ headT p ++ itemsT (p.items.take m) ++ itemT d).length ≤ 1000000 := by
            have h1 := congrArg List.length HSN2.out
            simp only [List.length_append] at h1 ⊢
            omega
          have hL4 : (T0 ++ headT p ++ itemsT (p.items.take m)).length ≤ 1000000 := by rw [List.length_append] at hL3; omega
          obtain ⟨S0, hS0⟩ : ∃ x, x = T0 ++ headT p ++ itemsT (p.items.take m) := ⟨_, rfl⟩
          rw [← hS0] at hgr hL3 hL4
          have HS0 := hide hS0
          have hfi : Fr [] wr (wr.alloc (.cells #[.int .i64 d.kind, .slice Ap np cp, .int .i64 d.col.space, .int .i64 d.col.p0, .int .i64 d.col.p1, .int .i64 d.col.p2, .int .i64 d.col.p3, .slice Ac nc cc, .int .i64 d.pen.width, .int .i64 d.pen.cap, .int .i64 d.pen.join, .int .i64 d.pen.miter, .slice Ad nd cd, .int .i64 d.pen.phase, .int .i64 d.font, .int .i64 d.mat.m0, .int .i64 d.mat.m1, .int .i64 d.mat.m2, .int .i64 d.mat.m3, .int .i64 d.mat.m4, .int .i64 d.mat.m5, .slice Ab nb cb] 43)) := (Fr.refl _ _).alloc _
          have HBN := hide (Blk.new wr 43 #[.int .i64 d.kind, .slice Ap np cp, .int .i64 d.col.space, .int .i64 d.col.p0, .int .i64 d.col.p1, .int .i64 d.col.p2, .int .i64 d.col.p3, .slice Ac nc cc, .int .i64 d.pen.width, .int .i64 d.pen.cap, .int .i64 d.pen.join, .int .i64 d.pen.miter, .slice Ad nd cd, .int .i64 d.pen.phase, .int .i64 d.font, .int .i64 d.mat.m0, .int .i64 d.mat.m1, .int .i64 d.mat.m2, .int .i64 d.mat.m3, .int .i64 d.mat.m4, .int .i64 d.mat.m5, .slice Ab nb cb])
          have HIP := hide (item_pr (hgr.1.keep hfi) (hit.keep hfi (by simp)) hib (by omega))
          have HGR2 := hide hgr
          have HFI := hide hfi
          have hdl : decide ((1048576 : Int) < (S0.length : Int) + ((itemT d).length : Int)) = false := by rw [List.length_append] at hL3; simp only [decide_eq_false_iff_not]; omega
          have HDL := hide hdl
          clear hlk2 hit hS0 hfi hgr hdl
          obtain ⟨wo, rfl⟩ : ∃ wo : World, wo = wr := ⟨_, rfl⟩
          go_wp2_with (first | (refine wpList_load_cells rfl 43 _ rfl _ rfl _ _ HCE.out Tryd.underlying43 rfl (by kernel_rfl) ?_) | (refine wpList_store_new rfl 43 _ _ _ rfl _ _ rfl rfl (by kernel_rfl) (by kernel_rfl) (by kernel_rfl) ?_) | (refine wpList_load_row rfl 43 _ rfl _ rfl _ _ _ _ HBN.out Tryd.underlying43 rfl (by kernel_rfl) ?_) | (go_at_call 15; refine HIP.out.mono ?_))
          rintro e w8 ⟨rfl, hg8⟩
          try intro hg8
          have hdl := HDL.out
          go_wp2_with (go_at_call 16; refine (blen_any hg8.1).mono ?_; rintro e w9 ⟨rfl, rfl⟩)
          exact ⟨⟨m + 1, by omega, by go_num, (hfw.trans (FrB.of0 HFI.out)).trans hg8.2, by have h9 := HGR2.out.trans (Grew.after HFI.out hg8); rw [HS0.out] at h9; rw [HSN2.out]; simpa using h9⟩, by simp [intOf]; omega⟩
        · have hdm : decide ((m : Int) < (ni : Int)) = false := by simp; omega
          have HX : Hid (Grew W1 base prT b (pagesT (l.take (k + 1))) wr) := hide (by
            rw [HSN.out]
            rw [List.take_of_length_le (by rw [HLI.out]; omega)] at hgr
            unfold pageT
            rw [← List.append_assoc]
            exact hgr)
          clear hgr
          go_wp2
          exact ⟨⟨k + 1, by omega, by go_num, HX.out⟩, by simp [intOf]; omega⟩
    · have hdk : decide ((k : Int) < (n : Int)) = false := by simp; omega
      have hgr2 : Grew W1 base prT b (pagesT l) wr := by rw [List.take_of_length_le (by rw [HLN.out]; omega)] at hgr; exact hgr
      have HG2 := hide hgr2
      have hdl : decide ((1048576 : Int) < ((pagesT l).length : Int)) = false := by simp only [decide_eq_false_iff_not]; omega
      have hbl := HG2.out.1.base_le
      clear hgr hgr2
      go_wp2_with (first
        | (go_at_call 16; refine (blen_any HG2.out.1).mono ?_; rintro e w9 ⟨rfl, rfl⟩)
        | (go_at_call 17; refine (bstring_any HG2.out.1 (by omega)).mono ?_; rintro e w9 ⟨rfl, hf9⟩))
      go_ret2
      refine ⟨rfl, ?_⟩
      have hbe := ((HF1.out.trans HG2.out.2).trans hf9).below hbw
      rw [HBS.out] at hbe
      exact Fr.of_below hbe
end Go.Proofs.YtndfdekcdhlgoaaDoor
