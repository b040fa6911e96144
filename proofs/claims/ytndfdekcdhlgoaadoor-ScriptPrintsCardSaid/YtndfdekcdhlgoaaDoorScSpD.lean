/- Contracts: the printer's paths. -/
/- The printer's items: plain laws. -/
import Derived.Test.YtndfdekcdhlgoaaDoorScSpA
import Derived.Test.YtndfdekcdhlgoaaDoorScR12A
import Derived.Test.YtndfdekcdhlgoaaDoorScSpE
set_option linter.unusedVariables false
set_option linter.unusedSimpArgs false
namespace Go.Proofs.YtndfdekcdhlgoaaDoor
open Go.RowKit
theorem segs_ok : ∀ (last : Int) (l : List SegD), segsB last l = true → ∀ d, d ∈ l → (1 ≤ d.k ∧ d.k ≤ 4) ∧ ((fitsI d.x0 = true ∧ fitsI d.y0 = true) ∧ (fitsI d.x1 = true ∧ fitsI d.y1 = true) ∧ (fitsI d.x2 = true ∧ fitsI d.y2 = true))
  | last, s :: r, h, d, hd => by
    unfold segsB at h
    simp only [Bool.and_eq_true] at h
    rcases List.mem_cons.1 hd with rfl | hd
    · have h1 := h.1
      rw [segB_eq] at h1
      simp only [Bool.and_eq_true, decide_eq_true_eq, ptB, pointB] at h1
      exact ⟨h1.1.1.1, h1.1.1.2.1.1.1, h1.1.1.2.1.2.1, h1.1.1.2.2.1⟩
    · exact segs_ok s.k r h.2 d hd
theorem path_ok {l : List SegD} (h : pathB l = true) : l.length ≤ 4096 ∧ ∀ d, d ∈ l → (1 ≤ d.k ∧ d.k ≤ 4) ∧ ((fitsI d.x0 = true ∧ fitsI d.y0 = true) ∧ (fitsI d.x1 = true ∧ fitsI d.y1 = true) ∧ (fitsI d.x2 = true ∧ fitsI d.y2 = true)) := by
  unfold pathB at h
  simp only [Bool.and_eq_true, decide_eq_true_eq] at h
  exact ⟨h.1, segs_ok 0 l h.2⟩
theorem pathT_snoc {l : List SegD} {k : Nat} {d : SegD} (h : l[k]? = some d) : pathT (l.take (k + 1)) = pathT (l.take k) ++ segT d := by
  rw [take_snoc h]; simp [pathT]
theorem pathT_take (l : List SegD) (k : Nat) : (pathT (l.take k)).length ≤ 146 * k := by
  have h := pathT_len (l.take k)
  have h2 := List.length_take_le k l
  omega
set_option maxRecDepth 100000 in
set_option maxHeartbeats 4000000 in
theorem path_pr {w : World} {base b : Nat} {bs : List UInt8} (h : Bu w base prT b bs) {A : Option Addr} {n c : Nat} {l : List SegD} (hl : LR w (fun g => g < base) 7 SegC A n l) (hpb : pathB l = true) (hlen : bs.length ≤ 300000000) :
    Calls Tryd.prog 29 #[.pointer (some ⟨b, 0, none⟩), .slice A n c] w fun e w' => e = .returned (.tuple #[]) ∧ Grew w base prT b (bs ++ pathT l) w' := by
  have HEL := hide (fun W (hW : FrB base b w W) (k : Nat) (hk : k < n) => (by
    obtain ⟨S, hf, hS⟩ := hW.fr
    exact seg_elem (hl.keep hf (fun g hg hm => by have := (hS g hm).1; omega) (fun _ _ h => h)) hk))
  have hok := path_ok hpb
  have hn : n ≤ 4096 := by rw [← hl.len]; exact hok.1
  have HOK := hide hok.2
  have HLN := hide hl.len
  have HB0 := hide h
  have hbw := h.lt
  clear hl hok hpb h
  go_enter Tryd.func29, Tryd.ntmps29
  go_wp2
  go_loopw [8] (fun i w2 => ∃ k : Nat, k ≤ n ∧ i = .int .i64 k ∧ Grew w base prT b (bs ++ pathT (l.take k)) w2) (fun i _ => n - (intOf i).toNat)
  case atStart => exact ⟨0, Nat.zero_le _, rfl, by simpa [pathT] using Grew.refl HB0.out⟩
  case round =>
    obtain ⟨k, hk, rfl, hgr⟩ := hrel
    by_cases hlt : k < n
    · have hdk : decide ((k : Int) < (n : Int)) = true := by simp; omega
      obtain ⟨ad, d, rfl, hN, hlk, a0, a1, a2, a3, a4, a5, a6⟩ := HEL.out wr hgr.2 k hlt
      have HF := hide (HOK.out d (List.mem_of_getElem? hlk))
      have HSN := hide (show bs ++ pathT (l.take k) ++ segT d = bs ++ pathT (l.take (k + 1)) by rw [pathT_snoc hlk, List.append_assoc])
      have htk := pathT_take l k
      have hbl : (bs ++ pathT (l.take k)).length ≤ 301000000 := by rw [List.length_append]; omega
      obtain ⟨B0, hB0⟩ : ∃ x, x = bs ++ pathT (l.take k) := ⟨_, rfl⟩
      rw [← hB0] at hgr HSN hbl
      have HGR := hide hgr
      have hbr := hgr.1.lt
      clear hlk hN hgr htk hB0
      have hkd : ((d.k == 1) = true ∧ (d.k == 2) = false ∧ (d.k == 3) = false) ∨ ((d.k == 1) = false ∧ (d.k == 2) = true ∧ (d.k == 3) = false) ∨ ((d.k == 1) = false ∧ (d.k == 2) = false ∧ (d.k == 3) = true) ∨ ((d.k == 1) = false ∧ (d.k == 2) = false ∧ (d.k == 3) = false) := by
        simp only [beq_iff_eq, beq_eq_false_iff_ne]; omega
      have hf1 : Fr [] wr (wr.alloc (.cells #[.int .i64 d.k, .int .i64 d.x0, .int .i64 d.y0, .int .i64 d.x1, .int .i64 d.y1, .int .i64 d.x2, .int .i64 d.y2] 91)) := (Fr.refl _ _).alloc _
      have hB := Blk.new wr 91 #[.int .i64 d.k, .int .i64 d.x0, .int .i64 d.y0, .int .i64 d.x1, .int .i64 d.y1, .int .i64 d.x2, .int .i64 d.y2]
      have hgb : wr.heap.size ≠ b := fun e => by omega
      have HF1 := hide hf1
      have HHB := hide hB
      have HGB := hide hgb
      clear hf1 hB hgb
      rcases hkd with ⟨k1, k2, k3⟩ | ⟨k1, k2, k3⟩ | ⟨k1, k2, k3⟩ | ⟨k1, k2, k3⟩
      · have HWD := hide (word_pr (HGR.out.1.keep HF1.out) [109] (by simp only [List.length_cons, List.length_nil]; omega))
        have HT : Hid (B0 ++ 32 :: [109] ++ numsT [d.x0, d.y0] = bs ++ pathT (l.take (k + 1))) := hide (by rw [← HSN.out]; unfold segT numsT; simp only [beq_iff_eq, beq_eq_false_iff_ne] at k1 k2 k3; simp [k1, k2, k3])
        have HNM := hide (fun W (hW : Bu W base prT b (B0 ++ 32 :: [109])) => (numbersN_pr hW [d.x0, d.y0] (fun z hz => by
          simp only [List.mem_cons, List.not_mem_nil, or_false] at hz
          rcases hz with rfl | rfl
          all_goals first | exact HF.out.2.1.1 | exact HF.out.2.1.2) (by simp) (by simp only [List.length_append, List.length_cons, List.length_nil]; omega) : Calls Tryd.prog 13 #[.pointer (some ⟨b, 0, none⟩), .slice (some ⟨W.heap.size, 0, none⟩) 2 2] (W.alloc (.cells #[.int .i64 d.x0, .int .i64 d.y0] 3)) fun e w' => e = .returned (.tuple #[]) ∧ Grew W base prT b (B0 ++ 32 :: [109] ++ numsT [d.x0, d.y0]) w'))
        go_wp2_with (first
          | (go_at_call 27; refine HWD.out.mono ?_; rintro e w4 ⟨rfl, hg4⟩; have c1 : w4.cell? ⟨wr.heap.size, 1, none⟩ = some (.int .i64 d.x0) := (hg4.2.blk HHB.out HGB.out (by decide)).cell 1; have c2 : w4.cell? ⟨wr.heap.size, 2, none⟩ = some (.int .i64 d.y0) := (hg4.2.blk HHB.out HGB.out (by decide)).cell 2)
          | (go_at_call 13; refine (HNM.out _ hg4.1).mono ?_; rintro e w5 ⟨rfl, hg5⟩))
        exact ⟨⟨k + 1, by omega, by go_num, by rw [← HT.out]; exact HGR.out.trans (Grew.after HF1.out (hg4.trans hg5))⟩, by simp [intOf]; omega⟩
      · have HWD := hide (word_pr (HGR.out.1.keep HF1.out) [108] (by simp only [List.length_cons, List.length_nil]; omega))
        have HT : Hid (B0 ++ 32 :: [108] ++ numsT [d.x0, d.y0] = bs ++ pathT (l.take (k + 1))) := hide (by rw [← HSN.out]; unfold segT numsT; simp only [beq_iff_eq, beq_eq_false_iff_ne] at k1 k2 k3; simp [k1, k2, k3])
        have HNM := hide (fun W (hW : Bu W base prT b (B0 ++ 32 :: [108])) => (numbersN_pr hW [d.x0, d.y0] (fun z hz => by
          simp only [List.mem_cons, List.not_mem_nil, or_false] at hz
          rcases hz with rfl | rfl
          all_goals first | exact HF.out.2.1.1 | exact HF.out.2.1.2) (by simp) (by simp only [List.length_append, List.length_cons, List.length_nil]; omega) : Calls Tryd.prog 13 #[.pointer (some ⟨b, 0, none⟩), .slice (some ⟨W.heap.size, 0, none⟩) 2 2] (W.alloc (.cells #[.int .i64 d.x0, .int .i64 d.y0] 3)) fun e w' => e = .returned (.tuple #[]) ∧ Grew W base prT b (B0 ++ 32 :: [108] ++ numsT [d.x0, d.y0]) w'))
        go_wp2_with (first
          | (go_at_call 27; refine HWD.out.mono ?_; rintro e w4 ⟨rfl, hg4⟩; have c1 : w4.cell? ⟨wr.heap.size, 1, none⟩ = some (.int .i64 d.x0) := (hg4.2.blk HHB.out HGB.out (by decide)).cell 1; have c2 : w4.cell? ⟨wr.heap.size, 2, none⟩ = some (.int .i64 d.y0) := (hg4.2.blk HHB.out HGB.out (by decide)).cell 2)
          | (go_at_call 13; refine (HNM.out _ hg4.1).mono ?_; rintro e w5 ⟨rfl, hg5⟩))
        exact ⟨⟨k + 1, by omega, by go_num, by rw [← HT.out]; exact HGR.out.trans (Grew.after HF1.out (hg4.trans hg5))⟩, by simp [intOf]; omega⟩
      · have HWD := hide (word_pr (HGR.out.1.keep HF1.out) [99] (by simp only [List.length_cons, List.length_nil]; omega))
        have HT : Hid (B0 ++ 32 :: [99] ++ numsT [d.x0, d.y0, d.x1, d.y1, d.x2, d.y2] = bs ++ pathT (l.take (k + 1))) := hide (by rw [← HSN.out]; unfold segT numsT; simp only [beq_iff_eq, beq_eq_false_iff_ne] at k1 k2 k3; simp [k1, k2, k3])
        have HNM := hide (fun W (hW : Bu W base prT b (B0 ++ 32 :: [99])) => (numbersN_pr hW [d.x0, d.y0, d.x1, d.y1, d.x2, d.y2] (fun z hz => by
          simp only [List.mem_cons, List.not_mem_nil, or_false] at hz
          rcases hz with rfl | rfl | rfl | rfl | rfl | rfl
          all_goals first | exact HF.out.2.1.1 | exact HF.out.2.1.2 | exact HF.out.2.2.1.1 | exact HF.out.2.2.1.2 | exact HF.out.2.2.2.1 | exact HF.out.2.2.2.2) (by simp) (by simp only [List.length_append, List.length_cons, List.length_nil]; omega) : Calls Tryd.prog 13 #[.pointer (some ⟨b, 0, none⟩), .slice (some ⟨W.heap.size, 0, none⟩) 6 6] (W.alloc (.cells #[.int .i64 d.x0, .int .i64 d.y0, .int .i64 d.x1, .int .i64 d.y1, .int .i64 d.x2, .int .i64 d.y2] 3)) fun e w' => e = .returned (.tuple #[]) ∧ Grew W base prT b (B0 ++ 32 :: [99] ++ numsT [d.x0, d.y0, d.x1, d.y1, d.x2, d.y2]) w'))
        go_wp2_with (first
          | (go_at_call 27; refine HWD.out.mono ?_; rintro e w4 ⟨rfl, hg4⟩; have c1 : w4.cell? ⟨wr.heap.size, 1, none⟩ = some (.int .i64 d.x0) := (hg4.2.blk HHB.out HGB.out (by decide)).cell 1; have c2 : w4.cell? ⟨wr.heap.size, 2, none⟩ = some (.int .i64 d.y0) := (hg4.2.blk HHB.out HGB.out (by decide)).cell 2; have c3 : w4.cell? ⟨wr.heap.size, 3, none⟩ = some (.int .i64 d.x1) := (hg4.2.blk HHB.out HGB.out (by decide)).cell 3; have c4 : w4.cell? ⟨wr.heap.size, 4, none⟩ = some (.int .i64 d.y1) := (hg4.2.blk HHB.out HGB.out (by decide)).cell 4; have c5 : w4.cell? ⟨wr.heap.size, 5, none⟩ = some (.int .i64 d.x2) := (hg4.2.blk HHB.out HGB.out (by decide)).cell 5; have c6 : w4.cell? ⟨wr.heap.size, 6, none⟩ = some (.int .i64 d.y2) := (hg4.2.blk HHB.out HGB.out (by decide)).cell 6)
          | (go_at_call 13; refine (HNM.out _ hg4.1).mono ?_; rintro e w5 ⟨rfl, hg5⟩))
        exact ⟨⟨k + 1, by omega, by go_num, by rw [← HT.out]; exact HGR.out.trans (Grew.after HF1.out (hg4.trans hg5))⟩, by simp [intOf]; omega⟩
      · have HWD := hide (word_pr (HGR.out.1.keep HF1.out) [104] (by simp only [List.length_cons, List.length_nil]; omega))
        have HT : Hid (B0 ++ 32 :: [104] ++ numsT [] = bs ++ pathT (l.take (k + 1))) := hide (by rw [← HSN.out]; unfold segT numsT; simp only [beq_iff_eq, beq_eq_false_iff_ne] at k1 k2 k3; simp [k1, k2, k3])
        go_wp2_with (go_at_call 27; refine HWD.out.mono ?_; rintro e w4 ⟨rfl, hg4⟩)
        exact ⟨⟨k + 1, by omega, by go_num, by rw [← HT.out]; simpa [numsT] using HGR.out.trans (Grew.after HF1.out hg4)⟩, by simp [intOf]; omega⟩
    · have hdk : decide ((k : Int) < (n : Int)) = false := by simp; omega
      have HF : Hid (Grew w base prT b (bs ++ pathT l) wr) := hide (by rw [List.take_of_length_le (by rw [HLN.out]; omega)] at hgr; exact hgr)
      clear hgr
      go_wp2
      go_end0
      exact ⟨rfl, HF.out⟩
end Go.Proofs.YtndfdekcdhlgoaaDoor
namespace Go.Proofs.YtndfdekcdhlgoaaDoor
open Go.RowKit
theorem clips_len {l : List ClipD} (h : clipsB l = true) : (clipsT l).length ≤ 10000000 := by
  unfold clipsB at h
  simp only [Bool.and_eq_true, decide_eq_true_eq, List.all_eq_true] at h
  have h1 := clipsT_len l
  have h2 : ∀ l : List ClipD, (∀ x, x ∈ l → clipB x = true) → (l.map clipW).sum ≤ 4096 * l.length := fun l => by
    induction l with
    | nil => simp
    | cons a l ih =>
      intro h
      have h3 := ih (fun x hx => h x (List.mem_cons_of_mem _ hx))
      have h4 := h a (List.mem_cons_self)
      unfold clipB pathB at h4
      simp only [Bool.and_eq_true, decide_eq_true_eq] at h4
      have h5 : clipW a ≤ 4096 := h4.2.1
      simp only [List.map_cons, List.sum_cons, List.length_cons]; omega
  have h3 := h2 l h.2
  omega
theorem clip_ok {l : List ClipD} (h : clipsB l = true) {d : ClipD} (hd : d ∈ l) : pathB d.path = true := by
  unfold clipsB at h
  simp only [Bool.and_eq_true, List.all_eq_true] at h
  have h1 := h.2 d hd
  unfold clipB at h1
  simp only [Bool.and_eq_true] at h1
  exact h1.2
theorem clipsT_snoc {l : List ClipD} {k : Nat} {d : ClipD} (h : l[k]? = some d) : clipsT (l.take (k + 1)) = clipsT (l.take k) ++ clipT d := by
  rw [take_snoc h]; simp [clipsT]
theorem clipsT_take (l : List ClipD) (k : Nat) : (clipsT (l.take k)).length ≤ (clipsT l).length := by
  have h : clipsT l = clipsT (l.take k) ++ clipsT (l.drop k) := by unfold clipsT; rw [← List.flatMap_append, List.take_append_drop]
  rw [h, List.length_append]; omega
theorem item_parts {d : ItemD} (h : itemB d = true) : colB d.col = true ∧ clipsB d.clips = true ∧ (d.kind = 4 → (d.mat.list.all fitsI = true ∧ (0 ≤ d.font ∧ d.font ≤ 13) ∧ d.bytes.length ≤ 65535)) ∧ (d.kind ≠ 4 → pathB d.path = true) ∧ (d.kind = 3 → penB d.pen = true) := by
  unfold itemB at h
  simp only [Bool.and_eq_true] at h
  refine ⟨h.1.1, h.1.2, fun hk => ?_, fun hk => ?_, fun hk => ?_⟩
  · have h1 := h.2
    rw [if_pos hk] at h1
    simp only [Bool.and_eq_true, decide_eq_true_eq] at h1
    exact ⟨h1.1.1.1.1, by omega, by omega⟩
  · have h1 := h.2
    rw [if_neg hk] at h1
    simp only [Bool.and_eq_true, decide_eq_true_eq] at h1
    exact h1.1.2
  · have h1 := h.2
    rw [if_neg (by omega), if_pos hk] at h1
    simp only [Bool.and_eq_true, decide_eq_true_eq] at h1
    exact h1.2
end Go.Proofs.YtndfdekcdhlgoaaDoor
