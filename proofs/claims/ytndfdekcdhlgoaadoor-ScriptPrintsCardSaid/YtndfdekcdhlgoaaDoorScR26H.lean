/- Contracts: the reference's texts of items. -/
/- Contracts: the reference's text of pages. -/
import Derived.Test.YtndfdekcdhlgoaaDoorScR26C
import Derived.Test.YtndfdekcdhlgoaaDoorScR26D
import Derived.Test.YtndfdekcdhlgoaaDoorScR26E
import Derived.Test.YtndfdekcdhlgoaaDoorScR26G
set_option linter.unusedVariables false
set_option linter.unusedSimpArgs false
namespace Go.Proofs.YtndfdekcdhlgoaaDoor
open Go.RowKit
theorem item26_any {w0 : World} {N : Nat → Prop} {d : ItemD} {Ap Ac Ad Ab : Option Addr} {np cp nc cc nd cd nb cb : Nat} (hs : ItemS w0 N d Ap np cp Ac nc cc Ad nd cd Ab nb cb) (hb : itemB d = true) (hW : itemW d ≤ 10000) (w : World) (hf : Fr [] w0 w) :
    Calls Tryd.prog 20 #[.agg #[.int .i64 d.kind, .slice Ap np cp, .int .i64 d.col.space, .int .i64 d.col.p0, .int .i64 d.col.p1, .int .i64 d.col.p2, .int .i64 d.col.p3, .slice Ac nc cc, .int .i64 d.pen.width, .int .i64 d.pen.cap, .int .i64 d.pen.join, .int .i64 d.pen.miter, .slice Ad nd cd, .int .i64 d.pen.phase, .int .i64 d.font, .int .i64 d.mat.m0, .int .i64 d.mat.m1, .int .i64 d.mat.m2, .int .i64 d.mat.m3, .int .i64 d.mat.m4, .int .i64 d.mat.m5, .slice Ab nb cb]] w fun e w' => e = .returned (.string ⟨(itemT d).toArray⟩) ∧ Fr [] w w' := by
  have hk : d.kind = 1 ∨ d.kind = 2 ∨ d.kind = 3 ∨ d.kind = 4 := by
    have h := hb
    unfold itemB at h
    simp only [Bool.and_eq_true] at h
    have h1 := h.2
    by_cases h4 : d.kind = 4
    · omega
    rw [if_neg h4] at h1
    simp only [Bool.and_eq_true, decide_eq_true_eq] at h1
    omega
  obtain ⟨kd, path, ⟨sp, p0, p1, p2, p3⟩, clips, ⟨pw, pc, pj, pm, dash, pf⟩, fo, ⟨m0, m1, m2, m3, m4, m5⟩, bytes⟩ := d
  dsimp only at hk ⊢
  rcases hk with rfl | rfl | rfl | rfl
  · exact item26_1 hs hb hW w hf
  · exact item26_2 hs hb hW w hf
  · exact item26_3 hs hb hW w hf
  · exact item26_4 hs hb hW w hf
end Go.Proofs.YtndfdekcdhlgoaaDoor
namespace Go.Proofs.YtndfdekcdhlgoaaDoor
open Go.RowKit
theorem itemsT_snoc {l : List ItemD} {k : Nat} {d : ItemD} (h : l[k]? = some d) : itemsT (l.take (k + 1)) = itemsT (l.take k) ++ itemT d := by
  rw [take_snoc h]; simp [itemsT]
theorem itemsT_take (l : List ItemD) (k : Nat) : (itemsT (l.take k)).length ≤ (itemsT l).length := by
  have h : itemsT l = itemsT (l.take k) ++ itemsT (l.drop k) := by unfold itemsT; rw [← List.flatMap_append, List.take_append_drop]
  rw [h, List.length_append]; omega
theorem pagesT_snoc {l : List PageD} {k : Nat} {d : PageD} (h : l[k]? = some d) : pagesT (l.take (k + 1)) = pagesT (l.take k) ++ pageT d := by
  rw [take_snoc h]; simp [pagesT]
theorem pagesT_take (l : List PageD) (k : Nat) : (pagesT (l.take k)).length ≤ (pagesT l).length := by
  have h : pagesT l = pagesT (l.take k) ++ pagesT (l.drop k) := by unfold pagesT; rw [← List.flatMap_append, List.take_append_drop]
  rw [h, List.length_append]; omega
theorem mem_sum {α : Type} (f : α → Nat) : ∀ {l : List α} {x : α}, x ∈ l → f x ≤ (l.map f).sum
  | a :: l, x, h => by
    rcases List.mem_cons.1 h with rfl | h
    · simp
    · have := mem_sum f h; simp; omega
theorem page_weight {l : List PageD} {p : PageD} (h : p ∈ l) : pageW p ≤ pagesW l := by
  have := mem_sum pageW h; unfold pagesW; omega
theorem item_weight {p : PageD} {d : ItemD} (h : d ∈ p.items) : itemW d ≤ pageW p := by
  have := mem_sum itemW h; unfold pageW; omega
set_option maxRecDepth 100000 in
set_option maxHeartbeats 8000000 in
theorem print26_any {w0 : World} {N : Nat → Prop} {l : List PageD} {A : Option Addr} {n c : Nat} (hl : LR w0 N 3 (PageC w0 N) A n l) (hb : pagesB l = true) (hW : pagesW l ≤ 10000) (w : World) (hf : Fr [] w0 w) :
    Calls Tryd.prog 8 #[.slice A n c] w fun e w' => e = .returned (.string ⟨(pagesT l).toArray⟩) ∧ Fr [] w w' := by
  obtain ⟨R, hR⟩ : ∃ R, R = pagesT l := ⟨_, rfl⟩
  rw [← hR]
  have HR := hide hR
  have hRl : (pagesT l).length ≤ 2000000 := by have := pagesT_len l hb; omega
  have HB := hide hb
  have HWT := hide hW
  have hn : n ≤ 10000 := by have h1 := hl.len; unfold pagesW at hW; omega
  have HEL := hide (fun (W : World) (h : Fr [] w0 W) (k : Nat) (hk : k < n) => page_elem (hl.keep h (by simp) (fun _ _ h0 => h0.keep h (by simp))) hk)
  have HLN := hide hl.len
  clear hR hl hb hW
  go_enter Tryd.func8, Tryd.ntmps8
  go_wp2
  go_loopw [4, 3] (fun i s w2 => ∃ (k : Nat) (t : List UInt8), k ≤ n ∧ i = .int .i64 k ∧ s = .string ⟨t.toArray⟩ ∧ Fr [] w w2 ∧ Hid (t = pagesT (l.take k))) (fun i _ _ => n - (intOf i).toNat)
  case atStart => exact ⟨0, [], Nat.zero_le _, rfl, rfl, Fr.refl _ _, hide (by simp [pagesT])⟩
  case round =>
    obtain ⟨k, t, hk, rfl, rfl, hfr, hrel⟩ := hrel
    have htl : t.length ≤ 2000000 := by rw [hrel.out]; exact Nat.le_trans (pagesT_take _ _) hRl
    have hrel0 := hrel
    by_cases hlt : k < n
    · have hdk : decide ((k : Int) < (n : Int)) = true := by simp; omega
      obtain ⟨ad, p, Ai, ni, ci, rfl, hlk, hi1, hi2, hi3, a0, a1, a2⟩ := HEL.out wr (hf.trans hfr) k hlt
      have hmem := List.mem_of_getElem? hlk
      have HSN := hide (pagesT_snoc hlk)
      have HPB : Hid (pageB p = true) := hide (by have h1 := HB.out; unfold pagesB at h1; exact List.all_eq_true.1 h1 p hmem)
      have HPW : Hid (pageW p ≤ 10000) := hide (Nat.le_trans (page_weight hmem) HWT.out)
      have hpt : (itemsT p.items).length ≤ 2000000 := by
        have h1 := pageT_len p HPB.out
        have h2 := HPW.out
        unfold pageT at h1
        rw [List.length_append] at h1
        omega
      have hni : ni ≤ 10000 := by have h1 := hi3.len; have h2 := HPW.out; unfold pageW at h2; omega
      have HLI := hide hi3.len
      have HEI := hide (fun (W : World) (h : Fr [] wr W) (m : Nat) (hm : m < ni) => item_elem (hi3.keep h (by simp) (fun _ _ h0 => h0.keep h (by simp))) hm)
      have hx0 := numT_len p.w
      have hy0 := numT_len p.h
      have HX := hide (fun W => num26_any p.w W)
      have HY := hide (fun W => num26_any p.h W)
      obtain ⟨wo, rfl⟩ : ∃ wo : World, wo = wr := ⟨_, rfl⟩
      have HK0 := hide (fun W (h : Fr [] wo W) => (⟨h.cell a0 (by simp), h.cell a1 (by simp), h⟩ : W.cell? (ad.add (k * 3)) = some (.int .i64 p.w) ∧ W.cell? ⟨(ad.add (k * 3)).block, (ad.add (k * 3)).off + 1, none⟩ = some (.int .i64 p.h) ∧ Fr [] wo W))
      have HA2 := hide a2
      have HFR := hide hfr
      obtain ⟨nx, e1⟩ : ∃ x, numT p.w = x := ⟨_, rfl⟩
      obtain ⟨ny, e2⟩ : ∃ x, numT p.h = x := ⟨_, rfl⟩
      rw [e1] at HX hx0
      rw [e2] at HY hy0
      have HHD : Hid (headT p = [112, 97, 103, 101] ++ nx ++ ny ++ [10]) := hide (by rw [← e1, ← e2]; rfl)
      have HE1 := hide e1
      have HE2 := hide e2
      clear e1 e2 hlk hi3 hfr hmem hi1 hi2
      have HE := hide (by rw [show (⟨#[112, 97, 103, 101]⟩ : ByteArray) = ⟨[112, 97, 103, 101].toArray⟩ from rfl, show (⟨#[10]⟩ : ByteArray) = ⟨[10].toArray⟩ from rfl, cat_str, cat_str, cat_str, cat_str] : (⟨t.toArray⟩ : ByteArray) ++ ⟨#[112, 97, 103, 101]⟩ ++ ⟨nx.toArray⟩ ++ ⟨ny.toArray⟩ ++ ⟨#[10]⟩ = ⟨(t ++ [112, 97, 103, 101] ++ nx ++ ny ++ [10]).toArray⟩)
      have hc1 : ¬9223372036854775807 < t.length + 4 := by omega
      have hc2 : ¬9223372036854775807 < t.length + 4 + nx.length := by omega
      have hc3 : ¬9223372036854775807 < t.length + 4 + nx.length + ny.length := by omega
      have hc4 : ¬9223372036854775807 < t.length + 4 + nx.length + ny.length + 1 := by omega
      go_wp2
      go_region_held3 (fun w' => w'.cell? (ad.add (k * 3)) = some (.int .i64 p.w) ∧ w'.cell? ⟨(ad.add (k * 3)).block, (ad.add (k * 3)).off + 1, none⟩ = some (.int .i64 p.h) ∧ Fr [] wo w')
        ((exact HK0.out _ (by repeat (first | with_reducible exact Fr.refl _ _ | with_reducible assumption | with_reducible refine Fr.drewN ?_ _ | with_reducible refine Fr.drew ?_ | with_reducible refine Fr.alloc ?_ _ | ((with_reducible refine Fr.setCell ?_ ?_ _) <;> first | (apply Or.inl; simp; done) | (apply Or.inr; simp; done) | (apply Or.inr; simp; omega) | skip) | (refine Fr.then0 ?_ (by with_reducible assumption)) | (refine Fr.trans ?_ (by with_reducible assumption))))))
        ((go_simp; go_at_call 19; refine (num26_any _ _).mono ?_; (try rw [HE1.out]); (try rw [HE2.out]); rintro e w1 ⟨rfl, hf1⟩))
      all_goals
        go_wp2
        rw [show (⟨t.toArray⟩ : ByteArray) ++ ⟨#[112, 97, 103, 101]⟩ ++ ⟨nx.toArray⟩ ++ ⟨ny.toArray⟩ ++ ⟨#[10]⟩ = ⟨(t ++ [112, 97, 103, 101] ++ nx ++ ny ++ [10]).toArray⟩ from HE.out]
        have hs0l : (t ++ [112, 97, 103, 101] ++ nx ++ ny ++ [10]).length ≤ 2000100 := by simp only [List.length_append, List.length_cons, List.length_nil]; omega
        obtain ⟨S0, hS0⟩ : ∃ S0, S0 = t ++ [112, 97, 103, 101] ++ nx ++ ny ++ [10] := ⟨_, rfl⟩
        rw [← hS0] at hs0l ⊢
        have HSE := hide hS0
        clear hS0 hc1 hc2 hc3 hc4 hx0 hy0 a0 a1 a2
        go_loopw [5, 3] (fun i s w2 => ∃ (m : Nat) (v : List UInt8), m ≤ ni ∧ i = .int .i64 m ∧ s = .string ⟨v.toArray⟩ ∧ Fr [] wo w2 ∧ Hid (v = S0 ++ itemsT (p.items.take m))) (fun i _ _ => ni - (intOf i).toNat)
        case atStart => exact ⟨0, _, Nat.zero_le _, rfl, rfl, (by repeat (first | with_reducible exact Fr.refl _ _ | with_reducible assumption | with_reducible refine Fr.drewN ?_ _ | with_reducible refine Fr.drew ?_ | with_reducible refine Fr.alloc ?_ _ | ((with_reducible refine Fr.setCell ?_ ?_ _) <;> first | (apply Or.inl; simp; done) | (apply Or.inr; simp; done) | (apply Or.inr; simp; omega) | skip) | (refine Fr.then0 ?_ (by with_reducible assumption)) | (refine Fr.trans ?_ (by with_reducible assumption)))), hide (by simp [itemsT])⟩
        case round =>
          obtain ⟨m, v, hm, rfl, rfl, hfr2, hrel⟩ := hrel
          have a2 := hfr2.cell HA2.out (by simp)
          have hvl : v.length ≤ 4000100 := by
            have h1 := congrArg List.length hrel.out
            have h2 := itemsT_take p.items m
            rw [List.length_append] at h1
            omega
          by_cases hlt2 : m < ni
          · have hdm : decide ((m : Int) < (ni : Int)) = true := by simp; omega
            obtain ⟨ad2, d, Ap, np, cp, Ac, nc, cc, Ad, nd, cd, Ab, nb, cb, rfl, hlk2, hit, HCE⟩ := HEI.out wr hfr2 m hlt2
            have hmem := List.mem_of_getElem? hlk2
            have hib : itemB d = true := by
              have h1 := HPB.out
              unfold pageB at h1
              simp only [Bool.and_eq_true] at h1
              exact List.all_eq_true.1 h1.2 d hmem
            have hiw : itemW d ≤ 10000 := Nat.le_trans (item_weight hmem) HPW.out
            have HIC := hide (fun W (h : Fr [] wr W) => item26_any hit hib hiw W h)
            have hil := itemT_len d hib
            have hil2 : (itemT d).length ≤ 2000000 := by omega
            have HF2 : Hid (v ++ itemT d = S0 ++ itemsT (p.items.take (m + 1))) := hide (by rw [hrel.out, itemsT_snoc hlk2]; simp)
            have HEX := hide (cat_str v (itemT d))
            have hc4 : ¬9223372036854775807 < v.length + (itemT d).length := by omega
            clear hrel hlk2 hit hmem hib hiw hil
            generalize itemT d = it at *
            go_wp2_with (first | (refine wpList_load_cells rfl 43 _ rfl _ rfl _ _ HCE.out Tryd.underlying43 rfl (by kernel_rfl) ?_) | (go_at_call 20; refine (HIC.out _ (by repeat (first | with_reducible exact Fr.refl _ _ | with_reducible assumption | with_reducible refine Fr.drewN ?_ _ | with_reducible refine Fr.drew ?_ | with_reducible refine Fr.alloc ?_ _ | ((with_reducible refine Fr.setCell ?_ ?_ _) <;> first | (apply Or.inl; simp; done) | (apply Or.inr; simp; done) | (apply Or.inr; simp; omega) | skip) | (refine Fr.then0 ?_ (by with_reducible assumption)) | (refine Fr.trans ?_ (by with_reducible assumption))))).mono ?_; rintro e w3 ⟨rfl, hf3x⟩))
            exact ⟨⟨m + 1, v ++ it, by omega, by go_num, congrArg Value.string HEX.out, hfr2.trans (by repeat (first | with_reducible exact Fr.refl _ _ | with_reducible assumption | with_reducible refine Fr.drewN ?_ _ | with_reducible refine Fr.drew ?_ | with_reducible refine Fr.alloc ?_ _ | ((with_reducible refine Fr.setCell ?_ ?_ _) <;> first | (apply Or.inl; simp; done) | (apply Or.inr; simp; done) | (apply Or.inr; simp; omega) | skip) | (refine Fr.then0 ?_ (by with_reducible assumption)) | (refine Fr.trans ?_ (by with_reducible assumption)))), HF2⟩, by simp [intOf]; omega⟩
          · have hdm : decide ((m : Int) < (ni : Int)) = false := by simp; omega
            have HF2 : Hid (v = pagesT (l.take (k + 1))) := hide (by
              rw [hrel.out, List.take_of_length_le (by rw [HLI.out]; omega), HSE.out, HSN.out, hrel0.out]
              unfold pageT
              rw [HHD.out]; simp)
            clear hrel
            go_wp2
            exact ⟨⟨k + 1, v, by omega, by go_num, rfl, HFR.out.trans hfr2, HF2⟩, by simp [intOf]; omega⟩
    · have hdk : decide ((k : Int) < (n : Int)) = false := by simp; omega
      have HF : Hid (t = R) := hide (by rw [hrel.out, HR.out, List.take_of_length_le (by rw [HLN.out]; omega)])
      go_wp2
      go_ret
      exact ⟨by rw [← HF.out]; rfl, hfr⟩
end Go.Proofs.YtndfdekcdhlgoaaDoor
