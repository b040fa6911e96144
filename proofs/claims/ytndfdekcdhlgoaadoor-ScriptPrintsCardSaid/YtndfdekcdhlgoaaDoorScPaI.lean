/- Contracts: package font's names, package paint's letters. -/
import Derived.Test.YtndfdekcdhlgoaaDoorScPaA
import Derived.Test.YtndfdekcdhlgoaaDoorScR12F
set_option linter.unusedVariables false
set_option linter.unusedSimpArgs false
namespace Go.Proofs.YtndfdekcdhlgoaaDoor
open Go.RowKit
/-- The fonts' names lie where the program laid them. -/
def Fonts (w : World) : Prop := ∀ k, k < 14 → ∃ s : ByteArray, ¬ s.toList = [] ∧ w.cell? ⟨0, k, none⟩ = some (.string s)
theorem Fonts.keep {w w' : World} {S : List Nat} (h : Fonts w) (hf : Fr S w w') (hS : 0 ∉ S) : Fonts w' := fun k hk => by
  obtain ⟨s, h1, h2⟩ := h k hk
  exact ⟨s, h1, hf.cell h2 hS⟩
def NameS (w : World) (e : Ending) (w' : World) : Prop := ∃ s : ByteArray, e = .returned (.string s) ∧ ¬ s.toList = [] ∧ w = w'
def fontB (i : Int) : Bool := decide (0 ≤ i ∧ i ≤ 13)
theorem name_none (i : Int) (h : i < 0 ∨ 13 < i) (w : World) : Calls Tryd.prog 57 #[.int .i64 i] w fun e w' => e = .returned (.string ⟨#[]⟩) ∧ w = w' := by
  by_cases h1 : i < 0
  · go_enter Tryd.func57, Tryd.ntmps57
    go_wp2
    go_ret
    exact ⟨rfl, rfl⟩
  · have h2 : 14 ≤ i := by omega
    go_enter Tryd.func57, Tryd.ntmps57
    go_wp2
    go_ret
    exact ⟨rfl, rfl⟩
set_option maxRecDepth 100000 in
theorem name_font (i : Int) (h : 0 ≤ i ∧ i ≤ 13) (w : World) (hF : Fonts w) : Calls Tryd.prog 57 #[.int .i64 i] w (NameS w) := by
  obtain ⟨s, h1, h2⟩ := hF i.toNat (by omega)
  obtain ⟨h3, h4⟩ := h
  have h5 : ¬ i < 0 := by omega
  have h6 : ¬ 14 ≤ i := by omega
  go_enter Tryd.func57, Tryd.ntmps57
  go_wp2
  go_ret
  exact ⟨s, rfl, h1, rfl⟩
theorem lr_ints {w : World} {g : Nat} {o : Nat} (l : List Int) (h : ∀ j n, l[j]? = some n → w.cell? ⟨g, o + j, none⟩ = some (.int .i64 n)) : LR w (· = g) 1 IntC (some ⟨g, o, none⟩) l.length l := by
  refine ⟨rfl, fun _ => ⟨_, rfl, rfl, fun i d hd => ⟨[.int .i64 d], rfl, rfl, fun j u hu => ?_⟩⟩⟩
  have hj : j < 1 := (List.getElem?_eq_some_iff.1 hu).1
  obtain rfl : j = 0 := by omega
  simp at hu; subst hu
  have := h i d hd
  unfold Addr.add
  by_cases hi : i = 0
  · subst hi; simpa using this
  · simpa [hi] using this
/-- What is asked of letters themselves. -/
def lettB (ms : List Int) (fo : Int) (nb : Nat) : Bool := fontB fo && decide (1 ≤ nb ∧ nb ≤ 65535) && !(ms.any fun n => !fitsI n)
set_option maxRecDepth 100000 in
set_option maxHeartbeats 4000000 in
theorem letters_any {w0 : World} {kd sp p0 p1 p2 p3 pw pc pj pm pf fo m0 m1 m2 m3 m4 m5 : Int} {Ap Ac Ad Ab : Option Addr} {np cp nc cc nd cd nb cb : Nat} (hF : Fonts w0) (w : World) (hf : Fr [] w0 w) :
    Calls Tryd.prog 42 #[.agg #[.int .i64 kd, .slice Ap np cp, .int .i64 sp, .int .i64 p0, .int .i64 p1, .int .i64 p2, .int .i64 p3, .slice Ac nc cc, .int .i64 pw, .int .i64 pc, .int .i64 pj, .int .i64 pm, .slice Ad nd cd, .int .i64 pf, .int .i64 fo, .int .i64 m0, .int .i64 m1, .int .i64 m2, .int .i64 m3, .int .i64 m4, .int .i64 m5, .slice Ab nb cb]] w fun e w' => e = .returned (.bool (lettB [m0, m1, m2, m3, m4, m5] fo nb)) ∧ Fr [] w w' := by
  obtain ⟨R, hR⟩ : ∃ R, R = lettB [m0, m1, m2, m3, m4, m5] fo nb := ⟨_, rfl⟩
  rw [← hR]
  have HR := hide hR
  clear hR
  by_cases hfo : 0 ≤ fo ∧ fo ≤ 13
  · have HN := hide (fun W (h : Fr [] w W) => name_font fo hfo W (hF.keep (hf.trans h) (by simp)))
    have hB := Blk.new w 43 #[.int .i64 kd, .slice Ap np cp, .int .i64 sp, .int .i64 p0, .int .i64 p1, .int .i64 p2, .int .i64 p3, .slice Ac nc cc, .int .i64 pw, .int .i64 pc, .int .i64 pj, .int .i64 pm, .slice Ad nd cd, .int .i64 pf, .int .i64 fo, .int .i64 m0, .int .i64 m1, .int .i64 m2, .int .i64 m3, .int .i64 m4, .int .i64 m5, .slice Ab nb cb]
    have HM := hide (fun W (h : Fr [] (w.alloc (.cells #[.int .i64 kd, .slice Ap np cp, .int .i64 sp, .int .i64 p0, .int .i64 p1, .int .i64 p2, .int .i64 p3, .slice Ac nc cc, .int .i64 pw, .int .i64 pc, .int .i64 pj, .int .i64 pm, .slice Ad nd cd, .int .i64 pf, .int .i64 fo, .int .i64 m0, .int .i64 m1, .int .i64 m2, .int .i64 m3, .int .i64 m4, .int .i64 m5, .slice Ab nb cb] 43)) W) => cf_int (c := 6) (lr_ints (o := 15) [m0, m1, m2, m3, m4, m5] (fun j n hj => by
      have hj6 : j < 6 := (List.getElem?_eq_some_iff.1 hj).1
      rcases (by omega : j = 0 ∨ j = 1 ∨ j = 2 ∨ j = 3 ∨ j = 4 ∨ j = 5) with rfl | rfl | rfl | rfl | rfl | rfl <;> (simp at hj; subst hj) <;> exact hB.cell _)) (by simp) W h)
    have HR1 : Hid (R = (decide (1 ≤ nb ∧ nb ≤ 65535) && !(List.any [m0, m1, m2, m3, m4, m5] fun n => !fitsI n))) := hide (by rw [HR.out]; unfold lettB fontB; rw [decide_eq_true hfo]; rfl)
    clear hB hfo HR hF
    generalize List.any [m0, m1, m2, m3, m4, m5] (fun n => !fitsI n) = X at *
    simp only [List.length_cons, List.length_nil, Nat.zero_add, Nat.reduceAdd] at HM
    go_enter Tryd.func42, Tryd.ntmps42
    go_wp2_with (first | (go_at_call 57; refine (HN.out _ (by repeat (first | with_reducible exact Fr.refl _ _ | with_reducible assumption | with_reducible refine Fr.drewN ?_ _ | with_reducible refine Fr.drew ?_ | with_reducible refine Fr.alloc ?_ _ | ((with_reducible refine Fr.setCell ?_ ?_ _) <;> first | (apply Or.inl; simp; done) | (apply Or.inr; simp; done) | (apply Or.inr; simp; omega) | skip) | (refine Fr.then0 ?_ (by with_reducible assumption)) | (refine Fr.trans ?_ (by with_reducible assumption))))).mono ?_; rintro e w5 ⟨s, rfl, hs, rfl⟩; have hs2 : s.toList.isEmpty = false := by simpa using hs) | (go_at_call 58; refine (HM.out _ (by repeat (first | with_reducible exact Fr.refl _ _ | with_reducible assumption | with_reducible refine Fr.drewN ?_ _ | with_reducible refine Fr.drew ?_ | with_reducible refine Fr.alloc ?_ _ | ((with_reducible refine Fr.setCell ?_ ?_ _) <;> first | (apply Or.inl; simp; done) | (apply Or.inr; simp; done) | (apply Or.inr; simp; omega) | skip) | (refine Fr.then0 ?_ (by with_reducible assumption)) | (refine Fr.trans ?_ (by with_reducible assumption))))).mono ?_; rintro e w6 ⟨rfl, hf6⟩))
    all_goals
      go_ret
      exact ⟨by rw [HR1.out]; first | (rw [decide_eq_true (by omega)]; rfl) | (rw [decide_eq_false (by omega)]; rfl), (by repeat (first | with_reducible exact Fr.refl _ _ | with_reducible assumption | with_reducible refine Fr.drewN ?_ _ | with_reducible refine Fr.drew ?_ | with_reducible refine Fr.alloc ?_ _ | ((with_reducible refine Fr.setCell ?_ ?_ _) <;> first | (apply Or.inl; simp; done) | (apply Or.inr; simp; done) | (apply Or.inr; simp; omega) | skip) | (refine Fr.then0 ?_ (by with_reducible assumption)) | (refine Fr.trans ?_ (by with_reducible assumption))))⟩
  · have HN := hide (fun W => name_none fo (by omega) W)
    have HX : Hid (R = false) := hide (by rw [HR.out]; unfold lettB fontB; rw [decide_eq_false hfo]; rfl)
    clear HR hfo
    go_enter Tryd.func42, Tryd.ntmps42
    go_wp2_with (go_at_call 57; refine (HN.out _).mono ?_; rintro e w5 ⟨rfl, rfl⟩)
    go_ret
    exact ⟨by rw [HX.out]; rfl, (by repeat (first | with_reducible exact Fr.refl _ _ | with_reducible assumption | with_reducible refine Fr.drewN ?_ _ | with_reducible refine Fr.drew ?_ | with_reducible refine Fr.alloc ?_ _ | ((with_reducible refine Fr.setCell ?_ ?_ _) <;> first | (apply Or.inl; simp; done) | (apply Or.inr; simp; done) | (apply Or.inr; simp; omega) | skip) | (refine Fr.then0 ?_ (by with_reducible assumption)) | (refine Fr.trans ?_ (by with_reducible assumption))))⟩
end Go.Proofs.YtndfdekcdhlgoaaDoor
