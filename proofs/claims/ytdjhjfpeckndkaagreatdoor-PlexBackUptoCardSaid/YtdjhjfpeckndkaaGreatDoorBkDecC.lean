/- Contracts: dec.Parse. -/
import Derived.Test.YtdjhjfpeckndkaaGreatDoorBkDecB
set_option linter.unusedVariables false
set_option linter.unusedSimpArgs false
namespace Go.Proofs.YtdjhjfpeckndkaaGreatDoor
open Go.RowKit
theorem signP_le (l : List UInt8) : (signP l).2.length ≤ l.length := by
  unfold signP
  split
  · simp
  · split
    · simp
    · split <;> simp
theorem mantOk_parts {l : List UInt8} (h : mantOk l = true) : plainD (dotW l) = true ∧ plainD (dotR l) = true := by
  unfold mantOk at h
  simp only [Bool.and_eq_true] at h
  exact h.1
set_option maxRecDepth 100000 in
set_option maxHeartbeats 400000 in
theorem parse_any (l : List UInt8) (w : World) (hl : l.length ≤ 4611686018427387903) :
    Calls Tryz.prog 186 #[.string ⟨l.toArray⟩] w fun e w' => e = .returned (.tuple #[.int .i64 (parseN l), .bool (parseB l)]) ∧ Fr [] w w' := by
  by_cases h64 : l.length ≤ 64
  · have hd : decide ((64 : Int) < (l.length : Int)) = false := by simp; omega
    have hsl := signP_le l
    have hs := fun w => signed_any l w (by omega)
    have HS := hide hs
    clear hs
    have hb : parseB l = (mantOk (signP l).2 && valueB (signP l).1 (dotW (signP l).2) (dotR (signP l).2)) := by unfold parseB; rw [decide_eq_true h64, Bool.true_and]
    have hn : parseN l = if parseB l then valueN (signP l).1 (dotW (signP l).2) (dotR (signP l).2) else 0 := rfl
    rw [hn, hb]
    clear hn hb
    generalize signP l = sg at *
    obtain ⟨mi, s⟩ := sg
    simp only at hsl HS ⊢
    have hwl : (dotW s).length ≤ s.length := cutW_le 46 s
    have hrl : (dotR s).length ≤ s.length := cutR_le 46 s
    have hm := fun w => mant_any s w (by omega)
    have HM := hide hm
    clear hm
    cases hok : mantOk s
    · go_enter Tryz.func186, Tryz.ntmps186
      go_wp2_with (first
        | (go_at_call 237; refine (HS.out _).mono ?_; rintro e w1 ⟨rfl, hf1⟩)
        | (go_at_call 238; refine (HM.out _).mono ?_; rw [hok]; rintro e w2 ⟨rfl, hf2⟩))
      go_ret2
      exact ⟨rfl, (by repeat (first | with_reducible exact Fr.refl _ _ | with_reducible assumption | with_reducible refine Fr.drewN ?_ _ | with_reducible refine Fr.drew ?_ | with_reducible refine Fr.alloc ?_ _ | ((with_reducible refine Fr.setCell ?_ ?_ _) <;> first | (apply Or.inl; simp; done) | (apply Or.inr; simp; done) | (apply Or.inr; simp; omega) | skip) | (refine Fr.then0 ?_ (by with_reducible assumption)) | (refine Fr.trans ?_ (by with_reducible assumption))))⟩
    · obtain ⟨hp1, hp2⟩ := mantOk_parts hok
      have hv := fun w => value_any mi (dotW s) (dotR s) w hp1 hp2 (by omega) (by omega)
      have HV := hide hv
      clear hv
      generalize dotW s = a at *
      generalize dotR s = b at *
      rw [Bool.true_and]
      cases hvb : valueB mi a b
      all_goals
        go_enter Tryz.func186, Tryz.ntmps186
        go_wp2_with (first
          | (go_at_call 237; refine (HS.out _).mono ?_; rintro e w1 ⟨rfl, hf1⟩)
          | (go_at_call 238; refine (HM.out _).mono ?_; rw [hok]; rintro e w2 ⟨rfl, hf2⟩)
          | (go_at_call 239; refine (HV.out _).mono ?_; rw [hvb]; rintro e w3 ⟨rfl, hf3⟩))
        go_ret2
        exact ⟨rfl, (by repeat (first | with_reducible exact Fr.refl _ _ | with_reducible assumption | with_reducible refine Fr.drewN ?_ _ | with_reducible refine Fr.drew ?_ | with_reducible refine Fr.alloc ?_ _ | ((with_reducible refine Fr.setCell ?_ ?_ _) <;> first | (apply Or.inl; simp; done) | (apply Or.inr; simp; done) | (apply Or.inr; simp; omega) | skip) | (refine Fr.then0 ?_ (by with_reducible assumption)) | (refine Fr.trans ?_ (by with_reducible assumption))))⟩
  · have hd : decide ((64 : Int) < (l.length : Int)) = true := by simp; omega
    have hb : parseB l = false := by unfold parseB; rw [decide_eq_false h64]; rfl
    have hn : parseN l = 0 := by unfold parseN; rw [hb]; rfl
    rw [hb, hn]
    go_enter Tryz.func186, Tryz.ntmps186
    go_wp2
    go_ret2
    exact ⟨rfl, Fr.refl _ _⟩
end Go.Proofs.YtdjhjfpeckndkaaGreatDoor
