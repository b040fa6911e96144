/- Contract: the reader's text. -/
import Derived.Test.YtdjhjfpeckndkaaGreatDoorBkTextB
set_option linter.unusedVariables false
set_option linter.unusedSimpArgs false
namespace Go.Proofs.YtdjhjfpeckndkaaGreatDoor
open Go.RowKit
theorem roundP_le (bs : List UInt8) (k d : Nat) (acc : List UInt8) : ∀ out j, roundP bs k d acc = some (out, j) → k < j ∧ j ≤ bs.length := by
  fun_induction roundP bs k d acc with
  | case1 k d acc h c h1 ih => intro out j e; have := ih out j e; omega
  | case2 k acc h c h1 h2 => intro out j e; simp at e; omega
  | case3 k d acc h c h1 h2 h3 ih => intro out j e; have := ih out j e; omega
  | case4 k d acc h c h1 h2 h3 h4 ih => intro out j e; have := ih out j e; have := escP_ge bs (k + 2) bs[k + 1]; omega
  | case5 => intro out j e; cases e
  | case6 k d acc h c h1 h2 h3 h4 ih => intro out j e; have := ih out j e; split at this <;> omega
  | case7 k d acc h c h1 h2 h3 h4 ih => intro out j e; have := ih out j e; omega
  | case8 => intro out j e; cases e
theorem hexP_le (bs : List UInt8) : ∀ (l : List UInt8) (k : Nat) (odd : Int) (acc out : List UInt8) (j : Nat), hexP bs l k odd acc = some (out, j) → k < j ∧ j ≤ k + l.length
  | [], _, _, _, _, _, h => by cases h
  | c :: r, k, odd, acc, out, j, h => by
    rw [hexP] at h
    split at h
    · have := hexP_le bs r _ _ _ _ _ h; simp; omega
    · split at h
      · simp at h; simp; omega
      · split at h
        · cases h
        · split at h
          · have := hexP_le bs r _ _ _ _ _ h; simp; omega
          · have := hexP_le bs r _ _ _ _ _ h; simp; omega
theorem strP_le {bs : List UInt8} {k : Nat} {out : List UInt8} {j : Nat} (h : strP bs k = some (out, j)) (hk : k < bs.length) : k < j ∧ j ≤ bs.length := by
  unfold strP at h
  split at h
  · have := roundP_le _ _ _ _ _ _ h; omega
  · have := hexP_le _ _ _ _ _ _ _ h
    rw [List.length_drop] at this
    omega
def TextQ (w : World) (r : Nat) (A : Option Addr) (n c : Nat) (refs : Bool) (bs : List UInt8) : Except Int (List UInt8 × Nat) → Ending → World → Prop
  | .ok (s, j), e, w' => e = .returned (pobjV 5 0 s) ∧ St w' r A n c j refs bs ∧ Fr [r] w w'
  | .error x, e, w' => e = panicE x ∧ Fr [r] w w'
theorem text_any (r n c k : Nat) (A : Option Addr) (refs : Bool) (bs : List UInt8) (w : World) (hs : St w r A n c k refs bs) (hk : bs[k]? = some 40 ∨ (bs[k]? = some 60 ∧ ¬ bs[k + 1]? = some 60)) :
    Calls Tryz.prog 121 #[.pointer (some ⟨r, 0, none⟩)] w (TextQ w r A n c refs bs (textP bs k)) := by
  have hN := fun w' (h : RB w' (fun _ => True) A n bs) => next_str n c k A bs w' h hs.cap hs.small hk
  have hlt : k < bs.length := by rcases hk with h | ⟨h, _⟩ <;> exact (List.getElem?_eq_some_iff.1 h).1
  cases hP : strP bs k with
  | none =>
    rw [hP] at hN
    have hN' := hide fun w' h => (hN w' h).mono fun e w'' q => (⟨q.1, q.2⟩ : e = nextV zTok 0 14 ∧ Fr [] w' w'')
    rcases hk with h | ⟨h, h2⟩
    · have e : textP bs k = .error 24 := by unfold textP; unfold strP at hP; rw [if_pos h] at hP ⊢; rw [hP]
      rw [e]
      exact ptext_short r n c k A refs bs w hs hN' (hide fun w' h' => open_round r n c k A refs bs w' h' h)
    · have hne : ¬ bs[k]? = some 40 := by rw [h]; decide
      unfold strP at hP
      rw [if_neg hne] at hP
      cases ho : openP (bs.drop (k + 1))
      · have e : textP bs k = .error 23 := by unfold textP; rw [if_neg hne, hP]; simp [ho]
        rw [e]
        exact ptext_bad r n c k A refs bs w hs hN' (hide fun w' h' => by have := open_hex r n c k A refs bs w' h' h; rw [ho] at this; exact this)
      · have e : textP bs k = .error 24 := by unfold textP; rw [if_neg hne, hP]; simp [ho]
        rw [e]
        exact ptext_short r n c k A refs bs w hs hN' (hide fun w' h' => by have := open_hex r n c k A refs bs w' h' h; rw [ho] at this; exact this)
  | some p =>
    obtain ⟨out, j⟩ := p
    rw [hP] at hN
    have hj := (strP_le hP hlt).2
    rw [hs.len] at hj
    have e : textP bs k = if 65535 < out.length then .error 25 else .ok (out, j) := by
      unfold textP
      unfold strP at hP
      split at hP
      · rename_i h; rw [if_pos h, hP]
      · rename_i h; rw [if_neg h, hP]
    rw [e]
    by_cases hb : 65535 < out.length
    · rw [if_pos hb]
      exact ptext_big r n c k A refs bs w hs (hide fun w' h => (hN w' h).mono fun e w'' q => ⟨q.1.1 hb, q.2⟩)
    · rw [if_neg hb]
      exact ptext_ok r n c k A refs bs w hs out j hj (hide fun w' h => (hN w' h).mono fun e w'' q => ⟨q.1.2 (by omega), q.2⟩)
end Go.Proofs.YtdjhjfpeckndkaaGreatDoor
