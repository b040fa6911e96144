/- Contracts: slices.Index and Contains at bytes. -/
import Derived.Test.YtdjhjfpeckndkaaGreatDoorBkPlexA
import Derived.Test.YtdjhjfpeckndkaaGreatDoorBkApp
set_option linter.unusedVariables false
set_option linter.unusedSimpArgs false
namespace Go.Proofs.YtdjhjfpeckndkaaGreatDoor
open Go.RowKit
theorem cutW_at (c : UInt8) : ∀ (l : List UInt8) (k : Nat) (u : UInt8), k ≤ (cutW c l).length → l[k]? = some u → u ≠ c → k + 1 ≤ (cutW c l).length
  | [], _, _, _, h, _ => by simp at h
  | b :: l, 0, u, _, h, hne => by
    have hb : b = u := by simpa using h
    subst hb
    have : (b != c) = true := by simpa using hne
    simp [cutW, List.takeWhile_cons, this]
  | b :: l, k + 1, u, hk, h, hne => by
    by_cases hb : (b != c) = true
    · simp only [cutW, List.takeWhile_cons, hb, if_true, List.length_cons] at hk ⊢
      have := cutW_at c l k u (by unfold cutW; omega) (by simpa using h) hne
      unfold cutW at this
      omega
    · have hb' : (b != c) = false := by simpa using hb
      simp [cutW, List.takeWhile_cons, hb'] at hk
theorem cutW_hit (c : UInt8) : ∀ (l : List UInt8) (k : Nat), k ≤ (cutW c l).length → l[k]? = some c → (cutW c l).length = k ∧ hasB c l = true
  | [], _, _, h => by simp at h
  | b :: l, 0, _, h => by
    have hb : b = c := by simpa using h
    subst hb
    simp [cutW, List.takeWhile_cons, hasB]
  | b :: l, k + 1, hk, h => by
    by_cases hb : (b != c) = true
    · simp only [cutW, List.takeWhile_cons, hb, if_true, List.length_cons] at hk ⊢
      obtain ⟨h1, h2⟩ := cutW_hit c l k (by unfold cutW; omega) (by simpa using h)
      unfold cutW at h1
      refine ⟨by omega, ?_⟩
      unfold hasB at h2 ⊢
      rw [List.contains_cons, h2, Bool.or_true]
    · have hb' : (b != c) = false := by simpa using hb
      simp [cutW, List.takeWhile_cons, hb'] at hk
theorem cutW_all (c : UInt8) (l : List UInt8) (h : l.length ≤ (cutW c l).length) : hasB c l = false := by
  cases hb : hasB c l
  · rfl
  · have := cutW_lt c l hb
    omega
def idxS (x : UInt8) (bs : List UInt8) : Int := if hasB x bs = true then ((cutW x bs).length : Int) else -1
set_option maxRecDepth 100000 in
set_option maxHeartbeats 400000 in
theorem sindex_u8 (N : Nat → Prop) (A : Option Addr) (n c : Nat) (bs : List UInt8) (x : UInt8) (w : World) (hr : RB w N A n bs) (hn : n ≤ 4611686018427387904) :
    Calls Tryz.prog 182 #[.slice A n c, .int .u8 x.toNat] w fun e w' => e = .returned (.int .i64 (idxS x bs)) ∧ w = w' := by
  obtain ⟨R, hR⟩ : ∃ R, R = idxS x bs := ⟨_, rfl⟩
  rw [← hR]
  have HR := hide hR
  clear hR
  go_enter Tryz.func182, Tryz.ntmps182
  go_wp2
  go_loop [8] (fun i => ∃ k : Nat, k ≤ n ∧ i = .int .i64 k ∧ k ≤ (cutW x bs).length) (fun i => n - (intOf i).toNat)
  case atStart => exact ⟨0, Nat.zero_le _, rfl, Nat.zero_le _⟩
  case round =>
    obtain ⟨k, hk, rfl, hkc⟩ := hrel
    by_cases hlt : k < n
    · obtain ⟨ad, u, rfl, hu, hcell⟩ := hr.at_ hlt
      have HU := hide hu
      clear hu
      have hd : decide ((k : Int) < (n : Int)) = true := by simp; omega
      by_cases hx : u = x
      · subst hx
        obtain ⟨h1, h2⟩ := cutW_hit u bs k hkc HU.out
        have HF : Hid ((k : Int) = R) := by
          have : (k : Int) = R := by rw [HR.out, idxS, if_pos h2, h1]
          exact this
        clear h1 h2
        go_wp2
        go_ret
        exact ⟨ret_int (by rw [← HF.out]), rfl⟩
      · have hne : ((x.toNat : Int) == (u.toNat : Int)) = false := by
          simp
          intro h
          exact hx (UInt8.toNat_inj.1 (by omega))
        have hk1 := cutW_at x bs k u hkc HU.out hx
        have HX := hide hx
        clear hx
        go_wp2
        go_round
        case rel => exact ⟨k + 1, by omega, by go_num, hk1⟩
        case measure => simp [intOf]; omega
    · have hd : decide ((k : Int) < (n : Int)) = false := by simp; omega
      have HF : Hid ((-1 : Int) = R) := by
        have : (-1 : Int) = R := by rw [HR.out, idxS, if_neg (by rw [cutW_all x bs (by rw [hr.len]; omega)]; simp)]
        exact this
      go_wp2
      go_ret
      exact ⟨ret_int (by rw [← HF.out]), rfl⟩
set_option maxHeartbeats 400000 in
theorem scontains_u8 (N : Nat → Prop) (A : Option Addr) (n c : Nat) (bs : List UInt8) (x : UInt8) (w : World) (hr : RB w N A n bs) (hn : n ≤ 4611686018427387904) :
    Calls Tryz.prog 153 #[.slice A n c, .int .u8 x.toNat] w fun e w' => e = .returned (.bool (hasB x bs)) ∧ w = w' := by
  have hd : decide (0 ≤ idxS x bs) = hasB x bs := by
    unfold idxS
    cases hb : hasB x bs
    · simp
    · simp
  have HI := fun w' h => hide (sindex_u8 N A n c bs x w' h hn)
  generalize idxS x bs = i at *
  rw [← hd]
  clear hd
  have HI2 := hide (HI w hr)
  clear HI
  go_enter Tryz.func153, Tryz.ntmps153
  go_wp2_with (go_at_call 182; refine (HI2.out.out).mono ?_; rintro e w' ⟨rfl, rfl⟩)
  go_ret
  exact ⟨rfl, rfl⟩
end Go.Proofs.YtdjhjfpeckndkaaGreatDoor
