/- Contracts: the lexer's angle, skip, token at a string, Next at a string. -/
import Derived.Test.YtdjhjfpeckndkaaGreatDoorBkScanH
import Derived.Recover
set_option linter.unusedVariables false
set_option linter.unusedSimpArgs false
namespace Go.Proofs.YtdjhjfpeckndkaaGreatDoor
open Go.RowKit
theorem StrQ.cases {P : Program} {f : FuncId} {args : Array Value} {w : World} {r n c : Nat} {A : Option Addr} {bs : List UInt8} {R : Option (List UInt8 × Nat)}
    (h : Calls P f args w (StrQ w r A n c bs R)) :
    (R = none ∧ Calls P f args w fun e w' => e = panicE 14 ∧ Fr [r] w w') ∨
    (∃ out j, R = some (out, j) ∧ 65535 < out.length ∧ Calls P f args w fun e w' => e = panicE 9 ∧ Fr [r] w w') ∨
    (∃ out j, R = some (out, j) ∧ out.length ≤ 65535 ∧ Calls P f args w fun e w' => e = .returned (strTok out) ∧ Ss w' r A n c j bs ∧ Fr [r] w w') := by
  rcases R with _ | ⟨out, j⟩
  · exact .inl ⟨rfl, h⟩
  · by_cases hb : 65535 < out.length
    · exact .inr (.inl ⟨out, j, rfl, hb, h.mono fun e w' q => q.1 hb⟩)
    · exact .inr (.inr ⟨out, j, rfl, by omega, h.mono fun e w' q => q.2 (by omega)⟩)
theorem tok_frame {S : List Nat} {W w : World} {g : Nat} {v0 v1 v2 : Value} (hf : Fr S W w) (hg : W.heap.size ≤ g) :
    Fr S W (((w.setCell ⟨g, 0, none⟩ v0).setCell ⟨g, 1, none⟩ v1).setCell ⟨g, 2, none⟩ v2) :=
  ((hf.setCell (p := ⟨g, 0, none⟩) (.inr hg) _).setCell (p := ⟨g, 1, none⟩) (.inr hg) _).setCell (p := ⟨g, 2, none⟩) (.inr hg) _
theorem Ss.tok {w : World} {r n c k g : Nat} {A : Option Addr} {bs : List UInt8} {v0 v1 v2 : Value} (h : Ss w r A n c k bs) (hg : g ≠ r) (hA : ∀ ad, A = some ad → 0 < n → ad.block ≠ g) :
    Ss (((w.setCell ⟨g, 0, none⟩ v0).setCell ⟨g, 1, none⟩ v1).setCell ⟨g, 2, none⟩ v2) r A n c k bs := by
  refine h.keep (S := [g]) ?_ (by simpa using Ne.symm hg) (fun ad h1 h2 => by simpa using hA ad h1 h2)
  exact (((Fr.refl [g] w).setCell (p := ⟨g, 0, none⟩) (.inl (by simp)) _).setCell (p := ⟨g, 1, none⟩) (.inl (by simp)) _).setCell (p := ⟨g, 2, none⟩) (.inl (by simp)) _
set_option maxRecDepth 100000 in
set_option maxHeartbeats 1000000 in
theorem angle_any (r n c k : Nat) (A : Option Addr) (bs : List UInt8) (w : World) (hs : Ss w r A n c k bs) (h60 : ¬ bs[k]? = some 60) :
    Calls Tryz.prog 233 #[.pointer (some ⟨r, 0, none⟩), .int .u8 60] w (StrQ w r A n c bs (hexP bs (bs.drop k) k (-1) [])) := by
  have HAB := hide hs.blockA
  have HNX := hide (fun w' (h : Ss w' r A n c k bs) => next_no r n c k A bs 60 w' h h60)
  have HHX := hide (fun w' (h : Ss w' r A n c k bs) => StrQ.cases (hex_any r n c k A bs w' h))
  clear h60
  obtain ⟨R, hR⟩ : ∃ R, R = hexP bs (bs.drop k) k (-1) [] := ⟨_, rfl⟩
  rw [← hR] at HHX ⊢
  clear hR
  go_enter Tryz.func233, Tryz.ntmps233
  go_wp2_with fail
  obtain ⟨W0, hW0⟩ : ∃ W0, W0 = w.alloc (.cells #[.int .i64 0, .int .i64 0, .string ⟨#[]⟩] 212) := ⟨_, rfl⟩
  have hs0 : Ss W0 r A n c k bs := by rw [hW0]; exact hs.keep0 (by repeat (first | with_reducible exact Fr.refl _ _ | with_reducible assumption | with_reducible refine Fr.drewN ?_ _ | with_reducible refine Fr.drew ?_ | with_reducible refine Fr.alloc ?_ _ | ((with_reducible refine Fr.setCell ?_ ?_ _) <;> first | (apply Or.inl; simp; done) | (apply Or.inr; simp; done) | (apply Or.inr; simp; omega) | skip) | (refine Fr.then0 ?_ (by with_reducible assumption)) | (refine Fr.trans ?_ (by with_reducible assumption))))
  have hf0 : Fr [r] w W0 := by rw [hW0]; exact (by repeat (first | with_reducible exact Fr.refl _ _ | with_reducible assumption | with_reducible refine Fr.drewN ?_ _ | with_reducible refine Fr.drew ?_ | with_reducible refine Fr.alloc ?_ _ | ((with_reducible refine Fr.setCell ?_ ?_ _) <;> first | (apply Or.inl; simp; done) | (apply Or.inr; simp; done) | (apply Or.inr; simp; omega) | skip) | (refine Fr.then0 ?_ (by with_reducible assumption)) | (refine Fr.trans ?_ (by with_reducible assumption))))
  have hB0 : Blk W0 w.heap.size 212 #[.int .i64 0, .int .i64 0, .string ⟨#[]⟩] := by rw [hW0]; exact Blk.new _ _ _
  rw [← hW0]
  clear hW0
  have hrne : w.heap.size ≠ r := fun h => by have := hs.blk.lt; omega
  have hgs : w.heap.size ≤ w.heap.size := Nat.le_refl _
  obtain ⟨g, hg⟩ : ∃ g, g = w.heap.size := ⟨_, rfl⟩
  rw [← hg] at hB0 hrne ⊢
  have HG := hide hg
  clear hg hgs
  go_wp2_with (go_at_call 280; refine (HNX.out _ hs0).mono ?_; rintro e w1 ⟨rfl, hs1, hf1⟩)
  rcases HHX.out w1 hs1 with ⟨rfl, hX⟩ | ⟨out, j, rfl, hb, hX⟩ | ⟨out, j, rfl, hb, hX⟩
  · go_wp2_with (go_at_call 282; refine hX.mono ?_; rintro e w2 ⟨rfl, hf2⟩)
    exact ⟨rfl, rfl, (hf0.trans hf1).trans hf2⟩
  · go_wp2_with (go_at_call 282; refine hX.mono ?_; rintro e w2 ⟨rfl, hf2⟩)
    exact ⟨rfl, fun _ => ⟨rfl, (hf0.trans hf1).trans hf2⟩, fun h => by omega⟩
  · go_wp2_with (go_at_call 282; refine hX.mono ?_; rintro e w2 ⟨rfl, hs2, hf2⟩; have hB2 := (hB0.keep hf1 (by simpa using hrne)).keep hf2 (by simpa using hrne); obtain ⟨c0, c1, c2, cz⟩ := hB2.c3)
    refine bodyPost_ret (v := strTok out) (by simp [strTok, results, Tryz.results233, go_sem, c0, c1, c2, hB2.lt, Nat.ne_of_lt hB2.lt]) rfl ⟨fun h => by omega, fun _ => ⟨rfl, hs2.tok hrne ?_, tok_frame ((hf0.trans hf1).trans hf2) (by rw [HG.out]; exact Nat.le_refl _)⟩⟩
    intro ad h1 h2
    have := (HAB.out ad h1 h2).1
    have := HG.out
    omega
set_option maxRecDepth 100000 in
set_option maxHeartbeats 1000000 in
theorem sskip_here (r n c k : Nat) (A : Option Addr) (bs : List UInt8) (u : UInt8) (w : World) (hs : Ss w r A n c k bs) (hu : bs[k]? = some u) (hb : blankB u = false) (hp : ((u.toNat : Int) == 37) = false) :
    Calls Tryz.prog 230 #[.pointer (some ⟨r, 0, none⟩)] w fun e w' => e = .returned (.tuple #[]) ∧ ∃ m, w' = w.drewN m := by
  have hlt : k < n := by have := (List.getElem?_eq_some_iff.1 hu).1; rw [hs.len] at this; exact this
  have hsm := hs.small
  have HM : Hid (∀ nq, Calls Tryz.prog 231 #[.pointer (some ⟨r, 0, none⟩)] (w.drewN nq) fun e w' => e = .returned (.bool true) ∧ ∃ m, w' = (w.drewN nq).drewN m) := hide fun nq => by
    have := more_any r n c k A bs (w.drewN nq) (hs.keep0 ((Fr.refl _ _).drewN nq))
    rw [decide_eq_true hlt] at this
    exact this
  have HBK : Hid (∀ w', Calls Tryz.prog 277 #[.int .u8 u.toNat] w' fun e w'' => e = .returned (.bool false) ∧ w' = w'') := hide fun w' => by have := sblank_any u w'; rw [hb] at this; exact this
  clear hb
  obtain ⟨ad, rfl, hadr, hcb⟩ := hs.rb.at2 hu
  clear hu
  obtain ⟨c0, c1, cz⟩ := hs.blk.c2
  have hi1 : (0 : Int) ≤ (k : Int) := by omega
  have hi2 : (k : Int) < (n : Int) := by omega
  go_enter Tryz.func230, Tryz.ntmps230
  go_wp2_with fail
  go_loopw [2] (fun _ wr => ∃ m, wr = w.drewN m) (fun _ _ => 0)
  case atStart => exact ⟨0, rfl⟩
  case round =>
    obtain ⟨m, rfl⟩ := hrel
    go_wp2_with (first | (go_at_call 231; refine (HM.out _).mono ?_; rintro e w1 ⟨rfl, m1, rfl⟩))
    go_quiet (fail)
    go_wp2_with (first | (go_at_call 277; refine (HBK.out _).mono ?_; rintro e w1 ⟨rfl, rfl⟩))
    refine bodyPost_ret (results_none rfl _ _ _) rfl ⟨rfl, _, rfl⟩
/-- What a string at a place is. -/
def strP (bs : List UInt8) (k : Nat) : Option (List UInt8 × Nat) :=
  if bs[k]? = some 40 then roundP bs (k + 1) 1 [] else hexP bs (bs.drop (k + 1)) (k + 1) (-1) []
set_option maxRecDepth 100000 in
set_option maxHeartbeats 2000000 in
theorem token_str (r n c k : Nat) (A : Option Addr) (bs : List UInt8) (w : World) (hs : Ss w r A n c k bs) (hk : bs[k]? = some 40 ∨ (bs[k]? = some 60 ∧ ¬ bs[k + 1]? = some 60)) :
    Calls Tryz.prog 184 #[.pointer (some ⟨r, 0, none⟩)] w (StrQ w r A n c bs (strP bs k)) := by
  have HAB := hide hs.blockA
  have hlt : k < n := by rcases hk with h | ⟨h, _⟩ <;> (have := (List.getElem?_eq_some_iff.1 h).1; rw [hs.len] at this; exact this)
  have hsm := hs.small
  have hi1 : (0 : Int) ≤ (k : Int) := by omega
  have hi2 : (k : Int) < (n : Int) := by omega
  have HM : Hid (∀ w', Ss w' r A n c k bs → Calls Tryz.prog 231 #[.pointer (some ⟨r, 0, none⟩)] w' fun e w'' => e = .returned (.bool true) ∧ ∃ m, w'' = w'.drewN m) := hide fun w' h => by
    have := more_any r n c k A bs w' h
    rw [decide_eq_true hlt] at this
    exact this
  have HK := hide hk
  obtain ⟨u, hu, hb, hp⟩ : ∃ u, bs[k]? = some u ∧ blankB u = false ∧ ((u.toNat : Int) == 37) = false := by
    rcases hk with h | ⟨h, _⟩
    · exact ⟨40, h, by decide, by decide⟩
    · exact ⟨60, h, by decide, by decide⟩
  have HSK := hide (fun w' h => sskip_here r n c k A bs u w' h hu hb hp)
  have HU := hide hu
  clear hk hu hb hp
  go_enter Tryz.func184, Tryz.ntmps184
  go_wp2_with fail
  obtain ⟨W0, hW0⟩ : ∃ W0, W0 = w.alloc (.cells #[.int .i64 0, .int .i64 0, .string ⟨#[]⟩] 212) := ⟨_, rfl⟩
  have hs0 : Ss W0 r A n c k bs := by rw [hW0]; exact hs.keep0 (by repeat (first | with_reducible exact Fr.refl _ _ | with_reducible assumption | with_reducible refine Fr.drewN ?_ _ | with_reducible refine Fr.drew ?_ | with_reducible refine Fr.alloc ?_ _ | ((with_reducible refine Fr.setCell ?_ ?_ _) <;> first | (apply Or.inl; simp; done) | (apply Or.inr; simp; done) | (apply Or.inr; simp; omega) | skip) | (refine Fr.then0 ?_ (by with_reducible assumption)) | (refine Fr.trans ?_ (by with_reducible assumption))))
  have hf0 : Fr [r] w W0 := by rw [hW0]; exact (by repeat (first | with_reducible exact Fr.refl _ _ | with_reducible assumption | with_reducible refine Fr.drewN ?_ _ | with_reducible refine Fr.drew ?_ | with_reducible refine Fr.alloc ?_ _ | ((with_reducible refine Fr.setCell ?_ ?_ _) <;> first | (apply Or.inl; simp; done) | (apply Or.inr; simp; done) | (apply Or.inr; simp; omega) | skip) | (refine Fr.then0 ?_ (by with_reducible assumption)) | (refine Fr.trans ?_ (by with_reducible assumption))))
  have hB0 : Blk W0 w.heap.size 212 #[.int .i64 0, .int .i64 0, .string ⟨#[]⟩] := by rw [hW0]; exact Blk.new _ _ _
  rw [← hW0]
  clear hW0
  have hrne : w.heap.size ≠ r := fun h => by have := hs.blk.lt; omega
  obtain ⟨g, hg⟩ : ∃ g, g = w.heap.size := ⟨_, rfl⟩
  rw [← hg] at hB0 hrne ⊢
  have HG := hide hg
  clear hg
  have hAg : ∀ ad, A = some ad → 0 < n → ad.block ≠ g := fun ad h1 h2 => by
    have := (HAB.out ad h1 h2).1
    have := HG.out
    omega
  rcases HK.out with h | ⟨h, h2⟩
  · obtain rfl : u = 40 := by have := HU.out; rw [h] at this; injection this with this; exact this.symm
    clear HK
    have HR : Hid (∀ w', Ss w' r A n c (k + 1) bs → Calls Tryz.prog 232 #[.pointer (some ⟨r, 0, none⟩)] w' (StrQ w' r A n c bs (strP bs k))) := hide fun w' h' => by
      have he : strP bs k = roundP bs (k + 1) 1 [] := by unfold strP; rw [if_pos h]
      rw [he]
      exact round_any r n c (k + 1) A bs w' h'
    clear h
    generalize strP bs k = R at *
    obtain ⟨ad, hA, hadr, hcb⟩ := hs0.rb.at2 HU.out
    obtain ⟨c0, c1, cz⟩ := hs0.blk.c2
    have hset : ∀ m, Ss ((W0.drewN m).setCell ⟨r, 1, none⟩ (.int .i64 ((k : Int) + 1))) r A n c (k + 1) bs := fun m => (hs0.keep0 ((Fr.refl _ _).drewN m)).set_ (k + 1) (by omega)
    have hfs : ∀ m, Fr [r] w ((W0.drewN m).setCell ⟨r, 1, none⟩ (.int .i64 ((k : Int) + 1))) := fun m => (hf0.drewN m).setCell (.inl (by simp)) _
    have hBs : ∀ m, Blk ((W0.drewN m).setCell ⟨r, 1, none⟩ (.int .i64 ((k : Int) + 1))) g 212 #[.int .i64 0, .int .i64 0, .string ⟨#[]⟩] := fun m => (hB0.drewN m).far (p := ⟨r, 1, none⟩) hrne _
    subst hA
    go_wp2_with (first
      | (go_at_call 230; refine (HSK.out _ hs0).mono ?_; rintro e w1 ⟨rfl, m1, rfl⟩)
      | (go_at_call 231; refine (HM.out _ (hs0.keep0 ((Fr.refl _ _).drewN m1))).mono ?_; rintro e w2 ⟨rfl, m2, rfl⟩))
    go_quiet (fail)
    rcases R with _ | ⟨out, j⟩
    · go_wp2_with (go_at_call 232; refine (HR.out _ (hset _)).mono ?_; rintro e w3 ⟨rfl, hf3⟩)
      exact ⟨rfl, rfl, (hfs _).trans hf3⟩
    · by_cases hb : 65535 < out.length
      · go_wp2_with (go_at_call 232; refine (HR.out _ (hset _)).mono ?_; intro e w3 q; obtain ⟨rfl, hf3⟩ := q.1 hb)
        exact ⟨rfl, fun _ => ⟨rfl, (hfs _).trans hf3⟩, fun h => by omega⟩
      · go_wp2_with (go_at_call 232; refine (HR.out _ (hset _)).mono ?_; intro e w3 q; obtain ⟨rfl, hs3, hf3⟩ := q.2 (by omega); have hB2 := (hBs _).keep hf3 (by simpa using hrne); obtain ⟨d0, d1, d2, dz⟩ := hB2.c3; have hf4 := (hfs _).trans hf3)
        refine bodyPost_ret (v := strTok out) (by simp [strTok, results, Tryz.results184, go_sem, d0, d1, d2, hB2.lt, Nat.ne_of_lt hB2.lt]) rfl ⟨fun h => by omega, fun _ => ⟨rfl, hs3.tok hrne hAg, tok_frame hf4 (by rw [HG.out]; exact Nat.le_refl _)⟩⟩
  · obtain rfl : u = 60 := by have := HU.out; rw [h] at this; injection this with this; exact this.symm
    clear HK
    have HR : Hid (∀ w', Ss w' r A n c (k + 1) bs → Calls Tryz.prog 233 #[.pointer (some ⟨r, 0, none⟩), .int .u8 60] w' (StrQ w' r A n c bs (strP bs k))) := hide fun w' h' => by
      have he : strP bs k = hexP bs (bs.drop (k + 1)) (k + 1) (-1) [] := by unfold strP; rw [if_neg (by rw [h]; decide)]
      rw [he]
      exact angle_any r n c (k + 1) A bs w' h' h2
    clear h
    generalize strP bs k = R at *
    obtain ⟨ad, hA, hadr, hcb⟩ := hs0.rb.at2 HU.out
    obtain ⟨c0, c1, cz⟩ := hs0.blk.c2
    have hset : ∀ m, Ss ((W0.drewN m).setCell ⟨r, 1, none⟩ (.int .i64 ((k : Int) + 1))) r A n c (k + 1) bs := fun m => (hs0.keep0 ((Fr.refl _ _).drewN m)).set_ (k + 1) (by omega)
    have hfs : ∀ m, Fr [r] w ((W0.drewN m).setCell ⟨r, 1, none⟩ (.int .i64 ((k : Int) + 1))) := fun m => (hf0.drewN m).setCell (.inl (by simp)) _
    have hBs : ∀ m, Blk ((W0.drewN m).setCell ⟨r, 1, none⟩ (.int .i64 ((k : Int) + 1))) g 212 #[.int .i64 0, .int .i64 0, .string ⟨#[]⟩] := fun m => (hB0.drewN m).far (p := ⟨r, 1, none⟩) hrne _
    subst hA
    go_wp2_with (first
      | (go_at_call 230; refine (HSK.out _ hs0).mono ?_; rintro e w1 ⟨rfl, m1, rfl⟩)
      | (go_at_call 231; refine (HM.out _ (hs0.keep0 ((Fr.refl _ _).drewN m1))).mono ?_; rintro e w2 ⟨rfl, m2, rfl⟩))
    go_quiet (fail)
    rcases R with _ | ⟨out, j⟩
    · go_wp2_with (go_at_call 233; refine (HR.out _ (hset _)).mono ?_; rintro e w3 ⟨rfl, hf3⟩)
      exact ⟨rfl, rfl, (hfs _).trans hf3⟩
    · by_cases hb : 65535 < out.length
      · go_wp2_with (go_at_call 233; refine (HR.out _ (hset _)).mono ?_; intro e w3 q; obtain ⟨rfl, hf3⟩ := q.1 hb)
        exact ⟨rfl, fun _ => ⟨rfl, (hfs _).trans hf3⟩, fun h => by omega⟩
      · go_wp2_with (go_at_call 233; refine (HR.out _ (hset _)).mono ?_; intro e w3 q; obtain ⟨rfl, hs3, hf3⟩ := q.2 (by omega); have hB2 := (hBs _).keep hf3 (by simpa using hrne); obtain ⟨d0, d1, d2, dz⟩ := hB2.c3; have hf4 := (hfs _).trans hf3)
        refine bodyPost_ret (v := strTok out) (by simp [strTok, results, Tryz.results184, go_sem, d0, d1, d2, hB2.lt, Nat.ne_of_lt hB2.lt]) rfl ⟨fun h => by omega, fun _ => ⟨rfl, hs3.tok hrne hAg, tok_frame hf4 (by rw [HG.out]; exact Nat.le_refl _)⟩⟩
end Go.Proofs.YtdjhjfpeckndkaaGreatDoor
