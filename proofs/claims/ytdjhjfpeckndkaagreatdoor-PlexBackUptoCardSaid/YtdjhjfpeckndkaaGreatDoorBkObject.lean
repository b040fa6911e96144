/- Contract: plex.Object, over what the reader's object gives. -/
import Derived.Test.YtdjhjfpeckndkaaGreatDoorBkObjC
set_option linter.unusedVariables false
set_option linter.unusedSimpArgs false
namespace Go.Proofs.YtdjhjfpeckndkaaGreatDoor
open Go.RowKit
abbrev objV (o : Value) (j : Nat) (x : Int) : Ending := .returned (.tuple #[o, .int .i64 j, .int .i64 x])
set_option maxRecDepth 100000 in
set_option maxHeartbeats 2000000 in
theorem Object_err (n c k : Nat) (A : Option Addr) (bs : List UInt8) (deep : Int) (w : World) (hr : RB w (fun _ => True) A n bs) (hnc : n ≤ c) (hsm : n ≤ 1073741824) (hk : k ≤ n) (hlt : skipF bs k < n)
    (x : Int) (hx : ¬ x = 0) (HO : ∀ r W, St W r A n c (skipF bs k) true bs → Calls Tryz.prog 68 #[.pointer (some ⟨r, 0, none⟩), .int .i64 deep] W fun e w' => e = panicE x ∧ Fr [r] W w') :
    Calls Tryz.prog 23 #[.slice A n c, .int .i64 k, .int .i64 deep] w fun e w' => e = objV (.agg zObj) 0 x ∧ Fr [] w w' := by
  have hmf : ∀ (fn : Fn) (first cap : Array Value) (w : World), (Instr.makeFunc fn first cap).run Tryz.prog w = .ok (.func fn first cap) w := fun _ _ _ _ => rfl
  have hd1 : decide ((k : Int) < 0) = false := by simp
  have hd2 : decide ((n : Int) < (k : Int)) = false := by simp; omega
  have HSK := hide (fun w' (h : RB w' (fun _ => True) A n bs) => by have := skip_any _ A n c k bs w' h (by omega); rw [insideF_at n k hk] at this; exact this)
  have HOB := hide HO
  clear HO
  generalize skipF bs k = a at *
  have hd3 : ((a : Int) == (n : Int)) = false := by simp; omega
  have hd4 : (a == n) = false := by simp; omega
  go_enter_defers Tryz.func23, Tryz.ntmps23
  go_wp2_with (go_at_call 18; refine (HSK.out _ (hr.keep0 (by repeat (first | with_reducible exact Fr.refl _ _ | with_reducible assumption | with_reducible refine Fr.drewN ?_ _ | with_reducible refine Fr.drew ?_ | with_reducible refine Fr.alloc ?_ _ | ((with_reducible refine Fr.setCell ?_ ?_ _) <;> first | (apply Or.inl; simp; done) | (apply Or.inr; simp; done) | (apply Or.inr; simp; omega) | skip) | (refine Fr.then0 ?_ (by with_reducible assumption)) | (refine Fr.trans ?_ (by with_reducible assumption)))))).mono ?_; rintro e w1 ⟨rfl, rfl⟩)
  obtain ⟨W0, hW0⟩ : ∃ W0, W0 = (((w.alloc (.cells #[.int .i64 0, .int .i64 0, .string ⟨#[]⟩, .slice none 0 0, .slice none 0 0, .slice none 0 0] 31)).alloc (.cells #[.int .i64 0] 3)).alloc (.cells #[.int .i64 0] 35)).alloc (.cells #[.slice A n c, .int .i64 a, .bool true] 121) := ⟨_, rfl⟩
  rw [← hW0]
  have hf0 : Fr [] w W0 := by rw [hW0]; exact (by repeat (first | with_reducible exact Fr.refl _ _ | with_reducible assumption | with_reducible refine Fr.drewN ?_ _ | with_reducible refine Fr.drew ?_ | with_reducible refine Fr.alloc ?_ _ | ((with_reducible refine Fr.setCell ?_ ?_ _) <;> first | (apply Or.inl; simp; done) | (apply Or.inr; simp; done) | (apply Or.inr; simp; omega) | skip) | (refine Fr.then0 ?_ (by with_reducible assumption)) | (refine Fr.trans ?_ (by with_reducible assumption))))
  have hB0 : Blk W0 w.heap.size 31 #[.int .i64 0, .int .i64 0, .string ⟨#[]⟩, .slice none 0 0, .slice none 0 0, .slice none 0 0] := by rw [hW0]; exact (((Blk.new _ _ _).alloc _).alloc _).alloc _
  have hB1 : Blk W0 (w.heap.size + 1) 3 #[.int .i64 0] := by rw [hW0]; exact ((Blk.new2 _ _ _ (by rw [World.size_alloc])).alloc _).alloc _
  have hB2 : Blk W0 (w.heap.size + 1 + 1) 35 #[.int .i64 0] := by rw [hW0]; exact (Blk.new2 _ _ _ (by rw [World.size_alloc, World.size_alloc])).alloc _
  have hB3 : Blk W0 (w.heap.size + 1 + 1 + 1) 121 #[.slice A n c, .int .i64 a, .bool true] := by rw [hW0]; exact Blk.new2 _ _ _ (by rw [World.size_alloc, World.size_alloc, World.size_alloc])
  clear hW0
  have hs0 : St W0 (w.heap.size + 1 + 1 + 1) A n c a true bs := ⟨hB3, (hr.more (N' := fun g => g ≠ w.heap.size + 1 + 1 + 1) (fun g hg _ => by omega)).keep0 hf0, hnc, hsm, by omega⟩
  have hAw : ∀ ad, A = some ad → 0 < n → ad.block < w.heap.size := fun ad h1 h2 => by
    obtain ⟨ad', e', _, hc⟩ := hr.2 (by omega)
    rw [h1] at e'
    injection e' with e'
    subst e'
    have hl : 0 < (u8s bs).length := by rw [u8s_length, RB.len hr]; exact h2
    have := World.block_lt_of_cell? w _ (hc 0 _ (List.getElem?_eq_getElem hl))
    rw [block_of_add] at this
    exact this
  have HAW := hide hAw
  clear hAw
  have l0 : w.heap.size < W0.heap.size := hB0.lt
  have l1 : w.heap.size + 1 < W0.heap.size := hB1.lt
  have l2 : w.heap.size + 1 + 1 < W0.heap.size := hB2.lt
  have n03 : w.heap.size ≠ w.heap.size + 1 + 1 + 1 := by omega
  have n13 : w.heap.size + 1 ≠ w.heap.size + 1 + 1 + 1 := by omega
  have n23 : w.heap.size + 1 + 1 ≠ w.heap.size + 1 + 1 + 1 := by omega
  have n01 : w.heap.size ≠ w.heap.size + 1 := by omega
  have n02 : w.heap.size ≠ w.heap.size + 1 + 1 := by omega
  have n12 : w.heap.size + 1 ≠ w.heap.size + 1 + 1 := by omega
  have g0' : w.heap.size ≤ w.heap.size := Nat.le_refl _
  have g1' : w.heap.size ≤ w.heap.size + 1 := by omega
  have g2' : w.heap.size ≤ w.heap.size + 1 + 1 := by omega
  have g3' : w.heap.size ≤ w.heap.size + 1 + 1 + 1 := by omega
  generalize w.heap.size + 1 + 1 + 1 = g3 at *
  generalize w.heap.size + 1 + 1 = g2 at *
  generalize w.heap.size + 1 = g1 at *
  obtain ⟨g0, hg0⟩ : ∃ g0, g0 = w.heap.size := ⟨_, rfl⟩
  rw [← hg0] at hB0 l0 n03 n01 n02 g0' ⊢
  have g0'' : w.heap.size ≤ g0 := by rw [hg0]; exact Nat.le_refl _
  have HL := hide (⟨g0'', g1', g2', g3'⟩ : w.heap.size ≤ g0 ∧ w.heap.size ≤ g1 ∧ w.heap.size ≤ g2 ∧ w.heap.size ≤ g3)
  have HLT := hide (⟨l0, l1, l2⟩ : g0 < W0.heap.size ∧ g1 < W0.heap.size ∧ g2 < W0.heap.size)
  clear hg0 g0' g1' g2' g3' g0'' l0 l1 l2
  have hall : ∀ g, g ∈ [g0, g1, g2] → g ∈ ([] : List Nat) ∨ w.heap.size ≤ g := fun g hg => .inr (by
    have := HL.out
    rcases List.mem_cons.1 hg with h | hg
    · omega
    rcases List.mem_cons.1 hg with h | hg
    · omega
    rw [List.mem_singleton.1 hg]; omega)
  have HALL := hide hall
  clear hall
  have hcar : ∀ (w1 : World), Fr [g3] W0 w1 → Blk w1 g0 31 #[.int .i64 0, .int .i64 0, .string ⟨#[]⟩, .slice none 0 0, .slice none 0 0, .slice none 0 0] ∧ Blk w1 g1 3 #[.int .i64 0] ∧ Blk w1 g2 35 #[.int .i64 0] ∧ Fr [] w w1 := fun w1 h =>
    ⟨hB0.keep h (by simpa using n03), hB1.keep h (by simpa using n13), hB2.keep h (by simpa using n23), hf0.trans' h fun g hg => .inr (by rw [List.mem_singleton.1 hg]; have := HL.out; omega)⟩
  have HC := hide hcar
  clear hcar
  go_wp2_with (go_at_call 68; refine (HOB.out g3 W0 hs0).mono ?_; rintro e w1 ⟨rfl, hf1⟩)
  obtain ⟨b0, b1, b2, hf2⟩ := HC.out w1 hf1
  refine leaves_cons (f := 66) (args := #[.pointer (some ⟨g2, 0, none⟩), .pointer (some ⟨g0, 0, none⟩), .pointer (some ⟨g1, 0, none⟩)]) (by simp) (by simp [go_sem]) ?_
  refine (catchO_errno g0 g1 g2 _ _ _ _ _ _ _ _ x hx [] w1 b0 b1 b2).mono ?_
  rintro e u' w2 ⟨rfl, rfl, d0, d1, d2, hf3⟩
  obtain ⟨c0, c1, c2, c3, c4, c5, cz⟩ := d0.c6
  have e1 : w2.cell? ⟨g1, 0, none⟩ = some (.int .i64 0) := by rw [d1.cell]; rfl
  have e2 : w2.cell? ⟨g2, 0, none⟩ = some (.int .i64 x) := by rw [d2.cell]; rfl
  simp [Leaves, settle, results, Tryz.results23, go_sem, c0, c1, c2, c3, c4, c5, e1, e2]
  exact hf2.trans' hf3 HALL.out
set_option maxRecDepth 100000 in
set_option maxHeartbeats 2000000 in
theorem Object_ok (n c k : Nat) (A : Option Addr) (bs : List UInt8) (deep : Int) (w : World) (hr : RB w (fun _ => True) A n bs) (hnc : n ≤ c) (hsm : n ≤ 1073741824) (hk : k ≤ n) (hlt : skipF bs k < n)
    (kd x : Int) (t : List UInt8) (A3 A4 A5 : Option Addr) (n3 c3 n4 c4 n5 c5 : Nat) (j : Nat) (K : Nat → World → Prop) (hK : ∀ B S W W', K B W → Fr S W W' → (∀ g, g ∈ S → g < B) → K B W') (HO : ∀ r W, St W r A n c (skipF bs k) true bs → Calls Tryz.prog 68 #[.pointer (some ⟨r, 0, none⟩), .int .i64 deep] W fun e w' => e = .returned (.agg #[(.int .i64 kd), (.int .i64 x), (.string ⟨t.toArray⟩), (.slice A3 n3 c3), (.slice A4 n4 c4), (.slice A5 n5 c5)]) ∧ St w' r A n c j true bs ∧ Fr [r] W w' ∧ K W.heap.size w') :
    Calls Tryz.prog 23 #[.slice A n c, .int .i64 k, .int .i64 deep] w fun e w' => e = objV (.agg #[(.int .i64 kd), (.int .i64 x), (.string ⟨t.toArray⟩), (.slice A3 n3 c3), (.slice A4 n4 c4), (.slice A5 n5 c5)]) j 0 ∧ Fr [] w w' ∧ ∃ B, w.heap.size ≤ B ∧ K B w' := by
  have hmf : ∀ (fn : Fn) (first cap : Array Value) (w : World), (Instr.makeFunc fn first cap).run Tryz.prog w = .ok (.func fn first cap) w := fun _ _ _ _ => rfl
  have hd1 : decide ((k : Int) < 0) = false := by simp
  have hd2 : decide ((n : Int) < (k : Int)) = false := by simp; omega
  have HSK := hide (fun w' (h : RB w' (fun _ => True) A n bs) => by have := skip_any _ A n c k bs w' h (by omega); rw [insideF_at n k hk] at this; exact this)
  have HOB := hide HO
  clear HO
  generalize skipF bs k = a at *
  have hd3 : ((a : Int) == (n : Int)) = false := by simp; omega
  have hd4 : (a == n) = false := by simp; omega
  go_enter_defers Tryz.func23, Tryz.ntmps23
  go_wp2_with (go_at_call 18; refine (HSK.out _ (hr.keep0 (by repeat (first | with_reducible exact Fr.refl _ _ | with_reducible assumption | with_reducible refine Fr.drewN ?_ _ | with_reducible refine Fr.drew ?_ | with_reducible refine Fr.alloc ?_ _ | ((with_reducible refine Fr.setCell ?_ ?_ _) <;> first | (apply Or.inl; simp; done) | (apply Or.inr; simp; done) | (apply Or.inr; simp; omega) | skip) | (refine Fr.then0 ?_ (by with_reducible assumption)) | (refine Fr.trans ?_ (by with_reducible assumption)))))).mono ?_; rintro e w1 ⟨rfl, rfl⟩)
  obtain ⟨W0, hW0⟩ : ∃ W0, W0 = (((w.alloc (.cells #[.int .i64 0, .int .i64 0, .string ⟨#[]⟩, .slice none 0 0, .slice none 0 0, .slice none 0 0] 31)).alloc (.cells #[.int .i64 0] 3)).alloc (.cells #[.int .i64 0] 35)).alloc (.cells #[.slice A n c, .int .i64 a, .bool true] 121) := ⟨_, rfl⟩
  rw [← hW0]
  have hf0 : Fr [] w W0 := by rw [hW0]; exact (by repeat (first | with_reducible exact Fr.refl _ _ | with_reducible assumption | with_reducible refine Fr.drewN ?_ _ | with_reducible refine Fr.drew ?_ | with_reducible refine Fr.alloc ?_ _ | ((with_reducible refine Fr.setCell ?_ ?_ _) <;> first | (apply Or.inl; simp; done) | (apply Or.inr; simp; done) | (apply Or.inr; simp; omega) | skip) | (refine Fr.then0 ?_ (by with_reducible assumption)) | (refine Fr.trans ?_ (by with_reducible assumption))))
  have hB0 : Blk W0 w.heap.size 31 #[.int .i64 0, .int .i64 0, .string ⟨#[]⟩, .slice none 0 0, .slice none 0 0, .slice none 0 0] := by rw [hW0]; exact (((Blk.new _ _ _).alloc _).alloc _).alloc _
  have hB1 : Blk W0 (w.heap.size + 1) 3 #[.int .i64 0] := by rw [hW0]; exact ((Blk.new2 _ _ _ (by rw [World.size_alloc])).alloc _).alloc _
  have hB2 : Blk W0 (w.heap.size + 1 + 1) 35 #[.int .i64 0] := by rw [hW0]; exact (Blk.new2 _ _ _ (by rw [World.size_alloc, World.size_alloc])).alloc _
  have hB3 : Blk W0 (w.heap.size + 1 + 1 + 1) 121 #[.slice A n c, .int .i64 a, .bool true] := by rw [hW0]; exact Blk.new2 _ _ _ (by rw [World.size_alloc, World.size_alloc, World.size_alloc])
  clear hW0
  have hs0 : St W0 (w.heap.size + 1 + 1 + 1) A n c a true bs := ⟨hB3, (hr.more (N' := fun g => g ≠ w.heap.size + 1 + 1 + 1) (fun g hg _ => by omega)).keep0 hf0, hnc, hsm, by omega⟩
  have hAw : ∀ ad, A = some ad → 0 < n → ad.block < w.heap.size := fun ad h1 h2 => by
    obtain ⟨ad', e', _, hc⟩ := hr.2 (by omega)
    rw [h1] at e'
    injection e' with e'
    subst e'
    have hl : 0 < (u8s bs).length := by rw [u8s_length, RB.len hr]; exact h2
    have := World.block_lt_of_cell? w _ (hc 0 _ (List.getElem?_eq_getElem hl))
    rw [block_of_add] at this
    exact this
  have HAW := hide hAw
  clear hAw
  have l0 : w.heap.size < W0.heap.size := hB0.lt
  have l1 : w.heap.size + 1 < W0.heap.size := hB1.lt
  have l2 : w.heap.size + 1 + 1 < W0.heap.size := hB2.lt
  have n03 : w.heap.size ≠ w.heap.size + 1 + 1 + 1 := by omega
  have n13 : w.heap.size + 1 ≠ w.heap.size + 1 + 1 + 1 := by omega
  have n23 : w.heap.size + 1 + 1 ≠ w.heap.size + 1 + 1 + 1 := by omega
  have n01 : w.heap.size ≠ w.heap.size + 1 := by omega
  have n02 : w.heap.size ≠ w.heap.size + 1 + 1 := by omega
  have n12 : w.heap.size + 1 ≠ w.heap.size + 1 + 1 := by omega
  have g0' : w.heap.size ≤ w.heap.size := Nat.le_refl _
  have g1' : w.heap.size ≤ w.heap.size + 1 := by omega
  have g2' : w.heap.size ≤ w.heap.size + 1 + 1 := by omega
  have g3' : w.heap.size ≤ w.heap.size + 1 + 1 + 1 := by omega
  generalize w.heap.size + 1 + 1 + 1 = g3 at *
  generalize w.heap.size + 1 + 1 = g2 at *
  generalize w.heap.size + 1 = g1 at *
  obtain ⟨g0, hg0⟩ : ∃ g0, g0 = w.heap.size := ⟨_, rfl⟩
  rw [← hg0] at hB0 l0 n03 n01 n02 g0' ⊢
  have g0'' : w.heap.size ≤ g0 := by rw [hg0]; exact Nat.le_refl _
  have HL := hide (⟨g0'', g1', g2', g3'⟩ : w.heap.size ≤ g0 ∧ w.heap.size ≤ g1 ∧ w.heap.size ≤ g2 ∧ w.heap.size ≤ g3)
  have HLT := hide (⟨l0, l1, l2⟩ : g0 < W0.heap.size ∧ g1 < W0.heap.size ∧ g2 < W0.heap.size)
  clear hg0 g0' g1' g2' g3' g0'' l0 l1 l2
  have hall : ∀ g, g ∈ [g0, g1, g2] → g ∈ ([] : List Nat) ∨ w.heap.size ≤ g := fun g hg => .inr (by
    have := HL.out
    rcases List.mem_cons.1 hg with h | hg
    · omega
    rcases List.mem_cons.1 hg with h | hg
    · omega
    rw [List.mem_singleton.1 hg]; omega)
  have HALL := hide hall
  clear hall
  have hcar : ∀ (w1 : World), Fr [g3] W0 w1 → Blk w1 g0 31 #[.int .i64 0, .int .i64 0, .string ⟨#[]⟩, .slice none 0 0, .slice none 0 0, .slice none 0 0] ∧ Blk w1 g1 3 #[.int .i64 0] ∧ Blk w1 g2 35 #[.int .i64 0] ∧ Fr [] w w1 := fun w1 h =>
    ⟨hB0.keep h (by simpa using n03), hB1.keep h (by simpa using n13), hB2.keep h (by simpa using n23), hf0.trans' h fun g hg => .inr (by rw [List.mem_singleton.1 hg]; have := HL.out; omega)⟩
  have HC := hide hcar
  clear hcar
  go_wp2_with (go_at_call 68; refine (HOB.out g3 W0 hs0).mono ?_; rintro e w1 ⟨rfl, hs1, hf1, hK1⟩; obtain ⟨b0, b1, b2, hf2⟩ := HC.out w1 hf1; obtain ⟨x0, x1, x2, x3, x4, x5, xz⟩ := b0.c6)
  have HK1 := hide hK1
  clear hK1
  obtain ⟨W2, hW2⟩ : ∃ W2, W2 = ((((((w1.setCell ⟨g0, 0, none⟩ (.int .i64 kd)).setCell ⟨g0, 1, none⟩ (.int .i64 x)).setCell ⟨g0, 2, none⟩ (.string ⟨t.toArray⟩)).setCell ⟨g0, 3, none⟩ (.slice A3 n3 c3)).setCell ⟨g0, 4, none⟩ (.slice A4 n4 c4)).setCell ⟨g0, 5, none⟩ (.slice A5 n5 c5)) := ⟨_, rfl⟩
  have k0 : Blk W2 g0 31 #[(.int .i64 kd), (.int .i64 x), (.string ⟨t.toArray⟩), (.slice A3 n3 c3), (.slice A4 n4 c4), (.slice A5 n5 c5)] := by rw [hW2]; exact ((((((b0.set_ 0 _).set_ 1 _).set_ 2 _).set_ 3 _).set_ 4 _).set_ 5 _)
  have k1 : Blk W2 g1 3 #[.int .i64 0] := by rw [hW2]; exact ((((((b1.far (p := ⟨g0, 0, none⟩) (Ne.symm n01) _).far (p := ⟨g0, 1, none⟩) (Ne.symm n01) _).far (p := ⟨g0, 2, none⟩) (Ne.symm n01) _).far (p := ⟨g0, 3, none⟩) (Ne.symm n01) _).far (p := ⟨g0, 4, none⟩) (Ne.symm n01) _).far (p := ⟨g0, 5, none⟩) (Ne.symm n01) _)
  have k2 : Blk W2 g2 35 #[.int .i64 0] := by rw [hW2]; exact ((((((b2.far (p := ⟨g0, 0, none⟩) (Ne.symm n02) _).far (p := ⟨g0, 1, none⟩) (Ne.symm n02) _).far (p := ⟨g0, 2, none⟩) (Ne.symm n02) _).far (p := ⟨g0, 3, none⟩) (Ne.symm n02) _).far (p := ⟨g0, 4, none⟩) (Ne.symm n02) _).far (p := ⟨g0, 5, none⟩) (Ne.symm n02) _)
  have hs2 : St W2 g3 A n c j true bs := by
    rw [hW2]
    exact hs1.obj n03 (fun ad h1 h2 => by have := HAW.out ad h1 h2; have := HL.out; omega)
  have hf3 : Fr [g0, g1, g2] w1 W2 := by rw [hW2]; exact obj_frame (Fr.refl _ _) (.inl (by simp))
  rw [← hW2]
  clear hW2 xz
  obtain ⟨y0, y1, y2, y3, y4, y5, yz⟩ := k0.c6
  have e1 : W2.cell? ⟨g1, 0, none⟩ = some (.int .i64 0) := by rw [k1.cell]; rfl
  have e2 : W2.cell? ⟨g2, 0, none⟩ = some (.int .i64 0) := by rw [k2.cell]; rfl
  have ez1 := k1.frozen 0
  have ez2 := k2.frozen 0
  obtain ⟨z0, z1, z2, zz⟩ := hs2.blk.c3
  go_region
  obtain ⟨W3, hW3⟩ : ∃ W3, W3 = ((((((((W2.setCell ⟨g0, 0, none⟩ (.int .i64 kd)).setCell ⟨g0, 1, none⟩ (.int .i64 x)).setCell ⟨g0, 2, none⟩ (.string ⟨t.toArray⟩)).setCell ⟨g0, 3, none⟩ (.slice A3 n3 c3)).setCell ⟨g0, 4, none⟩ (.slice A4 n4 c4)).setCell ⟨g0, 5, none⟩ (.slice A5 n5 c5)).setCell ⟨g1, 0, none⟩ (.int .i64 j)).setCell ⟨g2, 0, none⟩ (.int .i64 0)).drew := ⟨_, rfl⟩
  have j0 : Blk W3 g0 31 #[(.int .i64 kd), (.int .i64 x), (.string ⟨t.toArray⟩), (.slice A3 n3 c3), (.slice A4 n4 c4), (.slice A5 n5 c5)] := by rw [hW3]; exact ((((((((k0.set_ 0 _).set_ 1 _).set_ 2 _).set_ 3 _).set_ 4 _).set_ 5 _).far (p := ⟨g1, 0, none⟩) n01 _).far (p := ⟨g2, 0, none⟩) n02 _).drew
  have j1 : Blk W3 g1 3 #[.int .i64 j] := by rw [hW3]; exact ((((((((k1.far (p := ⟨g0, 0, none⟩) (Ne.symm n01) _).far (p := ⟨g0, 1, none⟩) (Ne.symm n01) _).far (p := ⟨g0, 2, none⟩) (Ne.symm n01) _).far (p := ⟨g0, 3, none⟩) (Ne.symm n01) _).far (p := ⟨g0, 4, none⟩) (Ne.symm n01) _).far (p := ⟨g0, 5, none⟩) (Ne.symm n01) _).set_ 0 _).far (p := ⟨g2, 0, none⟩) n12 _).drew
  have j2 : Blk W3 g2 35 #[.int .i64 0] := by rw [hW3]; exact ((((((((k2.far (p := ⟨g0, 0, none⟩) (Ne.symm n02) _).far (p := ⟨g0, 1, none⟩) (Ne.symm n02) _).far (p := ⟨g0, 2, none⟩) (Ne.symm n02) _).far (p := ⟨g0, 3, none⟩) (Ne.symm n02) _).far (p := ⟨g0, 4, none⟩) (Ne.symm n02) _).far (p := ⟨g0, 5, none⟩) (Ne.symm n02) _).far (p := ⟨g1, 0, none⟩) (Ne.symm n12) _).set_ 0 _).drew
  have hf4 : Fr [g0, g1, g2] w1 W3 := by rw [hW3]; exact (((obj_frame hf3 (.inl (by simp))).setCell (p := ⟨g1, 0, none⟩) (.inl (by simp)) _).setCell (p := ⟨g2, 0, none⟩) (.inl (by simp)) _).drew
  rw [← hW3]
  clear hW3 y0 y1 y2 y3 y4 y5 yz e1 e2 ez1 ez2 z0 z1 z2 zz
  obtain ⟨y0, y1, y2, y3, y4, y5, yz⟩ := j0.c6
  have e1 : W3.cell? ⟨g1, 0, none⟩ = some (.int .i64 j) := by rw [j1.cell]; rfl
  have e2 : W3.cell? ⟨g2, 0, none⟩ = some (.int .i64 0) := by rw [j2.cell]; rfl
  go_wp2_with fail
  refine leaves_cons (f := 66) (args := #[.pointer (some ⟨g2, 0, none⟩), .pointer (some ⟨g0, 0, none⟩), .pointer (some ⟨g1, 0, none⟩)]) (by simp) (by simp [go_sem]) ?_
  refine (catchO_idle g2 _ _ W3 j2).mono ?_
  rintro e u' w4 ⟨rfl, rfl, rfl⟩
  simp [Leaves, settle, results, Tryz.results23, go_sem, y0, y1, y2, y3, y4, y5, e1, e2]
  refine ⟨hf2.trans' hf4 HALL.out, W0.heap.size, hf0.size, hK _ _ _ _ HK1.out hf4 fun g hg => ?_⟩
  have := HLT.out
  rcases List.mem_cons.1 hg with h | hg
  · omega
  rcases List.mem_cons.1 hg with h | hg
  · omega
  rw [List.mem_singleton.1 hg]; omega
end Go.Proofs.YtdjhjfpeckndkaaGreatDoor
