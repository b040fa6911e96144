/- Contracts: the lexer's Next at a string, with what it recovers. -/
import Derived.Test.YtdjhjfpeckndkaaGreatDoorBkScanN
set_option linter.unusedVariables false
set_option linter.unusedSimpArgs false
namespace Go.Proofs.YtdjhjfpeckndkaaGreatDoor
open Go.RowKit
theorem catch_idle (p0 p1 p2 : Addr) (w : World) :
    CallsD Tryz.prog 183 #[.pointer (some p0), .pointer (some p1), .pointer (some p2)] .returning w fun e u' w' => e = .returned (.tuple #[]) ∧ u' = .returning ∧ w' = w := by
  refine callsD_of_wpS Tryz.func183 rfl fun c₀ cs hu => ?_
  apply wpS_seq
  apply wpS_region
  simp [wpOpsS, go_sem, recoverD, hu, Tryz.ntmps183, Exit.thenS]
  apply wpS_seq
  apply wpS_region
  simp [wpOpsS, go_sem, recoverD, hu, Tryz.ntmps183, Exit.thenS]
  refine wpS_cond (t := false) (by simp [Act.eval, Array.replicate]) ?_
  simp only [Bool.false_eq_true, if_false]
  refine wpS_of_wp (wp_skip ?_)
  cases c₀
  simp_all [bodyPostS, results, Tryz.results183]
theorem assert_errno (v : Value) (w : World) : (Instr.typeAssert (.iface 35 v) 20 35 true).run Tryz.prog w = .ok (.tuple #[v, .bool true]) w := by kernel_rfl
set_option maxRecDepth 100000 in
set_option maxHeartbeats 1000000 in
theorem catch_errno (g0 g1 g2 : Nat) (v0 v1 v2 v3 v4 : Value) (x : Int) (older : List PanicEntry) (w : World) (h0 : Blk w g0 212 #[v0, v1, v2]) (h1 : Blk w g1 3 #[v3]) (h2 : Blk w g2 35 #[v4]) :
    CallsD Tryz.prog 183 #[.pointer (some ⟨g0, 0, none⟩), .pointer (some ⟨g1, 0, none⟩), .pointer (some ⟨g2, 0, none⟩)]
      (.panicking ({ v := .iface 35 (.int .i64 x), recovered := false } :: older)) w fun e u' w' =>
      e = .returned (.tuple #[]) ∧ u' = .panicking ({ v := .iface 35 (.int .i64 x), recovered := true } :: older) ∧
      Blk w' g0 212 #[.int .i64 0, .int .i64 0, .string ⟨#[]⟩] ∧ Blk w' g1 3 #[.int .i64 0] ∧ Blk w' g2 35 #[.int .i64 x] ∧ Fr [g0, g1, g2] w w' := by
  obtain ⟨c0, c1, c2, cz⟩ := h0.c3
  refine callsD_of_wpS Tryz.func183 rfl fun c₀ cs hu => ?_
  apply wpS_seq
  apply wpS_region
  simp [wpOpsS, go_sem, recoverD, hu, Tryz.ntmps183, Exit.thenS]
  apply wpS_seq
  apply wpS_region
  simp [wpOpsS, go_sem, Array.replicate, Exit.thenS]
  refine wpS_cond (t := true) (by simp [Act.eval, Array.replicate]) ?_
  simp only [if_true]
  have hta := assert_errno (.int .i64 x)
  apply wpS_seq
  apply wpS_region
  simp [wpOpsS, go_sem, Array.replicate, Exit.thenS, hta]
  apply wpS_seq
  apply wpS_seq
  apply wpS_region
  simp [wpOpsS, go_sem, Array.replicate, Exit.thenS]
  refine wpS_cond (t := false) (by simp [Act.eval, Array.replicate]) ?_
  simp only [Bool.false_eq_true, if_false]
  refine wpS_of_wp (wp_skip ?_)
  apply wpS_region
  have d1 : w.cell? ⟨g1, 0, none⟩ = some v3 := by rw [h1.cell]; rfl
  have d2 : w.cell? ⟨g2, 0, none⟩ = some v4 := by rw [h2.cell]; rfl
  have dz1 := h1.frozen 0
  have dz2 := h2.frozen 0
  have n01 : g0 ≠ g1 := h0.ne_ h1 (by decide)
  have n02 : g0 ≠ g2 := h0.ne_ h2 (by decide)
  have n12 : g1 ≠ g2 := h1.ne_ h2 (by decide)
  simp [wpOpsS, go_sem, Array.replicate, Exit.thenS, c0, c1, c2, cz, d1, d2, dz1, dz2, n01, n02, n12, Ne.symm n01, Ne.symm n02, Ne.symm n12]
  simp [bodyPostS, results, Tryz.results183]
  refine ⟨?_, ?_, ?_, ?_⟩
  · have k := (((h0.set_ 0 (.int .i64 0)).set_ 1 (.int .i64 0)).set_ 2 (.string ⟨#[]⟩))
    exact (k.far (p := ⟨g1, 0, none⟩) n01 _).far (p := ⟨g2, 0, none⟩) n02 _
  · have k := (((h1.far (p := ⟨g0, 0, none⟩) (Ne.symm n01) (.int .i64 0)).far (p := ⟨g0, 1, none⟩) (Ne.symm n01) (.int .i64 0)).far (p := ⟨g0, 2, none⟩) (Ne.symm n01) (.string ⟨#[]⟩)).set_ 0 (.int .i64 0)
    exact k.far (p := ⟨g2, 0, none⟩) n12 _
  · have k := ((((h2.far (p := ⟨g0, 0, none⟩) (Ne.symm n02) (.int .i64 0)).far (p := ⟨g0, 1, none⟩) (Ne.symm n02) (.int .i64 0)).far (p := ⟨g0, 2, none⟩) (Ne.symm n02) (.string ⟨#[]⟩)).far (p := ⟨g1, 0, none⟩) (Ne.symm n12) (.int .i64 0)).set_ 0 (.int .i64 x)
    exact k
  · exact (((((Fr.refl [g0, g1, g2] w).setCell (.inl (by simp)) _).setCell (.inl (by simp)) _).setCell (.inl (by simp)) _).setCell (.inl (by simp)) _).setCell (.inl (by simp)) _
theorem Blk.new2 {g : Nat} (w : World) (t : TypeId) (cs : Array Value) (h : g = w.heap.size) : Blk (w.alloc (.cells cs t)) g t cs := h ▸ Blk.new w t cs
abbrev nextV (tok : Value) (j : Nat) (x : Int) : Ending := .returned (.tuple #[tok, .int .i64 j, .int .i64 x])
abbrev zTok : Value := .agg #[.int .i64 0, .int .i64 0, .string ⟨#[]⟩]
def NextQ : Option (List UInt8 × Nat) → Ending → Prop
  | none, e => e = nextV zTok 0 14
  | some (out, j), e => (65535 < out.length → e = nextV zTok 0 9) ∧ (out.length ≤ 65535 → e = nextV (strTok out) j 0)
set_option maxRecDepth 100000 in
set_option maxHeartbeats 2000000 in
theorem next_str (n c k : Nat) (A : Option Addr) (bs : List UInt8) (w : World) (hr : RB w (fun _ => True) A n bs) (hnc : n ≤ c) (hsm : n ≤ 1073741824) (hk : bs[k]? = some 40 ∨ (bs[k]? = some 60 ∧ ¬ bs[k + 1]? = some 60)) :
    Calls Tryz.prog 155 #[.slice A n c, .int .i64 k] w fun e w' => NextQ (strP bs k) e ∧ Fr [] w w' := by
  have hmf : ∀ (fn : Fn) (first cap : Array Value) (w : World), (Instr.makeFunc fn first cap).run Tryz.prog w = .ok (.func fn first cap) w := fun _ _ _ _ => rfl
  have hlt : k < n := by rcases hk with h | ⟨h, _⟩ <;> (have := (List.getElem?_eq_some_iff.1 h).1; rw [hr.len] at this; exact this)
  have hd1 : decide ((k : Int) < 0) = false := by simp
  have hd2 : decide ((n : Int) < (k : Int)) = false := by simp; omega
  have HT := hide (fun r w' (h : Ss w' r A n c k bs) => token_str r n c k A bs w' h hk)
  generalize strP bs k = R at *
  clear hk
  go_enter_defers Tryz.func155, Tryz.ntmps155
  go_wp2_with fail
  obtain ⟨W0, hW0⟩ : ∃ W0, W0 = (((w.alloc (.cells #[.int .i64 0, .int .i64 0, .string ⟨#[]⟩] 212)).alloc (.cells #[.int .i64 0] 3)).alloc (.cells #[.int .i64 0] 35)).alloc (.cells #[.slice A n c, .int .i64 k] 231) := ⟨_, rfl⟩
  rw [← hW0]
  have hf0 : Fr [] w W0 := by rw [hW0]; exact (by repeat (first | with_reducible exact Fr.refl _ _ | with_reducible assumption | with_reducible refine Fr.drewN ?_ _ | with_reducible refine Fr.drew ?_ | with_reducible refine Fr.alloc ?_ _ | ((with_reducible refine Fr.setCell ?_ ?_ _) <;> first | (apply Or.inl; simp; done) | (apply Or.inr; simp; done) | (apply Or.inr; simp; omega) | skip) | (refine Fr.then0 ?_ (by with_reducible assumption)) | (refine Fr.trans ?_ (by with_reducible assumption))))
  have hB0 : Blk W0 w.heap.size 212 #[.int .i64 0, .int .i64 0, .string ⟨#[]⟩] := by rw [hW0]; exact (((Blk.new _ _ _).alloc _).alloc _).alloc _
  have hB1 : Blk W0 (w.heap.size + 1) 3 #[.int .i64 0] := by rw [hW0]; exact ((Blk.new2 _ _ _ (by rw [World.size_alloc])).alloc _).alloc _
  have hB2 : Blk W0 (w.heap.size + 1 + 1) 35 #[.int .i64 0] := by rw [hW0]; exact (Blk.new2 _ _ _ (by rw [World.size_alloc, World.size_alloc])).alloc _
  have hB3 : Blk W0 (w.heap.size + 1 + 1 + 1) 231 #[.slice A n c, .int .i64 k] := by rw [hW0]; exact Blk.new2 _ _ _ (by rw [World.size_alloc, World.size_alloc, World.size_alloc])
  clear hW0
  have hs0 : Ss W0 (w.heap.size + 1 + 1 + 1) A n c k bs := ⟨hB3, (hr.more (N' := fun g => g ≠ w.heap.size + 1 + 1 + 1) (fun g hg _ => by omega)).keep0 hf0, hnc, hsm, by omega⟩
  have l0 : w.heap.size ≤ w.heap.size := Nat.le_refl _
  have l1 : w.heap.size ≤ w.heap.size + 1 := by omega
  have l2 : w.heap.size ≤ w.heap.size + 1 + 1 := by omega
  have l3 : w.heap.size ≤ w.heap.size + 1 + 1 + 1 := by omega
  have n03 : w.heap.size ≠ w.heap.size + 1 + 1 + 1 := by omega
  have n13 : w.heap.size + 1 ≠ w.heap.size + 1 + 1 + 1 := by omega
  have n23 : w.heap.size + 1 + 1 ≠ w.heap.size + 1 + 1 + 1 := by omega
  have n01 : w.heap.size ≠ w.heap.size + 1 := by omega
  have n02 : w.heap.size ≠ w.heap.size + 1 + 1 := by omega
  have n12 : w.heap.size + 1 ≠ w.heap.size + 1 + 1 := by omega
  generalize w.heap.size + 1 + 1 + 1 = g3 at *
  generalize w.heap.size + 1 + 1 = g2 at *
  generalize w.heap.size + 1 = g1 at *
  generalize hg0 : w.heap.size = g0 at *
  have HG := hide hg0
  clear hg0
  have hfail : ∀ (x : Int) (w1 : World), Fr [g3] W0 w1 → Blk w1 g0 212 #[.int .i64 0, .int .i64 0, .string ⟨#[]⟩] ∧ Blk w1 g1 3 #[.int .i64 0] ∧ Blk w1 g2 35 #[.int .i64 0] ∧ Fr [] w w1 := fun x w1 h =>
    ⟨hB0.keep h (by simpa using n03), hB1.keep h (by simpa using n13), hB2.keep h (by simpa using n23), hf0.trans' h fun g hg => .inr (by rw [List.mem_singleton.1 hg]; have := HG.out; omega)⟩
  have hall : ∀ g, g ∈ [g0, g1, g2] → g ∈ ([] : List Nat) ∨ w.heap.size ≤ g := fun g hg => .inr (by have := HG.out; rcases List.mem_cons.1 hg with h | hg; · omega
                                                                                                    rcases List.mem_cons.1 hg with h | hg; · omega
                                                                                                    rw [List.mem_singleton.1 hg]; omega)
  rcases R with _ | ⟨out, j⟩
  · refine (HT.out g3 W0 hs0).mono ?_
    rintro e w1 ⟨rfl, hf1⟩
    obtain ⟨b0, b1, b2, hf2⟩ := hfail 14 w1 hf1
    go_wp2_with fail
    refine leaves_cons (f := 183) (args := #[.pointer (some ⟨g0, 0, none⟩), .pointer (some ⟨g1, 0, none⟩), .pointer (some ⟨g2, 0, none⟩)]) (by simp) (by simp [go_sem]) ?_
    refine (catch_errno g0 g1 g2 _ _ _ _ _ 14 [] w1 b0 b1 b2).mono ?_
    rintro e u' w2 ⟨rfl, rfl, d0, d1, d2, hf3⟩
    obtain ⟨c0, c1, c2, cz⟩ := d0.c3
    have e1 : w2.cell? ⟨g1, 0, none⟩ = some (.int .i64 0) := by rw [d1.cell]; rfl
    have e2 : w2.cell? ⟨g2, 0, none⟩ = some (.int .i64 14) := by rw [d2.cell]; rfl
    simp [Leaves, settle, results, Tryz.results155, go_sem, c0, c1, c2, e1, e2, NextQ]
    exact hf2.trans' hf3 hall
  · by_cases hb : 65535 < out.length
    · refine (HT.out g3 W0 hs0).mono ?_
      intro e w1 q
      obtain ⟨rfl, hf1⟩ := q.1 hb
      obtain ⟨b0, b1, b2, hf2⟩ := hfail 14 w1 hf1
      go_wp2_with fail
      refine leaves_cons (f := 183) (args := #[.pointer (some ⟨g0, 0, none⟩), .pointer (some ⟨g1, 0, none⟩), .pointer (some ⟨g2, 0, none⟩)]) (by simp) (by simp [go_sem]) ?_
      refine (catch_errno g0 g1 g2 _ _ _ _ _ 9 [] w1 b0 b1 b2).mono ?_
      rintro e u' w2 ⟨rfl, rfl, d0, d1, d2, hf3⟩
      obtain ⟨c0, c1, c2, cz⟩ := d0.c3
      have e1 : w2.cell? ⟨g1, 0, none⟩ = some (.int .i64 0) := by rw [d1.cell]; rfl
      have e2 : w2.cell? ⟨g2, 0, none⟩ = some (.int .i64 9) := by rw [d2.cell]; rfl
      simp [Leaves, settle, results, Tryz.results155, go_sem, c0, c1, c2, e1, e2]
      exact ⟨⟨fun _ => rfl, fun h => by omega⟩, hf2.trans' hf3 hall⟩
    · refine (HT.out g3 W0 hs0).mono ?_
      intro e w1 q
      obtain ⟨rfl, hs1, hf1⟩ := q.2 (by omega)
      obtain ⟨b0, b1, b2, hf2⟩ := hfail 14 w1 hf1
      obtain ⟨x0, x1, x2, xz⟩ := b0.c3
      have hg0 : w.heap.size ≤ g0 := by have := HG.out; omega
      have hg1 : w.heap.size ≤ g1 := by have := HG.out; omega
      have hg2 : w.heap.size ≤ g2 := by have := HG.out; omega
      have hA0 : ∀ ad, A = some ad → 0 < n → ad.block ≠ g0 := fun ad h1 h2 => by
        obtain ⟨ad', e', _, hc⟩ := hr.2 (by omega)
        rw [h1] at e'
        injection e' with e'
        subst e'
        have hl : 0 < (u8s bs).length := by rw [u8s_length, RB.len hr]; exact h2
        have := World.block_lt_of_cell? w _ (hc 0 _ (List.getElem?_eq_getElem hl))
        rw [block_of_add] at this
        have := HG.out
        omega
      go_wp2_with fail
      obtain ⟨W2, hW2⟩ : ∃ W2, W2 = ((w1.setCell ⟨g0, 0, none⟩ (.int .i64 6)).setCell ⟨g0, 1, none⟩ (.int .i64 0)).setCell ⟨g0, 2, none⟩ (.string ⟨out.toArray⟩) := ⟨_, rfl⟩
      have k0 : Blk W2 g0 212 #[.int .i64 6, .int .i64 0, .string ⟨out.toArray⟩] := by rw [hW2]; exact ((b0.set_ 0 _).set_ 1 _).set_ 2 _
      have k1 : Blk W2 g1 3 #[.int .i64 0] := by rw [hW2]; exact ((b1.far (p := ⟨g0, 0, none⟩) (Ne.symm n01) _).far (p := ⟨g0, 1, none⟩) (Ne.symm n01) _).far (p := ⟨g0, 2, none⟩) (Ne.symm n01) _
      have k2 : Blk W2 g2 35 #[.int .i64 0] := by rw [hW2]; exact ((b2.far (p := ⟨g0, 0, none⟩) (Ne.symm n02) _).far (p := ⟨g0, 1, none⟩) (Ne.symm n02) _).far (p := ⟨g0, 2, none⟩) (Ne.symm n02) _
      have hs2 : Ss W2 g3 A n c j bs := by rw [hW2]; exact hs1.tok n03 hA0
      have hf3 : Fr [] w W2 := by rw [hW2]; exact tok_frame hf2 hg0
      rw [← hW2]
      clear hW2 xz
      obtain ⟨y0, y1, y2, yz⟩ := k0.c3
      have e1 : W2.cell? ⟨g1, 0, none⟩ = some (.int .i64 0) := by rw [k1.cell]; rfl
      have e2 : W2.cell? ⟨g2, 0, none⟩ = some (.int .i64 0) := by rw [k2.cell]; rfl
      have ez1 := k1.frozen 0
      have ez2 := k2.frozen 0
      obtain ⟨z0, z1, zz⟩ := hs2.blk.c2
      go_region
      obtain ⟨W3, hW3⟩ : ∃ W3, W3 = (((((W2.setCell ⟨g0, 0, none⟩ (.int .i64 6)).setCell ⟨g0, 1, none⟩ (.int .i64 0)).setCell ⟨g0, 2, none⟩ (.string ⟨out.toArray⟩)).setCell ⟨g1, 0, none⟩ (.int .i64 j)).setCell ⟨g2, 0, none⟩ (.int .i64 0)).drew := ⟨_, rfl⟩
      have j0 : Blk W3 g0 212 #[.int .i64 6, .int .i64 0, .string ⟨out.toArray⟩] := by rw [hW3]; exact (((((k0.set_ 0 _).set_ 1 _).set_ 2 _).far (p := ⟨g1, 0, none⟩) n01 _).far (p := ⟨g2, 0, none⟩) n02 _).drew
      have j1 : Blk W3 g1 3 #[.int .i64 j] := by rw [hW3]; exact (((((k1.far (p := ⟨g0, 0, none⟩) (Ne.symm n01) _).far (p := ⟨g0, 1, none⟩) (Ne.symm n01) _).far (p := ⟨g0, 2, none⟩) (Ne.symm n01) _).set_ 0 _).far (p := ⟨g2, 0, none⟩) n12 _).drew
      have j2 : Blk W3 g2 35 #[.int .i64 0] := by rw [hW3]; exact (((((k2.far (p := ⟨g0, 0, none⟩) (Ne.symm n02) _).far (p := ⟨g0, 1, none⟩) (Ne.symm n02) _).far (p := ⟨g0, 2, none⟩) (Ne.symm n02) _).far (p := ⟨g1, 0, none⟩) (Ne.symm n12) _).set_ 0 _).drew
      have hf4 : Fr [] w W3 := by rw [hW3]; exact (((tok_frame hf3 hg0).setCell (p := ⟨g1, 0, none⟩) (.inr hg1) _).setCell (p := ⟨g2, 0, none⟩) (.inr hg2) _).drew
      rw [← hW3]
      clear hW3 y0 y1 y2 yz e1 e2 ez1 ez2 z0 z1 zz
      obtain ⟨y0, y1, y2, yz⟩ := j0.c3
      have e1 : W3.cell? ⟨g1, 0, none⟩ = some (.int .i64 j) := by rw [j1.cell]; rfl
      have e2 : W3.cell? ⟨g2, 0, none⟩ = some (.int .i64 0) := by rw [j2.cell]; rfl
      go_wp2_with fail
      refine leaves_cons (f := 183) (args := #[.pointer (some ⟨g0, 0, none⟩), .pointer (some ⟨g1, 0, none⟩), .pointer (some ⟨g2, 0, none⟩)]) (by simp) (by simp [go_sem]) ?_
      refine (catch_idle _ _ _ W3).mono ?_
      rintro e u' w4 ⟨rfl, rfl, rfl⟩
      simp [Leaves, settle, results, Tryz.results155, go_sem, y0, y1, y2, e1, e2]
      exact ⟨⟨fun h => by omega, fun _ => rfl⟩, hf4⟩
end Go.Proofs.YtdjhjfpeckndkaaGreatDoor
