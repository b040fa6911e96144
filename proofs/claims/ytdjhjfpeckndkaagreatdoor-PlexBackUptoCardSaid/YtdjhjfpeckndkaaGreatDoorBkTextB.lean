/- Contracts: the reader's text, its four ways. -/
import Derived.Test.YtdjhjfpeckndkaaGreatDoorBkText
import Derived.Deep.RegionHeld3
set_option linter.unusedVariables false
set_option linter.unusedSimpArgs false
namespace Go.Proofs.YtdjhjfpeckndkaaGreatDoor
open Go.RowKit
theorem frs1 {S : List Nat} {w w' : World} (h : Fr S w.drew w') : w.heap.size ≤ w'.heap.size := h.size
theorem frs2 {S : List Nat} {w w' : World} {o : Obj} (h : Fr S (w.drew.alloc o) w') : w.heap.size ≤ w'.heap.size := Nat.le_trans (Nat.le_succ _) (by have := h.size; rw [World.size_alloc] at this; exact this)
theorem frs3 {S : List Nat} {w w' : World} {o : Obj} (h : Fr S (w.alloc o).drew w') : w.heap.size ≤ w'.heap.size := frs2 (w := w) (o := o) ⟨h.os, h.tape, h.output, h.size, h.block⟩
theorem blk2 {S : List Nat} {w w' : World} {t : TypeId} {cs : Array Value} (h : Fr S (w.drew.alloc (.cells cs t)) w') (hs : w.heap.size ∉ S) : Blk w' w.heap.size t cs := Blk.keep (Blk.new w.drew t cs) h hs
theorem blk3 {S : List Nat} {w w' : World} {t : TypeId} {cs : Array Value} (h : Fr S (w.alloc (.cells cs t)).drew w') (hs : w.heap.size ∉ S) : Blk w' w.heap.size t cs := Blk.keep (Blk.drew (Blk.new w t cs)) h hs
set_option maxRecDepth 100000 in
set_option maxHeartbeats 2000000 in
theorem ptext_ok (r n c k : Nat) (A : Option Addr) (refs : Bool) (bs : List UInt8) (w : World) (hs : St w r A n c k refs bs) (out : List UInt8) (j : Nat) (hj : j ≤ n)
   (HN : Hid (∀ w', RB w' (fun _ => True) A n bs → Calls Tryz.prog 155 #[.slice A n c, .int .i64 k] w' fun e w'' => e = nextV (strTok out) j 0 ∧ Fr [] w' w'')) :
    Calls Tryz.prog 121 #[.pointer (some ⟨r, 0, none⟩)] w fun e w' => e = .returned (pobjV 5 0 out) ∧ St w' r A n c j refs bs ∧ Fr [r] w w' := by
  go_enter Tryz.func121, Tryz.ntmps121
  go_wp2
  obtain ⟨W0, hW0⟩ : ∃ W0, W0 = w.alloc (.cells #[.int .i64 0, .int .i64 0, .string ⟨#[]⟩, .slice none 0 0, .slice none 0 0, .slice none 0 0] 31) := ⟨_, rfl⟩
  have hs0 : St W0 r A n c k refs bs := by rw [hW0]; exact hs.keep0 (by repeat (first | with_reducible exact Fr.refl _ _ | with_reducible assumption | with_reducible refine Fr.drewN ?_ _ | with_reducible refine Fr.drew ?_ | with_reducible refine Fr.alloc ?_ _ | ((with_reducible refine Fr.setCell ?_ ?_ _) <;> first | (apply Or.inl; simp; done) | (apply Or.inr; simp; done) | (apply Or.inr; simp; omega) | skip) | (refine Fr.then0 ?_ (by with_reducible assumption)) | (refine Fr.trans ?_ (by with_reducible assumption))))
  have hf0 : Fr [r] w W0 := by rw [hW0]; exact (by repeat (first | with_reducible exact Fr.refl _ _ | with_reducible assumption | with_reducible refine Fr.drewN ?_ _ | with_reducible refine Fr.drew ?_ | with_reducible refine Fr.alloc ?_ _ | ((with_reducible refine Fr.setCell ?_ ?_ _) <;> first | (apply Or.inl; simp; done) | (apply Or.inr; simp; done) | (apply Or.inr; simp; omega) | skip) | (refine Fr.then0 ?_ (by with_reducible assumption)) | (refine Fr.trans ?_ (by with_reducible assumption))))
  have hB0 : Blk W0 w.heap.size 31 #[.int .i64 0, .int .i64 0, .string ⟨#[]⟩, .slice none 0 0, .slice none 0 0, .slice none 0 0] := by rw [hW0]; exact Blk.new _ _ _
  rw [← hW0]
  clear hW0
  obtain ⟨c0, c1, c2, cz⟩ := hs0.blk.c3
  have hrb := hs0.rb.more (N' := fun _ => True) (fun _ _ _ => trivial)
  have hk0 : ∀ W, Fr [] W0 W → W.cell? ⟨r, 0, none⟩ = some (.slice A n c) ∧ W.cell? ⟨r, 1, none⟩ = some (.int .i64 k) ∧ Fr [] W0 W := fun W h => ⟨h.cell c0 (by simp), h.cell c1 (by simp), h⟩
  have HK0 := hide hk0
  clear hk0
  have hn0 : ∀ W, Fr [] W0 W → Calls Tryz.prog 155 #[.slice A n c, .int .i64 k] W fun e w'' => e = nextV (strTok out) j 0 ∧ Fr [] W w'' := fun W h => HN.out W (hrb.keep0 h)
  have HN0 := hide hn0
  have HS0 := hide hs0
  have HB0 := hide hB0
  have HF0 := hide hf0
  have HS := hide hs
  clear hn0 hrb hs0 hB0 hf0 HN c2 cz hs c0 c1
  go_region_held3 (fun w' => w'.cell? ⟨r, 0, none⟩ = some (.slice A n c) ∧ w'.cell? ⟨r, 1, none⟩ = some (.int .i64 k) ∧ Fr [] W0 w') ((exact HK0.out _ (by repeat (first | with_reducible exact Fr.refl _ _ | with_reducible assumption | with_reducible refine Fr.drewN ?_ _ | with_reducible refine Fr.drew ?_ | with_reducible refine Fr.alloc ?_ _ | ((with_reducible refine Fr.setCell ?_ ?_ _) <;> first | (apply Or.inl; simp; done) | (apply Or.inr; simp; done) | (apply Or.inr; simp; omega) | skip) | (refine Fr.then0 ?_ (by with_reducible assumption)) | (refine Fr.trans ?_ (by with_reducible assumption))))))
    (first
      | (go_simp; go_at_call 155; refine (HN0.out _ (by repeat (first | with_reducible exact Fr.refl _ _ | with_reducible assumption | with_reducible refine Fr.drewN ?_ _ | with_reducible refine Fr.drew ?_ | with_reducible refine Fr.alloc ?_ _ | ((with_reducible refine Fr.setCell ?_ ?_ _) <;> first | (apply Or.inl; simp; done) | (apply Or.inr; simp; done) | (apply Or.inr; simp; omega) | skip) | (refine Fr.then0 ?_ (by with_reducible assumption)) | (refine Fr.trans ?_ (by with_reducible assumption))))).mono ?_; rintro e w1 ⟨rfl, hf1⟩; have hsz : W0.heap.size ≤ w1.heap.size := (by with_reducible first | exact frs1 hf1 | exact frs2 hf1 | exact frs3 hf1); (first | (have hBt := (by with_reducible first | exact blk2 hf1 (by simp) | exact blk3 hf1 (by simp)); obtain ⟨d0, d1, d2, dz⟩ := Blk.c3 hBt; have hBl := Blk.lt hBt; have hBn := Nat.ne_of_lt hBl) | skip)))
  · obtain ⟨W1, hW1⟩ : ∃ W1, W1 = w1.alloc (.cells #[.int .i64 6, .int .i64 0, .string ⟨out.toArray⟩] 212) := ⟨_, rfl⟩
    have hf2 : Fr [] W0 W1 := by rw [hW1]; exact (by repeat (first | with_reducible exact Fr.refl _ _ | with_reducible assumption | with_reducible refine Fr.drewN ?_ _ | with_reducible refine Fr.drew ?_ | with_reducible refine Fr.alloc ?_ _ | ((with_reducible refine Fr.setCell ?_ ?_ _) <;> first | (apply Or.inl; simp; done) | (apply Or.inr; simp; done) | (apply Or.inr; simp; omega) | skip) | (refine Fr.then0 ?_ (by with_reducible assumption)) | (refine Fr.trans ?_ (by with_reducible assumption))))
    have hBt' : Blk W1 w1.heap.size 212 #[.int .i64 6, .int .i64 0, .string ⟨out.toArray⟩] := by rw [hW1]; exact Blk.new _ _ _
    rw [← hW1]
    clear hW1
    obtain ⟨g, hg⟩ : ∃ g, g = w1.heap.size := ⟨_, rfl⟩
    rw [← hg] at hBt' ⊢
    have HG : Hid (W0.heap.size ≤ g) := hide (by rw [hg]; exact hsz)
    clear hg
    skip
    clear hf1 hsz
    have hs1 := HS0.out.keep0 hf2
    have hB1 := HB0.out.keep hf2 (by simp)
    have hfw := HF0.out.then0 hf2
    obtain ⟨q, hq⟩ : ∃ q, q = w.heap.size := ⟨_, rfl⟩
    rw [← hq] at hB1 ⊢
    have HQ : Hid (w.heap.size ≤ q) := hide (by omega)
    clear hq
    have ngr : g ≠ r := hBt'.ne_ hs1.blk (by decide)
    have nqr : q ≠ r := hB1.ne_ hs1.blk (by decide)
    have nqg : q ≠ g := hB1.ne_ hBt' (by decide)
    obtain ⟨c0, c1, c2, cz⟩ := hs1.blk.c3
    obtain ⟨t0, t1, t2, tz⟩ := hBt'.c3
    obtain ⟨b0, b1, b2, b3, b4, b5, bz⟩ := hB1.c6
    have ngr' := Ne.symm ngr
    have nqr' := Ne.symm nqr
    have nqg' := Ne.symm nqg
    have hset := hs1.set_ j hj
    have hfs := hfw.setCell (p := ⟨r, 1, none⟩) (.inl (by simp)) (.int .i64 j)
    have hBs := hB1.far (p := ⟨r, 1, none⟩) nqr (.int .i64 j)
    have hlq := hBs.lt
    have hlq' := Nat.ne_of_lt hlq
    go_wp2_with fail
    refine bodyPost_ret (v := pobjV 5 0 out) (by simp [pobjV, results, Tryz.results121, go_sem, c0, c1, c2, b0, b1, b2, b3, b4, b5, t0, t1, t2]) rfl ⟨rfl, ?_, ?_⟩
    · exact hset.obj nqr (fun ad h1 h2 => by
        have := (HS.out.blockA ad h1 h2).1
        have := HQ.out
        omega)
    · exact obj_frame hfs (.inr HQ.out)
  · obtain ⟨W1, hW1⟩ : ∃ W1, W1 = ((w1.setCell ⟨W0.heap.size, 0, none⟩ (.int .i64 6)).setCell ⟨W0.heap.size, 1, none⟩ (.int .i64 0)).setCell ⟨W0.heap.size, 2, none⟩ (.string ⟨out.toArray⟩) := ⟨_, rfl⟩
    have hf2 : Fr [] W0 W1 := by rw [hW1]; exact tok_frame (Fr.then0 (by repeat (first | with_reducible exact Fr.refl _ _ | with_reducible assumption | with_reducible refine Fr.drewN ?_ _ | with_reducible refine Fr.drew ?_ | with_reducible refine Fr.alloc ?_ _ | ((with_reducible refine Fr.setCell ?_ ?_ _) <;> first | (apply Or.inl; simp; done) | (apply Or.inr; simp; done) | (apply Or.inr; simp; omega) | skip) | (refine Fr.then0 ?_ (by with_reducible assumption)) | (refine Fr.trans ?_ (by with_reducible assumption)))) hf1) (Nat.le_refl _)
    have hBt' : Blk W1 W0.heap.size 212 #[.int .i64 6, .int .i64 0, .string ⟨out.toArray⟩] := by rw [hW1]; exact ((Blk.set_ hBt 0 _).set_ 1 _).set_ 2 _
    rw [← hW1]
    clear hW1
    obtain ⟨g, hg⟩ : ∃ g, g = W0.heap.size := ⟨_, rfl⟩
    rw [← hg] at hBt' ⊢
    have HG : Hid (W0.heap.size ≤ g) := hide (by rw [hg]; exact Nat.le_refl _)
    clear hg
    clear hBt hBl hBn d0 d1 d2 dz
    clear hf1 hsz
    have hs1 := HS0.out.keep0 hf2
    have hB1 := HB0.out.keep hf2 (by simp)
    have hfw := HF0.out.then0 hf2
    obtain ⟨q, hq⟩ : ∃ q, q = w.heap.size := ⟨_, rfl⟩
    rw [← hq] at hB1 ⊢
    have HQ : Hid (w.heap.size ≤ q) := hide (by omega)
    clear hq
    have ngr : g ≠ r := hBt'.ne_ hs1.blk (by decide)
    have nqr : q ≠ r := hB1.ne_ hs1.blk (by decide)
    have nqg : q ≠ g := hB1.ne_ hBt' (by decide)
    obtain ⟨c0, c1, c2, cz⟩ := hs1.blk.c3
    obtain ⟨t0, t1, t2, tz⟩ := hBt'.c3
    obtain ⟨b0, b1, b2, b3, b4, b5, bz⟩ := hB1.c6
    have ngr' := Ne.symm ngr
    have nqr' := Ne.symm nqr
    have nqg' := Ne.symm nqg
    have hset := hs1.set_ j hj
    have hfs := hfw.setCell (p := ⟨r, 1, none⟩) (.inl (by simp)) (.int .i64 j)
    have hBs := hB1.far (p := ⟨r, 1, none⟩) nqr (.int .i64 j)
    have hlq := hBs.lt
    have hlq' := Nat.ne_of_lt hlq
    go_wp2_with fail
    refine bodyPost_ret (v := pobjV 5 0 out) (by simp [pobjV, results, Tryz.results121, go_sem, c0, c1, c2, b0, b1, b2, b3, b4, b5, t0, t1, t2]) rfl ⟨rfl, ?_, ?_⟩
    · exact hset.obj nqr (fun ad h1 h2 => by
        have := (HS.out.blockA ad h1 h2).1
        have := HQ.out
        omega)
    · exact obj_frame hfs (.inr HQ.out)
set_option maxRecDepth 100000 in
set_option maxHeartbeats 2000000 in
theorem ptext_big (r n c k : Nat) (A : Option Addr) (refs : Bool) (bs : List UInt8) (w : World) (hs : St w r A n c k refs bs) 
   (HN : Hid (∀ w', RB w' (fun _ => True) A n bs → Calls Tryz.prog 155 #[.slice A n c, .int .i64 k] w' fun e w'' => e = nextV (zTok) 0 9 ∧ Fr [] w' w'')) :
    Calls Tryz.prog 121 #[.pointer (some ⟨r, 0, none⟩)] w fun e w' => e = panicE 25 ∧ Fr [r] w w' := by
  go_enter Tryz.func121, Tryz.ntmps121
  go_wp2
  obtain ⟨W0, hW0⟩ : ∃ W0, W0 = w.alloc (.cells #[.int .i64 0, .int .i64 0, .string ⟨#[]⟩, .slice none 0 0, .slice none 0 0, .slice none 0 0] 31) := ⟨_, rfl⟩
  have hs0 : St W0 r A n c k refs bs := by rw [hW0]; exact hs.keep0 (by repeat (first | with_reducible exact Fr.refl _ _ | with_reducible assumption | with_reducible refine Fr.drewN ?_ _ | with_reducible refine Fr.drew ?_ | with_reducible refine Fr.alloc ?_ _ | ((with_reducible refine Fr.setCell ?_ ?_ _) <;> first | (apply Or.inl; simp; done) | (apply Or.inr; simp; done) | (apply Or.inr; simp; omega) | skip) | (refine Fr.then0 ?_ (by with_reducible assumption)) | (refine Fr.trans ?_ (by with_reducible assumption))))
  have hf0 : Fr [r] w W0 := by rw [hW0]; exact (by repeat (first | with_reducible exact Fr.refl _ _ | with_reducible assumption | with_reducible refine Fr.drewN ?_ _ | with_reducible refine Fr.drew ?_ | with_reducible refine Fr.alloc ?_ _ | ((with_reducible refine Fr.setCell ?_ ?_ _) <;> first | (apply Or.inl; simp; done) | (apply Or.inr; simp; done) | (apply Or.inr; simp; omega) | skip) | (refine Fr.then0 ?_ (by with_reducible assumption)) | (refine Fr.trans ?_ (by with_reducible assumption))))
  have hB0 : Blk W0 w.heap.size 31 #[.int .i64 0, .int .i64 0, .string ⟨#[]⟩, .slice none 0 0, .slice none 0 0, .slice none 0 0] := by rw [hW0]; exact Blk.new _ _ _
  rw [← hW0]
  clear hW0
  obtain ⟨c0, c1, c2, cz⟩ := hs0.blk.c3
  have hrb := hs0.rb.more (N' := fun _ => True) (fun _ _ _ => trivial)
  have hk0 : ∀ W, Fr [] W0 W → W.cell? ⟨r, 0, none⟩ = some (.slice A n c) ∧ W.cell? ⟨r, 1, none⟩ = some (.int .i64 k) ∧ Fr [] W0 W := fun W h => ⟨h.cell c0 (by simp), h.cell c1 (by simp), h⟩
  have HK0 := hide hk0
  clear hk0
  have hn0 : ∀ W, Fr [] W0 W → Calls Tryz.prog 155 #[.slice A n c, .int .i64 k] W fun e w'' => e = nextV (zTok) 0 9 ∧ Fr [] W w'' := fun W h => HN.out W (hrb.keep0 h)
  have HN0 := hide hn0
  have HS0 := hide hs0
  have HB0 := hide hB0
  have HF0 := hide hf0
  have HS := hide hs
  clear hn0 hrb hs0 hB0 hf0 HN c2 cz hs c0 c1
  go_region_held3 (fun w' => w'.cell? ⟨r, 0, none⟩ = some (.slice A n c) ∧ w'.cell? ⟨r, 1, none⟩ = some (.int .i64 k) ∧ Fr [] W0 w') ((exact HK0.out _ (by repeat (first | with_reducible exact Fr.refl _ _ | with_reducible assumption | with_reducible refine Fr.drewN ?_ _ | with_reducible refine Fr.drew ?_ | with_reducible refine Fr.alloc ?_ _ | ((with_reducible refine Fr.setCell ?_ ?_ _) <;> first | (apply Or.inl; simp; done) | (apply Or.inr; simp; done) | (apply Or.inr; simp; omega) | skip) | (refine Fr.then0 ?_ (by with_reducible assumption)) | (refine Fr.trans ?_ (by with_reducible assumption))))))
    (first
      | (go_simp; go_at_call 155; refine (HN0.out _ (by repeat (first | with_reducible exact Fr.refl _ _ | with_reducible assumption | with_reducible refine Fr.drewN ?_ _ | with_reducible refine Fr.drew ?_ | with_reducible refine Fr.alloc ?_ _ | ((with_reducible refine Fr.setCell ?_ ?_ _) <;> first | (apply Or.inl; simp; done) | (apply Or.inr; simp; done) | (apply Or.inr; simp; omega) | skip) | (refine Fr.then0 ?_ (by with_reducible assumption)) | (refine Fr.trans ?_ (by with_reducible assumption))))).mono ?_; rintro e w1 ⟨rfl, hf1⟩; have hsz : W0.heap.size ≤ w1.heap.size := (by with_reducible first | exact frs1 hf1 | exact frs2 hf1 | exact frs3 hf1); (first | (have hBt := (by with_reducible first | exact blk2 hf1 (by simp) | exact blk3 hf1 (by simp)); obtain ⟨d0, d1, d2, dz⟩ := Blk.c3 hBt; have hBl := Blk.lt hBt; have hBn := Nat.ne_of_lt hBl) | skip)))
  · obtain ⟨W1, hW1⟩ : ∃ W1, W1 = w1.alloc (.cells #[.int .i64 0, .int .i64 0, .string ⟨#[]⟩] 212) := ⟨_, rfl⟩
    have hf2 : Fr [] W0 W1 := by rw [hW1]; exact (by repeat (first | with_reducible exact Fr.refl _ _ | with_reducible assumption | with_reducible refine Fr.drewN ?_ _ | with_reducible refine Fr.drew ?_ | with_reducible refine Fr.alloc ?_ _ | ((with_reducible refine Fr.setCell ?_ ?_ _) <;> first | (apply Or.inl; simp; done) | (apply Or.inr; simp; done) | (apply Or.inr; simp; omega) | skip) | (refine Fr.then0 ?_ (by with_reducible assumption)) | (refine Fr.trans ?_ (by with_reducible assumption))))
    have hBt' : Blk W1 w1.heap.size 212 #[.int .i64 0, .int .i64 0, .string ⟨#[]⟩] := by rw [hW1]; exact Blk.new _ _ _
    rw [← hW1]
    clear hW1
    obtain ⟨g, hg⟩ : ∃ g, g = w1.heap.size := ⟨_, rfl⟩
    rw [← hg] at hBt' ⊢
    have HG : Hid (W0.heap.size ≤ g) := hide (by rw [hg]; exact hsz)
    clear hg
    skip
    clear hf1 hsz
    have hs1 := HS0.out.keep0 hf2
    have hB1 := HB0.out.keep hf2 (by simp)
    have hfw := HF0.out.then0 hf2
    obtain ⟨q, hq⟩ : ∃ q, q = w.heap.size := ⟨_, rfl⟩
    rw [← hq] at hB1 ⊢
    have HQ : Hid (w.heap.size ≤ q) := hide (by omega)
    clear hq
    have ngr : g ≠ r := hBt'.ne_ hs1.blk (by decide)
    have nqr : q ≠ r := hB1.ne_ hs1.blk (by decide)
    have nqg : q ≠ g := hB1.ne_ hBt' (by decide)
    obtain ⟨c0, c1, c2, cz⟩ := hs1.blk.c3
    obtain ⟨t0, t1, t2, tz⟩ := hBt'.c3
    obtain ⟨b0, b1, b2, b3, b4, b5, bz⟩ := hB1.c6
    have ngr' := Ne.symm ngr
    have nqr' := Ne.symm nqr
    have nqg' := Ne.symm nqg
    go_wp2_with (go_at_call 119; refine (fail_any _ _).mono ?_; rintro e w2 ⟨rfl, rfl⟩)
    exact ⟨rfl, rfl, hfw⟩
  · obtain ⟨W1, hW1⟩ : ∃ W1, W1 = ((w1.setCell ⟨W0.heap.size, 0, none⟩ (.int .i64 0)).setCell ⟨W0.heap.size, 1, none⟩ (.int .i64 0)).setCell ⟨W0.heap.size, 2, none⟩ (.string ⟨#[]⟩) := ⟨_, rfl⟩
    have hf2 : Fr [] W0 W1 := by rw [hW1]; exact tok_frame (Fr.then0 (by repeat (first | with_reducible exact Fr.refl _ _ | with_reducible assumption | with_reducible refine Fr.drewN ?_ _ | with_reducible refine Fr.drew ?_ | with_reducible refine Fr.alloc ?_ _ | ((with_reducible refine Fr.setCell ?_ ?_ _) <;> first | (apply Or.inl; simp; done) | (apply Or.inr; simp; done) | (apply Or.inr; simp; omega) | skip) | (refine Fr.then0 ?_ (by with_reducible assumption)) | (refine Fr.trans ?_ (by with_reducible assumption)))) hf1) (Nat.le_refl _)
    have hBt' : Blk W1 W0.heap.size 212 #[.int .i64 0, .int .i64 0, .string ⟨#[]⟩] := by rw [hW1]; exact ((Blk.set_ hBt 0 _).set_ 1 _).set_ 2 _
    rw [← hW1]
    clear hW1
    obtain ⟨g, hg⟩ : ∃ g, g = W0.heap.size := ⟨_, rfl⟩
    rw [← hg] at hBt' ⊢
    have HG : Hid (W0.heap.size ≤ g) := hide (by rw [hg]; exact Nat.le_refl _)
    clear hg
    clear hBt hBl hBn d0 d1 d2 dz
    clear hf1 hsz
    have hs1 := HS0.out.keep0 hf2
    have hB1 := HB0.out.keep hf2 (by simp)
    have hfw := HF0.out.then0 hf2
    obtain ⟨q, hq⟩ : ∃ q, q = w.heap.size := ⟨_, rfl⟩
    rw [← hq] at hB1 ⊢
    have HQ : Hid (w.heap.size ≤ q) := hide (by omega)
    clear hq
    have ngr : g ≠ r := hBt'.ne_ hs1.blk (by decide)
    have nqr : q ≠ r := hB1.ne_ hs1.blk (by decide)
    have nqg : q ≠ g := hB1.ne_ hBt' (by decide)
    obtain ⟨c0, c1, c2, cz⟩ := hs1.blk.c3
    obtain ⟨t0, t1, t2, tz⟩ := hBt'.c3
    obtain ⟨b0, b1, b2, b3, b4, b5, bz⟩ := hB1.c6
    have ngr' := Ne.symm ngr
    have nqr' := Ne.symm nqr
    have nqg' := Ne.symm nqg
    go_wp2_with (go_at_call 119; refine (fail_any _ _).mono ?_; rintro e w2 ⟨rfl, rfl⟩)
    exact ⟨rfl, rfl, hfw⟩
set_option maxRecDepth 100000 in
set_option maxHeartbeats 2000000 in
theorem ptext_short (r n c k : Nat) (A : Option Addr) (refs : Bool) (bs : List UInt8) (w : World) (hs : St w r A n c k refs bs) 
   (HN : Hid (∀ w', RB w' (fun _ => True) A n bs → Calls Tryz.prog 155 #[.slice A n c, .int .i64 k] w' fun e w'' => e = nextV (zTok) 0 14 ∧ Fr [] w' w''))
   (HOP : Hid (∀ w', St w' r A n c k refs bs → Calls Tryz.prog 156 #[.pointer (some ⟨r, 0, none⟩)] w' fun e w'' => e = .returned (.bool true) ∧ ∃ m, w'' = w'.drewN m)) :
    Calls Tryz.prog 121 #[.pointer (some ⟨r, 0, none⟩)] w fun e w' => e = panicE 24 ∧ Fr [r] w w' := by
  go_enter Tryz.func121, Tryz.ntmps121
  go_wp2
  obtain ⟨W0, hW0⟩ : ∃ W0, W0 = w.alloc (.cells #[.int .i64 0, .int .i64 0, .string ⟨#[]⟩, .slice none 0 0, .slice none 0 0, .slice none 0 0] 31) := ⟨_, rfl⟩
  have hs0 : St W0 r A n c k refs bs := by rw [hW0]; exact hs.keep0 (by repeat (first | with_reducible exact Fr.refl _ _ | with_reducible assumption | with_reducible refine Fr.drewN ?_ _ | with_reducible refine Fr.drew ?_ | with_reducible refine Fr.alloc ?_ _ | ((with_reducible refine Fr.setCell ?_ ?_ _) <;> first | (apply Or.inl; simp; done) | (apply Or.inr; simp; done) | (apply Or.inr; simp; omega) | skip) | (refine Fr.then0 ?_ (by with_reducible assumption)) | (refine Fr.trans ?_ (by with_reducible assumption))))
  have hf0 : Fr [r] w W0 := by rw [hW0]; exact (by repeat (first | with_reducible exact Fr.refl _ _ | with_reducible assumption | with_reducible refine Fr.drewN ?_ _ | with_reducible refine Fr.drew ?_ | with_reducible refine Fr.alloc ?_ _ | ((with_reducible refine Fr.setCell ?_ ?_ _) <;> first | (apply Or.inl; simp; done) | (apply Or.inr; simp; done) | (apply Or.inr; simp; omega) | skip) | (refine Fr.then0 ?_ (by with_reducible assumption)) | (refine Fr.trans ?_ (by with_reducible assumption))))
  have hB0 : Blk W0 w.heap.size 31 #[.int .i64 0, .int .i64 0, .string ⟨#[]⟩, .slice none 0 0, .slice none 0 0, .slice none 0 0] := by rw [hW0]; exact Blk.new _ _ _
  rw [← hW0]
  clear hW0
  obtain ⟨c0, c1, c2, cz⟩ := hs0.blk.c3
  have hrb := hs0.rb.more (N' := fun _ => True) (fun _ _ _ => trivial)
  have hk0 : ∀ W, Fr [] W0 W → W.cell? ⟨r, 0, none⟩ = some (.slice A n c) ∧ W.cell? ⟨r, 1, none⟩ = some (.int .i64 k) ∧ Fr [] W0 W := fun W h => ⟨h.cell c0 (by simp), h.cell c1 (by simp), h⟩
  have HK0 := hide hk0
  clear hk0
  have hn0 : ∀ W, Fr [] W0 W → Calls Tryz.prog 155 #[.slice A n c, .int .i64 k] W fun e w'' => e = nextV (zTok) 0 14 ∧ Fr [] W w'' := fun W h => HN.out W (hrb.keep0 h)
  have HN0 := hide hn0
  have HS0 := hide hs0
  have HB0 := hide hB0
  have HF0 := hide hf0
  have HS := hide hs
  clear hn0 hrb hs0 hB0 hf0 HN c2 cz hs c0 c1
  go_region_held3 (fun w' => w'.cell? ⟨r, 0, none⟩ = some (.slice A n c) ∧ w'.cell? ⟨r, 1, none⟩ = some (.int .i64 k) ∧ Fr [] W0 w') ((exact HK0.out _ (by repeat (first | with_reducible exact Fr.refl _ _ | with_reducible assumption | with_reducible refine Fr.drewN ?_ _ | with_reducible refine Fr.drew ?_ | with_reducible refine Fr.alloc ?_ _ | ((with_reducible refine Fr.setCell ?_ ?_ _) <;> first | (apply Or.inl; simp; done) | (apply Or.inr; simp; done) | (apply Or.inr; simp; omega) | skip) | (refine Fr.then0 ?_ (by with_reducible assumption)) | (refine Fr.trans ?_ (by with_reducible assumption))))))
    (first
      | (go_simp; go_at_call 155; refine (HN0.out _ (by repeat (first | with_reducible exact Fr.refl _ _ | with_reducible assumption | with_reducible refine Fr.drewN ?_ _ | with_reducible refine Fr.drew ?_ | with_reducible refine Fr.alloc ?_ _ | ((with_reducible refine Fr.setCell ?_ ?_ _) <;> first | (apply Or.inl; simp; done) | (apply Or.inr; simp; done) | (apply Or.inr; simp; omega) | skip) | (refine Fr.then0 ?_ (by with_reducible assumption)) | (refine Fr.trans ?_ (by with_reducible assumption))))).mono ?_; rintro e w1 ⟨rfl, hf1⟩; have hsz : W0.heap.size ≤ w1.heap.size := (by with_reducible first | exact frs1 hf1 | exact frs2 hf1 | exact frs3 hf1); (first | (have hBt := (by with_reducible first | exact blk2 hf1 (by simp) | exact blk3 hf1 (by simp)); obtain ⟨d0, d1, d2, dz⟩ := Blk.c3 hBt; have hBl := Blk.lt hBt; have hBn := Nat.ne_of_lt hBl) | skip)))
  · obtain ⟨W1, hW1⟩ : ∃ W1, W1 = w1.alloc (.cells #[.int .i64 0, .int .i64 0, .string ⟨#[]⟩] 212) := ⟨_, rfl⟩
    have hf2 : Fr [] W0 W1 := by rw [hW1]; exact (by repeat (first | with_reducible exact Fr.refl _ _ | with_reducible assumption | with_reducible refine Fr.drewN ?_ _ | with_reducible refine Fr.drew ?_ | with_reducible refine Fr.alloc ?_ _ | ((with_reducible refine Fr.setCell ?_ ?_ _) <;> first | (apply Or.inl; simp; done) | (apply Or.inr; simp; done) | (apply Or.inr; simp; omega) | skip) | (refine Fr.then0 ?_ (by with_reducible assumption)) | (refine Fr.trans ?_ (by with_reducible assumption))))
    have hBt' : Blk W1 w1.heap.size 212 #[.int .i64 0, .int .i64 0, .string ⟨#[]⟩] := by rw [hW1]; exact Blk.new _ _ _
    rw [← hW1]
    clear hW1
    obtain ⟨g, hg⟩ : ∃ g, g = w1.heap.size := ⟨_, rfl⟩
    rw [← hg] at hBt' ⊢
    have HG : Hid (W0.heap.size ≤ g) := hide (by rw [hg]; exact hsz)
    clear hg
    skip
    clear hf1 hsz
    have hs1 := HS0.out.keep0 hf2
    have hB1 := HB0.out.keep hf2 (by simp)
    have hfw := HF0.out.then0 hf2
    obtain ⟨q, hq⟩ : ∃ q, q = w.heap.size := ⟨_, rfl⟩
    rw [← hq] at hB1 ⊢
    have HQ : Hid (w.heap.size ≤ q) := hide (by omega)
    clear hq
    have ngr : g ≠ r := hBt'.ne_ hs1.blk (by decide)
    have nqr : q ≠ r := hB1.ne_ hs1.blk (by decide)
    have nqg : q ≠ g := hB1.ne_ hBt' (by decide)
    obtain ⟨c0, c1, c2, cz⟩ := hs1.blk.c3
    obtain ⟨t0, t1, t2, tz⟩ := hBt'.c3
    obtain ⟨b0, b1, b2, b3, b4, b5, bz⟩ := hB1.c6
    have ngr' := Ne.symm ngr
    have nqr' := Ne.symm nqr
    have nqg' := Ne.symm nqg
    go_wp2_with (first | (go_at_call 156; refine (HOP.out _ hs1).mono ?_; rintro e w2 ⟨rfl, m, rfl⟩) | (go_at_call 119; refine (fail_any _ _).mono ?_; rintro e w2 ⟨rfl, rfl⟩))
    exact ⟨rfl, rfl, hfw.drewN m⟩
  · obtain ⟨W1, hW1⟩ : ∃ W1, W1 = ((w1.setCell ⟨W0.heap.size, 0, none⟩ (.int .i64 0)).setCell ⟨W0.heap.size, 1, none⟩ (.int .i64 0)).setCell ⟨W0.heap.size, 2, none⟩ (.string ⟨#[]⟩) := ⟨_, rfl⟩
    have hf2 : Fr [] W0 W1 := by rw [hW1]; exact tok_frame (Fr.then0 (by repeat (first | with_reducible exact Fr.refl _ _ | with_reducible assumption | with_reducible refine Fr.drewN ?_ _ | with_reducible refine Fr.drew ?_ | with_reducible refine Fr.alloc ?_ _ | ((with_reducible refine Fr.setCell ?_ ?_ _) <;> first | (apply Or.inl; simp; done) | (apply Or.inr; simp; done) | (apply Or.inr; simp; omega) | skip) | (refine Fr.then0 ?_ (by with_reducible assumption)) | (refine Fr.trans ?_ (by with_reducible assumption)))) hf1) (Nat.le_refl _)
    have hBt' : Blk W1 W0.heap.size 212 #[.int .i64 0, .int .i64 0, .string ⟨#[]⟩] := by rw [hW1]; exact ((Blk.set_ hBt 0 _).set_ 1 _).set_ 2 _
    rw [← hW1]
    clear hW1
    obtain ⟨g, hg⟩ : ∃ g, g = W0.heap.size := ⟨_, rfl⟩
    rw [← hg] at hBt' ⊢
    have HG : Hid (W0.heap.size ≤ g) := hide (by rw [hg]; exact Nat.le_refl _)
    clear hg
    clear hBt hBl hBn d0 d1 d2 dz
    clear hf1 hsz
    have hs1 := HS0.out.keep0 hf2
    have hB1 := HB0.out.keep hf2 (by simp)
    have hfw := HF0.out.then0 hf2
    obtain ⟨q, hq⟩ : ∃ q, q = w.heap.size := ⟨_, rfl⟩
    rw [← hq] at hB1 ⊢
    have HQ : Hid (w.heap.size ≤ q) := hide (by omega)
    clear hq
    have ngr : g ≠ r := hBt'.ne_ hs1.blk (by decide)
    have nqr : q ≠ r := hB1.ne_ hs1.blk (by decide)
    have nqg : q ≠ g := hB1.ne_ hBt' (by decide)
    obtain ⟨c0, c1, c2, cz⟩ := hs1.blk.c3
    obtain ⟨t0, t1, t2, tz⟩ := hBt'.c3
    obtain ⟨b0, b1, b2, b3, b4, b5, bz⟩ := hB1.c6
    have ngr' := Ne.symm ngr
    have nqr' := Ne.symm nqr
    have nqg' := Ne.symm nqg
    go_wp2_with (first | (go_at_call 156; refine (HOP.out _ hs1).mono ?_; rintro e w2 ⟨rfl, m, rfl⟩) | (go_at_call 119; refine (fail_any _ _).mono ?_; rintro e w2 ⟨rfl, rfl⟩))
    exact ⟨rfl, rfl, hfw.drewN m⟩
set_option maxRecDepth 100000 in
set_option maxHeartbeats 2000000 in
theorem ptext_bad (r n c k : Nat) (A : Option Addr) (refs : Bool) (bs : List UInt8) (w : World) (hs : St w r A n c k refs bs) 
   (HN : Hid (∀ w', RB w' (fun _ => True) A n bs → Calls Tryz.prog 155 #[.slice A n c, .int .i64 k] w' fun e w'' => e = nextV (zTok) 0 14 ∧ Fr [] w' w''))
   (HOP : Hid (∀ w', St w' r A n c k refs bs → Calls Tryz.prog 156 #[.pointer (some ⟨r, 0, none⟩)] w' fun e w'' => e = .returned (.bool false) ∧ ∃ m, w'' = w'.drewN m)) :
    Calls Tryz.prog 121 #[.pointer (some ⟨r, 0, none⟩)] w fun e w' => e = panicE 23 ∧ Fr [r] w w' := by
  go_enter Tryz.func121, Tryz.ntmps121
  go_wp2
  obtain ⟨W0, hW0⟩ : ∃ W0, W0 = w.alloc (.cells #[.int .i64 0, .int .i64 0, .string ⟨#[]⟩, .slice none 0 0, .slice none 0 0, .slice none 0 0] 31) := ⟨_, rfl⟩
  have hs0 : St W0 r A n c k refs bs := by rw [hW0]; exact hs.keep0 (by repeat (first | with_reducible exact Fr.refl _ _ | with_reducible assumption | with_reducible refine Fr.drewN ?_ _ | with_reducible refine Fr.drew ?_ | with_reducible refine Fr.alloc ?_ _ | ((with_reducible refine Fr.setCell ?_ ?_ _) <;> first | (apply Or.inl; simp; done) | (apply Or.inr; simp; done) | (apply Or.inr; simp; omega) | skip) | (refine Fr.then0 ?_ (by with_reducible assumption)) | (refine Fr.trans ?_ (by with_reducible assumption))))
  have hf0 : Fr [r] w W0 := by rw [hW0]; exact (by repeat (first | with_reducible exact Fr.refl _ _ | with_reducible assumption | with_reducible refine Fr.drewN ?_ _ | with_reducible refine Fr.drew ?_ | with_reducible refine Fr.alloc ?_ _ | ((with_reducible refine Fr.setCell ?_ ?_ _) <;> first | (apply Or.inl; simp; done) | (apply Or.inr; simp; done) | (apply Or.inr; simp; omega) | skip) | (refine Fr.then0 ?_ (by with_reducible assumption)) | (refine Fr.trans ?_ (by with_reducible assumption))))
  have hB0 : Blk W0 w.heap.size 31 #[.int .i64 0, .int .i64 0, .string ⟨#[]⟩, .slice none 0 0, .slice none 0 0, .slice none 0 0] := by rw [hW0]; exact Blk.new _ _ _
  rw [← hW0]
  clear hW0
  obtain ⟨c0, c1, c2, cz⟩ := hs0.blk.c3
  have hrb := hs0.rb.more (N' := fun _ => True) (fun _ _ _ => trivial)
  have hk0 : ∀ W, Fr [] W0 W → W.cell? ⟨r, 0, none⟩ = some (.slice A n c) ∧ W.cell? ⟨r, 1, none⟩ = some (.int .i64 k) ∧ Fr [] W0 W := fun W h => ⟨h.cell c0 (by simp), h.cell c1 (by simp), h⟩
  have HK0 := hide hk0
  clear hk0
  have hn0 : ∀ W, Fr [] W0 W → Calls Tryz.prog 155 #[.slice A n c, .int .i64 k] W fun e w'' => e = nextV (zTok) 0 14 ∧ Fr [] W w'' := fun W h => HN.out W (hrb.keep0 h)
  have HN0 := hide hn0
  have HS0 := hide hs0
  have HB0 := hide hB0
  have HF0 := hide hf0
  have HS := hide hs
  clear hn0 hrb hs0 hB0 hf0 HN c2 cz hs c0 c1
  go_region_held3 (fun w' => w'.cell? ⟨r, 0, none⟩ = some (.slice A n c) ∧ w'.cell? ⟨r, 1, none⟩ = some (.int .i64 k) ∧ Fr [] W0 w') ((exact HK0.out _ (by repeat (first | with_reducible exact Fr.refl _ _ | with_reducible assumption | with_reducible refine Fr.drewN ?_ _ | with_reducible refine Fr.drew ?_ | with_reducible refine Fr.alloc ?_ _ | ((with_reducible refine Fr.setCell ?_ ?_ _) <;> first | (apply Or.inl; simp; done) | (apply Or.inr; simp; done) | (apply Or.inr; simp; omega) | skip) | (refine Fr.then0 ?_ (by with_reducible assumption)) | (refine Fr.trans ?_ (by with_reducible assumption))))))
    (first
      | (go_simp; go_at_call 155; refine (HN0.out _ (by repeat (first | with_reducible exact Fr.refl _ _ | with_reducible assumption | with_reducible refine Fr.drewN ?_ _ | with_reducible refine Fr.drew ?_ | with_reducible refine Fr.alloc ?_ _ | ((with_reducible refine Fr.setCell ?_ ?_ _) <;> first | (apply Or.inl; simp; done) | (apply Or.inr; simp; done) | (apply Or.inr; simp; omega) | skip) | (refine Fr.then0 ?_ (by with_reducible assumption)) | (refine Fr.trans ?_ (by with_reducible assumption))))).mono ?_; rintro e w1 ⟨rfl, hf1⟩; have hsz : W0.heap.size ≤ w1.heap.size := (by with_reducible first | exact frs1 hf1 | exact frs2 hf1 | exact frs3 hf1); (first | (have hBt := (by with_reducible first | exact blk2 hf1 (by simp) | exact blk3 hf1 (by simp)); obtain ⟨d0, d1, d2, dz⟩ := Blk.c3 hBt; have hBl := Blk.lt hBt; have hBn := Nat.ne_of_lt hBl) | skip)))
  · obtain ⟨W1, hW1⟩ : ∃ W1, W1 = w1.alloc (.cells #[.int .i64 0, .int .i64 0, .string ⟨#[]⟩] 212) := ⟨_, rfl⟩
    have hf2 : Fr [] W0 W1 := by rw [hW1]; exact (by repeat (first | with_reducible exact Fr.refl _ _ | with_reducible assumption | with_reducible refine Fr.drewN ?_ _ | with_reducible refine Fr.drew ?_ | with_reducible refine Fr.alloc ?_ _ | ((with_reducible refine Fr.setCell ?_ ?_ _) <;> first | (apply Or.inl; simp; done) | (apply Or.inr; simp; done) | (apply Or.inr; simp; omega) | skip) | (refine Fr.then0 ?_ (by with_reducible assumption)) | (refine Fr.trans ?_ (by with_reducible assumption))))
    have hBt' : Blk W1 w1.heap.size 212 #[.int .i64 0, .int .i64 0, .string ⟨#[]⟩] := by rw [hW1]; exact Blk.new _ _ _
    rw [← hW1]
    clear hW1
    obtain ⟨g, hg⟩ : ∃ g, g = w1.heap.size := ⟨_, rfl⟩
    rw [← hg] at hBt' ⊢
    have HG : Hid (W0.heap.size ≤ g) := hide (by rw [hg]; exact hsz)
    clear hg
    skip
    clear hf1 hsz
    have hs1 := HS0.out.keep0 hf2
    have hB1 := HB0.out.keep hf2 (by simp)
    have hfw := HF0.out.then0 hf2
    obtain ⟨q, hq⟩ : ∃ q, q = w.heap.size := ⟨_, rfl⟩
    rw [← hq] at hB1 ⊢
    have HQ : Hid (w.heap.size ≤ q) := hide (by omega)
    clear hq
    have ngr : g ≠ r := hBt'.ne_ hs1.blk (by decide)
    have nqr : q ≠ r := hB1.ne_ hs1.blk (by decide)
    have nqg : q ≠ g := hB1.ne_ hBt' (by decide)
    obtain ⟨c0, c1, c2, cz⟩ := hs1.blk.c3
    obtain ⟨t0, t1, t2, tz⟩ := hBt'.c3
    obtain ⟨b0, b1, b2, b3, b4, b5, bz⟩ := hB1.c6
    have ngr' := Ne.symm ngr
    have nqr' := Ne.symm nqr
    have nqg' := Ne.symm nqg
    go_wp2_with (first | (go_at_call 156; refine (HOP.out _ hs1).mono ?_; rintro e w2 ⟨rfl, m, rfl⟩) | (go_at_call 119; refine (fail_any _ _).mono ?_; rintro e w2 ⟨rfl, rfl⟩))
    exact ⟨rfl, rfl, hfw.drewN m⟩
  · obtain ⟨W1, hW1⟩ : ∃ W1, W1 = ((w1.setCell ⟨W0.heap.size, 0, none⟩ (.int .i64 0)).setCell ⟨W0.heap.size, 1, none⟩ (.int .i64 0)).setCell ⟨W0.heap.size, 2, none⟩ (.string ⟨#[]⟩) := ⟨_, rfl⟩
    have hf2 : Fr [] W0 W1 := by rw [hW1]; exact tok_frame (Fr.then0 (by repeat (first | with_reducible exact Fr.refl _ _ | with_reducible assumption | with_reducible refine Fr.drewN ?_ _ | with_reducible refine Fr.drew ?_ | with_reducible refine Fr.alloc ?_ _ | ((with_reducible refine Fr.setCell ?_ ?_ _) <;> first | (apply Or.inl; simp; done) | (apply Or.inr; simp; done) | (apply Or.inr; simp; omega) | skip) | (refine Fr.then0 ?_ (by with_reducible assumption)) | (refine Fr.trans ?_ (by with_reducible assumption)))) hf1) (Nat.le_refl _)
    have hBt' : Blk W1 W0.heap.size 212 #[.int .i64 0, .int .i64 0, .string ⟨#[]⟩] := by rw [hW1]; exact ((Blk.set_ hBt 0 _).set_ 1 _).set_ 2 _
    rw [← hW1]
    clear hW1
    obtain ⟨g, hg⟩ : ∃ g, g = W0.heap.size := ⟨_, rfl⟩
    rw [← hg] at hBt' ⊢
    have HG : Hid (W0.heap.size ≤ g) := hide (by rw [hg]; exact Nat.le_refl _)
    clear hg
    clear hBt hBl hBn d0 d1 d2 dz
    clear hf1 hsz
    have hs1 := HS0.out.keep0 hf2
    have hB1 := HB0.out.keep hf2 (by simp)
    have hfw := HF0.out.then0 hf2
    obtain ⟨q, hq⟩ : ∃ q, q = w.heap.size := ⟨_, rfl⟩
    rw [← hq] at hB1 ⊢
    have HQ : Hid (w.heap.size ≤ q) := hide (by omega)
    clear hq
    have ngr : g ≠ r := hBt'.ne_ hs1.blk (by decide)
    have nqr : q ≠ r := hB1.ne_ hs1.blk (by decide)
    have nqg : q ≠ g := hB1.ne_ hBt' (by decide)
    obtain ⟨c0, c1, c2, cz⟩ := hs1.blk.c3
    obtain ⟨t0, t1, t2, tz⟩ := hBt'.c3
    obtain ⟨b0, b1, b2, b3, b4, b5, bz⟩ := hB1.c6
    have ngr' := Ne.symm ngr
    have nqr' := Ne.symm nqr
    have nqg' := Ne.symm nqg
    go_wp2_with (first | (go_at_call 156; refine (HOP.out _ hs1).mono ?_; rintro e w2 ⟨rfl, m, rfl⟩) | (go_at_call 119; refine (fail_any _ _).mono ?_; rintro e w2 ⟨rfl, rfl⟩))
    exact ⟨rfl, rfl, hfw.drewN m⟩
end Go.Proofs.YtdjhjfpeckndkaaGreatDoor
