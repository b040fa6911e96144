/- Contracts: the law ScriptPrints. -/
import Derived.Test.YtndfdekcdhlgoaaDoorScSpK
import Derived.Test.YtndfdekcdhlgoaaDoorScR12J
import Derived.Test.YtndfdekcdhlgoaaDoorScL26B
import Derived.Test.YtndfdekcdhlgoaaDoorScR26H
set_option linter.unusedVariables false
set_option linter.unusedSimpArgs false
namespace Go.Proofs.YtndfdekcdhlgoaaDoor
open Go.RowKit
section
variable {D : Type} {w : World} {N N' : Nat → Prop} {size n : Nat} {R R' : List Value → D → Prop} {A : Option Addr} {ds : List D}
theorem LR.mono (h : LR w N size R A n ds) (hN : ∀ g, N g → N' g) (hR : ∀ cs d, R cs d → R' cs d) : LR w N' size R' A n ds :=
  ⟨h.1, fun hn => by
    obtain ⟨ad, e, hb, hc⟩ := h.2 hn
    refine ⟨ad, e, hN _ hb, fun i d hd => ?_⟩
    obtain ⟨cs, h1, h2, h3⟩ := hc i d hd
    exact ⟨cs, h1, hR cs d h2, h3⟩⟩
end
section
variable {w : World} {N N' : Nat → Prop} {cs : List Value}
theorem ClipC.mono {d : ClipD} (h : ClipC w N cs d) (hN : ∀ g, N g → N' g) : ClipC w N' cs d := by
  obtain ⟨A, n, c, h1, h2, h3, h4⟩ := h
  exact ⟨A, n, c, h1, h2, h3, h4.mono hN fun _ _ h => h⟩
theorem ItemC.mono {d : ItemD} (h : ItemC w N cs d) (hN : ∀ g, N g → N' g) : ItemC w N' cs d := by
  obtain ⟨Ap, np, cp, Ac, nc, cc, Ad, nd, cd, Ab, nb, cb, h1, h2⟩ := h
  exact ⟨Ap, np, cp, Ac, nc, cc, Ad, nd, cd, Ab, nb, cb, h1, ⟨h2.path.mono hN fun _ _ h => h, h2.clips.mono hN fun _ _ h => h.mono hN, h2.dash.more fun g _ h => hN g h, h2.bytes.more fun g _ h => hN g h, h2.lp, h2.lc, h2.ld, h2.lb⟩⟩
theorem PageC.mono {d : PageD} (h : PageC w N cs d) (hN : ∀ g, N g → N' g) : PageC w N' cs d := by
  obtain ⟨A, n, c, h1, h2, h3, h4⟩ := h
  exact ⟨A, n, c, h1, h2, h3, h4.mono hN fun _ _ h => h.mono hN⟩
end
def oneP : PageD := ⟨65536, 131072, []⟩
theorem oneP_text : pagesT [oneP] = [112, 97, 103, 101, 32, 49, 32, 50, 10] := by
  simp [pagesT, pageT, headT, itemsT, numT, printT, fitsI, digU_lt, oneP]
theorem oneP_ok : pagesB [oneP] = true := by
  simp [pagesB, pageB, sideB, oneP]
theorem oneP_lr (w : World) : LR (w.alloc (.cells #[.int .i64 65536, .int .i64 131072, .slice none 0 0] 31)) (fun g => g < (w.alloc (.cells #[.int .i64 65536, .int .i64 131072, .slice none 0 0] 31)).heap.size) 3 (PageC (w.alloc (.cells #[.int .i64 65536, .int .i64 131072, .slice none 0 0] 31)) (fun g => g < (w.alloc (.cells #[.int .i64 65536, .int .i64 131072, .slice none 0 0] 31)).heap.size)) (some ⟨w.heap.size, 0, none⟩) 1 [oneP] := by
  have hB := Blk.new w 31 #[.int .i64 65536, .int .i64 131072, .slice none 0 0]
  refine ⟨rfl, fun _ => ⟨_, rfl, hB.lt, fun i d hd => ?_⟩⟩
  have hi : i < 1 := (List.getElem?_eq_some_iff.1 hd).1
  obtain rfl : i = 0 := by omega
  simp at hd
  subst hd
  refine ⟨[.int .i64 65536, .int .i64 131072, .slice none 0 0], rfl, ⟨none, 0, 0, rfl, Nat.le_refl _, by simp [maxLen], LR.nil⟩, fun j u hu => ?_⟩
  have e : (⟨w.heap.size, 0, none⟩ : Addr).add (0 * 3 + j) = ⟨w.heap.size, j, none⟩ := by unfold Addr.add; split <;> simp_all
  rw [e, hB.cell]
  simpa using hu
set_option maxRecDepth 100000 in
set_option maxHeartbeats 1000000 in
theorem answers26_any (w : World) (hF : Fonts w) (hg : 0 < w.heap.size) : Calls Tryd.prog 4 #[] w fun e w' => e = .returned (.bool true) ∧ Fr [] w w' := by
  have hf : Fr [] w (w.alloc (.cells #[.int .i64 65536, .int .i64 131072, .slice none 0 0] 31)) := (Fr.refl _ _).alloc _
  have HP := hide (sprint_ok (c := 1) (oneP_lr w) (hF.keep hf (by simp)) (by omega) oneP_ok (by rw [oneP_text]; simp))
  rw [oneP_text] at HP
  clear hF
  go_enter Tryd.func4, Tryd.ntmps4
  go_wp2_with (go_at_call 6; refine HP.out.mono ?_; rintro e w2 ⟨rfl, hf2⟩)
  go_ret
  exact ⟨rfl, hf.trans hf2⟩
theorem light_weight {l : List PageD} (h : lightB l = true) : pagesW l < 2000 := by unfold lightB at h; simpa using h
set_option maxRecDepth 100000 in
set_option maxHeartbeats 2000000 in
theorem ScriptPrints_any (w : World) {l : List PageD} {A : Option Addr} {n c : Nat} (hl : LR w (fun g => g < w.heap.size) 3 (PageC w (fun g => g < w.heap.size)) A n l) (hF : Fonts w) (hg : 0 < w.heap.size) (hsz : pagesW l ≤ 10000000) :
    Calls Tryd.prog 3 #[.slice A n c] w fun e w' => e = .returned (.bool true) ∧ Fr [] w w' := by
  have HA := hide (fun W (h : Fr [] w W) => answers26_any W (hF.keep h (by simp)) (Nat.lt_of_lt_of_le hg h.size))
  have HLI := hide (fun W (h : Fr [] w W) => light26_any (c := c) hl hsz W h)
  have hnl : n ≤ pagesW l := by have h1 := hl.len; unfold pagesW; omega
  cases hli : lightB l
  · rw [hli] at HLI
    clear hl hF hsz hnl hli
    go_enter Tryd.func3, Tryd.ntmps3
    go_wp2_with (first
      | (go_at_call 4; refine (HA.out _ (by repeat (first | with_reducible exact Fr.refl _ _ | with_reducible assumption | with_reducible refine Fr.drewN ?_ _ | with_reducible refine Fr.drew ?_ | with_reducible refine Fr.alloc ?_ _ | ((with_reducible refine Fr.setCell ?_ ?_ _) <;> first | (apply Or.inl; simp; done) | (apply Or.inr; simp; done) | (apply Or.inr; simp; omega) | skip) | (refine Fr.then0 ?_ (by with_reducible assumption)) | (refine Fr.trans ?_ (by with_reducible assumption))))).mono ?_; rintro e w2 ⟨rfl, hf2⟩)
      | (go_at_call 5; refine (HLI.out _ (by repeat (first | with_reducible exact Fr.refl _ _ | with_reducible assumption | with_reducible refine Fr.drewN ?_ _ | with_reducible refine Fr.drew ?_ | with_reducible refine Fr.alloc ?_ _ | ((with_reducible refine Fr.setCell ?_ ?_ _) <;> first | (apply Or.inl; simp; done) | (apply Or.inr; simp; done) | (apply Or.inr; simp; omega) | skip) | (refine Fr.then0 ?_ (by with_reducible assumption)) | (refine Fr.trans ?_ (by with_reducible assumption))))).mono ?_; rintro e w3 ⟨rfl, hf3⟩))
    go_ret
    exact ⟨rfl, (by repeat (first | with_reducible exact Fr.refl _ _ | with_reducible assumption | with_reducible refine Fr.drewN ?_ _ | with_reducible refine Fr.drew ?_ | with_reducible refine Fr.alloc ?_ _ | ((with_reducible refine Fr.setCell ?_ ?_ _) <;> first | (apply Or.inl; simp; done) | (apply Or.inr; simp; done) | (apply Or.inr; simp; omega) | skip) | (refine Fr.then0 ?_ (by with_reducible assumption)) | (refine Fr.trans ?_ (by with_reducible assumption))))⟩
  have hw := light_weight hli
  rw [hli] at HLI
  have HSO := hide (fun W (h : Fr [] w W) => sound26_any (c := c) hl (by omega) W h)
  have HLK := hide (fun W (h : Fr [] w W) => ((hl.keep h (by simp) (fun _ _ h0 => h0.keep h (by simp))).mono (fun g hg => Nat.lt_of_lt_of_le hg h.size) (fun _ _ h0 => h0.mono fun g hg => Nat.lt_of_lt_of_le hg h.size) : LR W (fun g => g < W.heap.size) 3 (PageC W (fun g => g < W.heap.size)) A n l))
  cases hb : pagesB l
  · have HP := hide (fun W (h : Fr [] w W) => sprint_bad (c := c) (HLK.out W h) (hF.keep h (by simp)) (by omega) hb)
    rw [hb] at HSO
    clear hl hF hsz hnl hli hw hb HLK
    go_enter Tryd.func3, Tryd.ntmps3
    go_wp2_with (first
      | (go_at_call 4; refine (HA.out _ (by repeat (first | with_reducible exact Fr.refl _ _ | with_reducible assumption | with_reducible refine Fr.drewN ?_ _ | with_reducible refine Fr.drew ?_ | with_reducible refine Fr.alloc ?_ _ | ((with_reducible refine Fr.setCell ?_ ?_ _) <;> first | (apply Or.inl; simp; done) | (apply Or.inr; simp; done) | (apply Or.inr; simp; omega) | skip) | (refine Fr.then0 ?_ (by with_reducible assumption)) | (refine Fr.trans ?_ (by with_reducible assumption))))).mono ?_; rintro e w2 ⟨rfl, hf2⟩)
      | (go_at_call 5; refine (HLI.out _ (by repeat (first | with_reducible exact Fr.refl _ _ | with_reducible assumption | with_reducible refine Fr.drewN ?_ _ | with_reducible refine Fr.drew ?_ | with_reducible refine Fr.alloc ?_ _ | ((with_reducible refine Fr.setCell ?_ ?_ _) <;> first | (apply Or.inl; simp; done) | (apply Or.inr; simp; done) | (apply Or.inr; simp; omega) | skip) | (refine Fr.then0 ?_ (by with_reducible assumption)) | (refine Fr.trans ?_ (by with_reducible assumption))))).mono ?_; rintro e w3 ⟨rfl, hf3⟩)
      | (go_at_call 6; refine (HP.out _ (by repeat (first | with_reducible exact Fr.refl _ _ | with_reducible assumption | with_reducible refine Fr.drewN ?_ _ | with_reducible refine Fr.drew ?_ | with_reducible refine Fr.alloc ?_ _ | ((with_reducible refine Fr.setCell ?_ ?_ _) <;> first | (apply Or.inl; simp; done) | (apply Or.inr; simp; done) | (apply Or.inr; simp; omega) | skip) | (refine Fr.then0 ?_ (by with_reducible assumption)) | (refine Fr.trans ?_ (by with_reducible assumption))))).mono ?_; rintro e w4 ⟨rfl, hf4⟩)
      | (go_at_call 7; refine (HSO.out _ (by repeat (first | with_reducible exact Fr.refl _ _ | with_reducible assumption | with_reducible refine Fr.drewN ?_ _ | with_reducible refine Fr.drew ?_ | with_reducible refine Fr.alloc ?_ _ | ((with_reducible refine Fr.setCell ?_ ?_ _) <;> first | (apply Or.inl; simp; done) | (apply Or.inr; simp; done) | (apply Or.inr; simp; omega) | skip) | (refine Fr.then0 ?_ (by with_reducible assumption)) | (refine Fr.trans ?_ (by with_reducible assumption))))).mono ?_; rintro e w5 ⟨rfl, hf5⟩))
    go_ret
    exact ⟨rfl, (by repeat (first | with_reducible exact Fr.refl _ _ | with_reducible assumption | with_reducible refine Fr.drewN ?_ _ | with_reducible refine Fr.drew ?_ | with_reducible refine Fr.alloc ?_ _ | ((with_reducible refine Fr.setCell ?_ ?_ _) <;> first | (apply Or.inl; simp; done) | (apply Or.inr; simp; done) | (apply Or.inr; simp; omega) | skip) | (refine Fr.then0 ?_ (by with_reducible assumption)) | (refine Fr.trans ?_ (by with_reducible assumption))))⟩
  · have hT := pagesT_len l hb
    have HP := hide (fun W (h : Fr [] w W) => sprint_ok (c := c) (HLK.out W h) (hF.keep h (by simp)) (by omega) hb (by omega))
    have HR := hide (fun W (h : Fr [] w W) => print26_any (c := c) hl hb (by omega) W h)
    rw [hb] at HSO
    clear hl hF hsz hnl hli hw hb HLK hT
    generalize pagesT l = T at *
    go_enter Tryd.func3, Tryd.ntmps3
    go_wp2_with (first
      | (go_at_call 4; refine (HA.out _ (by repeat (first | with_reducible exact Fr.refl _ _ | with_reducible assumption | with_reducible refine Fr.drewN ?_ _ | with_reducible refine Fr.drew ?_ | with_reducible refine Fr.alloc ?_ _ | ((with_reducible refine Fr.setCell ?_ ?_ _) <;> first | (apply Or.inl; simp; done) | (apply Or.inr; simp; done) | (apply Or.inr; simp; omega) | skip) | (refine Fr.then0 ?_ (by with_reducible assumption)) | (refine Fr.trans ?_ (by with_reducible assumption))))).mono ?_; rintro e w2 ⟨rfl, hf2⟩)
      | (go_at_call 5; refine (HLI.out _ (by repeat (first | with_reducible exact Fr.refl _ _ | with_reducible assumption | with_reducible refine Fr.drewN ?_ _ | with_reducible refine Fr.drew ?_ | with_reducible refine Fr.alloc ?_ _ | ((with_reducible refine Fr.setCell ?_ ?_ _) <;> first | (apply Or.inl; simp; done) | (apply Or.inr; simp; done) | (apply Or.inr; simp; omega) | skip) | (refine Fr.then0 ?_ (by with_reducible assumption)) | (refine Fr.trans ?_ (by with_reducible assumption))))).mono ?_; rintro e w3 ⟨rfl, hf3⟩)
      | (go_at_call 6; refine (HP.out _ (by repeat (first | with_reducible exact Fr.refl _ _ | with_reducible assumption | with_reducible refine Fr.drewN ?_ _ | with_reducible refine Fr.drew ?_ | with_reducible refine Fr.alloc ?_ _ | ((with_reducible refine Fr.setCell ?_ ?_ _) <;> first | (apply Or.inl; simp; done) | (apply Or.inr; simp; done) | (apply Or.inr; simp; omega) | skip) | (refine Fr.then0 ?_ (by with_reducible assumption)) | (refine Fr.trans ?_ (by with_reducible assumption))))).mono ?_; rintro e w4 ⟨rfl, hf4⟩)
      | (go_at_call 7; refine (HSO.out _ (by repeat (first | with_reducible exact Fr.refl _ _ | with_reducible assumption | with_reducible refine Fr.drewN ?_ _ | with_reducible refine Fr.drew ?_ | with_reducible refine Fr.alloc ?_ _ | ((with_reducible refine Fr.setCell ?_ ?_ _) <;> first | (apply Or.inl; simp; done) | (apply Or.inr; simp; done) | (apply Or.inr; simp; omega) | skip) | (refine Fr.then0 ?_ (by with_reducible assumption)) | (refine Fr.trans ?_ (by with_reducible assumption))))).mono ?_; rintro e w5 ⟨rfl, hf5⟩)
      | (go_at_call 8; refine (HR.out _ (by repeat (first | with_reducible exact Fr.refl _ _ | with_reducible assumption | with_reducible refine Fr.drewN ?_ _ | with_reducible refine Fr.drew ?_ | with_reducible refine Fr.alloc ?_ _ | ((with_reducible refine Fr.setCell ?_ ?_ _) <;> first | (apply Or.inl; simp; done) | (apply Or.inr; simp; done) | (apply Or.inr; simp; omega) | skip) | (refine Fr.then0 ?_ (by with_reducible assumption)) | (refine Fr.trans ?_ (by with_reducible assumption))))).mono ?_; rintro e w6 ⟨rfl, hf6⟩))
    go_ret
    exact ⟨by simp, (by repeat (first | with_reducible exact Fr.refl _ _ | with_reducible assumption | with_reducible refine Fr.drewN ?_ _ | with_reducible refine Fr.drew ?_ | with_reducible refine Fr.alloc ?_ _ | ((with_reducible refine Fr.setCell ?_ ?_ _) <;> first | (apply Or.inl; simp; done) | (apply Or.inr; simp; done) | (apply Or.inr; simp; omega) | skip) | (refine Fr.then0 ?_ (by with_reducible assumption)) | (refine Fr.trans ?_ (by with_reducible assumption))))⟩
end Go.Proofs.YtndfdekcdhlgoaaDoor
