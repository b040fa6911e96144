/- Contracts: the reference's texts of paths. -/
/- Contracts: the reference's texts of items: plain laws. -/
import Derived.Test.YtndfdekcdhlgoaaDoorScR01A
import Derived.Test.YtndfdekcdhlgoaaDoorScR12A
import Derived.Test.YtndfdekcdhlgoaaDoorScBase
import Derived.Deep.RegionHeld3
import Derived.IntWalk
set_option linter.unusedVariables false
set_option linter.unusedSimpArgs false
namespace Go.Proofs.YtndfdekcdhlgoaaDoor
open Go.RowKit
theorem str_cat {a b : ByteArray} {x y : List UInt8} (h1 : a = ⟨x.toArray⟩) (h2 : b = ⟨y.toArray⟩) : a ++ b = ⟨(x ++ y).toArray⟩ := by rw [h1, h2, cat_str]
theorem numT_pos (n : Int) : numT n = [32] ++ printT n := rfl
set_option maxRecDepth 100000 in
theorem num26_any (n : Int) (w : World) : Calls Tryd.prog 19 #[.int .i64 n] w fun e w' => e = .returned (.string ⟨(numT n).toArray⟩) ∧ Fr [] w w' := by
  have HP := hide (print01_any n)
  have hpl := printT_len n
  have HE := hide (cat_str [32] (printT n))
  rw [numT_pos]
  generalize printT n = p at *
  have hc : ¬9223372036854775807 < 1 + p.length := by omega
  go_enter Tryd.func19, Tryd.ntmps19
  go_wp2_with (go_at_call 36; refine (HP.out _).mono ?_; rintro e w2 ⟨rfl, hf2⟩)
  go_ret
  exact ⟨congrArg (fun x => Ending.returned (.string x)) HE.out, hf2⟩
theorem pathT_snoc {l : List SegD} {k : Nat} {d : SegD} (h : l[k]? = some d) : pathT (l.take (k + 1)) = pathT (l.take k) ++ segT d := by
  rw [take_snoc h]; simp [pathT]
def curT (d : SegD) : Nat → List UInt8
  | 0 => []
  | 1 => numT d.x0 ++ numT d.y0
  | 2 => numT d.x0 ++ numT d.y0 ++ numT d.x1 ++ numT d.y1
  | _ => numT d.x0 ++ numT d.y0 ++ numT d.x1 ++ numT d.y1 ++ numT d.x2 ++ numT d.y2
set_option maxRecDepth 100000 in
set_option maxHeartbeats 8000000 in
theorem path26_any {w0 : World} {N : Nat → Prop} {A : Option Addr} {n c : Nat} {l : List SegD} (hl : LR w0 N 7 SegC A n l) (hn : n ≤ 1048576) (w : World) (hf : Fr [] w0 w) :
    Calls Tryd.prog 37 #[.slice A n c] w fun e w' => e = .returned (.string ⟨(pathT l).toArray⟩) ∧ Fr [] w w' := by
  obtain ⟨R, hR⟩ : ∃ R, R = pathT l := ⟨_, rfl⟩
  rw [← hR]
  have HR := hide hR
  have HEL := hide (fun (w' : World) (h : Fr [] w0 w') (k : Nat) (hk : k < n) => seg_elem (hl.keep h (by simp) (fun _ _ h => h)) hk)
  have HLN := hide hl.len
  clear hl hR
  go_enter Tryd.func37, Tryd.ntmps37
  go_wp2
  go_loopw [4, 3] (fun i s w2 => ∃ (k : Nat) (t : List UInt8), k ≤ n ∧ i = .int .i64 k ∧ s = .string ⟨t.toArray⟩ ∧ t.length ≤ 146 * k ∧ Fr [] w w2 ∧ Hid (t = pathT (l.take k))) (fun i _ _ => n - (intOf i).toNat)
  case atStart => exact ⟨0, [], Nat.zero_le _, rfl, rfl, by simp, Fr.refl _ _, hide (by simp [pathT])⟩
  case round =>
    obtain ⟨k, t, hk, rfl, rfl, htl, hfr, hrel⟩ := hrel
    have htl2 : t.length ≤ 200000000 := by omega
    by_cases hlt : k < n
    · have hdk : decide ((k : Int) < (n : Int)) = true := by simp; omega
      obtain ⟨ad, d, rfl, hN, hlk, a0, a1, a2, a3, a4, a5, a6⟩ := HEL.out wr (hf.trans hfr) k hlt
      have HSN := hide (pathT_snoc hlk)
      have hsl := segT_len d
      have hbl := World.block_lt_of_cell? wr _ a0
      have hbl2 : ad.block < wr.heap.size := by rw [block_of_add] at hbl; exact hbl
      clear hlk hN
      have hkd : ((d.k == 1) = true ∧ (d.k == 2) = false ∧ (d.k == 3) = false) ∨ ((d.k == 1) = false ∧ (d.k == 2) = true ∧ (d.k == 3) = false) ∨ ((d.k == 1) = false ∧ (d.k == 2) = false ∧ (d.k == 3) = true) ∨ ((d.k == 1) = false ∧ (d.k == 2) = false ∧ (d.k == 3) = false) := by
        simp only [beq_iff_eq, beq_eq_false_iff_ne]; omega
      rcases hkd with ⟨k1, k2, k3⟩ | ⟨k1, k2, k3⟩ | ⟨k1, k2, k3⟩ | ⟨k1, k2, k3⟩
      · go_wp2
        obtain ⟨g, hg⟩ : ∃ g, g = wr.heap.size := ⟨_, rfl⟩
        obtain ⟨W1, hW1⟩ : ∃ W1, W1 = wr.alloc (.cells #[.int .i64 d.x0, .int .i64 d.y0, .int .i64 d.x1, .int .i64 d.y1, .int .i64 d.x2, .int .i64 d.y2] 89) := ⟨_, rfl⟩
        have hB : Blk W1 g 89 #[.int .i64 d.x0, .int .i64 d.y0, .int .i64 d.x1, .int .i64 d.y1, .int .i64 d.x2, .int .i64 d.y2] := by rw [hW1, hg]; exact Blk.new _ _ _
        have hf1 : Fr [] wr W1 := by rw [hW1]; exact (by repeat (first | with_reducible exact Fr.refl _ _ | with_reducible assumption | with_reducible refine Fr.drewN ?_ _ | with_reducible refine Fr.drew ?_ | with_reducible refine Fr.alloc ?_ _ | ((with_reducible refine Fr.setCell ?_ ?_ _) <;> first | (apply Or.inl; simp; done) | (apply Or.inr; simp; done) | (apply Or.inr; simp; omega) | skip) | (refine Fr.then0 ?_ (by with_reducible assumption)) | (refine Fr.trans ?_ (by with_reducible assumption))))
        rw [← hW1, ← hg]
        clear hW1 hg a0 a1 a2 a3 a4 a5 a6
        generalize Value.agg #[.int .i64 d.x0, .int .i64 d.y0, .int .i64 d.x1, .int .i64 d.y1, .int .i64 d.x2, .int .i64 d.y2] = ag
        have hT : segT d = [32, 109] ++ numT d.x0 ++ numT d.y0 := by unfold segT; simp only [beq_iff_eq, beq_eq_false_iff_ne] at k1 k2 k3; simp [k1, k2, k3]
        have hx0 := numT_len d.x0
        have hy0 := numT_len d.y0
        have HX := hide (fun W => num26_any d.x0 W)
        have HY := hide (fun W => num26_any d.y0 W)
        have HF : Hid (t ++ [32, 109] ++ numT d.x0 ++ numT d.y0 = pathT (l.take (k + 1))) := hide (by rw [HSN.out, hT, hrel.out]; simp)
        have HK0 := hide (fun W (h : Fr [] W1 W) => (⟨(hB.keep h (by simp)).c6.1, (hB.keep h (by simp)).c6.2.1, h⟩ : W.cell? ⟨g, 0, none⟩ = some (.int .i64 d.x0) ∧ W.cell? ⟨g, 1, none⟩ = some (.int .i64 d.y0) ∧ Fr [] W1 W))
        obtain ⟨c0, c1, c2, c3, c4, c5, cz⟩ := hB.c6
        have HB := hide hB
        clear hT hB cz hrel
        generalize numT d.x0 = nx at *
        generalize numT d.y0 = ny at *
        have HE := hide (by rw [show (⟨#[32, 109]⟩ : ByteArray) = ⟨[32, 109].toArray⟩ from rfl, cat_str, cat_str, cat_str] : (⟨t.toArray⟩ : ByteArray) ++ ⟨#[32, 109]⟩ ++ ⟨nx.toArray⟩ ++ ⟨ny.toArray⟩ = ⟨(t ++ [32, 109] ++ nx ++ ny).toArray⟩)
        have hc1 : ¬9223372036854775807 < t.length + 2 := by omega
        have hc2 : ¬9223372036854775807 < t.length + 2 + nx.length := by omega
        have hc3 : ¬9223372036854775807 < t.length + 2 + nx.length + ny.length := by omega
        have HFR := hide (hfr.trans hf1)
        clear hfr hf1
        go_region_held3 (fun w' => w'.cell? ⟨g, 0, none⟩ = some (.int .i64 d.x0) ∧ w'.cell? ⟨g, 1, none⟩ = some (.int .i64 d.y0) ∧ Fr [] W1 w')
          ((exact HK0.out _ (by repeat (first | with_reducible exact Fr.refl _ _ | with_reducible assumption | with_reducible refine Fr.drewN ?_ _ | with_reducible refine Fr.drew ?_ | with_reducible refine Fr.alloc ?_ _ | ((with_reducible refine Fr.setCell ?_ ?_ _) <;> first | (apply Or.inl; simp; done) | (apply Or.inr; simp; done) | (apply Or.inr; simp; omega) | skip) | (refine Fr.then0 ?_ (by with_reducible assumption)) | (refine Fr.trans ?_ (by with_reducible assumption))))))
          (first
            | (go_simp; go_at_call 19; refine (HX.out _).mono ?_; rintro e w1 ⟨rfl, hf1⟩)
            | (go_simp; go_at_call 19; refine (HY.out _).mono ?_; rintro e w1 ⟨rfl, hf1⟩))
        all_goals
          go_wp2
          exact ⟨⟨k + 1, _, by omega, by go_num, congrArg Value.string HE.out, by simp only [List.length_append, List.length_cons, List.length_nil]; omega, HFR.out.trans (by repeat (first | with_reducible exact Fr.refl _ _ | with_reducible assumption | with_reducible refine Fr.drewN ?_ _ | with_reducible refine Fr.drew ?_ | with_reducible refine Fr.alloc ?_ _ | ((with_reducible refine Fr.setCell ?_ ?_ _) <;> first | (apply Or.inl; simp; done) | (apply Or.inr; simp; done) | (apply Or.inr; simp; omega) | skip) | (refine Fr.then0 ?_ (by with_reducible assumption)) | (refine Fr.trans ?_ (by with_reducible assumption)))), HF⟩, by simp [intOf]; omega⟩
      · go_wp2
        obtain ⟨g, hg⟩ : ∃ g, g = wr.heap.size := ⟨_, rfl⟩
        obtain ⟨W1, hW1⟩ : ∃ W1, W1 = wr.alloc (.cells #[.int .i64 d.x0, .int .i64 d.y0, .int .i64 d.x1, .int .i64 d.y1, .int .i64 d.x2, .int .i64 d.y2] 89) := ⟨_, rfl⟩
        have hB : Blk W1 g 89 #[.int .i64 d.x0, .int .i64 d.y0, .int .i64 d.x1, .int .i64 d.y1, .int .i64 d.x2, .int .i64 d.y2] := by rw [hW1, hg]; exact Blk.new _ _ _
        have hf1 : Fr [] wr W1 := by rw [hW1]; exact (by repeat (first | with_reducible exact Fr.refl _ _ | with_reducible assumption | with_reducible refine Fr.drewN ?_ _ | with_reducible refine Fr.drew ?_ | with_reducible refine Fr.alloc ?_ _ | ((with_reducible refine Fr.setCell ?_ ?_ _) <;> first | (apply Or.inl; simp; done) | (apply Or.inr; simp; done) | (apply Or.inr; simp; omega) | skip) | (refine Fr.then0 ?_ (by with_reducible assumption)) | (refine Fr.trans ?_ (by with_reducible assumption))))
        rw [← hW1, ← hg]
        clear hW1 hg a0 a1 a2 a3 a4 a5 a6
        generalize Value.agg #[.int .i64 d.x0, .int .i64 d.y0, .int .i64 d.x1, .int .i64 d.y1, .int .i64 d.x2, .int .i64 d.y2] = ag
        have hT : segT d = [32, 108] ++ numT d.x0 ++ numT d.y0 := by unfold segT; simp only [beq_iff_eq, beq_eq_false_iff_ne] at k1 k2 k3; simp [k1, k2, k3]
        have hx0 := numT_len d.x0
        have hy0 := numT_len d.y0
        have HX := hide (fun W => num26_any d.x0 W)
        have HY := hide (fun W => num26_any d.y0 W)
        have HF : Hid (t ++ [32, 108] ++ numT d.x0 ++ numT d.y0 = pathT (l.take (k + 1))) := hide (by rw [HSN.out, hT, hrel.out]; simp)
        have HK0 := hide (fun W (h : Fr [] W1 W) => (⟨(hB.keep h (by simp)).c6.1, (hB.keep h (by simp)).c6.2.1, h⟩ : W.cell? ⟨g, 0, none⟩ = some (.int .i64 d.x0) ∧ W.cell? ⟨g, 1, none⟩ = some (.int .i64 d.y0) ∧ Fr [] W1 W))
        obtain ⟨c0, c1, c2, c3, c4, c5, cz⟩ := hB.c6
        have HB := hide hB
        clear hT hB cz hrel
        generalize numT d.x0 = nx at *
        generalize numT d.y0 = ny at *
        have HE := hide (by rw [show (⟨#[32, 108]⟩ : ByteArray) = ⟨[32, 108].toArray⟩ from rfl, cat_str, cat_str, cat_str] : (⟨t.toArray⟩ : ByteArray) ++ ⟨#[32, 108]⟩ ++ ⟨nx.toArray⟩ ++ ⟨ny.toArray⟩ = ⟨(t ++ [32, 108] ++ nx ++ ny).toArray⟩)
        have hc1 : ¬9223372036854775807 < t.length + 2 := by omega
        have hc2 : ¬9223372036854775807 < t.length + 2 + nx.length := by omega
        have hc3 : ¬9223372036854775807 < t.length + 2 + nx.length + ny.length := by omega
        have HFR := hide (hfr.trans hf1)
        clear hfr hf1
        go_region_held3 (fun w' => w'.cell? ⟨g, 0, none⟩ = some (.int .i64 d.x0) ∧ w'.cell? ⟨g, 1, none⟩ = some (.int .i64 d.y0) ∧ Fr [] W1 w')
          ((exact HK0.out _ (by repeat (first | with_reducible exact Fr.refl _ _ | with_reducible assumption | with_reducible refine Fr.drewN ?_ _ | with_reducible refine Fr.drew ?_ | with_reducible refine Fr.alloc ?_ _ | ((with_reducible refine Fr.setCell ?_ ?_ _) <;> first | (apply Or.inl; simp; done) | (apply Or.inr; simp; done) | (apply Or.inr; simp; omega) | skip) | (refine Fr.then0 ?_ (by with_reducible assumption)) | (refine Fr.trans ?_ (by with_reducible assumption))))))
          (first
            | (go_simp; go_at_call 19; refine (HX.out _).mono ?_; rintro e w1 ⟨rfl, hf1⟩)
            | (go_simp; go_at_call 19; refine (HY.out _).mono ?_; rintro e w1 ⟨rfl, hf1⟩))
        all_goals
          go_wp2
          exact ⟨⟨k + 1, _, by omega, by go_num, congrArg Value.string HE.out, by simp only [List.length_append, List.length_cons, List.length_nil]; omega, HFR.out.trans (by repeat (first | with_reducible exact Fr.refl _ _ | with_reducible assumption | with_reducible refine Fr.drewN ?_ _ | with_reducible refine Fr.drew ?_ | with_reducible refine Fr.alloc ?_ _ | ((with_reducible refine Fr.setCell ?_ ?_ _) <;> first | (apply Or.inl; simp; done) | (apply Or.inr; simp; done) | (apply Or.inr; simp; omega) | skip) | (refine Fr.then0 ?_ (by with_reducible assumption)) | (refine Fr.trans ?_ (by with_reducible assumption)))), HF⟩, by simp [intOf]; omega⟩
      · have HE0 := hide (cat_str t [32, 99])
        have hc0 : ¬9223372036854775807 < t.length + 2 := by omega
        go_wp2
        obtain ⟨g, hg⟩ : ∃ g, g = wr.heap.size := ⟨_, rfl⟩
        obtain ⟨W1, hW1⟩ : ∃ W1, W1 = wr.alloc (.cells #[.int .i64 d.x0, .int .i64 d.y0, .int .i64 d.x1, .int .i64 d.y1, .int .i64 d.x2, .int .i64 d.y2] 89) := ⟨_, rfl⟩
        have hB : Blk W1 g 89 #[.int .i64 d.x0, .int .i64 d.y0, .int .i64 d.x1, .int .i64 d.y1, .int .i64 d.x2, .int .i64 d.y2] := by rw [hW1, hg]; exact Blk.new _ _ _
        have hf1 : Fr [] wr W1 := by rw [hW1]; exact (by repeat (first | with_reducible exact Fr.refl _ _ | with_reducible assumption | with_reducible refine Fr.drewN ?_ _ | with_reducible refine Fr.drew ?_ | with_reducible refine Fr.alloc ?_ _ | ((with_reducible refine Fr.setCell ?_ ?_ _) <;> first | (apply Or.inl; simp; done) | (apply Or.inr; simp; done) | (apply Or.inr; simp; omega) | skip) | (refine Fr.then0 ?_ (by with_reducible assumption)) | (refine Fr.trans ?_ (by with_reducible assumption))))
        rw [← hW1, ← hg]
        clear hW1 hg a0 a1 a2 a3 a4 a5 a6
        generalize Value.agg #[.int .i64 d.x0, .int .i64 d.y0, .int .i64 d.x1, .int .i64 d.y1, .int .i64 d.x2, .int .i64 d.y2] = ag
        have hT : segT d = [32, 99] ++ curT d 3 := by unfold segT curT; simp only [beq_iff_eq, beq_eq_false_iff_ne] at k1 k2 k3; simp [k3]
        have HF : Hid (t ++ [32, 99] ++ curT d 3 = pathT (l.take (k + 1))) := hide (by rw [HSN.out, hT, hrel.out]; simp)
        have HTL := hide (show (curT d 3).length ≤ 144 by have h1 := congrArg List.length hT; simp only [List.length_append, List.length_cons, List.length_nil] at h1; omega)
        have HFR := hide (hfr.trans hf1)
        have HHB := hide hB
        clear hT hrel hfr hf1 hB hc0
        rw [show (⟨t.toArray⟩ : ByteArray) ++ ⟨#[32, 99]⟩ = ⟨(t ++ [32, 99]).toArray⟩ from HE0.out]
        go_loopw [6, 3] (fun i s w2 => ∃ (m : Nat) (u : List UInt8), m ≤ 3 ∧ i = .int .i64 m ∧ s = .string ⟨u.toArray⟩ ∧ u.length ≤ t.length + 2 + 48 * m ∧ Fr [] W1 w2 ∧ Hid (u = t ++ [32, 99] ++ curT d m)) (fun i _ _ => 3 - (intOf i).toNat)
        case atStart => exact ⟨0, _, by omega, rfl, rfl, by simp, Fr.refl _ _, hide (by simp [curT])⟩
        case round =>
          obtain ⟨m, u, hm, rfl, rfl, hul, hfr2, hrel⟩ := hrel
          have hB := HHB.out.keep hfr2 (by simp)
          rcases (by omega : m = 0 ∨ m = 1 ∨ m = 2 ∨ m = 3) with rfl | rfl | rfl | rfl
          · rw [show ((0 : Nat) : Int) = 0 from rfl]
            have hx0 := numT_len d.x0
            have hy0 := numT_len d.y0
            have HX := hide (fun W => num26_any d.x0 W)
            have HY := hide (fun W => num26_any d.y0 W)
            have HF2 : Hid (u ++ numT d.x0 ++ numT d.y0 = t ++ [32, 99] ++ curT d 1) := hide (by rw [hrel.out]; simp [curT])
            obtain ⟨c0, c1, c2, c3, c4, c5, cz⟩ := hB.c6
            obtain ⟨wo, rfl⟩ : ∃ wo : World, wo = wr := ⟨_, rfl⟩
            have HK0 := hide (fun W (h : Fr [] wo W) => (⟨h.cell c0 (by simp), h.cell c1 (by simp), h⟩ : W.cell? ⟨g, 0, none⟩ = some (.int .i64 d.x0) ∧ W.cell? ⟨g, 1, none⟩ = some (.int .i64 d.y0) ∧ Fr [] wo W))
            have HFR2 := hide hfr2
            clear hB cz hrel hfr2
            generalize numT d.x0 = nx at *
            generalize numT d.y0 = ny at *
            have HE := hide (by rw [cat_str, cat_str] : (⟨u.toArray⟩ : ByteArray) ++ ⟨nx.toArray⟩ ++ ⟨ny.toArray⟩ = ⟨(u ++ nx ++ ny).toArray⟩)
            have hc2 : ¬9223372036854775807 < u.length + nx.length := by omega
            have hc3 : ¬9223372036854775807 < u.length + nx.length + ny.length := by omega
            go_wp2
            go_region_held3 (fun w' => w'.cell? ⟨g, 0, none⟩ = some (.int .i64 d.x0) ∧ w'.cell? ⟨g, 1, none⟩ = some (.int .i64 d.y0) ∧ Fr [] wo w')
              ((exact HK0.out _ (by repeat (first | with_reducible exact Fr.refl _ _ | with_reducible assumption | with_reducible refine Fr.drewN ?_ _ | with_reducible refine Fr.drew ?_ | with_reducible refine Fr.alloc ?_ _ | ((with_reducible refine Fr.setCell ?_ ?_ _) <;> first | (apply Or.inl; simp; done) | (apply Or.inr; simp; done) | (apply Or.inr; simp; omega) | skip) | (refine Fr.then0 ?_ (by with_reducible assumption)) | (refine Fr.trans ?_ (by with_reducible assumption))))))
              (first
                | (go_simp; go_at_call 19; refine (HX.out _).mono ?_; rintro e w1 ⟨rfl, hf1⟩)
                | (go_simp; go_at_call 19; refine (HY.out _).mono ?_; rintro e w1 ⟨rfl, hf1⟩))
            all_goals
              go_wp2
              exact ⟨⟨1, _, by omega, rfl, congrArg Value.string HE.out, by simp only [List.length_append]; omega, HFR2.out.trans (by repeat (first | with_reducible exact Fr.refl _ _ | with_reducible assumption | with_reducible refine Fr.drewN ?_ _ | with_reducible refine Fr.drew ?_ | with_reducible refine Fr.alloc ?_ _ | ((with_reducible refine Fr.setCell ?_ ?_ _) <;> first | (apply Or.inl; simp; done) | (apply Or.inr; simp; done) | (apply Or.inr; simp; omega) | skip) | (refine Fr.then0 ?_ (by with_reducible assumption)) | (refine Fr.trans ?_ (by with_reducible assumption)))), HF2⟩, by simp [intOf]⟩
          · rw [show ((1 : Nat) : Int) = 1 from rfl]
            have hx0 := numT_len d.x1
            have hy0 := numT_len d.y1
            have HX := hide (fun W => num26_any d.x1 W)
            have HY := hide (fun W => num26_any d.y1 W)
            have HF2 : Hid (u ++ numT d.x1 ++ numT d.y1 = t ++ [32, 99] ++ curT d 2) := hide (by rw [hrel.out]; simp [curT])
            obtain ⟨c0, c1, c2, c3, c4, c5, cz⟩ := hB.c6
            obtain ⟨wo, rfl⟩ : ∃ wo : World, wo = wr := ⟨_, rfl⟩
            have HK0 := hide (fun W (h : Fr [] wo W) => (⟨h.cell c2 (by simp), h.cell c3 (by simp), h⟩ : W.cell? ⟨g, 2, none⟩ = some (.int .i64 d.x1) ∧ W.cell? ⟨g, 3, none⟩ = some (.int .i64 d.y1) ∧ Fr [] wo W))
            have HFR2 := hide hfr2
            clear hB cz hrel hfr2
            generalize numT d.x1 = nx at *
            generalize numT d.y1 = ny at *
            have HE := hide (by rw [cat_str, cat_str] : (⟨u.toArray⟩ : ByteArray) ++ ⟨nx.toArray⟩ ++ ⟨ny.toArray⟩ = ⟨(u ++ nx ++ ny).toArray⟩)
            have hc2 : ¬9223372036854775807 < u.length + nx.length := by omega
            have hc3 : ¬9223372036854775807 < u.length + nx.length + ny.length := by omega
            go_wp2
            go_region_held3 (fun w' => w'.cell? ⟨g, 2, none⟩ = some (.int .i64 d.x1) ∧ w'.cell? ⟨g, 3, none⟩ = some (.int .i64 d.y1) ∧ Fr [] wo w')
              ((exact HK0.out _ (by repeat (first | with_reducible exact Fr.refl _ _ | with_reducible assumption | with_reducible refine Fr.drewN ?_ _ | with_reducible refine Fr.drew ?_ | with_reducible refine Fr.alloc ?_ _ | ((with_reducible refine Fr.setCell ?_ ?_ _) <;> first | (apply Or.inl; simp; done) | (apply Or.inr; simp; done) | (apply Or.inr; simp; omega) | skip) | (refine Fr.then0 ?_ (by with_reducible assumption)) | (refine Fr.trans ?_ (by with_reducible assumption))))))
              (first
                | (go_simp; go_at_call 19; refine (HX.out _).mono ?_; rintro e w1 ⟨rfl, hf1⟩)
                | (go_simp; go_at_call 19; refine (HY.out _).mono ?_; rintro e w1 ⟨rfl, hf1⟩))
            all_goals
              go_wp2
              exact ⟨⟨2, _, by omega, rfl, congrArg Value.string HE.out, by simp only [List.length_append]; omega, HFR2.out.trans (by repeat (first | with_reducible exact Fr.refl _ _ | with_reducible assumption | with_reducible refine Fr.drewN ?_ _ | with_reducible refine Fr.drew ?_ | with_reducible refine Fr.alloc ?_ _ | ((with_reducible refine Fr.setCell ?_ ?_ _) <;> first | (apply Or.inl; simp; done) | (apply Or.inr; simp; done) | (apply Or.inr; simp; omega) | skip) | (refine Fr.then0 ?_ (by with_reducible assumption)) | (refine Fr.trans ?_ (by with_reducible assumption)))), HF2⟩, by simp [intOf]⟩
          · rw [show ((2 : Nat) : Int) = 2 from rfl]
            have hx0 := numT_len d.x2
            have hy0 := numT_len d.y2
            have HX := hide (fun W => num26_any d.x2 W)
            have HY := hide (fun W => num26_any d.y2 W)
            have HF2 : Hid (u ++ numT d.x2 ++ numT d.y2 = t ++ [32, 99] ++ curT d 3) := hide (by rw [hrel.out]; simp [curT])
            obtain ⟨c0, c1, c2, c3, c4, c5, cz⟩ := hB.c6
            obtain ⟨wo, rfl⟩ : ∃ wo : World, wo = wr := ⟨_, rfl⟩
            have HK0 := hide (fun W (h : Fr [] wo W) => (⟨h.cell c4 (by simp), h.cell c5 (by simp), h⟩ : W.cell? ⟨g, 4, none⟩ = some (.int .i64 d.x2) ∧ W.cell? ⟨g, 5, none⟩ = some (.int .i64 d.y2) ∧ Fr [] wo W))
            have HFR2 := hide hfr2
            clear hB cz hrel hfr2
            generalize numT d.x2 = nx at *
            generalize numT d.y2 = ny at *
            have HE := hide (by rw [cat_str, cat_str] : (⟨u.toArray⟩ : ByteArray) ++ ⟨nx.toArray⟩ ++ ⟨ny.toArray⟩ = ⟨(u ++ nx ++ ny).toArray⟩)
            have hc2 : ¬9223372036854775807 < u.length + nx.length := by omega
            have hc3 : ¬9223372036854775807 < u.length + nx.length + ny.length := by omega
            go_wp2
            go_region_held3 (fun w' => w'.cell? ⟨g, 4, none⟩ = some (.int .i64 d.x2) ∧ w'.cell? ⟨g, 5, none⟩ = some (.int .i64 d.y2) ∧ Fr [] wo w')
              ((exact HK0.out _ (by repeat (first | with_reducible exact Fr.refl _ _ | with_reducible assumption | with_reducible refine Fr.drewN ?_ _ | with_reducible refine Fr.drew ?_ | with_reducible refine Fr.alloc ?_ _ | ((with_reducible refine Fr.setCell ?_ ?_ _) <;> first | (apply Or.inl; simp; done) | (apply Or.inr; simp; done) | (apply Or.inr; simp; omega) | skip) | (refine Fr.then0 ?_ (by with_reducible assumption)) | (refine Fr.trans ?_ (by with_reducible assumption))))))
              (first
                | (go_simp; go_at_call 19; refine (HX.out _).mono ?_; rintro e w1 ⟨rfl, hf1⟩)
                | (go_simp; go_at_call 19; refine (HY.out _).mono ?_; rintro e w1 ⟨rfl, hf1⟩))
            all_goals
              go_wp2
              exact ⟨⟨3, _, by omega, rfl, congrArg Value.string HE.out, by simp only [List.length_append]; omega, HFR2.out.trans (by repeat (first | with_reducible exact Fr.refl _ _ | with_reducible assumption | with_reducible refine Fr.drewN ?_ _ | with_reducible refine Fr.drew ?_ | with_reducible refine Fr.alloc ?_ _ | ((with_reducible refine Fr.setCell ?_ ?_ _) <;> first | (apply Or.inl; simp; done) | (apply Or.inr; simp; done) | (apply Or.inr; simp; omega) | skip) | (refine Fr.then0 ?_ (by with_reducible assumption)) | (refine Fr.trans ?_ (by with_reducible assumption)))), HF2⟩, by simp [intOf]⟩
          · rw [show ((3 : Nat) : Int) = 3 from rfl]
            have HF2 : Hid (u = pathT (l.take (k + 1))) := hide (by rw [← HF.out]; exact hrel.out)
            clear hrel
            go_wp2
            exact ⟨⟨k + 1, u, by omega, by go_num, rfl, by omega, HFR.out.trans hfr2, HF2⟩, by simp [intOf]; omega⟩
      · have hT : segT d = [32, 104] := by unfold segT; simp only [beq_iff_eq, beq_eq_false_iff_ne] at k1 k2 k3; simp [k1, k2, k3]
        have HF : Hid (t ++ [32, 104] = pathT (l.take (k + 1))) := hide (by rw [HSN.out, hT, hrel.out])
        have HE := hide (cat_str t [32, 104])
        have hc1 : ¬9223372036854775807 < t.length + 2 := by omega
        clear hT hrel
        go_wp2
        exact ⟨⟨k + 1, t ++ [32, 104], by omega, by go_num, congrArg Value.string HE.out, by simp; omega, hfr.trans ((Fr.refl _ _).alloc _), HF⟩, by simp [intOf]; omega⟩
    · have hdk : decide ((k : Int) < (n : Int)) = false := by simp; omega
      have HF : Hid (t = R) := hide (by rw [hrel.out, HR.out, List.take_of_length_le (by rw [HLN.out]; omega)])
      go_wp2
      go_ret
      exact ⟨by rw [← HF.out]; rfl, hfr⟩
end Go.Proofs.YtndfdekcdhlgoaaDoor
namespace Go.Proofs.YtndfdekcdhlgoaaDoor
open Go.RowKit
theorem clipsT_snoc {l : List ClipD} {k : Nat} {d : ClipD} (h : l[k]? = some d) : clipsT (l.take (k + 1)) = clipsT (l.take k) ++ clipT d := by
  rw [take_snoc h]; simp [clipsT]
theorem clipsT_take (l : List ClipD) (k : Nat) : (clipsT (l.take k)).length ≤ (clipsT l).length := by
  have h : clipsT l = clipsT (l.take k) ++ clipsT (l.drop k) := by unfold clipsT; rw [← List.flatMap_append, List.take_append_drop]
  rw [h, List.length_append]; omega
theorem numsT_snoc {l : List Int} {k : Nat} {d : Int} (h : l[k]? = some d) : numsT (l.take (k + 1)) = numsT (l.take k) ++ numT d := by
  rw [take_snoc h]; simp [numsT]
theorem clip_path {l : List ClipD} (h : clipsB l = true) {d : ClipD} (hd : d ∈ l) : d.path.length ≤ 4096 := by
  unfold clipsB at h
  simp only [Bool.and_eq_true, List.all_eq_true] at h
  have h1 := h.2 d hd
  unfold clipB pathB at h1
  simp only [Bool.and_eq_true, decide_eq_true_eq] at h1
  exact h1.2.1
theorem item4_font {d : ItemD} (h : itemB d = true) (hk : d.kind = 4) : 0 ≤ d.font ∧ d.font ≤ 13 := by
  unfold itemB at h
  simp only [Bool.and_eq_true] at h
  have h1 := h.2
  rw [if_pos hk] at h1
  simp only [Bool.and_eq_true, decide_eq_true_eq] at h1
  omega
theorem item3_pen {d : ItemD} (h : itemB d = true) (hk : d.kind = 3) : (0 ≤ d.pen.cap ∧ d.pen.cap ≤ 2) ∧ (0 ≤ d.pen.join ∧ d.pen.join ≤ 2) ∧ d.pen.dash.length ≤ 11 := by
  unfold itemB at h
  simp only [Bool.and_eq_true] at h
  have h1 := h.2
  rw [if_neg (by omega), if_pos hk] at h1
  simp only [Bool.and_eq_true, decide_eq_true_eq] at h1
  have h2 := h1.2
  unfold penB at h2
  simp only [Bool.and_eq_true, decide_eq_true_eq] at h2
  omega
def hexL : List UInt8 := [48, 49, 50, 51, 52, 53, 54, 55, 56, 57, 97, 98, 99, 100, 101, 102]
theorem hex_slice (n : Nat) (hn : n < 16) (w : World) : (Instr.slice 9 (.string ⟨#[48, 49, 50, 51, 52, 53, 54, 55, 56, 57, 97, 98, 99, 100, 101, 102]⟩) (some (.int .u8 (n : Int))) (some (.int .u8 ((n : Int) + 1))) none).run Tryd.prog w = .ok (.string ⟨#[hexC n]⟩) w := by
  have hx : ∀ n, n < 16 → ((hexL.take (n + 1)).drop n) = [hexC n] := by decide
  have h1 := run_slice_string_if (P := Tryd.prog) w 9 ⟨hexL.toArray⟩ .u8 .u8 (n : Int) ((n : Int) + 1) Tryd.underlying9
  rw [if_pos ⟨by omega, by rw [size_str]; show (n : Int) + 1 ≤ ((16 : Nat) : Int); omega⟩, if_pos ⟨by omega, by omega⟩, extract_str] at h1
  have e1 : ((n : Int) + 1).toNat = n + 1 := by omega
  rw [e1, Int.toNat_natCast, hx n hn] at h1
  exact h1
theorem byteT_snoc {l : List UInt8} {k : Nat} {x : UInt8} (h : l[k]? = some x) : (l.take (k + 1)).flatMap byteT = (l.take k).flatMap byteT ++ byteT x := by
  rw [take_snoc h]; simp
end Go.Proofs.YtndfdekcdhlgoaaDoor
