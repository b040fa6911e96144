/- Pages that came in: no slice is longer than memory. -/
import Derived.Test.YtndfdekcdhlgoaaDoorScOpenG
import Derived.Test.YtndfdekcdhlgoaaDoorScL26L
set_option linter.unusedVariables false
set_option linter.unusedSimpArgs false
namespace Go.Proofs.YtndfdekcdhlgoaaDoor
open Go.ChangeShapes Go.WideShapes Go.RowKit
/-- All weights lie within memory. -/
def Within (l : List Nat) : Prop := l.all (· ≤ reachBytes) = true
theorem Within.app {a b : List Nat} : Within (a ++ b) ↔ Within a ∧ Within b := by
  unfold Within; rw [List.all_append, Bool.and_eq_true]
theorem Within.cons {a : Nat} {b : List Nat} : Within (a :: b) ↔ a ≤ reachBytes ∧ Within b := by
  unfold Within; rw [List.all_cons, Bool.and_eq_true, decide_eq_true_eq]
section
variable {H : Type} {enc : TypeId × Value → H} {P : Program} {w : World} {base : Nat} {spare : Nat → Bool} {held : Bool}
theorem within_mem {e : TypeId} : ∀ {l : List (DataW H)}, Within (DataW.weightsAll P e l) → ∀ d ∈ l, Within (d.weights P e)
  | [], _, d, hd => by simp at hd
  | a :: l, h, d, hd => by
    simp only [DataW.weightsAll, Within.app] at h
    rcases List.mem_cons.1 hd with rfl | hd
    · exact h.1
    · exact within_mem h.2 d hd
theorem len_w {t e : TypeId} {fuel n c : Nat} {A : Option Addr} {x : DataW H × List MemPlace} (ht : P.underlying t = some (.slice e)) (hb : 0 < P.bytesOf e) (h : DataW.trod enc P w base spare held fuel t [.slice A n c] = some x) (hw : Within (x.1.weights P t)) : n ≤ 140737488355328 := by
  rcases DataW.trod_slice ht h with ⟨e1, rfl⟩ | ⟨a, len, cap, elems, rest, m, hfu, e1, rfl, _, _, _, hlen, _, _⟩
  · simp only [List.cons.injEq, Value.slice.injEq, and_true] at e1
    omega
  · simp only [List.cons.injEq, Value.slice.injEq, and_true] at e1
    simp only [DataW.weights, ht, Within.cons, List.length_map] at hw
    have h1 := hw.1
    have h2 : n ≤ (elems.length + rest.length) * P.bytesOf e := Nat.le_trans (by omega) (Nat.le_mul_of_pos_right _ hb)
    have h3 : reachBytes = 140737488351232 := rfl
    omega
theorem open_cells_w {t e : TypeId} {fuel size : Nat} {cs : List Value} {x : DataW H × List MemPlace} (ht : P.underlying t = some (.slice e)) (hsz : P.cellsOf e = size) (h : DataW.trod enc P w base spare held fuel t cs = some x) (hw : Within (x.1.weights P t)) :
    ∃ (A : Option Addr) (n c : Nat) (css : List (List Value)), cs = [.slice A n c] ∧ n ≤ c ∧ c ≤ maxLen ∧ css.length = n ∧ Rd w (fun _ => True) size A n css.flatten ∧
      ∀ (i : Nat) cs', css[i]? = some cs' → cs'.length = size ∧ ∃ g y, DataW.trod enc P w base spare held g e cs' = some y ∧ Within (y.1.weights P e) := by
  rcases DataW.trod_slice ht h with ⟨rfl, rfl⟩ | ⟨a, len, cap, elems, rest, n, hfu, rfl, rfl, hb, hl, hm, hlen, hel, _⟩
  · exact ⟨none, 0, 0, [], rfl, Nat.le_refl _, Nat.zero_le _, rfl, Rd.nil, by intro i cs' h; simp at h⟩
  · simp only [DataW.weights, ht, Within.cons, Within.app] at hw
    have key : ∀ i, ∃ cs' : List Value, i < len → w.cells? base (a.add (i * P.cellsOf e)) (P.cellsOf e) = some cs' ∧ ∃ y, elems[i]? = some y ∧ DataW.trod enc P w base spare held n e cs' = some y := by
      intro i
      by_cases hi : i < len
      · have := hel i hi
        have he : elems[i]? = some (elems[i]'(by omega)) := List.getElem?_eq_getElem (by omega)
        rw [he] at this
        obtain ⟨cs', h1, h2⟩ := Option.bind_eq_some_iff.1 this
        exact ⟨cs', fun _ => ⟨h1, _, he, h2⟩⟩
      · exact ⟨[], fun h => absurd h hi⟩
    obtain ⟨f, hf⟩ := Classical.skolem.1 key
    have hget : ∀ (i : Nat) cs', ((List.range len).map f)[i]? = some cs' → i < len ∧ cs' = f i := by
      intro i cs' h
      rw [List.getElem?_map] at h
      cases hr : (List.range len)[i]? with
      | none => rw [hr] at h; simp at h
      | some j =>
        rw [hr] at h
        obtain ⟨h1, h2⟩ := List.getElem?_eq_some_iff.1 hr
        simp at h1 h2 h
        subst h2
        exact ⟨h1, h.symm⟩
    have hlens : ∀ cs' ∈ (List.range len).map f, cs'.length = size := by
      intro cs' hm
      obtain ⟨i, hi, rfl⟩ := List.mem_map.1 hm
      rw [← hsz]
      exact (World.cells?_some (hf i (by simpa using hi)).1).2.1
    refine ⟨some a, len, cap, (List.range len).map f, rfl, hl, hm, by simp, ⟨by rw [flatten_len size _ hlens]; simp, fun _ => ⟨a, rfl, trivial, fun j u hu => ?_⟩⟩, fun i cs' h => ?_⟩
    · obtain ⟨i, k, cs', h1, h2, h3, h4⟩ := flatten_at size _ hlens j u hu
      obtain ⟨hi, rfl⟩ := hget i cs' h1
      have := (World.cells?_some (hf i hi).1).2.2 k (by rw [hsz]; exact h4)
      rw [add_of_add, h2, hsz] at this
      rw [h3]
      exact this
    · obtain ⟨hi, rfl⟩ := hget i cs' h
      obtain ⟨y, hy1, hy2⟩ := (hf i hi).2
      exact ⟨hlens _ (List.mem_of_getElem? h), n, y, hy2, within_mem hw.2.1 _ (List.mem_map.2 ⟨y, List.mem_of_getElem? hy1, rfl⟩)⟩
/-- A slice of what can be told of each element. -/
theorem open_list_w {D : Type} {t e : TypeId} {size : Nat} (hz : 0 < size) {R : List Value → D → Prop} {Q : D → Prop} (ht : P.underlying t = some (.slice e)) (hsz : P.cellsOf e = size) (hb : 0 < P.bytesOf e)
    (hel : ∀ (g : Nat) cs' (y : DataW H × List MemPlace), DataW.trod enc P w base spare held g e cs' = some y → Within (y.1.weights P e) → ∃ d, R cs' d ∧ Q d)
    {fuel : Nat} {cs : List Value} {x : DataW H × List MemPlace} (h : DataW.trod enc P w base spare held fuel t cs = some x) (hw : Within (x.1.weights P t)) :
    ∃ (A : Option Addr) (n c : Nat) (ds : List D), cs = [.slice A n c] ∧ n ≤ c ∧ c ≤ maxLen ∧ LR w (fun g => g < w.heap.size) size R A n ds ∧ ds.length ≤ 140737488355328 ∧ ∀ d ∈ ds, Q d := by
  obtain ⟨A, n, c, css, h1, h2, h3, h4, h5, h6⟩ := open_cells_w ht hsz h hw
  have hlen := len_w ht hb (h1 ▸ h) hw
  have key : ∀ (css : List (List Value)), (∀ (i : Nat) cs', css[i]? = some cs' → cs'.length = size ∧ ∃ g y, DataW.trod enc P w base spare held g e cs' = some y ∧ Within (y.1.weights P e)) →
      ∃ ds : List D, ds.length = css.length ∧ (∀ (i : Nat) d, ds[i]? = some d → ∃ cs', css[i]? = some cs' ∧ R cs' d) ∧ ∀ d ∈ ds, Q d := by
    intro css
    induction css with
    | nil => exact fun _ => ⟨[], rfl, fun i d h => by simp at h, fun d h => by simp at h⟩
    | cons cs0 css ih =>
      intro h
      obtain ⟨hc0, g, y, hy, hyw⟩ := h 0 cs0 rfl
      obtain ⟨d, hd, hq⟩ := hel g cs0 y hy hyw
      obtain ⟨ds, hk, hr, hb⟩ := ih (fun i cs' hi => by simpa using h (i + 1) cs' (by simpa using hi))
      refine ⟨d :: ds, by simp [hk], fun i d' hi => ?_, fun d' hm => ?_⟩
      · cases i with
        | zero => simp at hi; subst hi; exact ⟨cs0, rfl, hd⟩
        | succ i => simpa using hr i d' (by simpa using hi)
      · rcases List.mem_cons.1 hm with rfl | hm
        · exact hq
        · exact hb d' hm
  obtain ⟨ds, hk, hr, hq⟩ := key css h6
  have hlens : ∀ cs ∈ css, cs.length = size := by
    intro cs hm
    obtain ⟨i, hi⟩ := List.getElem?_of_mem hm
    exact (h6 i cs hi).1
  refine ⟨A, n, c, ds, h1, h2, h3, ⟨by omega, fun hn => ?_⟩, by omega, hq⟩
  obtain ⟨ad, e', _, hc⟩ := h5.2 (Nat.mul_pos hn hz)
  have hat : ∀ (i : Nat) cs', css[i]? = some cs' → ∀ j u, cs'[j]? = some u → w.cell? (ad.add (i * size + j)) = some u := fun i cs' hi j u hu => hc _ _ (flatten_get size css hlens i j cs' u hi hu)
  refine ⟨ad, e', ?_, fun i d hd => ?_⟩
  · have hl : 0 < css.length := by omega
    have hz0 : css[0]? = some css[0] := List.getElem?_eq_getElem hl
    have hl0 : 0 < css[0].length := by rw [hlens _ (List.getElem_mem hl)]; exact hz
    have := World.block_lt_of_cell? w _ (hat 0 _ hz0 0 _ (List.getElem?_eq_getElem hl0))
    rwa [block_of_add] at this
  · obtain ⟨cs', hi, hR⟩ := hr i d hd
    exact ⟨cs', hlens _ (List.mem_of_getElem? hi), hR, hat i cs' hi⟩
end
section
variable {H : Type} {enc : TypeId × Value → H} {w : World} {base : Nat} {spare : Nat → Bool} {held : Bool}
set_option maxRecDepth 100000
theorem open_path_w (fuel : Nat) (cs : List Value) (x : DataW H × List MemPlace) (h : DataW.trod enc Tryd.prog w base spare held fuel 32 cs = some x) (hw : Within (x.1.weights Tryd.prog 32)) :
    ∃ (A : Option Addr) (n c : Nat) (ds : List SegD), cs = [.slice A n c] ∧ n ≤ c ∧ c ≤ maxLen ∧ LR w (fun g => g < w.heap.size) 7 SegC A n ds ∧ ds.length ≤ 140737488355328 := by
  obtain ⟨A, n, c, ds, h1, h2, h3, h4, _⟩ := open_path _ _ _ h
  have := len_w Tryd.underlying32 (of_decide_eq_true (by kernel_rfl)) (h1 ▸ h) hw
  exact ⟨A, n, c, ds, h1, h2, h3, h4, by rw [h4.len]; exact this⟩
theorem open_clip_w (fuel : Nat) (cs : List Value) (x : DataW H × List MemPlace) (h : DataW.trod enc Tryd.prog w base spare held fuel 45 cs = some x) (hw : Within (x.1.weights Tryd.prog 45)) : ∃ d, ClipC w (fun g => g < w.heap.size) cs d ∧ d.path.length ≤ 140737488355328 := by
  obtain ⟨ys, n, hfu, hx, hlen, hys, hf⟩ := DataW.trod_struct Tryd.underlying45 h
  rw [cells_clip] at hlen
  match cs, hlen, ys, hys with
  | [c0, c1], _, [y0, y1], _ =>
    have h0 : DataW.trod enc Tryd.prog w base spare held n 32 [c0] = some y0 := by simpa [cells_segs] using hf 0 _ rfl
    have h1 : DataW.trod enc Tryd.prog w base spare held n 4 [c1] = some y1 := by simpa [cells_bool] using hf 1 _ rfl
    rw [hx] at hw
    simp only [List.map_cons, List.map_nil, DataW.weights, Tryd.underlying45, DataW.weightsEach, Within.app] at hw
    obtain ⟨A, k, c, ds, q0, a1, a2, a3, a4⟩ := open_path_w _ _ _ h0 hw.1
    obtain ⟨b, q1, _⟩ := DataW.trod_bool Tryd.underlying4 h1
    injection q0 with q0 _
    injection q1 with q1 _
    subst q0 q1
    exact ⟨⟨ds, b⟩, ⟨A, k, c, rfl, a1, a2, a3⟩, a4⟩
theorem open_pen_w (fuel : Nat) (cs : List Value) (x : DataW H × List MemPlace) (h : DataW.trod enc Tryd.prog w base spare held fuel 39 cs = some x) (hw : Within (x.1.weights Tryd.prog 39)) :
    ∃ (d : PenD) (A : Option Addr) (n c : Nat), cs = [.int .i64 d.width, .int .i64 d.cap, .int .i64 d.join, .int .i64 d.miter, .slice A n c, .int .i64 d.phase] ∧ n ≤ c ∧ c ≤ maxLen ∧ Rd w (fun g => g < w.heap.size) 1 A n (d.dash.map (Value.int .i64)) ∧ d.dash.length ≤ 140737488355328 := by
  obtain ⟨ys, n, hfu, hx, hlen, hys, hf⟩ := DataW.trod_struct Tryd.underlying39 h
  rw [cells_pen] at hlen
  match cs, hlen, ys, hys with
  | [c0, c1, c2, c3, c4, c5], _, [y0, y1, y2, y3, y4, y5], _ =>
    have h0 : DataW.trod enc Tryd.prog w base spare held n 3 [c0] = some y0 := by simpa [cells_int] using hf 0 _ rfl
    have h1 : DataW.trod enc Tryd.prog w base spare held n 3 [c1] = some y1 := by simpa [cells_int] using hf 1 _ rfl
    have h2 : DataW.trod enc Tryd.prog w base spare held n 3 [c2] = some y2 := by simpa [cells_int] using hf 2 _ rfl
    have h3 : DataW.trod enc Tryd.prog w base spare held n 3 [c3] = some y3 := by simpa [cells_int] using hf 3 _ rfl
    have h4 : DataW.trod enc Tryd.prog w base spare held n 37 [c4] = some y4 := by simpa [cells_ints] using hf 4 _ rfl
    have h5 : DataW.trod enc Tryd.prog w base spare held n 3 [c5] = some y5 := by simpa [cells_int] using hf 5 _ rfl
    rw [hx] at hw
    simp only [List.map_cons, List.map_nil, DataW.weights, Tryd.underlying39, DataW.weightsEach, Within.app] at hw
    obtain ⟨z0, q0, _, _⟩ := DataW.trod_int Tryd.underlying3 h0
    obtain ⟨z1, q1, _, _⟩ := DataW.trod_int Tryd.underlying3 h1
    obtain ⟨z2, q2, _, _⟩ := DataW.trod_int Tryd.underlying3 h2
    obtain ⟨z3, q3, _, _⟩ := DataW.trod_int Tryd.underlying3 h3
    obtain ⟨A, k, c, zs, q4, a1, a2, a3, a4⟩ := open_ints Tryd.underlying37 Tryd.underlying3 cells_int h4
    obtain ⟨z5, q5, _, _⟩ := DataW.trod_int Tryd.underlying3 h5
    have hk := len_w Tryd.underlying37 (of_decide_eq_true (by kernel_rfl)) (q4 ▸ h4) hw.2.2.2.2.1
    simp only [List.cons.injEq, and_true] at q0 q1 q2 q3 q4 q5
    subst q0 q1 q2 q3 q4 q5
    exact ⟨⟨z0, z1, z2, z3, zs, z5⟩, A, k, c, rfl, a1, a2, a3, by have := a3.1; simp at this; show zs.length ≤ _; omega⟩
theorem open_item_w (fuel : Nat) (cs : List Value) (x : DataW H × List MemPlace) (h : DataW.trod enc Tryd.prog w base spare held fuel 43 cs = some x) (hw : Within (x.1.weights Tryd.prog 43)) : ∃ d, ItemC w (fun g => g < w.heap.size) cs d ∧ MildI d := by
  obtain ⟨ys, n, hfu, hx, hlen, hys, hf⟩ := DataW.trod_struct Tryd.underlying43 h
  rw [cells_item] at hlen
  match cs, hlen, ys, hys with
  | [c0, c1, c2, c3, c4, c5, c6, c7, c8, c9, c10, c11, c12, c13, c14, c15, c16, c17, c18, c19, c20, c21], _, [y0, y1, y2, y3, y4, y5, y6, y7], _ =>
    have h0 : DataW.trod enc Tryd.prog w base spare held n 3 [c0] = some y0 := by simpa [cells_int] using hf 0 _ rfl
    have h1 : DataW.trod enc Tryd.prog w base spare held n 32 [c1] = some y1 := by simpa [cells_segs] using hf 1 _ rfl
    have h2 : DataW.trod enc Tryd.prog w base spare held n 35 [c2, c3, c4, c5, c6] = some y2 := by simpa [cells_col] using hf 2 _ rfl
    have h3 : DataW.trod enc Tryd.prog w base spare held n 36 [c7] = some y3 := by simpa [cells_clips] using hf 3 _ rfl
    have h4 : DataW.trod enc Tryd.prog w base spare held n 39 [c8, c9, c10, c11, c12, c13] = some y4 := by simpa [cells_pen] using hf 4 _ rfl
    have h5 : DataW.trod enc Tryd.prog w base spare held n 3 [c14] = some y5 := by simpa [cells_int] using hf 5 _ rfl
    have h6 : DataW.trod enc Tryd.prog w base spare held n 40 [c15, c16, c17, c18, c19, c20] = some y6 := by simpa [cells_a6] using hf 6 _ rfl
    have h7 : DataW.trod enc Tryd.prog w base spare held n 41 [c21] = some y7 := by simpa [cells_bytes] using hf 7 _ rfl
    rw [hx] at hw
    simp only [List.map_cons, List.map_nil, DataW.weights, Tryd.underlying43, DataW.weightsEach, Within.app] at hw
    obtain ⟨_, w1, _, w3, w4, _, _, w7, _⟩ := hw
    obtain ⟨kd, q0, _, _⟩ := DataW.trod_int Tryd.underlying3 h0
    obtain ⟨Ap, np, cp, ps, q1, p1, p2, p3, p4⟩ := open_path_w _ _ _ h1 w1
    obtain ⟨col, q2⟩ := open_col _ _ _ h2
    obtain ⟨Ac, nc, cc, cl, q3, r1, r2, r3, r4, r5⟩ := open_list_w (Q := fun d : ClipD => d.path.length ≤ 140737488355328) (by omega) Tryd.underlying36 cells_clip (of_decide_eq_true (by kernel_rfl)) (fun g cs' y hy hyw => open_clip_w g cs' y hy hyw) h3 w3
    obtain ⟨pen, Ad, nd, cd, q4, d1, d2, d3, d4⟩ := open_pen_w _ _ _ h4 w4
    obtain ⟨fo, q5, _, _⟩ := DataW.trod_int Tryd.underlying3 h5
    obtain ⟨zs, q6, hzs⟩ := open_intarr Tryd.underlying40 Tryd.underlying3 cells_int cells_a6 h6
    obtain ⟨Ab, nb, cb, bs, q7, b1, b2, b3, _⟩ := open_bytes Tryd.underlying41 Tryd.underlying5 cells_u8 h7
    have hk := len_w Tryd.underlying41 (of_decide_eq_true (by kernel_rfl)) (q7 ▸ h7) w7
    match zs, hzs with
    | [z0, z1, z2, z3, z4, z5], _ =>
      simp only [List.map_cons, List.map_nil, List.cons.injEq, and_true] at q0 q1 q2 q3 q4 q5 q6 q7
      obtain ⟨rfl, rfl, rfl, rfl, rfl⟩ := q2
      obtain ⟨rfl, rfl, rfl, rfl, rfl, rfl⟩ := q4
      obtain ⟨rfl, rfl, rfl, rfl, rfl, rfl⟩ := q6
      subst q0 q1 q3 q5 q7
      exact ⟨⟨kd, ps, col, cl, pen, fo, ⟨z0, z1, z2, z3, z4, z5⟩, bs⟩, ⟨Ap, np, cp, Ac, nc, cc, Ad, nd, cd, Ab, nb, cb, rfl, ⟨p3, r3, d3, b3.more fun g hg _ => hg, ⟨p1, p2⟩, ⟨r1, r2⟩, ⟨d1, d2⟩, ⟨b1, b2⟩⟩⟩,
        p4, by show bs.length ≤ _; rw [b3.len]; exact hk, d4, r4, r5⟩
theorem open_page_w (fuel : Nat) (cs : List Value) (x : DataW H × List MemPlace) (h : DataW.trod enc Tryd.prog w base spare held fuel 31 cs = some x) (hw : Within (x.1.weights Tryd.prog 31)) : ∃ d, PageC w (fun g => g < w.heap.size) cs d ∧ MildP d := by
  obtain ⟨ys, n, hfu, hx, hlen, hys, hf⟩ := DataW.trod_struct Tryd.underlying31 h
  rw [cells_page] at hlen
  match cs, hlen, ys, hys with
  | [c0, c1, c2], _, [y0, y1, y2], _ =>
    have h0 : DataW.trod enc Tryd.prog w base spare held n 3 [c0] = some y0 := by simpa [cells_int] using hf 0 _ rfl
    have h1 : DataW.trod enc Tryd.prog w base spare held n 3 [c1] = some y1 := by simpa [cells_int] using hf 1 _ rfl
    have h2 : DataW.trod enc Tryd.prog w base spare held n 29 [c2] = some y2 := by simpa [cells_items] using hf 2 _ rfl
    rw [hx] at hw
    simp only [List.map_cons, List.map_nil, DataW.weights, Tryd.underlying31, DataW.weightsEach, Within.app] at hw
    obtain ⟨a, q0, _, _⟩ := DataW.trod_int Tryd.underlying3 h0
    obtain ⟨b, q1, _, _⟩ := DataW.trod_int Tryd.underlying3 h1
    obtain ⟨A, k, c, ds, q2, a1, a2, a3, a4, a5⟩ := open_list_w (Q := MildI) (by omega) Tryd.underlying29 cells_item (of_decide_eq_true (by kernel_rfl)) (fun g cs' y hy hyw => open_item_w g cs' y hy hyw) h2 hw.2.2.1
    simp only [List.cons.injEq, and_true] at q0 q1 q2
    subst q0 q1 q2
    exact ⟨⟨a, b, ds⟩, ⟨A, k, c, rfl, a1, a2, a3⟩, a4, a5⟩
/-- Pages that came in. -/
theorem open_pages_w (fuel : Nat) (cs : List Value) (x : DataW H × List MemPlace) (h : DataW.trod enc Tryd.prog w base spare held fuel 22 cs = some x) (hw : Within (x.1.weights Tryd.prog 22)) :
    ∃ (A : Option Addr) (n c : Nat) (l : List PageD), cs = [.slice A n c] ∧ n ≤ c ∧ c ≤ maxLen ∧ LR w (fun g => g < w.heap.size) 3 (PageC w (fun g => g < w.heap.size)) A n l ∧ Mild l := by
  obtain ⟨A, n, c, l, h1, h2, h3, h4, h5, h6⟩ := open_list_w (Q := MildP) (by omega) Tryd.underlying22 cells_page (of_decide_eq_true (by kernel_rfl)) (fun g cs' y hy hyw => open_page_w g cs' y hy hyw) h hw
  exact ⟨A, n, c, l, h1, h2, h3, h4, h5, h6⟩
end
end Go.Proofs.YtndfdekcdhlgoaaDoor
