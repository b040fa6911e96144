/- Data that came in: slices of whatever, bytes. -/
/- Pages that came in. -/
import Derived.Test.YtndfdekcdhlgoaaDoorScBase
import Derived.Test.YtndfdekcdhlgoaaDoorRows
import Derived.ChangeArms
import Derived.ChangeSlices
import Derived.SliceStrings
import Derived.OpenShut
set_option linter.unusedVariables false
set_option linter.unusedSimpArgs false
namespace Go.Proofs.YtndfdekcdhlgoaaDoor
open Go.ChangeShapes Go.WideShapes Go.RowKit
theorem flatten_at (size : Nat) : ∀ (css : List (List Value)), (∀ cs ∈ css, cs.length = size) → ∀ (j : Nat) (u : Value), css.flatten[j]? = some u → ∃ (i k : Nat) (cs : List Value), css[i]? = some cs ∧ cs[k]? = some u ∧ j = i * size + k ∧ k < size
  | [], _, j, u, h => by simp at h
  | cs :: css, hl, j, u, h => by
    have hc := hl cs (by simp)
    rcases Nat.lt_or_ge j cs.length with hj | hj
    · rw [List.flatten_cons, List.getElem?_append_left hj] at h
      exact ⟨0, j, cs, rfl, h, by omega, by omega⟩
    · rw [List.flatten_cons, List.getElem?_append_right hj] at h
      obtain ⟨i, k, cs', h1, h2, h3, h4⟩ := flatten_at size css (fun x hx => hl x (by simp [hx])) _ u h
      exact ⟨i + 1, k, cs', by simpa using h1, h2, by rw [Nat.add_mul]; omega, h4⟩
theorem flatten_get (size : Nat) : ∀ (css : List (List Value)), (∀ cs ∈ css, cs.length = size) → ∀ (i k : Nat) (cs : List Value) (u : Value), css[i]? = some cs → cs[k]? = some u → css.flatten[i * size + k]? = some u
  | [], _, i, k, cs, u, h, _ => by simp at h
  | c0 :: css, hl, 0, k, cs, u, h, hu => by
    simp at h
    subst h
    rw [List.flatten_cons, Nat.zero_mul, Nat.zero_add, List.getElem?_append_left (List.getElem?_eq_some_iff.1 hu).1]
    exact hu
  | c0 :: css, hl, i + 1, k, cs, u, h, hu => by
    have hc := hl c0 (by simp)
    rw [List.flatten_cons, List.getElem?_append_right (by rw [hc, Nat.add_mul]; omega)]
    have := flatten_get size css (fun x hx => hl x (by simp [hx])) i k cs u (by simpa using h) hu
    rw [show (i + 1) * size + k - c0.length = i * size + k by rw [hc, Nat.add_mul]; omega]
    exact this
theorem flatten_len (size : Nat) : ∀ (css : List (List Value)), (∀ cs ∈ css, cs.length = size) → css.flatten.length = css.length * size
  | [], _ => by simp
  | cs :: css, hl => by
    rw [List.flatten_cons, List.length_append, flatten_len size css (fun x hx => hl x (by simp [hx])), hl cs (by simp), List.length_cons, Nat.add_mul]
    omega
section
variable {H : Type} {enc : TypeId × Value → H} {P : Program} {w : World} {base : Nat} {spare : Nat → Bool} {held : Bool}
/-- A slice that came in: its elements' cells. -/
theorem open_cells {t e : TypeId} {fuel size : Nat} {cs : List Value} {x : DataW H × List MemPlace} (ht : P.underlying t = some (.slice e)) (hsz : P.cellsOf e = size) (h : DataW.trod enc P w base spare held fuel t cs = some x) :
    ∃ (A : Option Addr) (n c : Nat) (css : List (List Value)), cs = [.slice A n c] ∧ n ≤ c ∧ c ≤ maxLen ∧ css.length = n ∧ Rd w (fun _ => True) size A n css.flatten ∧
      ∃ ys : List (DataW H × List MemPlace), ys.length = n ∧ Rows.uptoBulkAll (ys.map (·.1)) + 1 ≤ Rows.uptoBulk x.1 ∧
      ∀ (i : Nat) cs', css[i]? = some cs' → cs'.length = size ∧ ∃ g y, g < fuel ∧ ys[i]? = some y ∧ DataW.trod enc P w base spare held g e cs' = some y := by
  rcases DataW.trod_slice ht h with ⟨rfl, rfl⟩ | ⟨a, len, cap, elems, rest, n, hfu, rfl, rfl, hb, hl, hm, hlen, hel, _⟩
  · exact ⟨none, 0, 0, [], rfl, Nat.le_refl _, Nat.zero_le _, rfl, Rd.nil, [], rfl, by simp [Rows.uptoBulk, Rows.uptoBulkAll], by intro i cs' h; simp at h⟩
  · have key : ∀ i, ∃ cs' : List Value, i < len → w.cells? base (a.add (i * P.cellsOf e)) (P.cellsOf e) = some cs' ∧ ∃ y, elems[i]? = some y ∧ DataW.trod enc P w base spare held n e cs' = some y := by
      intro i
      by_cases hi : i < len
      · have := hel i hi
        have he : elems[i]? = some (elems[i]'(by omega)) := List.getElem?_eq_getElem (by omega)
        rw [he] at this
        obtain ⟨cs', h1, h2⟩ := Option.bind_eq_some_iff.1 this
        exact ⟨cs', fun _ => ⟨h1, _, he, h2⟩⟩
      · exact ⟨[], fun h => absurd h hi⟩
    obtain ⟨f, hf⟩ := Classical.skolem.1 key
    have hget : ∀ (i : Nat) cs', ((List.range len).map f)[i]? = some cs' → i < len ∧ cs' = f i := by
      intro i cs' h
      rw [List.getElem?_map] at h
      cases hr : (List.range len)[i]? with
      | none => rw [hr] at h; simp at h
      | some j =>
        rw [hr] at h
        obtain ⟨h1, h2⟩ := List.getElem?_eq_some_iff.1 hr
        simp at h1 h2 h
        subst h2
        exact ⟨h1, h.symm⟩
    have hlens : ∀ cs' ∈ (List.range len).map f, cs'.length = size := by
      intro cs' hm
      obtain ⟨i, hi, rfl⟩ := List.mem_map.1 hm
      rw [← hsz]
      exact (World.cells?_some (hf i (by simpa using hi)).1).2.1
    refine ⟨some a, len, cap, (List.range len).map f, rfl, hl, hm, by simp, ⟨by rw [flatten_len size _ hlens]; simp, fun _ => ⟨a, rfl, trivial, fun j u hu => ?_⟩⟩, elems, hlen, by simp only [Rows.uptoBulk]; omega, fun i cs' h => ?_⟩
    · obtain ⟨i, k, cs', h1, h2, h3, h4⟩ := flatten_at size _ hlens j u hu
      obtain ⟨hi, rfl⟩ := hget i cs' h1
      have := (World.cells?_some (hf i hi).1).2.2 k (by rw [hsz]; exact h4)
      rw [add_of_add, h2, hsz] at this
      rw [h3]
      exact this
    · obtain ⟨hi, rfl⟩ := hget i cs' h
      obtain ⟨y, hy1, hy2⟩ := (hf i hi).2
      exact ⟨hlens _ (List.mem_of_getElem? h), n, y, by omega, hy1, hy2⟩
end
theorem open_bytes {H : Type} {enc : TypeId × Value → H} {w : World} {base : Nat} {spare : Nat → Bool} {held : Bool} {P : Program} {t e : TypeId} {fuel : Nat} {cs : List Value} {x : DataW H × List MemPlace} (ht : P.underlying t = some (.slice e)) (he : P.underlying e = some (.int .u8)) (hsz : P.cellsOf e = 1)
    (h : DataW.trod enc P w base spare held fuel t cs = some x) : ∃ (A : Option Addr) (n c : Nat) (bs : List UInt8), cs = [.slice A n c] ∧ n ≤ c ∧ c ≤ maxLen ∧ RB w (fun _ => True) A n bs ∧ bs.length + 1 ≤ Rows.uptoBulk x.1 := by
  obtain ⟨A, n, c, css, h1, h2, h3, h4, h5, ys, hyl, hyb, h6⟩ := open_cells ht hsz h
  have key : ∀ (css : List (List Value)) (ys : List (DataW H × List MemPlace)), ys.length = css.length → (∀ (i : Nat) cs', css[i]? = some cs' → cs'.length = 1 ∧ ∃ g y, g < fuel ∧ ys[i]? = some y ∧ DataW.trod enc P w base spare held g e cs' = some y) → ∃ bs : List UInt8, css.flatten = u8s bs ∧ bs.length ≤ Rows.uptoBulkAll (ys.map (·.1)) := by
    intro css
    induction css with
    | nil => exact fun _ _ _ => ⟨[], rfl, Nat.zero_le _⟩
    | cons cs0 css ih =>
      intro ys hl h
      match ys, hl with
      | y0 :: ys, hl =>
        obtain ⟨_, g, y, _, hy0, hy⟩ := h 0 cs0 rfl
        obtain ⟨z, rfl, hx, hz⟩ := DataW.trod_int he hy
        obtain ⟨bs, hk, hb⟩ := ih ys (by simpa using hl) (fun i cs' hi => by simpa using h (i + 1) cs' (by simpa using hi))
        simp at hy0
        subst hy0
        have hw : (decide ((0 : Int) ≤ z) && decide (z ≤ 255)) = true := hz
        simp only [Bool.and_eq_true, decide_eq_true_eq] at hw
        have e : ((UInt8.ofNat z.toNat).toNat : Int) = z := by simp only [UInt8.toNat_ofNat']; omega
        refine ⟨UInt8.ofNat z.toNat :: bs, ?_, ?_⟩
        · rw [List.flatten_cons, hk]
          unfold u8s
          rw [List.map_cons, e]
          rfl
        · rw [List.map_cons, hx, List.length_cons]
          simp only [Rows.uptoBulkAll, Rows.uptoBulk]
          omega
  obtain ⟨bs, hk, hb⟩ := key css ys (by omega) h6
  exact ⟨A, n, c, bs, h1, h2, h3, by unfold RB; rw [← hk]; exact h5, by omega⟩
end Go.Proofs.YtndfdekcdhlgoaaDoor
namespace Go.Proofs.YtndfdekcdhlgoaaDoor
open Go.ChangeShapes Go.WideShapes Go.RowKit
section
variable {H : Type} {enc : TypeId × Value → H} {P : Program} {w : World} {base : Nat} {spare : Nat → Bool} {held : Bool}
/-- A slice of what can be told of each element. -/
theorem open_list {D : Type} {t e : TypeId} {size : Nat} (hz : 0 < size) {R : List Value → D → Prop} {wt : D → Nat} {K : Nat} (ht : P.underlying t = some (.slice e)) (hsz : P.cellsOf e = size)
    (hel : ∀ (g : Nat) cs' (y : DataW H × List MemPlace), cs'.length = size → DataW.trod enc P w base spare held g e cs' = some y → ∃ d, R cs' d ∧ wt d ≤ K * Rows.uptoBulk y.1)
    {fuel : Nat} {cs : List Value} {x : DataW H × List MemPlace} (h : DataW.trod enc P w base spare held fuel t cs = some x) :
    ∃ (A : Option Addr) (n c : Nat) (ds : List D), cs = [.slice A n c] ∧ n ≤ c ∧ c ≤ maxLen ∧ LR w (fun g => g < w.heap.size) size R A n ds ∧ (ds.map wt).sum + K ≤ K * Rows.uptoBulk x.1 := by
  obtain ⟨A, n, c, css, h1, h2, h3, h4, h5, ys, hyl, hyb, h6⟩ := open_cells ht hsz h
  have key : ∀ (css : List (List Value)) (ys : List (DataW H × List MemPlace)), ys.length = css.length → (∀ (i : Nat) cs', css[i]? = some cs' → cs'.length = size ∧ ∃ g y, g < fuel ∧ ys[i]? = some y ∧ DataW.trod enc P w base spare held g e cs' = some y) →
      ∃ ds : List D, ds.length = css.length ∧ (∀ (i : Nat) d, ds[i]? = some d → ∃ cs', css[i]? = some cs' ∧ R cs' d) ∧ (ds.map wt).sum ≤ K * Rows.uptoBulkAll (ys.map (·.1)) := by
    intro css
    induction css with
    | nil => exact fun ys _ _ => ⟨[], rfl, fun i d h => by simp at h, Nat.zero_le _⟩
    | cons cs0 css ih =>
      intro ys hl h
      match ys, hl with
      | y0 :: ys, hl =>
        obtain ⟨hc0, g, y, _, hy0, hy⟩ := h 0 cs0 rfl
        obtain ⟨d, hd, hw⟩ := hel g cs0 y hc0 hy
        obtain ⟨ds, hk, hr, hb⟩ := ih ys (by simpa using hl) (fun i cs' hi => by simpa using h (i + 1) cs' (by simpa using hi))
        simp at hy0
        subst hy0
        refine ⟨d :: ds, by simp [hk], fun i d' hi => ?_, ?_⟩
        · cases i with
          | zero => simp at hi; subst hi; exact ⟨cs0, rfl, hd⟩
          | succ i => simpa using hr i d' (by simpa using hi)
        · simp only [List.map_cons, List.sum_cons, Rows.uptoBulkAll, Nat.mul_add]
          omega
  obtain ⟨ds, hk, hr, hb⟩ := key css ys (by omega) h6
  have hlens : ∀ cs ∈ css, cs.length = size := by
    intro cs hm
    obtain ⟨i, hi⟩ := List.getElem?_of_mem hm
    exact (h6 i cs hi).1
  refine ⟨A, n, c, ds, h1, h2, h3, ⟨by omega, fun hn => ?_⟩, ?_⟩
  · obtain ⟨ad, e', _, hc⟩ := h5.2 (Nat.mul_pos hn hz)
    have hat : ∀ (i : Nat) cs', css[i]? = some cs' → ∀ j u, cs'[j]? = some u → w.cell? (ad.add (i * size + j)) = some u := fun i cs' hi j u hu => hc _ _ (flatten_get size css hlens i j cs' u hi hu)
    refine ⟨ad, e', ?_, fun i d hd => ?_⟩
    · have hl : 0 < css.length := by omega
      have hz0 : css[0]? = some css[0] := List.getElem?_eq_getElem hl
      have hl0 : 0 < css[0].length := by rw [hlens _ (List.getElem_mem hl)]; exact hz
      have := World.block_lt_of_cell? w _ (hat 0 _ hz0 0 _ (List.getElem?_eq_getElem hl0))
      rwa [block_of_add] at this
    · obtain ⟨cs', hi, hR⟩ := hr i d hd
      exact ⟨cs', hlens _ (List.mem_of_getElem? hi), hR, hat i cs' hi⟩
  · have := Nat.mul_le_mul_left K hyb
    rw [Nat.mul_add] at this
    omega
theorem take_one_at : ∀ {cs : List Value} {i : Nat} {v : Value}, cs[i]? = some v → (cs.drop i).take 1 = [v]
  | [], i, v, h => by simp at h
  | c :: cs, 0, v, h => by simp at h; subst h; simp
  | c :: cs, i + 1, v, h => by simpa using take_one_at (cs := cs) (by simpa using h)
/-- An array of ints. -/
theorem open_intarr {t e : TypeId} {n : Nat} (ht : P.underlying t = some (.array n e)) (he : P.underlying e = some (.int .i64)) (hc : P.cellsOf e = 1) (hs : P.cellsOf t = n)
    {fuel : Nat} {cs : List Value} {x : DataW H × List MemPlace} (h : DataW.trod enc P w base spare held fuel t cs = some x) : ∃ zs : List Int, cs = zs.map (Value.int .i64) ∧ zs.length = n := by
  obtain ⟨xs, m, _, _, hl, hn, hx⟩ := DataW.trod_array ht h
  rw [hs] at hl
  have hel : ∀ v ∈ cs, ∃ z, v = Value.int .i64 z := by
    intro v hv
    obtain ⟨i, hi⟩ := List.getElem?_of_mem hv
    have hlt : i < n := by rw [← hl]; exact (List.getElem?_eq_some_iff.1 hi).1
    have := hx i hlt
    rw [hc, Nat.mul_one, take_one_at hi, List.getElem?_eq_getElem (by rw [hn]; exact hlt)] at this
    obtain ⟨z, hz, _⟩ := DataW.trod_int he this
    injection hz with hz _
    exact ⟨z, hz⟩
  have key : ∀ cs : List Value, (∀ v ∈ cs, ∃ z, v = Value.int .i64 z) → ∃ zs : List Int, cs = zs.map (Value.int .i64) := by
    intro cs
    induction cs with
    | nil => exact fun _ => ⟨[], rfl⟩
    | cons v cs ih =>
      intro h
      obtain ⟨z, rfl⟩ := h v (by simp)
      obtain ⟨zs, rfl⟩ := ih fun v hv => h v (by simp [hv])
      exact ⟨z :: zs, rfl⟩
  obtain ⟨zs, rfl⟩ := key cs hel
  exact ⟨zs, rfl, by simpa using hl⟩
/-- A slice of ints. -/
theorem open_ints {t e : TypeId} (ht : P.underlying t = some (.slice e)) (he : P.underlying e = some (.int .i64)) (hc : P.cellsOf e = 1)
    {fuel : Nat} {cs : List Value} {x : DataW H × List MemPlace} (h : DataW.trod enc P w base spare held fuel t cs = some x) :
    ∃ (A : Option Addr) (n c : Nat) (zs : List Int), cs = [.slice A n c] ∧ n ≤ c ∧ c ≤ maxLen ∧ Rd w (fun g => g < w.heap.size) 1 A n (zs.map (Value.int .i64)) ∧ zs.length + 1 ≤ Rows.uptoBulk x.1 := by
  obtain ⟨A, n, c, zs, h1, h2, h3, h4, h5⟩ := open_list (K := 1) (D := Int) (R := fun cs z => cs = [Value.int .i64 z]) (wt := fun _ => 1) (by omega) ht hc
    (fun g cs' y _ hy => by
      obtain ⟨z, hz, hx, _⟩ := DataW.trod_int he hy
      exact ⟨z, hz, by rw [hx]; simp only [Rows.uptoBulk]; omega⟩) h
  refine ⟨A, n, c, zs, h1, h2, h3, ⟨by simp [h4.1], fun hn => ?_⟩, ?_⟩
  · obtain ⟨ad, e', hb, hcs⟩ := h4.2 (by omega)
    refine ⟨ad, e', hb, fun j u hu => ?_⟩
    rw [List.getElem?_map] at hu
    cases hz : zs[j]? with
    | none => rw [hz] at hu; simp at hu
    | some z =>
      rw [hz] at hu
      obtain ⟨cs', _, hR, ha⟩ := hcs j z hz
      subst hR
      have := ha 0 u (by simpa using hu)
      simpa using this
  · have hs : ∀ l : List Int, (l.map fun _ => 1).sum = l.length := fun l => by
      induction l with
      | nil => rfl
      | cons a l ih => simp only [List.map_cons, List.sum_cons, List.length_cons, ih]; omega
    rw [hs] at h5
    omega
end
section
variable {H : Type} {enc : TypeId × Value → H} {w : World} {base : Nat} {spare : Nat → Bool} {held : Bool}
theorem cells_int : Tryd.prog.cellsOf 3 = 1 := by kernel_rfl
theorem cells_bool : Tryd.prog.cellsOf 4 = 1 := by kernel_rfl
theorem cells_u8 : Tryd.prog.cellsOf 5 = 1 := by kernel_rfl
theorem cells_a4 : Tryd.prog.cellsOf 33 = 4 := by kernel_rfl
theorem cells_a6 : Tryd.prog.cellsOf 40 = 6 := by kernel_rfl
theorem cells_p3 : Tryd.prog.cellsOf 89 = 6 := by kernel_rfl
theorem cells_pt : Tryd.prog.cellsOf 88 = 2 := by kernel_rfl
theorem cells_seg : Tryd.prog.cellsOf 91 = 7 := by kernel_rfl
theorem cells_clip : Tryd.prog.cellsOf 45 = 2 := by kernel_rfl
theorem cells_col : Tryd.prog.cellsOf 35 = 5 := by kernel_rfl
theorem cells_pen : Tryd.prog.cellsOf 39 = 6 := by kernel_rfl
theorem cells_item : Tryd.prog.cellsOf 43 = 22 := by kernel_rfl
theorem cells_page : Tryd.prog.cellsOf 31 = 3 := by kernel_rfl
theorem cells_segs : Tryd.prog.cellsOf 32 = 1 := by kernel_rfl
theorem cells_clips : Tryd.prog.cellsOf 36 = 1 := by kernel_rfl
theorem cells_ints : Tryd.prog.cellsOf 37 = 1 := by kernel_rfl
theorem cells_bytes : Tryd.prog.cellsOf 41 = 1 := by kernel_rfl
theorem cells_items : Tryd.prog.cellsOf 29 = 1 := by kernel_rfl
set_option maxRecDepth 100000
theorem open_pt (fuel : Nat) (cs : List Value) (x : DataW H × List MemPlace) (h : DataW.trod enc Tryd.prog w base spare held fuel 88 cs = some x) : ∃ a b : Int, cs = [.int .i64 a, .int .i64 b] := by
  obtain ⟨ys, n, hfu, hx, hlen, hys, hf⟩ := DataW.trod_struct Tryd.underlying88 h
  rw [cells_pt] at hlen
  match cs, hlen, ys, hys with
  | [c0, c1], _, [y0, y1], _ =>
    have h0 : DataW.trod enc Tryd.prog w base spare held n 3 [c0] = some y0 := by simpa [cells_int] using hf 0 _ rfl
    have h1 : DataW.trod enc Tryd.prog w base spare held n 3 [c1] = some y1 := by simpa [cells_int] using hf 1 _ rfl
    obtain ⟨a, q0, _, _⟩ := DataW.trod_int Tryd.underlying3 h0
    obtain ⟨b, q1, _, _⟩ := DataW.trod_int Tryd.underlying3 h1
    injection q0 with q0 _
    injection q1 with q1 _
    exact ⟨a, b, by rw [q0, q1]⟩
theorem open_seg (fuel : Nat) (cs : List Value) (x : DataW H × List MemPlace) (h : DataW.trod enc Tryd.prog w base spare held fuel 91 cs = some x) : ∃ d, SegC cs d ∧ 1 ≤ 1 * Rows.uptoBulk x.1 := by
  obtain ⟨ys, n, hfu, hx, hlen, hys, hf⟩ := DataW.trod_struct Tryd.underlying91 h
  rw [cells_seg] at hlen
  match cs, hlen, ys, hys with
  | [c0, c1, c2, c3, c4, c5, c6], _, [y0, y1], _ =>
    have h0 : DataW.trod enc Tryd.prog w base spare held n 3 [c0] = some y0 := by simpa [cells_int] using hf 0 _ rfl
    have h1 : DataW.trod enc Tryd.prog w base spare held n 89 [c1, c2, c3, c4, c5, c6] = some y1 := by simpa [cells_p3] using hf 1 _ rfl
    obtain ⟨k, q0, _, _⟩ := DataW.trod_int Tryd.underlying3 h0
    obtain ⟨zs, m, _, _, _, hzs, hp⟩ := DataW.trod_array Tryd.underlying89 h1
    match zs, hzs with
    | [z0, z1, z2], _ =>
      have g0 : DataW.trod enc Tryd.prog w base spare held m 88 [c1, c2] = some z0 := by simpa [cells_pt] using hp 0 (by omega)
      have g1 : DataW.trod enc Tryd.prog w base spare held m 88 [c3, c4] = some z1 := by simpa [cells_pt] using hp 1 (by omega)
      have g2 : DataW.trod enc Tryd.prog w base spare held m 88 [c5, c6] = some z2 := by simpa [cells_pt] using hp 2 (by omega)
      obtain ⟨a0, b0, r0⟩ := open_pt _ _ _ g0
      obtain ⟨a1, b1, r1⟩ := open_pt _ _ _ g1
      obtain ⟨a2, b2, r2⟩ := open_pt _ _ _ g2
      simp only [List.cons.injEq, and_true] at q0 r0 r1 r2
      obtain ⟨rfl, rfl⟩ := r0
      obtain ⟨rfl, rfl⟩ := r1
      obtain ⟨rfl, rfl⟩ := r2
      subst q0
      refine ⟨⟨k, a0, b0, a1, b1, a2, b2⟩, rfl, ?_⟩
      rw [hx]
      simp only [Rows.uptoBulk]
      omega
theorem open_path (fuel : Nat) (cs : List Value) (x : DataW H × List MemPlace) (h : DataW.trod enc Tryd.prog w base spare held fuel 32 cs = some x) :
    ∃ (A : Option Addr) (n c : Nat) (ds : List SegD), cs = [.slice A n c] ∧ n ≤ c ∧ c ≤ maxLen ∧ LR w (fun g => g < w.heap.size) 7 SegC A n ds ∧ ds.length + 1 ≤ Rows.uptoBulk x.1 := by
  obtain ⟨A, n, c, ds, h1, h2, h3, h4, h5⟩ := open_list (K := 1) (wt := fun _ => 1) (by omega) Tryd.underlying32 cells_seg (fun g cs' y _ hy => open_seg g cs' y hy) h
  have hs : ∀ l : List SegD, (l.map fun _ => 1).sum = l.length := fun l => by
    induction l with
    | nil => rfl
    | cons a l ih => simp only [List.map_cons, List.sum_cons, List.length_cons, ih]; omega
  rw [hs] at h5
  exact ⟨A, n, c, ds, h1, h2, h3, h4, by omega⟩
theorem open_clip (fuel : Nat) (cs : List Value) (x : DataW H × List MemPlace) (h : DataW.trod enc Tryd.prog w base spare held fuel 45 cs = some x) : ∃ d, ClipC w (fun g => g < w.heap.size) cs d ∧ 5 + clipW d ≤ 5 * Rows.uptoBulk x.1 := by
  obtain ⟨ys, n, hfu, hx, hlen, hys, hf⟩ := DataW.trod_struct Tryd.underlying45 h
  rw [cells_clip] at hlen
  match cs, hlen, ys, hys with
  | [c0, c1], _, [y0, y1], _ =>
    have h0 : DataW.trod enc Tryd.prog w base spare held n 32 [c0] = some y0 := by simpa [cells_segs] using hf 0 _ rfl
    have h1 : DataW.trod enc Tryd.prog w base spare held n 4 [c1] = some y1 := by simpa [cells_bool] using hf 1 _ rfl
    obtain ⟨A, k, c, ds, q0, a1, a2, a3, a4⟩ := open_path _ _ _ h0
    obtain ⟨b, q1, _⟩ := DataW.trod_bool Tryd.underlying4 h1
    injection q0 with q0 _
    injection q1 with q1 _
    subst q0 q1
    refine ⟨⟨ds, b⟩, ⟨A, k, c, rfl, a1, a2, a3⟩, ?_⟩
    rw [hx]
    simp only [List.map_cons, List.map_nil, Rows.uptoBulk, Rows.uptoBulkAll, clipW]
    omega
theorem open_col (fuel : Nat) (cs : List Value) (x : DataW H × List MemPlace) (h : DataW.trod enc Tryd.prog w base spare held fuel 35 cs = some x) : ∃ d : ColD, cs = [.int .i64 d.space, .int .i64 d.p0, .int .i64 d.p1, .int .i64 d.p2, .int .i64 d.p3] := by
  obtain ⟨ys, n, hfu, hx, hlen, hys, hf⟩ := DataW.trod_struct Tryd.underlying35 h
  rw [cells_col] at hlen
  match cs, hlen, ys, hys with
  | [c0, c1, c2, c3, c4], _, [y0, y1], _ =>
    have h0 : DataW.trod enc Tryd.prog w base spare held n 3 [c0] = some y0 := by simpa [cells_int] using hf 0 _ rfl
    have h1 : DataW.trod enc Tryd.prog w base spare held n 33 [c1, c2, c3, c4] = some y1 := by simpa [cells_a4] using hf 1 _ rfl
    obtain ⟨k, q0, _, _⟩ := DataW.trod_int Tryd.underlying3 h0
    obtain ⟨zs, q1, hzs⟩ := open_intarr Tryd.underlying33 Tryd.underlying3 cells_int cells_a4 h1
    match zs, hzs with
    | [z0, z1, z2, z3], _ =>
      simp only [List.map_cons, List.map_nil, List.cons.injEq, and_true] at q0 q1
      obtain ⟨rfl, rfl, rfl, rfl⟩ := q1
      subst q0
      exact ⟨⟨k, z0, z1, z2, z3⟩, rfl⟩
theorem open_pen (fuel : Nat) (cs : List Value) (x : DataW H × List MemPlace) (h : DataW.trod enc Tryd.prog w base spare held fuel 39 cs = some x) :
    ∃ (d : PenD) (A : Option Addr) (n c : Nat), cs = [.int .i64 d.width, .int .i64 d.cap, .int .i64 d.join, .int .i64 d.miter, .slice A n c, .int .i64 d.phase] ∧ n ≤ c ∧ c ≤ maxLen ∧ Rd w (fun g => g < w.heap.size) 1 A n (d.dash.map (Value.int .i64)) ∧ d.dash.length + 1 ≤ Rows.uptoBulk x.1 := by
  obtain ⟨ys, n, hfu, hx, hlen, hys, hf⟩ := DataW.trod_struct Tryd.underlying39 h
  rw [cells_pen] at hlen
  match cs, hlen, ys, hys with
  | [c0, c1, c2, c3, c4, c5], _, [y0, y1, y2, y3, y4, y5], _ =>
    have h0 : DataW.trod enc Tryd.prog w base spare held n 3 [c0] = some y0 := by simpa [cells_int] using hf 0 _ rfl
    have h1 : DataW.trod enc Tryd.prog w base spare held n 3 [c1] = some y1 := by simpa [cells_int] using hf 1 _ rfl
    have h2 : DataW.trod enc Tryd.prog w base spare held n 3 [c2] = some y2 := by simpa [cells_int] using hf 2 _ rfl
    have h3 : DataW.trod enc Tryd.prog w base spare held n 3 [c3] = some y3 := by simpa [cells_int] using hf 3 _ rfl
    have h4 : DataW.trod enc Tryd.prog w base spare held n 37 [c4] = some y4 := by simpa [cells_ints] using hf 4 _ rfl
    have h5 : DataW.trod enc Tryd.prog w base spare held n 3 [c5] = some y5 := by simpa [cells_int] using hf 5 _ rfl
    obtain ⟨z0, q0, _, _⟩ := DataW.trod_int Tryd.underlying3 h0
    obtain ⟨z1, q1, _, _⟩ := DataW.trod_int Tryd.underlying3 h1
    obtain ⟨z2, q2, _, _⟩ := DataW.trod_int Tryd.underlying3 h2
    obtain ⟨z3, q3, _, _⟩ := DataW.trod_int Tryd.underlying3 h3
    obtain ⟨A, k, c, zs, q4, a1, a2, a3, a4⟩ := open_ints Tryd.underlying37 Tryd.underlying3 cells_int h4
    obtain ⟨z5, q5, _, _⟩ := DataW.trod_int Tryd.underlying3 h5
    simp only [List.cons.injEq, and_true] at q0 q1 q2 q3 q4 q5
    subst q0 q1 q2 q3 q4 q5
    refine ⟨⟨z0, z1, z2, z3, zs, z5⟩, A, k, c, rfl, a1, a2, a3, ?_⟩
    rw [hx]
    simp only [List.map_cons, List.map_nil, Rows.uptoBulk, Rows.uptoBulkAll]
    omega
theorem open_item (fuel : Nat) (cs : List Value) (x : DataW H × List MemPlace) (h : DataW.trod enc Tryd.prog w base spare held fuel 43 cs = some x) : ∃ d, ItemC w (fun g => g < w.heap.size) cs d ∧ itemW d + 5 ≤ 5 * Rows.uptoBulk x.1 := by
  obtain ⟨ys, n, hfu, hx, hlen, hys, hf⟩ := DataW.trod_struct Tryd.underlying43 h
  rw [cells_item] at hlen
  match cs, hlen, ys, hys with
  | [c0, c1, c2, c3, c4, c5, c6, c7, c8, c9, c10, c11, c12, c13, c14, c15, c16, c17, c18, c19, c20, c21], _, [y0, y1, y2, y3, y4, y5, y6, y7], _ =>
    have h0 : DataW.trod enc Tryd.prog w base spare held n 3 [c0] = some y0 := by simpa [cells_int] using hf 0 _ rfl
    have h1 : DataW.trod enc Tryd.prog w base spare held n 32 [c1] = some y1 := by simpa [cells_segs] using hf 1 _ rfl
    have h2 : DataW.trod enc Tryd.prog w base spare held n 35 [c2, c3, c4, c5, c6] = some y2 := by simpa [cells_col] using hf 2 _ rfl
    have h3 : DataW.trod enc Tryd.prog w base spare held n 36 [c7] = some y3 := by simpa [cells_clips] using hf 3 _ rfl
    have h4 : DataW.trod enc Tryd.prog w base spare held n 39 [c8, c9, c10, c11, c12, c13] = some y4 := by simpa [cells_pen] using hf 4 _ rfl
    have h5 : DataW.trod enc Tryd.prog w base spare held n 3 [c14] = some y5 := by simpa [cells_int] using hf 5 _ rfl
    have h6 : DataW.trod enc Tryd.prog w base spare held n 40 [c15, c16, c17, c18, c19, c20] = some y6 := by simpa [cells_a6] using hf 6 _ rfl
    have h7 : DataW.trod enc Tryd.prog w base spare held n 41 [c21] = some y7 := by simpa [cells_bytes] using hf 7 _ rfl
    obtain ⟨kd, q0, _, _⟩ := DataW.trod_int Tryd.underlying3 h0
    obtain ⟨Ap, np, cp, ps, q1, p1, p2, p3, p4⟩ := open_path _ _ _ h1
    obtain ⟨col, q2⟩ := open_col _ _ _ h2
    obtain ⟨Ac, nc, cc, cl, q3, r1, r2, r3, r4⟩ := open_list (K := 5) (wt := fun d => 5 + clipW d) (by omega) Tryd.underlying36 cells_clip (fun g cs' y _ hy => open_clip g cs' y hy) h3
    obtain ⟨pen, Ad, nd, cd, q4, d1, d2, d3, d4⟩ := open_pen _ _ _ h4
    obtain ⟨fo, q5, _, _⟩ := DataW.trod_int Tryd.underlying3 h5
    obtain ⟨zs, q6, hzs⟩ := open_intarr Tryd.underlying40 Tryd.underlying3 cells_int cells_a6 h6
    obtain ⟨Ab, nb, cb, bs, q7, b1, b2, b3, b4⟩ := open_bytes Tryd.underlying41 Tryd.underlying5 cells_u8 h7
    match zs, hzs with
    | [z0, z1, z2, z3, z4, z5], _ =>
      simp only [List.map_cons, List.map_nil, List.cons.injEq, and_true] at q0 q1 q2 q3 q4 q5 q6 q7
      obtain ⟨rfl, rfl, rfl, rfl, rfl⟩ := q2
      obtain ⟨rfl, rfl, rfl, rfl, rfl, rfl⟩ := q4
      obtain ⟨rfl, rfl, rfl, rfl, rfl, rfl⟩ := q6
      subst q0 q1 q3 q5 q7
      refine ⟨⟨kd, ps, col, cl, pen, fo, ⟨z0, z1, z2, z3, z4, z5⟩, bs⟩, ⟨Ap, np, cp, Ac, nc, cc, Ad, nd, cd, Ab, nb, cb, rfl, ⟨p3, r3, d3, b3.more fun g hg _ => hg, ⟨p1, p2⟩, ⟨r1, r2⟩, ⟨d1, d2⟩, ⟨b1, b2⟩⟩⟩, ?_⟩
      have hs : ∀ l : List ClipD, (l.map fun d => 5 + clipW d).sum = 5 * l.length + (l.map clipW).sum := fun l => by
        induction l with
        | nil => rfl
        | cons a l ih => simp only [List.map_cons, List.sum_cons, List.length_cons, ih]; omega
      rw [hs] at r4
      rw [hx]
      simp only [List.map_cons, List.map_nil, Rows.uptoBulk, Rows.uptoBulkAll, itemW]
      omega
theorem open_page (fuel : Nat) (cs : List Value) (x : DataW H × List MemPlace) (h : DataW.trod enc Tryd.prog w base spare held fuel 31 cs = some x) : ∃ d, PageC w (fun g => g < w.heap.size) cs d ∧ 1 + pageW d ≤ 5 * Rows.uptoBulk x.1 := by
  obtain ⟨ys, n, hfu, hx, hlen, hys, hf⟩ := DataW.trod_struct Tryd.underlying31 h
  rw [cells_page] at hlen
  match cs, hlen, ys, hys with
  | [c0, c1, c2], _, [y0, y1, y2], _ =>
    have h0 : DataW.trod enc Tryd.prog w base spare held n 3 [c0] = some y0 := by simpa [cells_int] using hf 0 _ rfl
    have h1 : DataW.trod enc Tryd.prog w base spare held n 3 [c1] = some y1 := by simpa [cells_int] using hf 1 _ rfl
    have h2 : DataW.trod enc Tryd.prog w base spare held n 29 [c2] = some y2 := by simpa [cells_items] using hf 2 _ rfl
    obtain ⟨a, q0, _, _⟩ := DataW.trod_int Tryd.underlying3 h0
    obtain ⟨b, q1, _, _⟩ := DataW.trod_int Tryd.underlying3 h1
    obtain ⟨A, k, c, ds, q2, a1, a2, a3, a4⟩ := open_list (K := 5) (wt := fun d => itemW d + 5) (by omega) Tryd.underlying29 cells_item (fun g cs' y _ hy => open_item g cs' y hy) h2
    simp only [List.cons.injEq, and_true] at q0 q1 q2
    subst q0 q1 q2
    refine ⟨⟨a, b, ds⟩, ⟨A, k, c, rfl, a1, a2, a3⟩, ?_⟩
    have hs : ∀ l : List ItemD, (l.map fun d => itemW d + 5).sum = 5 * l.length + (l.map itemW).sum := fun l => by
      induction l with
      | nil => rfl
      | cons a l ih => simp only [List.map_cons, List.sum_cons, List.length_cons, ih]; omega
    rw [hs] at a4
    rw [hx]
    simp only [List.map_cons, List.map_nil, Rows.uptoBulk, Rows.uptoBulkAll, pageW]
    omega
/-- Pages that came in. -/
theorem open_pages (fuel : Nat) (cs : List Value) (x : DataW H × List MemPlace) (h : DataW.trod enc Tryd.prog w base spare held fuel 22 cs = some x) :
    ∃ (A : Option Addr) (n c : Nat) (l : List PageD), cs = [.slice A n c] ∧ n ≤ c ∧ c ≤ maxLen ∧ LR w (fun g => g < w.heap.size) 3 (PageC w (fun g => g < w.heap.size)) A n l ∧ pagesW l ≤ 5 * Rows.uptoBulk x.1 := by
  obtain ⟨A, n, c, l, h1, h2, h3, h4, h5⟩ := open_list (K := 5) (wt := fun d => 1 + pageW d) (by omega) Tryd.underlying22 cells_page (fun g cs' y _ hy => open_page g cs' y hy) h
  have hs : ∀ l : List PageD, (l.map fun d => 1 + pageW d).sum = l.length + (l.map pageW).sum := fun l => by
    induction l with
    | nil => rfl
    | cons a l ih => simp only [List.map_cons, List.sum_cons, List.length_cons, ih]; omega
  rw [hs] at h5
  exact ⟨A, n, c, l, h1, h2, h3, h4, by unfold pagesW; omega⟩
end
end Go.Proofs.YtndfdekcdhlgoaaDoor
