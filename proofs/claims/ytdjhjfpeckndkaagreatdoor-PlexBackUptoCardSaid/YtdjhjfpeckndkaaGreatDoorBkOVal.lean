/- Objects in memory. -/
/- Data that came in: slices of whatever, objects. -/
import Derived.Test.YtdjhjfpeckndkaaGreatDoorBkObject
import Derived.Test.YtdjhjfpeckndkaaGreatDoorBkPlexQ
import Derived.Test.YtdjhjfpeckndkaaGreatDoorRows
import Derived.ChangeArms
import Derived.ChangeSlices
import Derived.SliceStrings
import Derived.OpenShut
set_option linter.unusedVariables false
set_option linter.unusedSimpArgs false
namespace Go.Proofs.YtdjhjfpeckndkaaGreatDoor
open Go.RowKit

abbrev strV (s : List UInt8) : Value := .string ⟨s.toArray⟩
/-- Cells that stand for an object; what it consists of lies in blocks of N. -/
inductive OV (w : World) (N : Nat → Prop) : List Value → PObj → Prop
  | mk (kd n : Int) (t : List UInt8) (Ak : Option Addr) (nk ck : Nat) (keys : List (List UInt8)) (Al : Option Addr) (nl cl : Nat) (list : List PObj) (css : List (List Value)) (Ad : Option Addr) (nd cd : Nat) (data : List UInt8)
      (ht : t.length ≤ maxLen) (hk : Rd w N 1 Ak nk (keys.map strV)) (hks : ∀ s ∈ keys, s.length ≤ maxLen) (hck : nk ≤ ck) (hcm : ck ≤ maxLen) (hl : Rd w N 6 Al nl css.flatten) (hcl : nl ≤ cl) (hlm : cl ≤ maxLen) (hcs : css.length = nl) (hll : list.length = nl)
      (ho : ∀ (i : Nat) cs o, css[i]? = some cs → list[i]? = some o → OV w N cs o) (hd : RB w N Ad nd data) (hcd : nd ≤ cd) (hdm : cd ≤ maxLen) :
      OV w N [.int .i64 kd, .int .i64 n, strV t, .slice Ak nk ck, .slice Al nl cl, .slice Ad nd cd] (.mk kd n t keys list data)
section
variable {w w' : World} {N N' : Nat → Prop} {S : List Nat} {cs : List Value} {o : PObj}
theorem OV.len (h : OV w N cs o) : cs.length = 6 := by cases h; rfl
theorem OV.keep (h : OV w N cs o) (hf : Fr S w w') (hS : ∀ g, N g → g ∉ S) : OV w' N cs o := by
  induction h with
  | mk kd n t Ak nk ck keys Al nl cl list css Ad nd cd data ht hk hks hck hcm hl hcl hlm hcs hll ho hd hcd hdm ih =>
    exact .mk kd n t Ak nk ck keys Al nl cl list css Ad nd cd data ht (hk.keep hf hS) hks hck hcm (hl.keep hf hS) hcl hlm hcs hll (fun i cs o h1 h2 => ih i cs o h1 h2) (hd.keep hf hS) hcd hdm
theorem OV.keep0 (h : OV w N cs o) (hf : Fr [] w w') : OV w' N cs o := h.keep hf (by simp)
theorem OV.more (h : OV w N cs o) (hN : ∀ g, g < w.heap.size → N g → N' g) : OV w N' cs o := by
  induction h with
  | mk kd n t Ak nk ck keys Al nl cl list css Ad nd cd data ht hk hks hck hcm hl hcl hlm hcs hll ho hd hcd hdm ih =>
    exact .mk kd n t Ak nk ck keys Al nl cl list css Ad nd cd data ht (hk.more hN) hks hck hcm (hl.more hN) hcl hlm hcs hll (fun i cs o h1 h2 => ih i cs o h1 h2) (hd.more hN) hcd hdm
theorem ov_one (h : OV w N cs o) : ∀ u ∈ cs, u.oneCell' = true := by
  cases h
  intro u hu
  simp only [List.mem_cons, List.not_mem_nil, or_false] at hu
  rcases hu with rfl | rfl | rfl | rfl | rfl | rfl <;> rfl
/-- An object without lists. -/
theorem OV.simple (w : World) (N : Nat → Prop) (kd n : Int) (t : List UInt8) (ht : t.length ≤ maxLen) : OV w N [.int .i64 kd, .int .i64 n, strV t, .slice none 0 0, .slice none 0 0, .slice none 0 0] (simpleO kd n t) :=
  .mk kd n t none 0 0 [] none 0 0 [] [] none 0 0 [] ht Rd.nil (by simp) (Nat.le_refl _) (Nat.zero_le _) Rd.nil (Nat.le_refl _) (Nat.zero_le _) rfl rfl (by intro i cs o h; simp at h) RB.nil (Nat.le_refl _) (Nat.zero_le _)
end
/-- Objects one behind the other in a row of the call's own; what they consist of lies in other blocks than X. -/
structure OL (w : World) (base : Nat) (X : List Nat) (v : Value) (l : List PObj) (css : List (List Value)) : Prop where
  own : w.ownsRow base 31 6 v l.length css.flatten
  len : css.length = l.length
  ob : ∀ (i : Nat) cs o, css[i]? = some cs → l[i]? = some o → OV w (fun g => base ≤ g ∧ g ∉ X) cs o
theorem OL.nil (w : World) (base : Nat) (X : List Nat) : OL w base X (.slice none 0 0) [] [] := ⟨own_nil _ _ _ _, rfl, by intro i cs o h; simp at h⟩
/-- Behind what turns old blocks, and those of X that are not the row's. -/
theorem OL.keep {w w' : World} {base : Nat} {X : List Nat} {v : Value} {l : List PObj} {css : List (List Value)} {S : List Nat} (h : OL w base X v l css) (hf : Fr S w w') (h1 : ∀ g, g ∈ S → v.ownBlock ≠ some g) (h2 : ∀ g, g ∈ S → g < base ∨ g ∈ X) : OL w' base X v l css :=
  ⟨own_keep h.own hf h1, h.len, fun i cs o a b => (h.ob i cs o a b).keep hf fun g hg hm => by rcases h2 g hm with h3 | h3 <;> first | exact hg.2 h3 | (have := hg.1; omega)⟩
/-- New blocks are avoided as well. -/
theorem OL.moreX {w : World} {base : Nat} {X X' : List Nat} {v : Value} {l : List PObj} {css : List (List Value)} (h : OL w base X v l css) (hX : ∀ g, g ∈ X' → g ∈ X ∨ w.heap.size ≤ g) : OL w base X' v l css :=
  ⟨h.own, h.len, fun i cs o a b => (h.ob i cs o a b).more fun g hlt hg => ⟨hg.1, fun hm => by rcases hX g hm with h3 | h3 <;> first | exact hg.2 h3 | omega⟩⟩
theorem OL.keepX {w w' : World} {base : Nat} {X X' : List Nat} {v : Value} {l : List PObj} {css : List (List Value)} {S : List Nat} (h : OL w base X v l css) (hf : Fr S w w') (h1 : ∀ g, g ∈ S → v.ownBlock ≠ some g) (h2 : ∀ g, g ∈ S → g < base ∨ g ∈ X) (hX : ∀ g, g ∈ X' → g ∈ X ∨ w.heap.size ≤ g) : OL w' base X' v l css :=
  ⟨own_keep h.own hf h1, h.len, fun i cs o a b => by
    have h3 := ((h.ob i cs o a b).more (N' := fun g => (base ≤ g ∧ g ∉ X) ∧ g < w.heap.size) fun g hlt hg => ⟨hg, hlt⟩).keep hf fun g hg hm => by rcases h2 g hm with h4 | h4 <;> first | exact hg.1.2 h4 | (have := hg.1.1; omega)
    exact h3.more fun g _ hg => ⟨hg.1.1, fun hm => by rcases hX g hm with h4 | h4 <;> first | exact hg.1.2 h4 | (have := hg.2; omega)⟩⟩
theorem snoc_get {α : Type} {l : List α} {x y : α} {i : Nat} (h : (l ++ [x])[i]? = some y) : l[i]? = some y ∨ (i = l.length ∧ x = y) := by
  rcases Nat.lt_or_ge i l.length with hi | hi
  · rw [List.getElem?_append_left hi] at h; exact .inl h
  · rw [List.getElem?_append_right hi] at h
    rcases Nat.eq_zero_or_pos (i - l.length) with h0 | h0
    · rw [h0] at h; simp at h; exact .inr ⟨by omega, h⟩
    · rw [List.getElem?_eq_none (by simp; omega)] at h; cases h
/-- One object more: the row has been appended to. -/
theorem OL.snoc {w0 w w' : World} {base b1 : Nat} {X X' : List Nat} {v v' : Value} {l : List PObj} {css : List (List Value)} {cs : List Value} {o : PObj} (h : OL w0 base X v l css) (hf : Fr X w0 w')
    (hown : w'.ownsRow base 31 6 v' (l.length + 1) (css.flatten ++ cs)) (hX : ∀ g, g ∈ X' → g ∈ X ∨ w0.heap.size ≤ g)
    (ho : OV w (fun g => b1 ≤ g) cs o) (hb1 : base ≤ b1) (hfo : Fr X w w') (hXo : ∀ g, g ∈ X → g < b1) (hXo' : ∀ g, g ∈ X' → g < b1 ∨ w.heap.size ≤ g) : OL w' base X' v' (l ++ [o]) (css ++ [cs]) :=
  ⟨by rw [List.length_append, List.flatten_append]; simpa using hown, by rw [List.length_append, List.length_append, h.len]; rfl, fun i cs' o' h1 h2 => by
    rcases snoc_get h1 with h1 | ⟨rfl, rfl⟩
    · rcases snoc_get h2 with h2 | ⟨rfl, rfl⟩
      · have h3 := ((h.ob i cs' o' h1 h2).more (N' := fun g => (base ≤ g ∧ g ∉ X) ∧ g < w0.heap.size) fun g hlt hg => ⟨hg, hlt⟩).keep hf fun g hg hm => hg.1.2 hm
        exact h3.more fun g _ hg => ⟨hg.1.1, fun hm => by rcases hX g hm with h4 | h4 <;> first | exact hg.1.2 h4 | (have := hg.2; omega)⟩
      · rw [← h.len, List.getElem?_eq_none (Nat.le_refl _)] at h1; cases h1
    · rw [h.len] at h2
      rcases snoc_get h2 with h2 | ⟨_, rfl⟩
      · rw [List.getElem?_eq_none (Nat.le_refl _)] at h2; cases h2
      · have h3 := (ho.more (N' := fun g => b1 ≤ g ∧ g < w.heap.size) fun g hlt hg => ⟨hg, hlt⟩).keep hfo fun g hg hm => by have := hXo g hm; omega
        exact h3.more fun g _ hg => ⟨by omega, fun hm => by rcases hXo' g hm with h4 | h4 <;> omega⟩⟩
theorem own_caps {w : World} {base n size : Nat} {e : TypeId} {Av : Option Addr} {cv : Nat} {xs : List Value} (h : w.ownsRow base e size (.slice Av n cv) n xs) : n ≤ cv ∧ cv ≤ maxLen := by
  rcases h.2 with ⟨h1, h2⟩ | ⟨g, cap, cur, h1, _, _, h2, h3, _⟩
  · injection h1 with _ _ hc
    subst hc
    exact ⟨by omega, Nat.zero_le _⟩
  · injection h1 with _ _ hc
    subst hc
    exact ⟨h2, h3⟩
theorem own_below {w : World} {base n size : Nat} {e : TypeId} {v : Value} {xs : List Value} (h : w.ownsRow base e size v n xs) {g : Nat} (hg : g < base) : v.ownBlock ≠ some g := fun he => by
  have := own_base h g he
  omega
/-- Objects of the call's own, as an object's list. -/
theorem OL.ov {w : World} {base : Nat} {Av : Option Addr} {cv m : Nat} {acc : List PObj} {css : List (List Value)} {X : List Nat} (h : OL w base X (.slice Av acc.length cv) acc css) (hm : m ≤ base) (kd : Int) (keys : List (List UInt8)) (Ak : Option Addr) (nk ck : Nat)
    (hk : Rd w (fun g => base ≤ g) 1 Ak nk (keys.map strV)) (hks : ∀ s ∈ keys, s.length ≤ maxLen) (hck : nk ≤ ck) (hcm : ck ≤ maxLen) :
    OV w (fun g => m ≤ g) [.int .i64 kd, .int .i64 0, strV [], .slice Ak nk ck, .slice Av acc.length cv, .slice none 0 0] (.mk kd 0 [] keys acc []) := by
  obtain ⟨h1, h2⟩ := own_caps h.own
  have : OV w (fun g => base ≤ g) [.int .i64 kd, .int .i64 0, strV [], .slice Ak nk ck, .slice Av acc.length cv, .slice none 0 0] (.mk kd 0 [] keys acc []) :=
    .mk kd 0 [] Ak nk ck keys Av acc.length cv acc css none 0 0 [] (Nat.zero_le _) hk hks hck hcm (Rd.of_own h.own) h1 h2 h.len rfl (fun i cs o a b => (h.ob i cs o a b).more fun g _ hg => hg.1) RB.nil (Nat.le_refl _) (Nat.zero_le _)
  exact this.more fun g _ hg => by omega
/-- What the reader's functions come to. -/
def ObjR (w : World) (r : Nat) (A : Option Addr) (n c : Nat) (refs : Bool) (bs : List UInt8) : Except Int (PObj × Nat) → Ending → World → Prop
  | .ok (o, j), e, w' => ∃ c0 c1 c2 c3 c4 c5, e = .returned (.agg #[c0, c1, c2, c3, c4, c5]) ∧ OV w' (fun g => w.heap.size ≤ g) [c0, c1, c2, c3, c4, c5] o ∧ St w' r A n c j refs bs ∧ Fr [r] w w'
  | .error x, e, w' => e = panicE x ∧ Fr [r] w w'
def ObjOK (f : Nat) : Prop := ∀ (r n c k : Nat) (A : Option Addr) (refs : Bool) (bs : List UInt8) (deep : Int) (w : World), St w r A n c k refs bs → k < n → deep ≤ 4611686018427387904 → objP f bs refs deep k ≠ .error 99 →
  Calls Tryz.prog 68 #[.pointer (some ⟨r, 0, none⟩), .int .i64 deep] w (ObjR w r A n c refs bs (objP f bs refs deep k))
theorem info_obj : (Tryz.prog.info? 31).map (fun i => (i.zero, i.size, i.bytes)) = some (some (.agg #[.int .i64 0, .int .i64 0, .string ⟨#[]⟩, .slice none 0 0, .slice none 0 0, .slice none 0 0]), 6, 104) := by kernel_rfl
end Go.Proofs.YtdjhjfpeckndkaaGreatDoor
namespace Go.Proofs.YtdjhjfpeckndkaaGreatDoor
open Go.ChangeShapes Go.WideShapes Go.RowKit
theorem flatten_at (size : Nat) : ∀ (css : List (List Value)), (∀ cs ∈ css, cs.length = size) → ∀ (j : Nat) (u : Value), css.flatten[j]? = some u → ∃ (i k : Nat) (cs : List Value), css[i]? = some cs ∧ cs[k]? = some u ∧ j = i * size + k ∧ k < size
  | [], _, j, u, h => by simp at h
  | cs :: css, hl, j, u, h => by
    have hc := hl cs (by simp)
    rcases Nat.lt_or_ge j cs.length with hj | hj
    · rw [List.flatten_cons, List.getElem?_append_left hj] at h
      exact ⟨0, j, cs, rfl, h, by omega, by omega⟩
    · rw [List.flatten_cons, List.getElem?_append_right hj] at h
      obtain ⟨i, k, cs', h1, h2, h3, h4⟩ := flatten_at size css (fun x hx => hl x (by simp [hx])) _ u h
      exact ⟨i + 1, k, cs', by simpa using h1, h2, by rw [Nat.add_mul]; omega, h4⟩
theorem flatten_get (size : Nat) : ∀ (css : List (List Value)), (∀ cs ∈ css, cs.length = size) → ∀ (i k : Nat) (cs : List Value) (u : Value), css[i]? = some cs → cs[k]? = some u → css.flatten[i * size + k]? = some u
  | [], _, i, k, cs, u, h, _ => by simp at h
  | c0 :: css, hl, 0, k, cs, u, h, hu => by
    simp at h
    subst h
    rw [List.flatten_cons, Nat.zero_mul, Nat.zero_add, List.getElem?_append_left (List.getElem?_eq_some_iff.1 hu).1]
    exact hu
  | c0 :: css, hl, i + 1, k, cs, u, h, hu => by
    have hc := hl c0 (by simp)
    rw [List.flatten_cons, List.getElem?_append_right (by rw [hc, Nat.add_mul]; omega)]
    have := flatten_get size css (fun x hx => hl x (by simp [hx])) i k cs u (by simpa using h) hu
    rw [show (i + 1) * size + k - c0.length = i * size + k by rw [hc, Nat.add_mul]; omega]
    exact this
theorem flatten_len (size : Nat) : ∀ (css : List (List Value)), (∀ cs ∈ css, cs.length = size) → css.flatten.length = css.length * size
  | [], _ => by simp
  | cs :: css, hl => by
    rw [List.flatten_cons, List.length_append, flatten_len size css (fun x hx => hl x (by simp [hx])), hl cs (by simp), List.length_cons, Nat.add_mul]
    omega
section
variable {H : Type} {enc : TypeId × Value → H} {P : Program} {w : World} {base : Nat} {spare : Nat → Bool} {held : Bool}
/-- A slice that came in: its elements' cells. -/
theorem open_cells {t e : TypeId} {fuel size : Nat} {cs : List Value} {x : DataW H × List MemPlace} (ht : P.underlying t = some (.slice e)) (hsz : P.cellsOf e = size) (h : DataW.trod enc P w base spare held fuel t cs = some x) :
    ∃ (A : Option Addr) (n c : Nat) (css : List (List Value)), cs = [.slice A n c] ∧ n ≤ c ∧ c ≤ maxLen ∧ css.length = n ∧ Rd w (fun _ => True) size A n css.flatten ∧
      ∃ ys : List (DataW H × List MemPlace), ys.length = n ∧ Rows.uptoBulkAll (ys.map (·.1)) + 1 ≤ Rows.uptoBulk x.1 ∧
      ∀ (i : Nat) cs', css[i]? = some cs' → cs'.length = size ∧ ∃ g y, g < fuel ∧ ys[i]? = some y ∧ DataW.trod enc P w base spare held g e cs' = some y := by
  rcases DataW.trod_slice ht h with ⟨rfl, rfl⟩ | ⟨a, len, cap, elems, rest, n, hfu, rfl, rfl, hb, hl, hm, hlen, hel, _⟩
  · exact ⟨none, 0, 0, [], rfl, Nat.le_refl _, Nat.zero_le _, rfl, Rd.nil, [], rfl, by simp [Rows.uptoBulk, Rows.uptoBulkAll], by intro i cs' h; simp at h⟩
  · have key : ∀ i, ∃ cs' : List Value, i < len → w.cells? base (a.add (i * P.cellsOf e)) (P.cellsOf e) = some cs' ∧ ∃ y, elems[i]? = some y ∧ DataW.trod enc P w base spare held n e cs' = some y := by
      intro i
      by_cases hi : i < len
      · have := hel i hi
        have he : elems[i]? = some (elems[i]'(by omega)) := List.getElem?_eq_getElem (by omega)
        rw [he] at this
        obtain ⟨cs', h1, h2⟩ := Option.bind_eq_some_iff.1 this
        exact ⟨cs', fun _ => ⟨h1, _, he, h2⟩⟩
      · exact ⟨[], fun h => absurd h hi⟩
    obtain ⟨f, hf⟩ := Classical.skolem.1 key
    have hget : ∀ (i : Nat) cs', ((List.range len).map f)[i]? = some cs' → i < len ∧ cs' = f i := by
      intro i cs' h
      rw [List.getElem?_map] at h
      cases hr : (List.range len)[i]? with
      | none => rw [hr] at h; simp at h
      | some j =>
        rw [hr] at h
        obtain ⟨h1, h2⟩ := List.getElem?_eq_some_iff.1 hr
        simp at h1 h2 h
        subst h2
        exact ⟨h1, h.symm⟩
    have hlens : ∀ cs' ∈ (List.range len).map f, cs'.length = size := by
      intro cs' hm
      obtain ⟨i, hi, rfl⟩ := List.mem_map.1 hm
      rw [← hsz]
      exact (World.cells?_some (hf i (by simpa using hi)).1).2.1
    refine ⟨some a, len, cap, (List.range len).map f, rfl, hl, hm, by simp, ⟨by rw [flatten_len size _ hlens]; simp, fun _ => ⟨a, rfl, trivial, fun j u hu => ?_⟩⟩, elems, hlen, by simp only [Rows.uptoBulk]; omega, fun i cs' h => ?_⟩
    · obtain ⟨i, k, cs', h1, h2, h3, h4⟩ := flatten_at size _ hlens j u hu
      obtain ⟨hi, rfl⟩ := hget i cs' h1
      have := (World.cells?_some (hf i hi).1).2.2 k (by rw [hsz]; exact h4)
      rw [add_of_add, h2, hsz] at this
      rw [h3]
      exact this
    · obtain ⟨hi, rfl⟩ := hget i cs' h
      obtain ⟨y, hy1, hy2⟩ := (hf i hi).2
      exact ⟨hlens _ (List.mem_of_getElem? h), n, y, by omega, hy1, hy2⟩
end
/-- Strings that came in. -/
theorem open_strs {H : Type} {enc : TypeId × Value → H} {w : World} {base : Nat} {spare : Nat → Bool} {held : Bool} {P : Program} {t e : TypeId} {fuel : Nat} {cs : List Value} {x : DataW H × List MemPlace} (ht : P.underlying t = some (.slice e)) (he : P.underlying e = some .string) (hsz : P.cellsOf e = 1)
    (h : DataW.trod enc P w base spare held fuel t cs = some x) : ∃ (A : Option Addr) (n c : Nat) (ks : List (List UInt8)), cs = [.slice A n c] ∧ n ≤ c ∧ c ≤ maxLen ∧ Rd w (fun _ => True) 1 A n (ks.map strV) ∧ (∀ s ∈ ks, s.length ≤ maxLen) ∧ (ks.map (fun s => s.length + 1)).sum + 1 ≤ Rows.uptoBulk x.1 := by
  obtain ⟨A, n, c, css, h1, h2, h3, h4, h5, ys, hyl, hyb, h6⟩ := open_cells ht hsz h
  have key : ∀ (css : List (List Value)) (ys : List (DataW H × List MemPlace)), ys.length = css.length → (∀ (i : Nat) cs', css[i]? = some cs' → cs'.length = 1 ∧ ∃ g y, g < fuel ∧ ys[i]? = some y ∧ DataW.trod enc P w base spare held g e cs' = some y) → ∃ ks : List (List UInt8), css.flatten = ks.map strV ∧ (∀ s ∈ ks, s.length ≤ maxLen) ∧ (ks.map (fun s => s.length + 1)).sum ≤ Rows.uptoBulkAll (ys.map (·.1)) := by
    intro css
    induction css with
    | nil => exact fun ys _ _ => ⟨[], rfl, by simp, Nat.zero_le _⟩
    | cons cs0 css ih =>
      intro ys hl h
      match ys, hl with
      | y0 :: ys, hl =>
        obtain ⟨_, g, y, _, hy0, hy⟩ := h 0 cs0 rfl
        obtain ⟨s, rfl, hx, hs⟩ := DataW.trod_string he hy
        obtain ⟨ks, hk, hl, hb⟩ := ih ys (by simpa using hl) (fun i cs' hi => by simpa using h (i + 1) cs' (by simpa using hi))
        simp at hy0
        subst hy0
        refine ⟨s.data.toList :: ks, by rw [List.flatten_cons, hk]; rfl, fun x hx => ?_, ?_⟩
        · rcases List.mem_cons.1 hx with rfl | hx
          · simpa using hs
          · exact hl x hx
        · rw [List.map_cons, List.map_cons, List.sum_cons, hx]
          simp only [Rows.uptoBulkAll, Rows.uptoBulk]
          omega
  obtain ⟨ks, hk, hl, hb⟩ := key css ys (by omega) h6
  exact ⟨A, n, c, ks, h1, h2, h3, by rw [← hk]; exact h5, hl, by omega⟩
theorem open_bytes {H : Type} {enc : TypeId × Value → H} {w : World} {base : Nat} {spare : Nat → Bool} {held : Bool} {P : Program} {t e : TypeId} {fuel : Nat} {cs : List Value} {x : DataW H × List MemPlace} (ht : P.underlying t = some (.slice e)) (he : P.underlying e = some (.int .u8)) (hsz : P.cellsOf e = 1)
    (h : DataW.trod enc P w base spare held fuel t cs = some x) : ∃ (A : Option Addr) (n c : Nat) (bs : List UInt8), cs = [.slice A n c] ∧ n ≤ c ∧ c ≤ maxLen ∧ RB w (fun _ => True) A n bs ∧ bs.length + 1 ≤ Rows.uptoBulk x.1 := by
  obtain ⟨A, n, c, css, h1, h2, h3, h4, h5, ys, hyl, hyb, h6⟩ := open_cells ht hsz h
  have key : ∀ (css : List (List Value)) (ys : List (DataW H × List MemPlace)), ys.length = css.length → (∀ (i : Nat) cs', css[i]? = some cs' → cs'.length = 1 ∧ ∃ g y, g < fuel ∧ ys[i]? = some y ∧ DataW.trod enc P w base spare held g e cs' = some y) → ∃ bs : List UInt8, css.flatten = u8s bs ∧ bs.length ≤ Rows.uptoBulkAll (ys.map (·.1)) := by
    intro css
    induction css with
    | nil => exact fun _ _ _ => ⟨[], rfl, Nat.zero_le _⟩
    | cons cs0 css ih =>
      intro ys hl h
      match ys, hl with
      | y0 :: ys, hl =>
        obtain ⟨_, g, y, _, hy0, hy⟩ := h 0 cs0 rfl
        obtain ⟨z, rfl, hx, hz⟩ := DataW.trod_int he hy
        obtain ⟨bs, hk, hb⟩ := ih ys (by simpa using hl) (fun i cs' hi => by simpa using h (i + 1) cs' (by simpa using hi))
        simp at hy0
        subst hy0
        have hw : (decide ((0 : Int) ≤ z) && decide (z ≤ 255)) = true := hz
        simp only [Bool.and_eq_true, decide_eq_true_eq] at hw
        have e : ((UInt8.ofNat z.toNat).toNat : Int) = z := by simp only [UInt8.toNat_ofNat']; omega
        refine ⟨UInt8.ofNat z.toNat :: bs, ?_, ?_⟩
        · rw [List.flatten_cons, hk]
          unfold u8s
          rw [List.map_cons, e]
          rfl
        · rw [List.map_cons, hx, List.length_cons]
          simp only [Rows.uptoBulkAll, Rows.uptoBulk]
          omega
  obtain ⟨bs, hk, hb⟩ := key css ys (by omega) h6
  exact ⟨A, n, c, bs, h1, h2, h3, by unfold RB; rw [← hk]; exact h5, by omega⟩
set_option maxRecDepth 100000 in
/-- An object that came in. -/
theorem open_obj {H : Type} {enc : TypeId × Value → H} {w : World} {base : Nat} {spare : Nat → Bool} {held : Bool} : ∀ (fuel : Nat) (cs : List Value) (x : DataW H × List MemPlace), DataW.trod enc Tryz.prog w base spare held fuel 31 cs = some x → ∃ o, OV w (fun _ => True) cs o ∧ sizeO o ≤ Rows.uptoBulk x.1 := by
  intro fuel
  induction fuel using Nat.strongRecOn with
  | _ fuel ih =>
    intro cs x h
    obtain ⟨ys, n, hfu, hx, hlen, hy6, hf⟩ := DataW.trod_struct Tryz.underlying31 h
    have hC : Tryz.prog.cellsOf 31 = 6 := by kernel_rfl
    rw [hC] at hlen
    match cs, hlen with
    | [c0, c1, c2, c3, c4, c5], _ =>
      have hyl : ∀ i, i < 6 → ∃ y, ys[i]? = some y := fun i hi => ⟨_, List.getElem?_eq_getElem (by rw [hy6]; exact hi)⟩
      obtain ⟨y0, e0⟩ := hyl 0 (by omega)
      obtain ⟨y1, e1⟩ := hyl 1 (by omega)
      obtain ⟨y2, e2⟩ := hyl 2 (by omega)
      obtain ⟨y3, e3⟩ := hyl 3 (by omega)
      obtain ⟨y4, e4⟩ := hyl 4 (by omega)
      obtain ⟨y5, e5⟩ := hyl 5 (by omega)
      have k1 : Tryz.prog.cellsOf 3 = 1 := by kernel_rfl
      have k2 : Tryz.prog.cellsOf 9 = 1 := by kernel_rfl
      have k3 : Tryz.prog.cellsOf 28 = 1 := by kernel_rfl
      have k4 : Tryz.prog.cellsOf 29 = 1 := by kernel_rfl
      have k5 : Tryz.prog.cellsOf 22 = 1 := by kernel_rfl
      have k6 : Tryz.prog.cellsOf 5 = 1 := by kernel_rfl
      have h0 : DataW.trod enc Tryz.prog w base spare held n 3 [c0] = ys[0]? := by simpa [k1] using hf 0 _ rfl
      have h1 : DataW.trod enc Tryz.prog w base spare held n 3 [c1] = ys[1]? := by simpa [k1] using hf 1 _ rfl
      have h2 : DataW.trod enc Tryz.prog w base spare held n 9 [c2] = ys[2]? := by simpa [k2] using hf 2 _ rfl
      have h3 : DataW.trod enc Tryz.prog w base spare held n 28 [c3] = ys[3]? := by simpa [k3] using hf 3 _ rfl
      have h4 : DataW.trod enc Tryz.prog w base spare held n 29 [c4] = ys[4]? := by simpa [k4] using hf 4 _ rfl
      have h5 : DataW.trod enc Tryz.prog w base spare held n 22 [c5] = ys[5]? := by simpa [k5] using hf 5 _ rfl
      rw [e0] at h0
      rw [e1] at h1
      rw [e2] at h2
      rw [e3] at h3
      rw [e4] at h4
      rw [e5] at h5
      obtain ⟨kd, q0, z0, _⟩ := DataW.trod_int Tryz.underlying3 h0
      obtain ⟨nn, q1, z1, _⟩ := DataW.trod_int Tryz.underlying3 h1
      obtain ⟨t, q2, z2, ht⟩ := DataW.trod_string Tryz.underlying9 h2
      obtain ⟨Ak, nk, ck, ks, q3, a1, a2, a3, a4, a5⟩ := open_strs Tryz.underlying28 Tryz.underlying9 k2 h3
      obtain ⟨Al, nl, cl, css, q4, b1, b2, b3, b4, zs, b6, b7, b5⟩ := open_cells Tryz.underlying29 hC h4
      obtain ⟨Ad, nd, cd, bs, q5, d1, d2, d3, d4⟩ := open_bytes Tryz.underlying22 Tryz.underlying5 k6 h5
      injection q0 with q0 _
      injection q1 with q1 _
      injection q2 with q2 _
      injection q3 with q3 _
      injection q4 with q4 _
      injection q5 with q5 _
      subst q0 q1 q2 q3 q4 q5
      have key : ∀ i : Nat, ∃ o : PObj, ∀ cs' : List Value, css[i]? = some cs' → OV w (fun _ => True) cs' o ∧ ∃ y : DataW H × List MemPlace, zs[i]? = some y ∧ sizeO o ≤ Rows.uptoBulk y.1 := by
        intro i
        cases hc : css[i]? with
        | none => exact ⟨simpleO 0 0 [], fun _ h => by cases h⟩
        | some cs' =>
          obtain ⟨_, g, y, hg, hy, hz⟩ := b5 i cs' hc
          obtain ⟨o, ho, hs⟩ := ih g (by omega) cs' y hz
          exact ⟨o, fun _ h => by injection h with h; subst h; exact ⟨ho, y, hy, hs⟩⟩
      obtain ⟨f, hfo⟩ := Classical.skolem.1 key
      have hsum : ∀ (m : Nat) (zs : List (DataW H × List MemPlace)) (f : Nat → PObj), zs.length = m → (∀ i, i < m → ∃ y : DataW H × List MemPlace, zs[i]? = some y ∧ sizeO (f i) ≤ Rows.uptoBulk y.1) → sizeL ((List.range m).map f) ≤ Rows.uptoBulkAll (zs.map (·.1)) := by
        intro m
        induction m with
        | zero => intro zs f _ _; simp [sizeL]
        | succ m ihm =>
          intro zs f hl hh
          match zs, hl with
          | z0 :: zs, hl =>
            obtain ⟨y, hy, hs⟩ := hh 0 (by omega)
            simp at hy
            subst hy
            have := ihm zs (fun i => f (i + 1)) (by simpa using hl) (fun i hi => by simpa using hh (i + 1) (by omega))
            rw [List.range_succ_eq_map, List.map_cons, List.map_map]
            simp only [sizeL, List.map_cons, Rows.uptoBulkAll]
            have e : (f ∘ Nat.succ) = (fun i => f (i + 1)) := rfl
            rw [e]
            omega
      have hlist := hsum nl zs f b6 (fun i hi => by
        obtain ⟨_, y, hy, hs⟩ := hfo i (css[i]'(by omega)) (List.getElem?_eq_getElem (by omega))
        exact ⟨y, hy, hs⟩)
      refine ⟨.mk kd nn t.data.toList ks ((List.range nl).map f) bs, .mk kd nn t.data.toList Ak nk ck ks Al nl cl ((List.range nl).map f) css Ad nd cd bs (by simpa using ht) a3 a4 a1 a2 b4 b1 b2 b3 (by simp) (fun i cs' o h1 h2 => ?_) d3 d1 d2, ?_⟩
      · rw [List.getElem?_map] at h2
        cases hr : (List.range nl)[i]? with
        | none => rw [hr] at h2; simp at h2
        | some j =>
          rw [hr] at h2
          obtain ⟨h3, h4⟩ := List.getElem?_eq_some_iff.1 hr
          simp at h4 h2
          subst h4
          rw [← h2]
          exact (hfo i cs' h1).1
      · match ys, hy6 with
        | [w0, w1, w2, w3, w4, w5], _ =>
          obtain rfl : w0 = y0 := Option.some.inj e0
          obtain rfl : w1 = y1 := Option.some.inj e1
          obtain rfl : w2 = y2 := Option.some.inj e2
          obtain rfl : w3 = y3 := Option.some.inj e3
          obtain rfl : w4 = y4 := Option.some.inj e4
          obtain rfl : w5 = y5 := Option.some.inj e5
          rw [hx]
          simp only [List.map_cons, List.map_nil, Rows.uptoBulk, Rows.uptoBulkAll, sizeO, z0, z1, z2]
          omega
end Go.Proofs.YtdjhjfpeckndkaaGreatDoor
