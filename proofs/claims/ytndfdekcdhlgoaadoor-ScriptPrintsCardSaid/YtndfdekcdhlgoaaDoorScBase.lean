/- Words for memory: what reads as a list, frames, an append of whatever source. -/
/- Slices of bytes: cut, turned into strings and back; over any program. -/
/- Pages in memory. -/
/- An append onto a row of the call's own, whatever the source. -/
/- What '!=' says of two points. -/
/- What '!=' says of two [6]int. -/
/- A load of a whole struct whose cells are known, wherever it lies; over any program. -/
import Derived.Test.YtndfdekcdhlgoaaDoorProg
import Derived.WalkKit
import Derived.WalkLawsBesides
import Derived.WalkSpells
import Derived.Below
import Derived.Laws.OwnMore
import Derived.Deep.AppendLies
import Derived.Deep.Draws
import Derived.Laws.Rows
import Derived.Maps.AppendAt
import Derived.RegionTactic
import Derived.OwnWalk
import Derived.Deep.QuietTactic
import Derived.BigQuiet
import Derived.Deep.DeepFit
import Derived.Deep.LoopGhost
import Derived.Deep.DeepCutAuto
import Derived.Deep.CutBlock
import Derived.Deep.RegionWith
import Derived.Deep.RegionHeld3
import Derived.StillTailTactics
import Derived.Lib.Hide
import Derived.Outline
import Derived.Test.YtndfdekcdhlgoaaDoorScPlain
import Derived.Laws.BytesArg
import Derived.Lib.ConvBytes
import Derived.Lib.SlBytesConst
import Derived.KernelRfl
import Derived.Laws.StructEq
import Derived.Laws.Tables
import Derived.Laws.Cover2
import Derived.Deep.WholeRow
set_option linter.unusedVariables false
set_option linter.unusedSimpArgs false
namespace Go.Proofs.YtndfdekcdhlgoaaDoor
open Go.RowKit

theorem hide {p : Prop} (h : p) : Hid p := h
theorem unhide {p : Prop} (h : Hid p) : p := h

theorem block_of_add (a : Addr) (n : Nat) : (a.add n).block = a.block := by unfold Addr.add; split <;> rfl
theorem add_of_add (a : Addr) (i j : Nat) : (a.add i).add j = a.add (i + j) := by
  unfold Addr.add
  by_cases hi : i = 0 <;> by_cases hj : j = 0 <;> simp [hi, hj, Nat.add_assoc]

/-- The blocks of S may have turned, and new blocks may have come; all else is as it was. -/
structure Fr (S : List Nat) (w w' : World) : Prop where
  os : w'.os = w.os
  tape : w'.tape = w.tape
  output : w'.output = w.output
  size : w.heap.size ≤ w'.heap.size
  block : ∀ g, g < w.heap.size → g ∉ S → w'.heap[g]? = w.heap[g]?

section
variable {S T : List Nat} {w w' w'' : World}
theorem Fr.refl (S : List Nat) (w : World) : Fr S w w := ⟨rfl, rfl, rfl, Nat.le_refl _, fun _ _ _ => rfl⟩
theorem Fr.trans' (h : Fr S w w') (k : Fr T w' w'') (hT : ∀ g, g ∈ T → g ∈ S ∨ w.heap.size ≤ g) : Fr S w w'' :=
  ⟨k.os.trans h.os, k.tape.trans h.tape, k.output.trans h.output, Nat.le_trans h.size k.size, fun g hg hn =>
    (k.block g (Nat.lt_of_lt_of_le hg h.size) (fun hm => by rcases hT g hm with h1 | h1 <;> first | exact hn h1 | omega)).trans (h.block g hg hn)⟩
theorem Fr.trans (h : Fr S w w') (k : Fr S w' w'') : Fr S w w'' := h.trans' k fun _ hg => .inl hg
theorem Fr.then0 (h : Fr S w w') (k : Fr [] w' w'') : Fr S w w'' := h.trans' k fun _ hg => by cases hg
theorem Fr.mono (h : Fr S w w') (hT : ∀ g, g ∈ S → g ∈ T ∨ w.heap.size ≤ g) : Fr T w w' := (Fr.refl T w).trans' h hT
theorem Fr.drew (h : Fr S w w') : Fr S w w'.drew := ⟨h.os, h.tape, h.output, h.size, h.block⟩
theorem Fr.drewN (h : Fr S w w') (n : Nat) : Fr S w (w'.drewN n) := ⟨h.os, h.tape, h.output, h.size, h.block⟩
theorem Fr.drew_left (h : Fr S w.drew w') : Fr S w w' := ⟨h.os, h.tape, h.output, h.size, h.block⟩
theorem Fr.drewN_left {n : Nat} (h : Fr S (w.drewN n) w') : Fr S w w' := ⟨h.os, h.tape, h.output, h.size, h.block⟩
theorem Fr.alloc (h : Fr S w w') (o : Obj) : Fr S w (w'.alloc o) :=
  h.then0 ⟨rfl, rfl, rfl, by simp, fun g hg _ => Below.heap_alloc _ _ _ hg⟩
theorem Fr.setCell (h : Fr S w w') {p : Addr} (hp : p.block ∈ S ∨ w.heap.size ≤ p.block) (u : Value) : Fr S w (w'.setCell p u) :=
  h.trans' (T := [p.block]) ⟨rfl, rfl, rfl, by simp [World.setCell], fun g _ hn => Below.heap_setCell _ _ _ _ (by simpa using hn)⟩ (fun g hg => by
    have : g = p.block := by simpa using hg
    subst this; exact hp)
theorem Fr.grown {row : Option Nat} (h : Fr S w w') (hg : w'.grownBy w'' row) (hr : ∀ k, row = some k → k ∈ S ∨ w.heap.size ≤ k) : Fr S w w'' :=
  h.trans' (T := row.toList) ⟨hg.os, hg.tape, hg.output, hg.size, fun g hgl hn => hg.block g hgl (fun e => hn (by simp [← e]))⟩ (fun g hm => hr g (by simpa using hm))
theorem Fr.of_below (h : Below w.heap.size w w') : Fr S w w' := ⟨h.os, h.tape, h.output, h.size, fun g hg _ => h.block g hg⟩
theorem Fr.below (h : Fr [] w w') : Below w.heap.size w w' := ⟨h.os, h.tape, h.output, h.size, fun g hg => h.block g hg (by simp)⟩
theorem Fr.belowN {B : Nat} (h : Fr S w w') (hB : B ≤ w.heap.size) (hS : ∀ g, g ∈ S → B ≤ g) : Below B w w' :=
  ⟨h.os, h.tape, h.output, h.size, fun g hg => h.block g (by omega) (fun hm => by have := hS g hm; omega)⟩
theorem Fr.cell (h : Fr S w w') {p : Addr} {v : Value} (hc : w.cell? p = some v) (hn : p.block ∉ S) : w'.cell? p = some v :=
  (World.cell?_of_block (w := w) (h.block p.block (World.block_lt_of_cell? w p hc) hn)).trans hc
theorem Fr.frozen (h : Fr S w w') {p : Addr} (hl : p.block < w.heap.size) (hn : p.block ∉ S) : w'.frozen? p = w.frozen? p :=
  World.frozen?_of_block (w := w) (h.block p.block hl hn)
end

/-- The slice whose address is A and length n (elements of so many cells) holds the cells xs; its block is one of N. -/
def Rd (w : World) (N : Nat → Prop) (size : Nat) (A : Option Addr) (n : Nat) (xs : List Value) : Prop :=
  xs.length = n * size ∧ (0 < n * size → ∃ ad, A = some ad ∧ N ad.block ∧ ∀ j u, xs[j]? = some u → w.cell? (ad.add j) = some u)

section
variable {S : List Nat} {w w' : World} {N N' : Nat → Prop} {size n : Nat} {A : Option Addr} {xs : List Value}
theorem Rd.nil : Rd w N size A 0 [] := ⟨by simp, fun h => absurd h (by simp)⟩
theorem Rd.len (h : Rd w N size A n xs) : xs.length = n * size := h.1
theorem Rd.len1 (h : Rd w N 1 A n xs) : xs.length = n := by have := h.1; omega
theorem Rd.keep (h : Rd w N size A n xs) (hf : Fr S w w') (hS : ∀ g, N g → g ∉ S) : Rd w' N size A n xs :=
  ⟨h.1, fun hn => by
    obtain ⟨ad, e, hb, hc⟩ := h.2 hn
    exact ⟨ad, e, hb, fun j u hu => hf.cell (hc j u hu) (by rw [block_of_add]; exact hS _ hb)⟩⟩
theorem Rd.keep0 (h : Rd w N size A n xs) (hf : Fr [] w w') : Rd w' N size A n xs := h.keep hf fun _ _ => by simp
theorem Rd.more (h : Rd w N size A n xs) (hN : ∀ g, g < w.heap.size → N g → N' g) : Rd w N' size A n xs :=
  ⟨h.1, fun hn => by
    obtain ⟨ad, e, hb, hc⟩ := h.2 hn
    refine ⟨ad, e, hN _ ?_ hb, hc⟩
    have hl : 0 < xs.length := by have := h.1; omega
    have := World.block_lt_of_cell? w _ (hc 0 _ (List.getElem?_eq_getElem hl))
    rwa [block_of_add] at this⟩
theorem Rd.at_ {k : Nat} (h : Rd w N 1 A n xs) (hk : k < n) : ∃ ad u, A = some ad ∧ N ad.block ∧ xs[k]? = some u ∧ w.cell? (ad.add k) = some u := by
  obtain ⟨ad, e, hb, hc⟩ := h.2 (by omega)
  have hl : k < xs.length := by have := h.1; omega
  exact ⟨ad, xs[k], e, hb, List.getElem?_eq_getElem hl, hc k _ (List.getElem?_eq_getElem hl)⟩
theorem Rd.cut (h : Rd w N size A n xs) {k cap : Nat} (hk : k ≤ n) (hc : n ≤ cap) :
    Rd w N size (if cap = k then A else A.map (·.add (k * size))) (n - k) (xs.drop (k * size)) := by
  refine ⟨by rw [List.length_drop, h.1, Nat.sub_mul], fun hn => ?_⟩
  have hpos : 0 < n - k ∧ 0 < size := by
    rcases Nat.eq_zero_or_pos (n - k) with h0 | h0
    · simp [h0] at hn
    · rcases Nat.eq_zero_or_pos size with h1 | h1
      · simp [h1] at hn
      · exact ⟨h0, h1⟩
  obtain ⟨ad, rfl, hb, hcell⟩ := h.2 (Nat.mul_pos (by omega) hpos.2)
  rw [if_neg (by omega)]
  refine ⟨ad.add (k * size), rfl, by rw [block_of_add]; exact hb, fun j u hu => ?_⟩
  rw [add_of_add]
  exact hcell _ u (by rw [← hu, List.getElem?_drop])
theorem Rd.take (h : Rd w N size A n xs) {k : Nat} (hk : k ≤ n) : Rd w N size A k (xs.take (k * size)) := by
  refine ⟨by rw [List.length_take, h.1]; exact Nat.min_eq_left (Nat.mul_le_mul_right _ hk), fun hn => ?_⟩
  obtain ⟨ad, rfl, hb, hcell⟩ := h.2 (Nat.lt_of_lt_of_le hn (Nat.mul_le_mul_right _ hk))
  exact ⟨ad, rfl, hb, fun j u hu => hcell j u (by
    rw [List.getElem?_take] at hu
    split at hu
    · exact hu
    · cases hu)⟩
theorem Rd.of_own {base : Nat} {e : TypeId} {c : Nat} (h : w.ownsRow base e size (.slice A n c) n xs) : Rd w (fun g => base ≤ g) size A n xs := by
  refine ⟨h.1, fun hn => ?_⟩
  have hn' : 0 < n := by
    rcases Nat.eq_zero_or_pos n with h0 | h0
    · simp [h0] at hn
    · exact h0
  obtain ⟨g, cap, hv, hb, hlt⟩ := h.form hn'
  have hA : A = some ⟨g, 0, none⟩ := by injection hv
  subst hA
  exact ⟨_, rfl, hb, h.cells (g := g) rfl⟩
end

/-! Blocks that are known whole. -/
def Blk (w : World) (g : Nat) (t : TypeId) (cs : Array Value) : Prop := w.heap[g]? = some (.cells cs t (0, 0))
section
variable {w w' : World} {g : Nat} {t : TypeId} {cs : Array Value}
theorem Blk.lt (h : Blk w g t cs) : g < w.heap.size := by
  rcases Nat.lt_or_ge g w.heap.size with hlt | hge
  · exact hlt
  · unfold Blk at h; rw [Array.getElem?_eq_none hge] at h; cases h
theorem Blk.cell (h : Blk w g t cs) (i : Nat) : w.cell? ⟨g, i, none⟩ = cs[i]? := cell_of_row w g i cs t (0, 0) h
theorem Blk.frozen (h : Blk w g t cs) (i : Nat) : w.frozen? ⟨g, i, none⟩ = false := by
  unfold Blk at h
  simp [World.frozen?, h]
theorem Blk.new (w : World) (t : TypeId) (cs : Array Value) : Blk (w.alloc (.cells cs t)) w.heap.size t cs := heap_alloc_new w _
theorem Blk.drew (h : Blk w g t cs) : Blk w.drew g t cs := h
theorem Blk.drewN (h : Blk w g t cs) (n : Nat) : Blk (w.drewN n) g t cs := h
theorem Blk.alloc (h : Blk w g t cs) (o : Obj) : Blk (w.alloc o) g t cs := (Below.heap_alloc w o g h.lt).trans h
theorem Blk.set_ (h : Blk w g t cs) (i : Nat) (u : Value) : Blk (w.setCell ⟨g, i, none⟩ u) g t (cs.setIfInBounds i u) := by
  unfold Blk at h ⊢
  simp [World.setCell, Array.getElem?_modify, h]
theorem Blk.far (h : Blk w g t cs) {p : Addr} (hp : g ≠ p.block) (u : Value) : Blk (w.setCell p u) g t cs := (Below.heap_setCell w p u g hp).trans h
theorem Blk.keep {S : List Nat} (h : Blk w g t cs) (hf : Fr S w w') (hg : g ∉ S) : Blk w' g t cs := (hf.block g h.lt hg).trans h
theorem Blk.grown {row : Option Nat} (h : Blk w g t cs) (hb : w.grownBy w' row) (hg : some g ≠ row) : Blk w' g t cs := (hb.block g h.lt hg).trans h
theorem Blk.c2 {a b : Value} (h : Blk w g t #[a, b]) : w.cell? ⟨g, 0, none⟩ = some a ∧ w.cell? ⟨g, 1, none⟩ = some b ∧ ∀ i, w.frozen? ⟨g, i, none⟩ = false :=
  ⟨h.cell 0, h.cell 1, h.frozen⟩
theorem Blk.c3 {a b c : Value} (h : Blk w g t #[a, b, c]) : w.cell? ⟨g, 0, none⟩ = some a ∧ w.cell? ⟨g, 1, none⟩ = some b ∧ w.cell? ⟨g, 2, none⟩ = some c ∧ ∀ i, w.frozen? ⟨g, i, none⟩ = false :=
  ⟨h.cell 0, h.cell 1, h.cell 2, h.frozen⟩
theorem Blk.c6 {a b c d e f : Value} (h : Blk w g t #[a, b, c, d, e, f]) : w.cell? ⟨g, 0, none⟩ = some a ∧ w.cell? ⟨g, 1, none⟩ = some b ∧ w.cell? ⟨g, 2, none⟩ = some c ∧ w.cell? ⟨g, 3, none⟩ = some d ∧ w.cell? ⟨g, 4, none⟩ = some e ∧ w.cell? ⟨g, 5, none⟩ = some f ∧ ∀ i, w.frozen? ⟨g, i, none⟩ = false :=
  ⟨h.cell 0, h.cell 1, h.cell 2, h.cell 3, h.cell 4, h.cell 5, h.frozen⟩
theorem Blk.ne_ {g' : Nat} {t' : TypeId} {cs' : Array Value} (h : Blk w g t cs) (h' : Blk w g' t' cs') (hne : t ≠ t') : g ≠ g' := by
  rintro rfl
  unfold Blk at h h'
  rw [h] at h'
  injection h' with h'
  injection h' with _ ht
  exact hne ht
theorem own_blk_ne {base size n : Nat} {e : TypeId} {v : Value} {xs : List Value} (h : w.ownsRow base e size v n xs) (hg : Blk w g t cs) (hne : e ≠ t) : v.ownBlock ≠ some g := by
  rcases h.2 with ⟨rfl, _⟩ | ⟨g', cap, cur, rfl, _, hh, _⟩
  · simp [Value.ownBlock]
  · intro he
    have : g' = g := by simpa [Value.ownBlock] using he
    subst this
    exact Blk.ne_ (t := e) hh hg hne rfl
end

theorem own_base {w : World} {base n size : Nat} {e : TypeId} {v : Value} {xs : List Value} (h : w.ownsRow base e size v n xs) (k : Nat) (hk : v.ownBlock = some k) : base ≤ k := by
  rcases h.2 with ⟨rfl, _⟩ | ⟨g, cap, cur, rfl, hb, _⟩
  · simp [Value.ownBlock] at hk
  · have : g = k := by simpa [Value.ownBlock] using hk
    omega
theorem own_lt {w : World} {base n size : Nat} {e : TypeId} {v : Value} {xs : List Value} (h : w.ownsRow base e size v n xs) (k : Nat) (hk : v.ownBlock = some k) : k < w.heap.size := by
  rcases h.2 with ⟨rfl, _⟩ | ⟨g, cap, cur, rfl, hb, hh, _⟩
  · simp [Value.ownBlock] at hk
  · have : g = k := by simpa [Value.ownBlock] using hk
    subst this
    exact (Array.getElem?_eq_some_iff.1 hh).1
theorem own_nil (W : World) (base : Nat) (e : TypeId) (size : Nat) : W.ownsRow base e size (.slice none 0 0) 0 [] := ⟨by simp, .inl ⟨rfl, rfl⟩⟩
theorem own_slice {w : World} {base n size : Nat} {e : TypeId} {v : Value} {xs : List Value} (h : w.ownsRow base e size v n xs) : ∃ A c, v = .slice A n c := by
  rcases h.2 with ⟨rfl, rfl⟩ | ⟨g, cap, cur, rfl, _⟩
  · exact ⟨none, 0, rfl⟩
  · exact ⟨_, cap, rfl⟩
theorem own_keep {w w' : World} {S : List Nat} {base n size : Nat} {e : TypeId} {v : Value} {xs : List Value} (h : w.ownsRow base e size v n xs) (hf : Fr S w w') (hS : ∀ g, g ∈ S → v.ownBlock ≠ some g) : w'.ownsRow base e size v n xs := by
  obtain ⟨h1, h2⟩ := h
  refine ⟨h1, ?_⟩
  rcases h2 with h2 | ⟨g, cap, cur, rfl, hb, hh, h3⟩
  · exact .inl h2
  · refine .inr ⟨g, cap, cur, rfl, hb, ?_, h3⟩
    have hlt := (Array.getElem?_eq_some_iff.1 hh).1
    rw [hf.block g hlt (fun hm => hS g hm (by simp [Value.ownBlock]))]
    exact hh
theorem results_tmp4 {fn : Func} {t u v x : Tmp} (h : fn.results = #[.tmp t, .tmp u, .tmp v, .tmp x]) (tmps : Array Value) (P : Program) (w : World) :
    (results fn tmps).run P w = .ok (.tuple #[tmps.getD t undef, tmps.getD u undef, tmps.getD v undef, tmps.getD x undef]) w := by simp [results, h]
theorem results_tmp5 {fn : Func} {t u v x y : Tmp} (h : fn.results = #[.tmp t, .tmp u, .tmp v, .tmp x, .tmp y]) (tmps : Array Value) (P : Program) (w : World) :
    (results fn tmps).run P w = .ok (.tuple #[tmps.getD t undef, tmps.getD u undef, tmps.getD v undef, tmps.getD x undef, tmps.getD y undef]) w := by simp [results, h]
theorem ret_int {k : IntKind} {a b : Int} (h : a = b) : Ending.returned (.int k a) = .returned (.int k b) := by rw [h]
theorem ret_bool {a b : Bool} (h : a = b) : Ending.returned (.bool a) = .returned (.bool b) := by rw [h]

end Go.Proofs.YtndfdekcdhlgoaaDoor
namespace Go.Proofs.YtndfdekcdhlgoaaDoor
open Go.RowKit

def RB (w : World) (N : Nat → Prop) (A : Option Addr) (n : Nat) (bs : List UInt8) : Prop := Rd w N 1 A n (u8s bs)
section
variable {w w' : World} {N N' : Nat → Prop} {S : List Nat} {A : Option Addr} {n : Nat} {bs : List UInt8}
theorem RB.len (h : RB w N A n bs) : bs.length = n := by
  have := Rd.len1 h
  rwa [u8s_length] at this
theorem RB.at_ {k : Nat} (h : RB w N A n bs) (hk : k < n) :
    ∃ ad u, A = some ad ∧ bs[k]? = some u ∧ w.cell? (ad.add k) = some (.int .u8 u.toNat) := by
  obtain ⟨ad, u, hA, _, hu, hc⟩ := Rd.at_ h hk
  have hl : k < bs.length := by rw [h.len]; exact hk
  have hb : bs[k]? = some bs[k] := List.getElem?_eq_getElem hl
  rw [u8s_at hb] at hu
  injection hu with hu
  exact ⟨ad, _, hA, hb, by rw [hc, hu]⟩
theorem RB.at2 {k : Nat} {u : UInt8} (h : RB w N A n bs) (hu : bs[k]? = some u) : ∃ ad, A = some ad ∧ N ad.block ∧ w.cell? (ad.add k) = some (.int .u8 u.toNat) := by
  have hk : k < n := by rw [← h.len]; exact (List.getElem?_eq_some_iff.1 hu).1
  obtain ⟨ad, v, hA, hN, hv, hc⟩ := Rd.at_ h hk
  rw [u8s_at hu] at hv
  injection hv with hv
  exact ⟨ad, hA, hN, by rw [hc, hv]⟩
theorem RB.keep (h : RB w N A n bs) (hf : Fr S w w') (hS : ∀ g, N g → g ∉ S) : RB w' N A n bs := Rd.keep h hf hS
theorem RB.keep0 (h : RB w N A n bs) (hf : Fr [] w w') : RB w' N A n bs := Rd.keep0 h hf
theorem RB.more (h : RB w N A n bs) (hN : ∀ g, g < w.heap.size → N g → N' g) : RB w N' A n bs := Rd.more h hN
theorem RB.nil : RB w N A 0 [] := Rd.nil
theorem RB.cut {k c : Nat} (h : RB w N A n bs) (hk : k ≤ n) (hc : n ≤ c) : RB w N (if c = k then A else A.map (·.add (k * 1))) (n - k) (bs.drop k) := by
  have := Rd.cut h hk hc
  unfold RB
  rw [u8s, List.map_drop]
  rw [Nat.mul_one] at this ⊢
  exact this
theorem RB.take {k : Nat} (h : RB w N A n bs) (hk : k ≤ n) : RB w N A k (bs.take k) := by
  have := Rd.take h hk
  unfold RB
  rw [u8s, List.map_take]
  rw [Nat.mul_one] at this
  exact this
end

section
variable {P : Program}
/-- 'b[lo:hi]' of bytes. -/
theorem slice_rb {t e : TypeId} (ht : P.underlying t = some (.slice e)) (hs : ∀ w, (sizeOf e).run P w = .ok 1 w) {W : World} {N : Nat → Prop} {A : Option Addr} {n c lo hi : Nat} {bs : List UInt8}
    (h : RB W N A n bs) (h1 : lo ≤ hi) (h2 : hi ≤ n) (h3 : n ≤ c) :
    ∃ A', (∀ w : World, (Instr.slice t (.slice A n c) (some (.int .i64 lo)) (some (.int .i64 hi)) none).run P w = .ok (.slice A' (hi - lo) (c - lo)) w) ∧ RB W N A' (hi - lo) ((bs.take hi).drop lo) := by
  have he : P.elem t = e := by simp [Program.elem, ht]
  refine ⟨if c = lo then A else A.map (·.add (lo * 1)), fun w => ?_, (h.take h2).cut h1 (by omega)⟩
  rw [run_slice_lh w t A n c (by rw [he]; exact ht) .i64 .i64 lo hi (by omega) (by omega) (by omega), he, hs w]
  simp [Result.andThen, sliced]
theorem slice_rb_lo {t e : TypeId} (ht : P.underlying t = some (.slice e)) (hs : ∀ w, (sizeOf e).run P w = .ok 1 w) {W : World} {N : Nat → Prop} {A : Option Addr} {n c lo : Nat} {bs : List UInt8}
    (h : RB W N A n bs) (h1 : lo ≤ n) (h3 : n ≤ c) :
    ∃ A', (∀ w : World, (Instr.slice t (.slice A n c) (some (.int .i64 lo)) none none).run P w = .ok (.slice A' (n - lo) (c - lo)) w) ∧ RB W N A' (n - lo) (bs.drop lo) := by
  have he : P.elem t = e := by simp [Program.elem, ht]
  refine ⟨if c = lo then A else A.map (·.add (lo * 1)), fun w => ?_, h.cut h1 (by omega)⟩
  rw [run_slice_l w t A n c (by rw [he]; exact ht) .i64 lo (by omega) (by omega), he, hs w]
  simp [Result.andThen, sliced]

theorem foldl_push_u8 : ∀ (bs : List UInt8) (s : ByteArray), (bs.map fun b => (b.toNat : Int)).foldl (fun r n => r.push (UInt8.ofNat n.toNat)) s = ⟨s.data ++ bs.toArray⟩
  | [], s => by simp
  | b :: bs, s => by
    rw [List.map_cons, List.foldl_cons, foldl_push_u8 bs]
    simp [ByteArray.push]
/-- 'string(b)'. -/
theorem conv_rb {src dst e : TypeId} (hs : P.underlying src = some (.slice e)) (he : P.underlying e = some (.int .u8)) (hd : P.underlying dst = some .string)
    {w : World} {N : Nat → Prop} {A : Option Addr} {n c : Nat} {bs : List UInt8} (h : RB w N A n bs) :
    (convert src dst (.slice A n c)).run P w = .ok (.string ⟨bs.toArray⟩) w := by
  have hl := h.len
  rcases Nat.eq_zero_or_pos n with h0 | h0
  · subst h0
    have : bs = [] := List.eq_nil_of_length_eq_zero hl
    subst this
    cases A with
    | none => rw [run_convert_bytes_nil w src e hs he _ _ dst hd]; rfl
    | some ad =>
      rw [run_convert_bytes_string w src dst e _ _ c hs he hd, run_bytesToString w _ _ c [] (by simpa using run_loadCells_list (P := P) w ad [] (by simp))]
      rfl
  · obtain ⟨ad, rfl, _, hc⟩ := h.2 (by omega)
    have hl : (loadCells ad n).run P w = .ok ((bs.map fun b => (b.toNat : Int)).map (Value.int .u8)).toArray w := by
      have := run_loadCells_list (P := P) w ad (u8s bs) hc
      rw [u8s_length, hl] at this
      rw [this]
      simp [u8s]
    rw [run_convert_bytes_string w src dst e _ n c hs he hd, run_bytesToString w _ n c _ hl, foldl_push_u8]
    simp [ByteArray.empty, ByteArray.emptyWithCapacity]
    rfl

theorem size_str (l : List UInt8) : (⟨l.toArray⟩ : ByteArray).size = l.length := by simp [ByteArray.size]
theorem data_str (l : List UInt8) : (⟨l.toArray⟩ : ByteArray).data.toList = l := by simp
theorem extract_str (l : List UInt8) (a b : Nat) : (⟨l.toArray⟩ : ByteArray).extract a b = ⟨((l.take b).drop a).toArray⟩ := by
  have h := Lib.extract_data ⟨l.toArray⟩ a b
  generalize (⟨l.toArray⟩ : ByteArray).extract a b = x at h
  obtain ⟨xd⟩ := x
  obtain ⟨xl⟩ := xd
  have : xl = (l.take b).drop a := by simpa [List.drop_take] using h
  rw [this]
theorem cat_str (a b : List UInt8) : (⟨a.toArray⟩ : ByteArray) ++ ⟨b.toArray⟩ = ⟨(a ++ b).toArray⟩ := by
  have h : ((⟨a.toArray⟩ : ByteArray) ++ ⟨b.toArray⟩).data = (a ++ b).toArray := by
    rw [ByteArray.data_append]
    simp
  generalize (⟨a.toArray⟩ : ByteArray) ++ ⟨b.toArray⟩ = x at h
  obtain ⟨x⟩ := x
  rw [show x = (a ++ b).toArray from h]
/-- 's[k]'. -/
theorem idx_str {t : TypeId} (ht : P.underlying t = some .string) {l : List UInt8} {k : Nat} {c : UInt8} (h : l[k]? = some c) (w : World) :
    (Instr.index t (.string ⟨l.toArray⟩) (.int .i64 k)).run P w = .ok (.int .u8 c.toNat) w := by
  obtain ⟨hk, he⟩ := List.getElem?_eq_some_iff.1 h
  have hs : k < (⟨l.toArray⟩ : ByteArray).size := by rw [size_str]; exact hk
  rw [run_index_string w t _ .i64 k ht]
  simp [hs, size_str, hk]
  have : (⟨l.toArray⟩ : ByteArray)[k]'hs = l[k] := rfl
  rw [this, he]
theorem sl_lo {t : TypeId} (ht : P.underlying t = some .string) {l : List UInt8} {k : Nat} (h : k ≤ l.length) (w : World) :
    (Instr.slice t (.string ⟨l.toArray⟩) (some (.int .i64 k)) none none).run P w = .ok (.string ⟨(l.drop k).toArray⟩) w := by
  rw [run_slice_string_l w t _ ht .i64 k (by omega) (by rw [size_str]; omega), size_str, extract_str, Int.toNat_natCast, List.take_of_length_le (Nat.le_refl _)]
theorem sl_hi {t : TypeId} (ht : P.underlying t = some .string) {l : List UInt8} {k : Nat} (h : k ≤ l.length) (w : World) :
    (Instr.slice t (.string ⟨l.toArray⟩) none (some (.int .i64 k)) none).run P w = .ok (.string ⟨(l.take k).toArray⟩) w := by
  rw [run_slice_string_h w t _ ht .i64 k (by omega) (by rw [size_str]; omega), extract_str, Int.toNat_natCast, List.drop_zero]
theorem sl_lh {t : TypeId} (ht : P.underlying t = some .string) {l : List UInt8} {a b : Nat} (h1 : a ≤ b) (h : b ≤ l.length) (w : World) :
    (Instr.slice t (.string ⟨l.toArray⟩) (some (.int .i64 a)) (some (.int .i64 b)) none).run P w = .ok (.string ⟨((l.take b).drop a).toArray⟩) w := by
  rw [run_slice_string_if w t _ .i64 .i64 a b ht, if_pos ⟨by omega, by rw [size_str]; omega⟩, if_pos ⟨by omega, by omega⟩, extract_str]
  simp

/-- '[]byte(s)': the bytes in a new block. -/
theorem bytesWorld_fr (w : World) (e : TypeId) (s : ByteArray) : Fr [] w (Lib.bytesWorld w e s) :=
  ⟨rfl, rfl, rfl, by rw [Lib.bytesWorld_size]; omega, fun g hg _ => Lib.bytesWorld_at_old w e s g hg⟩
theorem bytesWorld_rb (w : World) (e : TypeId) (s : ByteArray) : RB (Lib.bytesWorld w e s) (fun g => w.heap.size ≤ g) (some ⟨w.heap.size, 0, none⟩) s.size s.data.toList := by
  refine ⟨by rw [u8s_length, Nat.mul_one, Array.length_toList]; rfl, fun hn => ⟨_, rfl, Nat.le_refl _, fun j u hu => ?_⟩⟩
  have hp : (⟨w.heap.size, 0, none⟩ : Addr).add j = ⟨w.heap.size, j, none⟩ := by unfold Addr.add; split <;> simp_all
  have hj : j < s.size := by
    rcases Nat.lt_or_ge j s.size with h | h
    · exact h
    · rw [List.getElem?_eq_none (by rw [u8s_length, Array.length_toList]; exact h)] at hu; cases hu
  rw [hp, Lib.bytesWorld_cell w e s j hj]
  have hjl : j < s.data.toList.length := by rw [Array.length_toList]; exact hj
  have hb : s.data.toList[j]? = some s.data.toList[j] := List.getElem?_eq_getElem hjl
  rw [u8s_at hb] at hu
  injection hu with hu
  rw [← hu, List.getD_eq_getElem?_getD, hb]
  rfl
theorem bytesWorld_frozen (w : World) (e : TypeId) (s : ByteArray) (j : Nat) (hj : j < s.size) : (Lib.bytesWorld w e s).frozen? ⟨w.heap.size, j, none⟩ = false := by
  have h := Lib.bytesWorld_at_new w e s
  have hs : s.size ≤ (Lib.bytesCells w e s).size := by
    rw [Lib.bytesCells, Array.size_append, Array.size_map]
    exact Nat.le_add_right _ _
  simp [World.frozen?, h]
  omega
theorem conv_bytes {src dst e : TypeId} {P : Program} (hs : P.underlying src = some .string) (hd : P.underlying dst = some (.slice e)) (he : P.underlying e = some (.int .u8)) (l : List UInt8) (w : World) :
    ∃ c W1, (convert src dst (.string ⟨l.toArray⟩)).run P w = .ok (.slice (some ⟨w.heap.size, 0, none⟩) l.length c) W1 ∧ Fr [] w W1 ∧ W1.heap.size = w.heap.size + 1 ∧
      (∀ (j : Nat) (u : UInt8), l[j]? = some u → W1.cell? ⟨w.heap.size, j, none⟩ = some (.int .u8 u.toNat) ∧ W1.frozen? ⟨w.heap.size, j, none⟩ = false) ∧
      RB W1 (fun g => g = w.heap.size) (some ⟨w.heap.size, 0, none⟩) l.length l ∧ l.length ≤ c := by
  have hsz : (⟨l.toArray⟩ : ByteArray).size = l.length := by simp [ByteArray.size]
  have h2 : ∀ (j : Nat) (u : UInt8), l[j]? = some u → (Lib.bytesWorld w e ⟨l.toArray⟩).cell? ⟨w.heap.size, j, none⟩ = some (.int .u8 u.toNat) ∧ (Lib.bytesWorld w e ⟨l.toArray⟩).frozen? ⟨w.heap.size, j, none⟩ = false := by
    intro j u hu
    have hj : j < l.length := (List.getElem?_eq_some_iff.1 hu).1
    refine ⟨?_, bytesWorld_frozen w e _ j (by rw [hsz]; exact hj)⟩
    rw [Lib.bytesWorld_cell w e _ j (by rw [hsz]; exact hj)]
    simp [List.getD_eq_getElem?_getD, hu]
  refine ⟨_, _, by rw [Lib.run_convert_string_bytes w src dst e _ hs hd he, hsz], bytesWorld_fr w e _, Lib.bytesWorld_size w e _, h2, ⟨by simp [u8s], fun hn => ⟨_, rfl, rfl, fun j u hu => ?_⟩⟩, ?_⟩
  · have hp : (⟨w.heap.size, 0, none⟩ : Addr).add j = ⟨w.heap.size, j, none⟩ := by unfold Addr.add; split <;> simp_all
    have hj : j < l.length := by
      rcases Nat.lt_or_ge j l.length with h | h
      · exact h
      · rw [List.getElem?_eq_none (by rw [u8s_length]; exact h)] at hu; cases hu
    have hb : l[j]? = some l[j] := List.getElem?_eq_getElem hj
    rw [u8s_at hb] at hu
    injection hu with hu
    rw [hp, (h2 j _ hb).1, hu]
  · exact grownCap_ge w _ 0 e
end
end Go.Proofs.YtndfdekcdhlgoaaDoor
namespace Go.Proofs.YtndfdekcdhlgoaaDoor
open Go.RowKit

/-- A slice whose elements' cells stand for ds. -/
def LR {D : Type} (w : World) (N : Nat → Prop) (size : Nat) (R : List Value → D → Prop) (A : Option Addr) (n : Nat) (ds : List D) : Prop :=
  ds.length = n ∧ (0 < n → ∃ ad, A = some ad ∧ N ad.block ∧ ∀ i d, ds[i]? = some d → ∃ cs : List Value, cs.length = size ∧ R cs d ∧ ∀ j u, cs[j]? = some u → w.cell? (ad.add (i * size + j)) = some u)
section
variable {D : Type} {w w' : World} {N N' : Nat → Prop} {size n : Nat} {R R' : List Value → D → Prop} {A : Option Addr} {ds : List D} {S : List Nat}
theorem LR.len (h : LR w N size R A n ds) : ds.length = n := h.1
theorem LR.nil : LR w N size R A 0 ([] : List D) := ⟨rfl, fun h => absurd h (by omega)⟩
theorem LR.at_ (h : LR w N size R A n ds) {k : Nat} (hk : k < n) :
    ∃ ad d cs, A = some ad ∧ N ad.block ∧ ds[k]? = some d ∧ cs.length = size ∧ R cs d ∧ ∀ j u, cs[j]? = some u → w.cell? (ad.add (k * size + j)) = some u := by
  obtain ⟨ad, e, hb, hc⟩ := h.2 (by omega)
  have hl : k < ds.length := by rw [h.1]; exact hk
  obtain ⟨cs, h1, h2, h3⟩ := hc k _ (List.getElem?_eq_getElem hl)
  exact ⟨ad, _, cs, e, hb, List.getElem?_eq_getElem hl, h1, h2, h3⟩
theorem LR.keep (h : LR w N size R A n ds) (hf : Fr S w w') (hS : ∀ g, N g → g ∉ S) (hR : ∀ cs d, R cs d → R' cs d) : LR w' N size R' A n ds :=
  ⟨h.1, fun hn => by
    obtain ⟨ad, e, hb, hc⟩ := h.2 hn
    refine ⟨ad, e, hb, fun i d hd => ?_⟩
    obtain ⟨cs, h1, h2, h3⟩ := hc i d hd
    exact ⟨cs, h1, hR cs d h2, fun j u hu => hf.cell (h3 j u hu) (by rw [block_of_add]; exact hS _ hb)⟩⟩
end

def SegD.cells (s : SegD) : List Value := [.int .i64 s.k, .int .i64 s.x0, .int .i64 s.y0, .int .i64 s.x1, .int .i64 s.y1, .int .i64 s.x2, .int .i64 s.y2]
def SegC (cs : List Value) (d : SegD) : Prop := cs = d.cells
def ClipC (w : World) (N : Nat → Prop) (cs : List Value) (d : ClipD) : Prop :=
  ∃ A n c, cs = [.slice A n c, .bool d.eo] ∧ n ≤ c ∧ c ≤ maxLen ∧ LR w N 7 SegC A n d.path
/-- An item's cells, but for its slices. -/
def itemV (d : ItemD) (vp vc vd vb : Value) : List Value :=
  [.int .i64 d.kind, vp, .int .i64 d.col.space, .int .i64 d.col.p0, .int .i64 d.col.p1, .int .i64 d.col.p2, .int .i64 d.col.p3, vc,
   .int .i64 d.pen.width, .int .i64 d.pen.cap, .int .i64 d.pen.join, .int .i64 d.pen.miter, vd, .int .i64 d.pen.phase,
   .int .i64 d.font, .int .i64 d.mat.m0, .int .i64 d.mat.m1, .int .i64 d.mat.m2, .int .i64 d.mat.m3, .int .i64 d.mat.m4, .int .i64 d.mat.m5, vb]
def IntC (cs : List Value) (n : Int) : Prop := cs = [.int .i64 n]
structure ItemS (w : World) (N : Nat → Prop) (d : ItemD) (Ap : Option Addr) (np cp : Nat) (Ac : Option Addr) (nc cc : Nat) (Ad : Option Addr) (nd cd : Nat) (Ab : Option Addr) (nb cb : Nat) : Prop where
  path : LR w N 7 SegC Ap np d.path
  clips : LR w N 2 (ClipC w N) Ac nc d.clips
  dash : Rd w N 1 Ad nd (d.pen.dash.map (Value.int .i64))
  bytes : RB w N Ab nb d.bytes
  lp : np ≤ cp ∧ cp ≤ maxLen
  lc : nc ≤ cc ∧ cc ≤ maxLen
  ld : nd ≤ cd ∧ cd ≤ maxLen
  lb : nb ≤ cb ∧ cb ≤ maxLen
def ItemC (w : World) (N : Nat → Prop) (cs : List Value) (d : ItemD) : Prop :=
  ∃ Ap np cp Ac nc cc Ad nd cd Ab nb cb, cs = itemV d (.slice Ap np cp) (.slice Ac nc cc) (.slice Ad nd cd) (.slice Ab nb cb) ∧ ItemS w N d Ap np cp Ac nc cc Ad nd cd Ab nb cb
def PageC (w : World) (N : Nat → Prop) (cs : List Value) (d : PageD) : Prop :=
  ∃ A n c, cs = [.int .i64 d.w, .int .i64 d.h, .slice A n c] ∧ n ≤ c ∧ c ≤ maxLen ∧ LR w N 22 (ItemC w N) A n d.items
section
variable {w w' : World} {N : Nat → Prop} {S : List Nat} {cs : List Value}
theorem ClipC.keep {d : ClipD} (h : ClipC w N cs d) (hf : Fr S w w') (hS : ∀ g, N g → g ∉ S) : ClipC w' N cs d := by
  obtain ⟨A, n, c, h1, h2, h3, h4⟩ := h
  exact ⟨A, n, c, h1, h2, h3, h4.keep hf hS fun _ _ h => h⟩
theorem ItemS.keep {d : ItemD} {Ap np cp Ac nc cc Ad nd cd Ab nb cb} (h : ItemS w N d Ap np cp Ac nc cc Ad nd cd Ab nb cb) (hf : Fr S w w') (hS : ∀ g, N g → g ∉ S) : ItemS w' N d Ap np cp Ac nc cc Ad nd cd Ab nb cb :=
  ⟨h.path.keep hf hS fun _ _ h => h, h.clips.keep hf hS fun _ _ h => h.keep hf hS, h.dash.keep hf hS, h.bytes.keep hf hS, h.lp, h.lc, h.ld, h.lb⟩
theorem ItemC.keep {d : ItemD} (h : ItemC w N cs d) (hf : Fr S w w') (hS : ∀ g, N g → g ∉ S) : ItemC w' N cs d := by
  obtain ⟨Ap, np, cp, Ac, nc, cc, Ad, nd, cd, Ab, nb, cb, h1, h2⟩ := h
  exact ⟨Ap, np, cp, Ac, nc, cc, Ad, nd, cd, Ab, nb, cb, h1, h2.keep hf hS⟩
theorem PageC.keep {d : PageD} (h : PageC w N cs d) (hf : Fr S w w') (hS : ∀ g, N g → g ∉ S) : PageC w' N cs d := by
  obtain ⟨A, n, c, h1, h2, h3, h4⟩ := h
  exact ⟨A, n, c, h1, h2, h3, h4.keep hf hS fun _ _ h => h.keep hf hS⟩
end
end Go.Proofs.YtndfdekcdhlgoaaDoor
namespace Go.Proofs.YtndfdekcdhlgoaaDoor
open Go.RowKit
section
variable {P : Program} (w : World)

theorem run_append_of_nil (base : Nat) (t ty e : TypeId) (i : TypeInfo) (size : Nat) (ht : P.underlying t = some (.slice e)) (hi : P.info? e = some i)
    (v : Value) (n : Nat) (xs : List Value) (hown : w.ownsRow base e size v n xs) (c : Nat) : (Builtin.append_ #[t, t] ty #[v, .slice none 0 c]).run P w = .ok v w := by
  rcases hown.2 with ⟨rfl, rfl⟩ | ⟨g, cap, cur, rfl, _, _, hnc, _⟩
  · simp [Builtin.append_, run_underlying ht, sizeOf, typeInfo, hi, Builtin.lenOf, Builtin.firstCells]
  · simp [Builtin.append_, run_underlying ht, sizeOf, typeInfo, hi, Builtin.lenOf, Builtin.firstCells, hnc, storeCells]

theorem run_append_any (base : Nat) (t ty e : TypeId) (i : TypeInfo) (z : Value) (size bytes : Nat) (ht : P.underlying t = some (.slice e)) (hi : P.info? e = some i) (hz : i.zero = some z)
    (hsize : i.size = size) (hby : i.bytes = bytes) (hzs : z.cells.size = size) (hsz : 0 < size)
    (v : Value) (n : Nat) (xs : List Value) (hown : w.ownsRow base e size v n xs)
    (N : Nat → Prop) (A : Option Addr) (m c : Nat) (news : List Value) (hr : Rd w N size A m news) (h1 : ∀ u ∈ news, u.oneCell' = true)
    (h63 : n + m ≤ maxLen) (hbytes : (n + m) * bytes ≤ 140737488355328) (hbase : base ≤ w.heap.size) :
    ∃ v' w', (Builtin.append_ #[t, t] ty #[v, .slice A m c]).run P w = .ok v' w' ∧ w'.ownsRow base e size v' (n + m) (xs ++ news) ∧ w.grownBy w' v.ownBlock ∧
      (v'.ownBlock = v.ownBlock ∨ v'.ownBlock = some w.heap.size) := by
  rcases A with _ | ad
  · have hm : m = 0 := by
      rcases Nat.eq_zero_or_pos m with h0 | h0
      · exact h0
      · obtain ⟨ad, h, _⟩ := hr.2 (Nat.mul_pos h0 hsz)
        cases h
    subst hm
    have hn : news = [] := List.eq_nil_of_length_eq_zero (by simpa using hr.1)
    subst hn
    exact ⟨v, w, run_append_of_nil w base t ty e i size ht hi v n xs hown c, by simpa using hown, World.grownBy.refl w _, .inl rfl⟩
  · have hcells : ∀ j u, news[j]? = some u → w.cell? (ad.add j) = some u := by
      intro j u hu
      rcases Nat.eq_zero_or_pos m with h0 | h0
      · subst h0
        have hn : news = [] := List.eq_nil_of_length_eq_zero (by simpa using hr.1)
        subst hn
        simp at hu
      · obtain ⟨ad', h, _, hc⟩ := hr.2 (Nat.mul_pos h0 hsz)
        injection h with h
        subst h
        exact hc j u hu
    obtain ⟨v', w', hrun, h2, h3, _, h5⟩ := run_append_own_at (P := P) w base t ty e i z size bytes ht hi hz hsize hby hzs hsz v n xs hown ad m c news hr.1 hcells h1 h63 hbytes hbase
    exact ⟨v', w', hrun, h2, h3, h5⟩

theorem wp_append_any {o : Oper} {a : Act} {K : Act → World → Prop} {Q : Exit → Act → World → Prop} (s x : Operand) (t : TypeId)
    (ho : o.op = .call { callee := .builtin .append, args := #[s, x], argTypes := #[t, t] })
    (base : Nat) (e : TypeId) (i : TypeInfo) (z : Value) (size bytes : Nat) (ht : P.underlying t = some (.slice e)) (hi : P.info? e = some i) (hz : i.zero = some z)
    (hsize : i.size = size) (hby : i.bytes = bytes) (hzs : z.cells.size = size) (hsz : 0 < size)
    (v : Value) (n : Nat) (xs : List Value) (hs : a.eval s = v) (hown : w.ownsRow base e size v n xs)
    (N : Nat → Prop) (A : Option Addr) (m c : Nat) (news : List Value) (hx : a.eval x = .slice A m c) (hr : Rd w N size A m news) (h1 : ∀ u ∈ news, u.oneCell' = true)
    (h63 : n + m ≤ maxLen) (hbytes : (n + m) * bytes ≤ 140737488355328) (hbase : base ≤ w.heap.size)
    (h : ∀ v' w', w'.ownsRow base e size v' (n + m) (xs ++ news) → w.grownBy w' v.ownBlock → (v'.ownBlock = v.ownBlock ∨ v'.ownBlock = some w.heap.size) → K (a.put o.dst v') w') : o.wp P a w K Q := by
  obtain ⟨v', w', hrun, h2, h3, h4⟩ := run_append_any (P := P) w base t o.type e i z size bytes ht hi hz hsize hby hzs hsz v n xs hown N A m c news hr h1 h63 hbytes hbase
  unfold Oper.wp execOp
  simp only [ho, resolve, invoke, builtin, Sem.run_bind, Sem.run_pure, Result.andThen_ok, List.map_toArray, List.map_cons, List.map_nil, hs, hx, hrun]
  exact h v' w' h2 h3 h4

theorem wpList_append_any {ops : Array Oper} {rest : List Oper} {o : Oper} {a : Act} {Q : Exit → Act → World → Prop} (hgd : o.guard = none) (s x : Operand) (t : TypeId)
    (ho : o.op = .call { callee := .builtin .append, args := #[s, x], argTypes := #[t, t] })
    (base : Nat) (e : TypeId) (i : TypeInfo) (z : Value) (size bytes : Nat) (ht : P.underlying t = some (.slice e)) (hi : P.info? e = some i) (hz : i.zero = some z)
    (hsize : i.size = size) (hby : i.bytes = bytes) (hzs : z.cells.size = size) (hsz : 0 < size)
    (v : Value) (n : Nat) (xs : List Value) (hs : a.eval s = v) (hown : w.ownsRow base e size v n xs)
    (N : Nat → Prop) (A : Option Addr) (m c : Nat) (news : List Value) (hx : a.eval x = .slice A m c) (hr : Rd w N size A m news) (h1 : ∀ u ∈ news, u.oneCell' = true)
    (h63 : n + m ≤ maxLen) (hbytes : (n + m) * bytes ≤ 140737488355328) (hbase : base ≤ w.heap.size)
    (h : ∀ v' w', w'.ownsRow base e size v' (n + m) (xs ++ news) → w.grownBy w' v.ownBlock → (v'.ownBlock = v.ownBlock ∨ v'.ownBlock = some w.heap.size) → wpList P ops Q rest (a.put o.dst v') w') : wpList P ops Q (o :: rest) a w :=
  wpList_plain hgd fun _ hK => wp_append_any w s x t ho base e i z size bytes ht hi hz hsize hby hzs hsz v n xs hs hown N A m c news hx hr h1 h63 hbytes hbase fun v' w' h2 h3 h4 => hK _ _ (h v' w' h2 h3 h4)

theorem step_append_any {ops : Array Oper} {o : Oper} {a : Act} {K : Act → World → Prop} {Q : Exit → Act → World → Prop} {E : Prop} (hgd : o.guard = none) (s x : Operand) (t : TypeId)
    (ho : o.op = .call { callee := .builtin .append, args := #[s, x], argTypes := #[t, t] })
    (base : Nat) (e : TypeId) (i : TypeInfo) (z : Value) (size bytes : Nat) (ht : P.underlying t = some (.slice e)) (hi : P.info? e = some i) (hz : i.zero = some z)
    (hsize : i.size = size) (hby : i.bytes = bytes) (hzs : z.cells.size = size) (hsz : 0 < size)
    (v : Value) (n : Nat) (xs : List Value) (hs : a.eval s = v) (hown : w.ownsRow base e size v n xs)
    (N : Nat → Prop) (A : Option Addr) (m c : Nat) (news : List Value) (hx : a.eval x = .slice A m c) (hr : Rd w N size A m news) (h1 : ∀ u ∈ news, u.oneCell' = true)
    (h63 : n + m ≤ maxLen) (hbytes : (n + m) * bytes ≤ 140737488355328) (hbase : base ≤ w.heap.size)
    (h : ∀ v' w', w'.ownsRow base e size v' (n + m) (xs ++ news) → w.grownBy w' v.ownBlock → (v'.ownBlock = v.ownBlock ∨ v'.ownBlock = some w.heap.size) → K (a.put o.dst v') w') :
    if Region.wanted o (yielded ops a.tmps) = true then Oper.wp P o a w K Q else E := by
  have hw : Region.wanted o (yielded ops a.tmps) = true := by simp [Region.wanted, hgd]
  rw [if_pos hw]
  exact wp_append_any w s x t ho base e i z size bytes ht hi hz hsize hby hzs hsz v n xs hs hown N A m c news hx hr h1 h63 hbytes hbase h
end

/-- One new block that holds just the cells cs. -/
theorem rd_new (w : World) (t : TypeId) (cs : List Value) (n size : Nat) (hn : cs.length = n * size) : Rd (w.alloc (.cells cs.toArray t)) (fun g => g = w.heap.size) size (some ⟨w.heap.size, 0, none⟩) n cs := by
  refine ⟨hn, fun _ => ⟨_, rfl, rfl, fun j u hu => ?_⟩⟩
  have hp : (⟨w.heap.size, 0, none⟩ : Addr).add j = ⟨w.heap.size, j, none⟩ := by unfold Addr.add; split <;> simp_all
  rw [hp, World.cell?_alloc_new]
  simpa using hu
theorem info_u8 : (Tryd.prog.info? 5).map (fun i => (i.zero, i.size, i.bytes)) = some (some (.int .u8 0), 1, 1) := by kernel_rfl
theorem u8s_append (a b : List UInt8) : u8s (a ++ b) = u8s a ++ u8s b := by simp [u8s]
theorem u8s_one (bs : List UInt8) : ∀ u ∈ u8s bs, u.oneCell' = true := by
  intro u hu
  obtain ⟨b, _, rfl⟩ := List.mem_map.1 hu
  rfl
/-- 'out = append(out, c)' at bytes: c lies in the newest block. -/
theorem app_u8 {ops : Array Oper} {rest : List Oper} {o : Oper} {a : Act} {Q : Exit → Act → World → Prop} (hgd : o.guard = none) (s x : Operand)
    (ho : o.op = .call { callee := .builtin .append, args := #[s, x], argTypes := #[41, 41] })
    (v : Value) (bs : List UInt8) (w0 : World) (base n : Nat) (ci : Int) (c : UInt8) (hci : ci = c.toNat) (hs : a.eval s = v) (hn : bs.length = n) (hown : w0.ownsRow base 5 1 v n (u8s bs))
    (hx : a.eval x = .slice (some ⟨w0.heap.size, 0, none⟩) 1 1) (hlen : n ≤ 1073741824) (hbase : base ≤ w0.heap.size)
    (h : ∀ v' w', w'.ownsRow base 5 1 v' (n + 1) (u8s (bs ++ [c])) → Fr v.ownBlock.toList w0 w' → (v'.ownBlock = v.ownBlock ∨ v'.ownBlock = some (w0.heap.size + 1)) → wpList Tryd.prog ops Q rest (a.put o.dst v') w') :
    wpList Tryd.prog ops Q (o :: rest) a (w0.alloc (.cells #[.int .u8 ci] 5)) := by
  subst hci
  obtain ⟨i0, hi0, hz0, hz1, hz2⟩ := info_parts info_u8
  refine wpList_append_any (P := Tryd.prog) _ hgd s x _ ho base 5 i0 _ 1 1 Tryd.underlying41 hi0 hz0 hz1 hz2 rfl (by omega) v n (u8s bs) hs (own_keep hown ((Fr.refl [] w0).alloc _) (by simp)) (fun g => g = w0.heap.size) (some ⟨w0.heap.size, 0, none⟩) 1 1 (u8s [c]) hx (rd_new w0 _ _ 1 1 rfl) (u8s_one _) (by simp only [maxLen]; omega) (by omega) (by simp; omega) ?_
  intro v' w' hown' hg hb
  refine h v' w' (by rw [u8s_append]; exact hown') (((Fr.refl _ w0).alloc _).grown hg (fun k hk => .inl (by rw [hk]; simp))) (by simpa using hb)
end Go.Proofs.YtndfdekcdhlgoaaDoor
namespace Go.Proofs.YtndfdekcdhlgoaaDoor
set_option maxRecDepth 100000 in
@[go_sem] theorem eq_pt (a0 a1 b0 b1 : Int) (w : World) : (Op.equalIn 10000 88 (.agg #[.int .i64 a0, .int .i64 a1]) (.agg #[.int .i64 b0, .int .i64 b1])).run Tryd.prog w = .ok (a0 == b0 && a1 == b1) w := by
  have u3 := Tryd.underlying3
  have ag3 := Tryd.isAgg3
  have z3 := Tryd.sizeOf3
  rw [show (10000 : Nat) = 9999 + 1 from rfl, Op.equalIn]
  simp only [Sem.run_bind, run_underlying Tryd.underlying88, Result.andThen_ok]
  go_simp
  by_cases h0 : a0 = b0 <;> by_cases h1 : a1 = b1 <;> simp [h0, h1]
end Go.Proofs.YtndfdekcdhlgoaaDoor
namespace Go.Proofs.YtndfdekcdhlgoaaDoor
set_option maxRecDepth 100000 in
@[go_sem] theorem eq_six (a0 a1 a2 a3 a4 a5 b0 b1 b2 b3 b4 b5 : Int) (w : World) : (Op.equalIn 10000 40 (.agg #[.int .i64 a0, .int .i64 a1, .int .i64 a2, .int .i64 a3, .int .i64 a4, .int .i64 a5]) (.agg #[.int .i64 b0, .int .i64 b1, .int .i64 b2, .int .i64 b3, .int .i64 b4, .int .i64 b5])).run Tryd.prog w = .ok (a0 == b0 && (a1 == b1 && (a2 == b2 && (a3 == b3 && (a4 == b4 && a5 == b5))))) w := by
  have u3 := Tryd.underlying3
  have ag3 := Tryd.isAgg3
  have z3 := Tryd.sizeOf3
  rw [show (10000 : Nat) = 9999 + 1 from rfl, Op.equalIn]
  simp only [Sem.run_bind, run_underlying Tryd.underlying40, Result.andThen_ok]
  simp only [Std.Legacy.Range.forIn_eq_forIn_range', Std.Legacy.Range.size, Nat.sub_zero, Nat.add_sub_cancel, Nat.div_one, List.range'_succ, List.range'_zero, List.forIn_cons, List.forIn_nil]
  go_simp
  by_cases h0 : a0 = b0 <;> by_cases h1 : a1 = b1 <;> by_cases h2 : a2 = b2 <;> by_cases h3 : a3 = b3 <;> by_cases h4 : a4 = b4 <;> by_cases h5 : a5 = b5 <;> simp [h0, h1, h2, h3, h4, h5]
end Go.Proofs.YtndfdekcdhlgoaaDoor
namespace Go.Proofs.YtndfdekcdhlgoaaDoor
section
variable {P : Program}
theorem run_loadVar_cells (w : World) (ad : Addr) (ty : TypeId) (cs : Array Value) (d : TypeDesc) (hc : ∀ j u, cs.toList[j]? = some u → w.cell? (ad.add j) = some u)
    (hu : P.underlying ty = some d) (hd : (match d with | .struct _ | .array _ _ => true | _ => false) = true) (hi : (P.info? ty).map (·.size) = some cs.size) :
    (loadVar ty ad).run P w = .ok (.agg cs) w := by
  have hl : (loadCells ad cs.toList.length).run P w = .ok cs.toList.toArray w := run_loadCells_list (P := P) w ad cs.toList hc
  cases hq : P.info? ty with
  | none => simp [hq] at hi
  | some i =>
    have hs : i.size = cs.size := by simpa [hq] using hi
    have hagg : (isAgg ty).run P w = .ok true w := by
      unfold isAgg
      rw [Sem.run_bind, run_underlying hu w]
      cases d <;> simp_all
    simp only [Array.length_toList, Array.toArray_toList] at hl
    simp [loadVar, Sem.run_bind, hagg, sizeOf, typeInfo, hq, hs, hl]
theorem wp_load_cells {o : Oper} {a : Act} {w : World} {K : Act → World → Prop} {Q : Exit → Act → World → Prop} (ty : TypeId) (x : Operand) (ho : o.op = .load ty x)
    (ad : Addr) (hx : a.eval x = .pointer (some ad)) (cs : Array Value) (d : TypeDesc) (hc : ∀ j u, cs.toList[j]? = some u → w.cell? (ad.add j) = some u)
    (hu : P.underlying ty = some d) (hd : (match d with | .struct _ | .array _ _ => true | _ => false) = true) (hi : (P.info? ty).map (·.size) = some cs.size)
    (h : K (a.put o.dst (.agg cs)) w) : o.wp P a w K Q := by
  unfold Oper.wp execOp
  simp only [ho, hx, Instr.loadAt, Instr.sureAddr, Sem.run_bind, Sem.run_pure, Result.andThen_ok, run_loadVar_cells w ad ty cs d hc hu hd hi]
  exact h
theorem wpList_load_cells {ops : Array Oper} {rest : List Oper} {o : Oper} {a : Act} {w : World} {Q : Exit → Act → World → Prop} (hgd : o.guard = none) (ty : TypeId) (x : Operand) (ho : o.op = .load ty x)
    (ad : Addr) (hx : a.eval x = .pointer (some ad)) (cs : Array Value) (d : TypeDesc) (hc : ∀ j u, cs.toList[j]? = some u → w.cell? (ad.add j) = some u)
    (hu : P.underlying ty = some d) (hd : (match d with | .struct _ | .array _ _ => true | _ => false) = true) (hi : (P.info? ty).map (·.size) = some cs.size)
    (h : wpList P ops Q rest (a.put o.dst (.agg cs)) w) : wpList P ops Q (o :: rest) a w :=
  wpList_plain hgd fun _ hK => wp_load_cells ty x ho ad hx cs d hc hu hd hi (hK _ _ h)
/-- A whole struct into the block that was made last. -/
theorem wp_store_new {o : Oper} {a : Act} {w : World} {K : Act → World → Prop} {Q : Exit → Act → World → Prop} (ty t : TypeId) (x y : Operand) (ho : o.op = .store ty x y)
    (c cells : Array Value) (hx : a.eval x = .pointer (some ⟨w.heap.size, 0, none⟩)) (hy : a.eval y = .agg cells)
    (hi : (P.info? ty).map (·.size) = some cells.size) (hold : c.size = cells.size) (h1 : cells.all (·.oneCell') = true)
    (h : K (a.put o.dst undef) (w.alloc (.cells cells t))) : o.wp P a (w.alloc (.cells c t)) K Q :=
  wp_store_row ty x y ho w.heap.size cells hx hy t c (heap_alloc_last w _) hi hold h1 (by rw [World.setRow_alloc_new]; exact h)
theorem wpList_store_new {ops : Array Oper} {rest : List Oper} {o : Oper} {a : Act} {w : World} {Q : Exit → Act → World → Prop} (hgd : o.guard = none) (ty t : TypeId) (x y : Operand) (ho : o.op = .store ty x y)
    (c cells : Array Value) (hx : a.eval x = .pointer (some ⟨w.heap.size, 0, none⟩)) (hy : a.eval y = .agg cells)
    (hi : (P.info? ty).map (·.size) = some cells.size) (hold : c.size = cells.size) (h1 : cells.all (·.oneCell') = true)
    (h : wpList P ops Q rest (a.put o.dst undef) (w.alloc (.cells cells t))) : wpList P ops Q (o :: rest) a (w.alloc (.cells c t)) :=
  wpList_plain hgd fun _ hK => wp_store_new ty t x y ho c cells hx hy hi hold h1 (hK _ _ h)
end
end Go.Proofs.YtndfdekcdhlgoaaDoor
