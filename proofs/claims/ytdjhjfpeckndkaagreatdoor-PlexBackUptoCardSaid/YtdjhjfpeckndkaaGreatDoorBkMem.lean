/- Slices of bytes: cut, turned into strings and back; over any program. -/
import Derived.Test.YtdjhjfpeckndkaaGreatDoorBkBase
import Derived.Test.YtdjhjfpeckndkaaGreatDoorBkPlain
import Derived.Laws.BytesArg
import Derived.Lib.ConvBytes
import Derived.Lib.SlBytesConst
set_option linter.unusedVariables false
set_option linter.unusedSimpArgs false
namespace Go.Proofs.YtdjhjfpeckndkaaGreatDoor
open Go.RowKit

def RB (w : World) (N : Nat → Prop) (A : Option Addr) (n : Nat) (bs : List UInt8) : Prop := Rd w N 1 A n (u8s bs)
section
variable {w w' : World} {N N' : Nat → Prop} {S : List Nat} {A : Option Addr} {n : Nat} {bs : List UInt8}
theorem RB.len (h : RB w N A n bs) : bs.length = n := by
  have := Rd.len1 h
  rwa [u8s_length] at this
theorem RB.at_ {k : Nat} (h : RB w N A n bs) (hk : k < n) :
    ∃ ad u, A = some ad ∧ bs[k]? = some u ∧ w.cell? (ad.add k) = some (.int .u8 u.toNat) := by
  obtain ⟨ad, u, hA, _, hu, hc⟩ := Rd.at_ h hk
  have hl : k < bs.length := by rw [h.len]; exact hk
  have hb : bs[k]? = some bs[k] := List.getElem?_eq_getElem hl
  rw [u8s_at hb] at hu
  injection hu with hu
  exact ⟨ad, _, hA, hb, by rw [hc, hu]⟩
theorem RB.at2 {k : Nat} {u : UInt8} (h : RB w N A n bs) (hu : bs[k]? = some u) : ∃ ad, A = some ad ∧ N ad.block ∧ w.cell? (ad.add k) = some (.int .u8 u.toNat) := by
  have hk : k < n := by rw [← h.len]; exact (List.getElem?_eq_some_iff.1 hu).1
  obtain ⟨ad, v, hA, hN, hv, hc⟩ := Rd.at_ h hk
  rw [u8s_at hu] at hv
  injection hv with hv
  exact ⟨ad, hA, hN, by rw [hc, hv]⟩
theorem RB.keep (h : RB w N A n bs) (hf : Fr S w w') (hS : ∀ g, N g → g ∉ S) : RB w' N A n bs := Rd.keep h hf hS
theorem RB.keep0 (h : RB w N A n bs) (hf : Fr [] w w') : RB w' N A n bs := Rd.keep0 h hf
theorem RB.more (h : RB w N A n bs) (hN : ∀ g, g < w.heap.size → N g → N' g) : RB w N' A n bs := Rd.more h hN
theorem RB.nil : RB w N A 0 [] := Rd.nil
theorem RB.cut {k c : Nat} (h : RB w N A n bs) (hk : k ≤ n) (hc : n ≤ c) : RB w N (if c = k then A else A.map (·.add (k * 1))) (n - k) (bs.drop k) := by
  have := Rd.cut h hk hc
  unfold RB
  rw [u8s, List.map_drop]
  rw [Nat.mul_one] at this ⊢
  exact this
theorem RB.take {k : Nat} (h : RB w N A n bs) (hk : k ≤ n) : RB w N A k (bs.take k) := by
  have := Rd.take h hk
  unfold RB
  rw [u8s, List.map_take]
  rw [Nat.mul_one] at this
  exact this
end

section
variable {P : Program}
/-- 'b[lo:hi]' of bytes. -/
theorem slice_rb {t e : TypeId} (ht : P.underlying t = some (.slice e)) (hs : ∀ w, (sizeOf e).run P w = .ok 1 w) {W : World} {N : Nat → Prop} {A : Option Addr} {n c lo hi : Nat} {bs : List UInt8}
    (h : RB W N A n bs) (h1 : lo ≤ hi) (h2 : hi ≤ n) (h3 : n ≤ c) :
    ∃ A', (∀ w : World, (Instr.slice t (.slice A n c) (some (.int .i64 lo)) (some (.int .i64 hi)) none).run P w = .ok (.slice A' (hi - lo) (c - lo)) w) ∧ RB W N A' (hi - lo) ((bs.take hi).drop lo) := by
  have he : P.elem t = e := by simp [Program.elem, ht]
  refine ⟨if c = lo then A else A.map (·.add (lo * 1)), fun w => ?_, (h.take h2).cut h1 (by omega)⟩
  rw [run_slice_lh w t A n c (by rw [he]; exact ht) .i64 .i64 lo hi (by omega) (by omega) (by omega), he, hs w]
  simp [Result.andThen, sliced]
theorem slice_rb_lo {t e : TypeId} (ht : P.underlying t = some (.slice e)) (hs : ∀ w, (sizeOf e).run P w = .ok 1 w) {W : World} {N : Nat → Prop} {A : Option Addr} {n c lo : Nat} {bs : List UInt8}
    (h : RB W N A n bs) (h1 : lo ≤ n) (h3 : n ≤ c) :
    ∃ A', (∀ w : World, (Instr.slice t (.slice A n c) (some (.int .i64 lo)) none none).run P w = .ok (.slice A' (n - lo) (c - lo)) w) ∧ RB W N A' (n - lo) (bs.drop lo) := by
  have he : P.elem t = e := by simp [Program.elem, ht]
  refine ⟨if c = lo then A else A.map (·.add (lo * 1)), fun w => ?_, h.cut h1 (by omega)⟩
  rw [run_slice_l w t A n c (by rw [he]; exact ht) .i64 lo (by omega) (by omega), he, hs w]
  simp [Result.andThen, sliced]

theorem foldl_push_u8 : ∀ (bs : List UInt8) (s : ByteArray), (bs.map fun b => (b.toNat : Int)).foldl (fun r n => r.push (UInt8.ofNat n.toNat)) s = ⟨s.data ++ bs.toArray⟩
  | [], s => by simp
  | b :: bs, s => by
    rw [List.map_cons, List.foldl_cons, foldl_push_u8 bs]
    simp [ByteArray.push]
/-- 'string(b)'. -/
theorem conv_rb {src dst e : TypeId} (hs : P.underlying src = some (.slice e)) (he : P.underlying e = some (.int .u8)) (hd : P.underlying dst = some .string)
    {w : World} {N : Nat → Prop} {A : Option Addr} {n c : Nat} {bs : List UInt8} (h : RB w N A n bs) :
    (convert src dst (.slice A n c)).run P w = .ok (.string ⟨bs.toArray⟩) w := by
  have hl := h.len
  rcases Nat.eq_zero_or_pos n with h0 | h0
  · subst h0
    have : bs = [] := List.eq_nil_of_length_eq_zero hl
    subst this
    cases A with
    | none => rw [run_convert_bytes_nil w src e hs he _ _ dst hd]; rfl
    | some ad =>
      rw [run_convert_bytes_string w src dst e _ _ c hs he hd, run_bytesToString w _ _ c [] (by simpa using run_loadCells_list (P := P) w ad [] (by simp))]
      rfl
  · obtain ⟨ad, rfl, _, hc⟩ := h.2 (by omega)
    have hl : (loadCells ad n).run P w = .ok ((bs.map fun b => (b.toNat : Int)).map (Value.int .u8)).toArray w := by
      have := run_loadCells_list (P := P) w ad (u8s bs) hc
      rw [u8s_length, hl] at this
      rw [this]
      simp [u8s]
    rw [run_convert_bytes_string w src dst e _ n c hs he hd, run_bytesToString w _ n c _ hl, foldl_push_u8]
    simp [ByteArray.empty, ByteArray.emptyWithCapacity]
    rfl

theorem size_str (l : List UInt8) : (⟨l.toArray⟩ : ByteArray).size = l.length := by simp [ByteArray.size]
theorem data_str (l : List UInt8) : (⟨l.toArray⟩ : ByteArray).data.toList = l := by simp
theorem extract_str (l : List UInt8) (a b : Nat) : (⟨l.toArray⟩ : ByteArray).extract a b = ⟨((l.take b).drop a).toArray⟩ := by
  have h := Lib.extract_data ⟨l.toArray⟩ a b
  generalize (⟨l.toArray⟩ : ByteArray).extract a b = x at h
  obtain ⟨xd⟩ := x
  obtain ⟨xl⟩ := xd
  have : xl = (l.take b).drop a := by simpa [List.drop_take] using h
  rw [this]
theorem cat_str (a b : List UInt8) : (⟨a.toArray⟩ : ByteArray) ++ ⟨b.toArray⟩ = ⟨(a ++ b).toArray⟩ := by
  have h : ((⟨a.toArray⟩ : ByteArray) ++ ⟨b.toArray⟩).data = (a ++ b).toArray := by
    rw [ByteArray.data_append]
    simp
  generalize (⟨a.toArray⟩ : ByteArray) ++ ⟨b.toArray⟩ = x at h
  obtain ⟨x⟩ := x
  rw [show x = (a ++ b).toArray from h]
/-- 's[k]'. -/
theorem idx_str {t : TypeId} (ht : P.underlying t = some .string) {l : List UInt8} {k : Nat} {c : UInt8} (h : l[k]? = some c) (w : World) :
    (Instr.index t (.string ⟨l.toArray⟩) (.int .i64 k)).run P w = .ok (.int .u8 c.toNat) w := by
  obtain ⟨hk, he⟩ := List.getElem?_eq_some_iff.1 h
  have hs : k < (⟨l.toArray⟩ : ByteArray).size := by rw [size_str]; exact hk
  rw [run_index_string w t _ .i64 k ht]
  simp [hs, size_str, hk]
  have : (⟨l.toArray⟩ : ByteArray)[k]'hs = l[k] := rfl
  rw [this, he]
theorem sl_lo {t : TypeId} (ht : P.underlying t = some .string) {l : List UInt8} {k : Nat} (h : k ≤ l.length) (w : World) :
    (Instr.slice t (.string ⟨l.toArray⟩) (some (.int .i64 k)) none none).run P w = .ok (.string ⟨(l.drop k).toArray⟩) w := by
  rw [run_slice_string_l w t _ ht .i64 k (by omega) (by rw [size_str]; omega), size_str, extract_str, Int.toNat_natCast, List.take_of_length_le (Nat.le_refl _)]
theorem sl_hi {t : TypeId} (ht : P.underlying t = some .string) {l : List UInt8} {k : Nat} (h : k ≤ l.length) (w : World) :
    (Instr.slice t (.string ⟨l.toArray⟩) none (some (.int .i64 k)) none).run P w = .ok (.string ⟨(l.take k).toArray⟩) w := by
  rw [run_slice_string_h w t _ ht .i64 k (by omega) (by rw [size_str]; omega), extract_str, Int.toNat_natCast, List.drop_zero]
theorem sl_lh {t : TypeId} (ht : P.underlying t = some .string) {l : List UInt8} {a b : Nat} (h1 : a ≤ b) (h : b ≤ l.length) (w : World) :
    (Instr.slice t (.string ⟨l.toArray⟩) (some (.int .i64 a)) (some (.int .i64 b)) none).run P w = .ok (.string ⟨((l.take b).drop a).toArray⟩) w := by
  rw [run_slice_string_if w t _ .i64 .i64 a b ht, if_pos ⟨by omega, by rw [size_str]; omega⟩, if_pos ⟨by omega, by omega⟩, extract_str]
  simp

/-- '[]byte(s)': the bytes in a new block. -/
theorem bytesWorld_fr (w : World) (e : TypeId) (s : ByteArray) : Fr [] w (Lib.bytesWorld w e s) :=
  ⟨rfl, rfl, rfl, by rw [Lib.bytesWorld_size]; omega, fun g hg _ => Lib.bytesWorld_at_old w e s g hg⟩
theorem bytesWorld_rb (w : World) (e : TypeId) (s : ByteArray) : RB (Lib.bytesWorld w e s) (fun g => w.heap.size ≤ g) (some ⟨w.heap.size, 0, none⟩) s.size s.data.toList := by
  refine ⟨by rw [u8s_length, Nat.mul_one, Array.length_toList]; rfl, fun hn => ⟨_, rfl, Nat.le_refl _, fun j u hu => ?_⟩⟩
  have hp : (⟨w.heap.size, 0, none⟩ : Addr).add j = ⟨w.heap.size, j, none⟩ := by unfold Addr.add; split <;> simp_all
  have hj : j < s.size := by
    rcases Nat.lt_or_ge j s.size with h | h
    · exact h
    · rw [List.getElem?_eq_none (by rw [u8s_length, Array.length_toList]; exact h)] at hu; cases hu
  rw [hp, Lib.bytesWorld_cell w e s j hj]
  have hjl : j < s.data.toList.length := by rw [Array.length_toList]; exact hj
  have hb : s.data.toList[j]? = some s.data.toList[j] := List.getElem?_eq_getElem hjl
  rw [u8s_at hb] at hu
  injection hu with hu
  rw [← hu, List.getD_eq_getElem?_getD, hb]
  rfl
theorem bytesWorld_frozen (w : World) (e : TypeId) (s : ByteArray) (j : Nat) (hj : j < s.size) : (Lib.bytesWorld w e s).frozen? ⟨w.heap.size, j, none⟩ = false := by
  have h := Lib.bytesWorld_at_new w e s
  have hs : s.size ≤ (Lib.bytesCells w e s).size := by
    rw [Lib.bytesCells, Array.size_append, Array.size_map]
    exact Nat.le_add_right _ _
  simp [World.frozen?, h]
  omega
theorem conv_bytes {src dst e : TypeId} {P : Program} (hs : P.underlying src = some .string) (hd : P.underlying dst = some (.slice e)) (he : P.underlying e = some (.int .u8)) (l : List UInt8) (w : World) :
    ∃ c W1, (convert src dst (.string ⟨l.toArray⟩)).run P w = .ok (.slice (some ⟨w.heap.size, 0, none⟩) l.length c) W1 ∧ Fr [] w W1 ∧ W1.heap.size = w.heap.size + 1 ∧
      (∀ (j : Nat) (u : UInt8), l[j]? = some u → W1.cell? ⟨w.heap.size, j, none⟩ = some (.int .u8 u.toNat) ∧ W1.frozen? ⟨w.heap.size, j, none⟩ = false) ∧
      RB W1 (fun g => g = w.heap.size) (some ⟨w.heap.size, 0, none⟩) l.length l ∧ l.length ≤ c := by
  have hsz : (⟨l.toArray⟩ : ByteArray).size = l.length := by simp [ByteArray.size]
  have h2 : ∀ (j : Nat) (u : UInt8), l[j]? = some u → (Lib.bytesWorld w e ⟨l.toArray⟩).cell? ⟨w.heap.size, j, none⟩ = some (.int .u8 u.toNat) ∧ (Lib.bytesWorld w e ⟨l.toArray⟩).frozen? ⟨w.heap.size, j, none⟩ = false := by
    intro j u hu
    have hj : j < l.length := (List.getElem?_eq_some_iff.1 hu).1
    refine ⟨?_, bytesWorld_frozen w e _ j (by rw [hsz]; exact hj)⟩
    rw [Lib.bytesWorld_cell w e _ j (by rw [hsz]; exact hj)]
    simp [List.getD_eq_getElem?_getD, hu]
  refine ⟨_, _, by rw [Lib.run_convert_string_bytes w src dst e _ hs hd he, hsz], bytesWorld_fr w e _, Lib.bytesWorld_size w e _, h2, ⟨by simp [u8s], fun hn => ⟨_, rfl, rfl, fun j u hu => ?_⟩⟩, ?_⟩
  · have hp : (⟨w.heap.size, 0, none⟩ : Addr).add j = ⟨w.heap.size, j, none⟩ := by unfold Addr.add; split <;> simp_all
    have hj : j < l.length := by
      rcases Nat.lt_or_ge j l.length with h | h
      · exact h
      · rw [List.getElem?_eq_none (by rw [u8s_length]; exact h)] at hu; cases hu
    have hb : l[j]? = some l[j] := List.getElem?_eq_getElem hj
    rw [u8s_at hb] at hu
    injection hu with hu
    rw [hp, (h2 j _ hb).1, hu]
  · exact grownCap_ge w _ 0 e
end
end Go.Proofs.YtdjhjfpeckndkaaGreatDoor
