/- Plain functions on bytes: blanks, words. No program. -/
import Derived.Below
import Derived.Lib.Strings
import Derived.Lib.Index
namespace Go.Proofs.YtdjhjfpeckndkaaGreatDoor

def blankB (c : UInt8) : Bool := decide (c.toNat = 0 ∨ c.toNat = 9 ∨ c.toNat = 10 ∨ c.toNat = 12 ∨ c.toNat = 13 ∨ c.toNat = 32)
def delimB (c : UInt8) : Bool := decide (c.toNat = 40 ∨ c.toNat = 41 ∨ c.toNat = 60 ∨ c.toNat = 62 ∨ c.toNat = 91 ∨ c.toNat = 93 ∨ c.toNat = 123 ∨ c.toNat = 125 ∨ c.toNat = 47 ∨ c.toNat = 37)
def regB (c : UInt8) : Bool := !blankB c && !delimB c
def endB (c : UInt8) : Bool := decide (c.toNat = 10 ∨ c.toNat = 13 ∨ c.toNat = 12)

/-- How many bytes are skipped; true: within a comment. -/
def skipN : Bool → List UInt8 → Nat
  | _, [] => 0
  | true, c :: r => if endB c then 1 + skipN false r else 1 + skipN true r
  | false, c :: r => if blankB c then 1 + skipN false r else if c.toNat = 37 then 1 + skipN true r else 0
def skipF (b : List UInt8) (k : Nat) : Nat := k + skipN false (b.drop k)
def wordN (l : List UInt8) : Nat := (l.takeWhile regB).length
def wordF (b : List UInt8) (k : Nat) : Nat := k + wordN (b.drop k)
def insideF (n : Nat) (k : Int) : Nat := if k < 0 ∨ (n : Int) < k then n else k.toNat

theorem all_u8 {p : UInt8 → Prop} (h : ∀ n, n < 256 → p (UInt8.ofNat n)) (c : UInt8) : p c := by
  have := h c.toNat c.toNat_lt
  rwa [UInt8.ofNat_toNat] at this

theorem skipN_le : ∀ (l : List UInt8) (m : Bool), skipN m l ≤ l.length
  | [], m => by cases m <;> simp [skipN]
  | c :: r, true => by
    have h1 := skipN_le r false
    have h2 := skipN_le r true
    simp only [skipN, List.length_cons]
    split <;> omega
  | c :: r, false => by
    have h1 := skipN_le r false
    have h2 := skipN_le r true
    simp only [skipN, List.length_cons]
    split
    · omega
    · split <;> omega
theorem skipF_le (b : List UInt8) (k : Nat) (h : k ≤ b.length) : skipF b k ≤ b.length := by
  have := skipN_le (b.drop k) false
  rw [List.length_drop] at this
  unfold skipF
  omega
theorem skipF_ge (b : List UInt8) (k : Nat) : k ≤ skipF b k := by unfold skipF; omega
theorem wordN_le (l : List UInt8) : wordN l ≤ l.length := by
  unfold wordN
  exact (List.takeWhile_prefix regB).length_le
theorem wordF_le (b : List UInt8) (k : Nat) (h : k ≤ b.length) : wordF b k ≤ b.length := by
  have := wordN_le (b.drop k)
  rw [List.length_drop] at this
  unfold wordF
  omega
theorem wordF_ge (b : List UInt8) (k : Nat) : k ≤ wordF b k := by unfold wordF; omega
theorem insideF_le (n : Nat) (k : Int) : insideF n k ≤ n := by unfold insideF; split <;> omega

/-- One step of skipping at a place. -/
theorem drop_at (b : List UInt8) (k : Nat) (c : UInt8) (h : b[k]? = some c) : b.drop k = c :: b.drop (k + 1) := by
  obtain ⟨hk, he⟩ := List.getElem?_eq_some_iff.1 h
  rw [List.drop_eq_getElem_cons hk, he]
theorem skip_blank {b : List UInt8} {k : Nat} {c : UInt8} (h : b[k]? = some c) (hc : blankB c = true) : k + skipN false (b.drop k) = (k + 1) + skipN false (b.drop (k + 1)) := by
  rw [drop_at b k c h]
  simp only [skipN, hc, if_true]
  omega
theorem skip_percent {b : List UInt8} {k : Nat} {c : UInt8} (h : b[k]? = some c) (hb : blankB c = false) (hc : c.toNat = 37) : k + skipN false (b.drop k) = k + skipN true (b.drop k) := by
  rw [drop_at b k c h]
  have he : endB c = false := by unfold endB; simp; omega
  simp [skipN, hb, hc, he]
theorem skip_stop {b : List UInt8} {k : Nat} {c : UInt8} (h : b[k]? = some c) (hb : blankB c = false) (hc : ¬ c.toNat = 37) : k + skipN false (b.drop k) = k := by
  rw [drop_at b k c h]
  simp [skipN, hb, hc]
theorem skip_in {b : List UInt8} {k : Nat} {c : UInt8} (h : b[k]? = some c) (he : endB c = false) : k + skipN true (b.drop k) = (k + 1) + skipN true (b.drop (k + 1)) := by
  rw [drop_at b k c h]
  simp only [skipN, he, Bool.false_eq_true, if_false]
  omega
theorem skip_out {b : List UInt8} {k : Nat} {c : UInt8} (h : b[k]? = some c) (he : endB c = true) : k + skipN true (b.drop k) = k + skipN false (b.drop k) := by
  rw [drop_at b k c h]
  have hb : blankB c = true := by unfold endB at he; unfold blankB; simp at he ⊢; omega
  simp [skipN, hb, he]
theorem skip_end {b : List UInt8} {k : Nat} (m : Bool) (h : b.length ≤ k) : k + skipN m (b.drop k) = k := by
  rw [List.drop_eq_nil_of_le h]
  cases m <;> simp [skipN]
theorem word_step {b : List UInt8} {k : Nat} {c : UInt8} (h : b[k]? = some c) (hc : regB c = true) : k + wordN (b.drop k) = (k + 1) + wordN (b.drop (k + 1)) := by
  rw [drop_at b k c h]
  simp only [wordN, List.takeWhile_cons, hc, if_true, List.length_cons]
  omega
theorem word_stop {b : List UInt8} {k : Nat} {c : UInt8} (h : b[k]? = some c) (hc : regB c = false) : k + wordN (b.drop k) = k := by
  rw [drop_at b k c h]
  simp [wordN, List.takeWhile_cons, hc]
theorem word_end {b : List UInt8} {k : Nat} (h : b.length ≤ k) : k + wordN (b.drop k) = k := by
  rw [List.drop_eq_nil_of_le h]
  simp [wordN]

def u8s (bs : List UInt8) : List Value := bs.map fun b => .int .u8 b.toNat
theorem u8s_length (bs : List UInt8) : (u8s bs).length = bs.length := by simp [u8s]
theorem u8s_at {bs : List UInt8} {k : Nat} {c : UInt8} (h : bs[k]? = some c) : (u8s bs)[k]? = some (.int .u8 c.toNat) := by simp [u8s, h]

def idxC (cs : List UInt8) (c : UInt8) : Int := Lib.indexByte cs c
theorem idx_blank : ∀ c : UInt8, decide (0 ≤ idxC [0, 9, 10, 12, 13, 32] c) = blankB c := all_u8 (by decide +kernel)
theorem idx_delim : ∀ c : UInt8, decide (idxC [40, 41, 60, 62, 91, 93, 123, 125, 47, 37] c < 0) = !delimB c := all_u8 (by decide +kernel)
end Go.Proofs.YtdjhjfpeckndkaaGreatDoor
