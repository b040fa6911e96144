/- Numbers as decimal texts: the plain functions behind package dec. No program. -/
import Derived.Test.YtdjhjfpeckndkaaGreatDoorPlain
import Derived.Lib.SlTrimSet
import Derived.Lib.TrimByte
namespace Go.Proofs.YtdjhjfpeckndkaaGreatDoor

def isD (c : UInt8) : Bool := decide (48 ≤ c.toNat ∧ c.toNat ≤ 57)
def plainD (l : List UInt8) : Bool := l.all isD
def digV (c : UInt8) : Nat := c.toNat - 48
def numD (n : Nat) (l : List UInt8) : Nat := l.foldl (fun n c => 10 * n + digV c) n
def signP (l : List UInt8) : Bool × List UInt8 :=
  match l with
  | [] => (false, [])
  | c :: r => if c.toNat = 45 then (true, r) else if c.toNat = 43 then (false, r) else (false, c :: r)
def dotW (l : List UInt8) : List UInt8 := l.takeWhile (fun c => c != 46)
def dotR (l : List UInt8) : List UInt8 := (l.dropWhile (fun c => c != 46)).drop 1
def mantOk (l : List UInt8) : Bool := plainD (dotW l) && plainD (dotR l) && decide (0 < (dotW l).length + (dotR l).length)
/-- Digits behind a point, twice: what goes over, and the digits. -/
def dblP : List Nat → Nat × List Nat
  | [] => (0, [])
  | d :: r => ((2 * d + (dblP r).1) / 10, (2 * d + (dblP r).1) % 10 :: (dblP r).2)
def bitsP : Nat → Nat → List Nat → Nat × List Nat
  | 0, n, d => (n, d)
  | k + 1, n, d => bitsP k (2 * n + (dblP d).1) (dblP d).2
def zeroL (l : List UInt8) : List UInt8 := l.dropWhile (fun c => c == 48)
/-- The number without its sign. -/
def magP (whole rest : List UInt8) : Nat :=
  (bitsP 16 (numD 0 whole) (rest.map digV)).1 + (dblP (bitsP 16 (numD 0 whole) (rest.map digV)).2).1
def negI (minus : Bool) (n : Int) : Int := if minus then -n else n
def fitsI (n : Int) : Bool := decide (-2147483648 ≤ n ∧ n ≤ 2147483647)
def valueN (minus : Bool) (whole rest : List UInt8) : Int := if 5 < (zeroL whole).length then 0 else negI minus (magP (zeroL whole) rest)
def valueB (minus : Bool) (whole rest : List UInt8) : Bool := decide ((zeroL whole).length ≤ 5) && fitsI (valueN minus whole rest)
def parseB (s : List UInt8) : Bool := decide (s.length ≤ 64) && mantOk (signP s).2 && valueB (signP s).1 (dotW (signP s).2) (dotR (signP s).2)
def parseN (s : List UInt8) : Int := if parseB s then valueN (signP s).1 (dotW (signP s).2) (dotR (signP s).2) else 0

theorem digV_le (c : UInt8) (h : isD c = true) : digV c ≤ 9 := by unfold isD at h; unfold digV; simp at h; omega
theorem plainD_digs (l : List UInt8) (h : plainD l = true) : ∀ c, c ∈ l → isD c = true := by simpa [plainD] using h
theorem dblP_len : ∀ d : List Nat, (dblP d).2.length = d.length
  | [] => rfl
  | d :: r => by simp [dblP, dblP_len r]
theorem dblP_carry : ∀ d : List Nat, (∀ x, x ∈ d → x ≤ 9) → (dblP d).1 ≤ 1
  | [], _ => by simp [dblP]
  | d :: r, h => by
    have h1 := dblP_carry r (fun x hx => h x (by simp [hx]))
    have h2 := h d (by simp)
    simp only [dblP]
    omega
theorem dblP_digs : ∀ d : List Nat, ∀ x, x ∈ (dblP d).2 → x ≤ 9
  | [], _, h => by simp [dblP] at h
  | d :: r, x, h => by
    simp only [dblP, List.mem_cons] at h
    rcases h with rfl | h
    · omega
    · exact dblP_digs r x h
theorem numD_snoc (n : Nat) (l : List UInt8) (c : UInt8) : numD n (l ++ [c]) = 10 * numD n l + digV c := by simp [numD]
theorem numD_lt : ∀ (l : List UInt8) (n : Nat), plainD l = true → numD n l < (n + 1) * 10 ^ l.length
  | [], n, _ => by simp [numD]
  | c :: r, n, h => by
    have hc := digV_le c (plainD_digs _ h c (by simp))
    have := numD_lt r (10 * n + digV c) (by simp [plainD] at h ⊢; exact h.2)
    have e : numD n (c :: r) = numD (10 * n + digV c) r := rfl
    rw [e, List.length_cons, Nat.pow_succ]
    refine Nat.lt_of_lt_of_le this ?_
    have : (10 * n + digV c + 1) * 10 ^ r.length ≤ ((n + 1) * 10) * 10 ^ r.length := Nat.mul_le_mul_right _ (by omega)
    rw [Nat.mul_comm (10 ^ r.length) 10, ← Nat.mul_assoc]
    exact this
theorem bitsP_snoc : ∀ (k n : Nat) (d : List Nat), bitsP (k + 1) n d = (2 * (bitsP k n d).1 + (dblP (bitsP k n d).2).1, (dblP (bitsP k n d).2).2)
  | 0, n, d => rfl
  | k + 1, n, d => by
    rw [bitsP]
    exact bitsP_snoc k _ _
theorem bitsP_len : ∀ (k n : Nat) (d : List Nat), (bitsP k n d).2.length = d.length
  | 0, n, d => rfl
  | k + 1, n, d => by rw [bitsP, bitsP_len k]; exact dblP_len d
theorem bitsP_digs : ∀ (k n : Nat) (d : List Nat), (∀ x, x ∈ d → x ≤ 9) → ∀ x, x ∈ (bitsP k n d).2 → x ≤ 9
  | 0, n, d, h => h
  | k + 1, n, d, _ => by rw [bitsP]; exact bitsP_digs k _ _ (dblP_digs d)
theorem bitsP_le : ∀ (k n : Nat) (d : List Nat), (∀ x, x ∈ d → x ≤ 9) → (bitsP k n d).1 < (n + 1) * 2 ^ k
  | 0, n, d, _ => by simp [bitsP]
  | k + 1, n, d, h => by
    rw [bitsP]
    have h1 := bitsP_le k (2 * n + (dblP d).1) (dblP d).2 (dblP_digs d)
    have h2 := dblP_carry d h
    refine Nat.lt_of_lt_of_le h1 ?_
    rw [Nat.pow_succ, Nat.mul_comm (2 ^ k) 2, ← Nat.mul_assoc]
    exact Nat.mul_le_mul_right _ (by omega)
theorem digs_of_plain (l : List UInt8) (h : plainD l = true) : ∀ x, x ∈ l.map digV → x ≤ 9 := by
  intro x hx
  obtain ⟨c, hc, rfl⟩ := List.mem_map.1 hx
  exact digV_le c (plainD_digs l h c hc)
theorem zeroL_plain (l : List UInt8) (h : plainD l = true) : plainD (zeroL l) = true := by
  simp only [plainD, List.all_eq_true] at h ⊢
  exact fun c hc => h c ((List.dropWhile_sublist _).subset hc)
theorem magP_lt (whole rest : List UInt8) (hw : plainD whole = true) (hr : plainD rest = true) (h5 : whole.length ≤ 5) : magP whole rest < 6553600001 := by
  have h1 := numD_lt whole 0 hw
  have h2 := bitsP_le 16 (numD 0 whole) (rest.map digV) (digs_of_plain rest hr)
  have h3 := dblP_carry _ (bitsP_digs 16 (numD 0 whole) (rest.map digV) (digs_of_plain rest hr))
  have h4 : 10 ^ whole.length ≤ 100000 := Nat.pow_le_pow_right (by omega) h5
  unfold magP
  omega

/-- Trimmed at both ends of digits: nothing is left just of digits alone. -/
theorem dropWhile_nil {α : Type} (p : α → Bool) : ∀ l : List α, l.dropWhile p = [] ↔ ∀ x, x ∈ l → p x = true
  | [] => by simp
  | x :: l => by
    by_cases h : p x = true
    · simp [List.dropWhile_cons, h, dropWhile_nil p l]
    · simp [List.dropWhile_cons, h]
end Go.Proofs.YtdjhjfpeckndkaaGreatDoor
