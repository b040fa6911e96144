/- Plain functions on bytes: blanks, words. No program. -/
/- Numbers as decimal texts: the plain functions behind package dec. No program. -/
/- The objects of a file, and the reader of objects, as plain functions on bytes. No program. -/
/- Numbers as they are printed: plain functions. No program. -/
/- Pages, their text, and what is sound of them: plain functions. No program. -/
/- A number's text is read as that number. No program. -/
import Derived.Below
import Derived.Lib.Strings
import Derived.Lib.Index
import Derived.Lib.SlTrimSet
import Derived.Lib.TrimByte
set_option linter.unusedVariables false
set_option linter.unusedSimpArgs false
namespace Go.Proofs.YtndfdekcdhlgoaaDoor

def blankB (c : UInt8) : Bool := decide (c.toNat = 0 ∨ c.toNat = 9 ∨ c.toNat = 10 ∨ c.toNat = 12 ∨ c.toNat = 13 ∨ c.toNat = 32)
def delimB (c : UInt8) : Bool := decide (c.toNat = 40 ∨ c.toNat = 41 ∨ c.toNat = 60 ∨ c.toNat = 62 ∨ c.toNat = 91 ∨ c.toNat = 93 ∨ c.toNat = 123 ∨ c.toNat = 125 ∨ c.toNat = 47 ∨ c.toNat = 37)
def regB (c : UInt8) : Bool := !blankB c && !delimB c
def endB (c : UInt8) : Bool := decide (c.toNat = 10 ∨ c.toNat = 13 ∨ c.toNat = 12)

/-- How many bytes are skipped; true: within a comment. -/
def skipN : Bool → List UInt8 → Nat
  | _, [] => 0
  | true, c :: r => if endB c then 1 + skipN false r else 1 + skipN true r
  | false, c :: r => if blankB c then 1 + skipN false r else if c.toNat = 37 then 1 + skipN true r else 0
def skipF (b : List UInt8) (k : Nat) : Nat := k + skipN false (b.drop k)
def wordN (l : List UInt8) : Nat := (l.takeWhile regB).length
def wordF (b : List UInt8) (k : Nat) : Nat := k + wordN (b.drop k)
def insideF (n : Nat) (k : Int) : Nat := if k < 0 ∨ (n : Int) < k then n else k.toNat

theorem all_u8 {p : UInt8 → Prop} (h : ∀ n, n < 256 → p (UInt8.ofNat n)) (c : UInt8) : p c := by
  have := h c.toNat c.toNat_lt
  rwa [UInt8.ofNat_toNat] at this

theorem skipN_le : ∀ (l : List UInt8) (m : Bool), skipN m l ≤ l.length
  | [], m => by cases m <;> simp [skipN]
  | c :: r, true => by
    have h1 := skipN_le r false
    have h2 := skipN_le r true
    simp only [skipN, List.length_cons]
    split <;> omega
  | c :: r, false => by
    have h1 := skipN_le r false
    have h2 := skipN_le r true
    simp only [skipN, List.length_cons]
    split
    · omega
    · split <;> omega
theorem skipF_le (b : List UInt8) (k : Nat) (h : k ≤ b.length) : skipF b k ≤ b.length := by
  have := skipN_le (b.drop k) false
  rw [List.length_drop] at this
  unfold skipF
  omega
theorem skipF_ge (b : List UInt8) (k : Nat) : k ≤ skipF b k := by unfold skipF; omega
theorem wordN_le (l : List UInt8) : wordN l ≤ l.length := by
  unfold wordN
  exact (List.takeWhile_prefix regB).length_le
theorem wordF_le (b : List UInt8) (k : Nat) (h : k ≤ b.length) : wordF b k ≤ b.length := by
  have := wordN_le (b.drop k)
  rw [List.length_drop] at this
  unfold wordF
  omega
theorem wordF_ge (b : List UInt8) (k : Nat) : k ≤ wordF b k := by unfold wordF; omega
theorem insideF_le (n : Nat) (k : Int) : insideF n k ≤ n := by unfold insideF; split <;> omega

/-- One step of skipping at a place. -/
theorem drop_at (b : List UInt8) (k : Nat) (c : UInt8) (h : b[k]? = some c) : b.drop k = c :: b.drop (k + 1) := by
  obtain ⟨hk, he⟩ := List.getElem?_eq_some_iff.1 h
  rw [List.drop_eq_getElem_cons hk, he]
theorem skip_blank {b : List UInt8} {k : Nat} {c : UInt8} (h : b[k]? = some c) (hc : blankB c = true) : k + skipN false (b.drop k) = (k + 1) + skipN false (b.drop (k + 1)) := by
  rw [drop_at b k c h]
  simp only [skipN, hc, if_true]
  omega
theorem skip_percent {b : List UInt8} {k : Nat} {c : UInt8} (h : b[k]? = some c) (hb : blankB c = false) (hc : c.toNat = 37) : k + skipN false (b.drop k) = k + skipN true (b.drop k) := by
  rw [drop_at b k c h]
  have he : endB c = false := by unfold endB; simp; omega
  simp [skipN, hb, hc, he]
theorem skip_stop {b : List UInt8} {k : Nat} {c : UInt8} (h : b[k]? = some c) (hb : blankB c = false) (hc : ¬ c.toNat = 37) : k + skipN false (b.drop k) = k := by
  rw [drop_at b k c h]
  simp [skipN, hb, hc]
theorem skip_in {b : List UInt8} {k : Nat} {c : UInt8} (h : b[k]? = some c) (he : endB c = false) : k + skipN true (b.drop k) = (k + 1) + skipN true (b.drop (k + 1)) := by
  rw [drop_at b k c h]
  simp only [skipN, he, Bool.false_eq_true, if_false]
  omega
theorem skip_out {b : List UInt8} {k : Nat} {c : UInt8} (h : b[k]? = some c) (he : endB c = true) : k + skipN true (b.drop k) = k + skipN false (b.drop k) := by
  rw [drop_at b k c h]
  have hb : blankB c = true := by unfold endB at he; unfold blankB; simp at he ⊢; omega
  simp [skipN, hb, he]
theorem skip_end {b : List UInt8} {k : Nat} (m : Bool) (h : b.length ≤ k) : k + skipN m (b.drop k) = k := by
  rw [List.drop_eq_nil_of_le h]
  cases m <;> simp [skipN]
theorem word_step {b : List UInt8} {k : Nat} {c : UInt8} (h : b[k]? = some c) (hc : regB c = true) : k + wordN (b.drop k) = (k + 1) + wordN (b.drop (k + 1)) := by
  rw [drop_at b k c h]
  simp only [wordN, List.takeWhile_cons, hc, if_true, List.length_cons]
  omega
theorem word_stop {b : List UInt8} {k : Nat} {c : UInt8} (h : b[k]? = some c) (hc : regB c = false) : k + wordN (b.drop k) = k := by
  rw [drop_at b k c h]
  simp [wordN, List.takeWhile_cons, hc]
theorem word_end {b : List UInt8} {k : Nat} (h : b.length ≤ k) : k + wordN (b.drop k) = k := by
  rw [List.drop_eq_nil_of_le h]
  simp [wordN]

def u8s (bs : List UInt8) : List Value := bs.map fun b => .int .u8 b.toNat
theorem u8s_length (bs : List UInt8) : (u8s bs).length = bs.length := by simp [u8s]
theorem u8s_at {bs : List UInt8} {k : Nat} {c : UInt8} (h : bs[k]? = some c) : (u8s bs)[k]? = some (.int .u8 c.toNat) := by simp [u8s, h]

def idxC (cs : List UInt8) (c : UInt8) : Int := Lib.indexByte cs c
theorem idx_blank : ∀ c : UInt8, decide (0 ≤ idxC [0, 9, 10, 12, 13, 32] c) = blankB c := all_u8 (by decide +kernel)
theorem idx_delim : ∀ c : UInt8, decide (idxC [40, 41, 60, 62, 91, 93, 123, 125, 47, 37] c < 0) = !delimB c := all_u8 (by decide +kernel)
end Go.Proofs.YtndfdekcdhlgoaaDoor
namespace Go.Proofs.YtndfdekcdhlgoaaDoor

def isD (c : UInt8) : Bool := decide (48 ≤ c.toNat ∧ c.toNat ≤ 57)
def plainD (l : List UInt8) : Bool := l.all isD
def digV (c : UInt8) : Nat := c.toNat - 48
def numD (n : Nat) (l : List UInt8) : Nat := l.foldl (fun n c => 10 * n + digV c) n
def signP (l : List UInt8) : Bool × List UInt8 :=
  match l with
  | [] => (false, [])
  | c :: r => if c.toNat = 45 then (true, r) else if c.toNat = 43 then (false, r) else (false, c :: r)
def dotW (l : List UInt8) : List UInt8 := l.takeWhile (fun c => c != 46)
def dotR (l : List UInt8) : List UInt8 := (l.dropWhile (fun c => c != 46)).drop 1
def mantOk (l : List UInt8) : Bool := plainD (dotW l) && plainD (dotR l) && decide (0 < (dotW l).length + (dotR l).length)
/-- Digits behind a point, twice: what goes over, and the digits. -/
def dblP : List Nat → Nat × List Nat
  | [] => (0, [])
  | d :: r => ((2 * d + (dblP r).1) / 10, (2 * d + (dblP r).1) % 10 :: (dblP r).2)
def bitsP : Nat → Nat → List Nat → Nat × List Nat
  | 0, n, d => (n, d)
  | k + 1, n, d => bitsP k (2 * n + (dblP d).1) (dblP d).2
def zeroL (l : List UInt8) : List UInt8 := l.dropWhile (fun c => c == 48)
/-- The number without its sign. -/
def magP (whole rest : List UInt8) : Nat :=
  (bitsP 16 (numD 0 whole) (rest.map digV)).1 + (dblP (bitsP 16 (numD 0 whole) (rest.map digV)).2).1
def negI (minus : Bool) (n : Int) : Int := if minus then -n else n
def fitsI (n : Int) : Bool := decide (-2147483648 ≤ n ∧ n ≤ 2147483647)
def valueN (minus : Bool) (whole rest : List UInt8) : Int := if 5 < (zeroL whole).length then 0 else negI minus (magP (zeroL whole) rest)
def valueB (minus : Bool) (whole rest : List UInt8) : Bool := decide ((zeroL whole).length ≤ 5) && fitsI (valueN minus whole rest)
def parseB (s : List UInt8) : Bool := decide (s.length ≤ 64) && mantOk (signP s).2 && valueB (signP s).1 (dotW (signP s).2) (dotR (signP s).2)
def parseN (s : List UInt8) : Int := if parseB s then valueN (signP s).1 (dotW (signP s).2) (dotR (signP s).2) else 0

theorem digV_le (c : UInt8) (h : isD c = true) : digV c ≤ 9 := by unfold isD at h; unfold digV; simp at h; omega
theorem plainD_digs (l : List UInt8) (h : plainD l = true) : ∀ c, c ∈ l → isD c = true := by simpa [plainD] using h
theorem dblP_len : ∀ d : List Nat, (dblP d).2.length = d.length
  | [] => rfl
  | d :: r => by simp [dblP, dblP_len r]
theorem dblP_carry : ∀ d : List Nat, (∀ x, x ∈ d → x ≤ 9) → (dblP d).1 ≤ 1
  | [], _ => by simp [dblP]
  | d :: r, h => by
    have h1 := dblP_carry r (fun x hx => h x (by simp [hx]))
    have h2 := h d (by simp)
    simp only [dblP]
    omega
theorem dblP_digs : ∀ d : List Nat, ∀ x, x ∈ (dblP d).2 → x ≤ 9
  | [], _, h => by simp [dblP] at h
  | d :: r, x, h => by
    simp only [dblP, List.mem_cons] at h
    rcases h with rfl | h
    · omega
    · exact dblP_digs r x h
theorem numD_snoc (n : Nat) (l : List UInt8) (c : UInt8) : numD n (l ++ [c]) = 10 * numD n l + digV c := by simp [numD]
theorem numD_lt : ∀ (l : List UInt8) (n : Nat), plainD l = true → numD n l < (n + 1) * 10 ^ l.length
  | [], n, _ => by simp [numD]
  | c :: r, n, h => by
    have hc := digV_le c (plainD_digs _ h c (by simp))
    have := numD_lt r (10 * n + digV c) (by simp [plainD] at h ⊢; exact h.2)
    have e : numD n (c :: r) = numD (10 * n + digV c) r := rfl
    rw [e, List.length_cons, Nat.pow_succ]
    refine Nat.lt_of_lt_of_le this ?_
    have : (10 * n + digV c + 1) * 10 ^ r.length ≤ ((n + 1) * 10) * 10 ^ r.length := Nat.mul_le_mul_right _ (by omega)
    rw [Nat.mul_comm (10 ^ r.length) 10, ← Nat.mul_assoc]
    exact this
theorem bitsP_snoc : ∀ (k n : Nat) (d : List Nat), bitsP (k + 1) n d = (2 * (bitsP k n d).1 + (dblP (bitsP k n d).2).1, (dblP (bitsP k n d).2).2)
  | 0, n, d => rfl
  | k + 1, n, d => by
    rw [bitsP]
    exact bitsP_snoc k _ _
theorem bitsP_len : ∀ (k n : Nat) (d : List Nat), (bitsP k n d).2.length = d.length
  | 0, n, d => rfl
  | k + 1, n, d => by rw [bitsP, bitsP_len k]; exact dblP_len d
theorem bitsP_digs : ∀ (k n : Nat) (d : List Nat), (∀ x, x ∈ d → x ≤ 9) → ∀ x, x ∈ (bitsP k n d).2 → x ≤ 9
  | 0, n, d, h => h
  | k + 1, n, d, _ => by rw [bitsP]; exact bitsP_digs k _ _ (dblP_digs d)
theorem bitsP_le : ∀ (k n : Nat) (d : List Nat), (∀ x, x ∈ d → x ≤ 9) → (bitsP k n d).1 < (n + 1) * 2 ^ k
  | 0, n, d, _ => by simp [bitsP]
  | k + 1, n, d, h => by
    rw [bitsP]
    have h1 := bitsP_le k (2 * n + (dblP d).1) (dblP d).2 (dblP_digs d)
    have h2 := dblP_carry d h
    refine Nat.lt_of_lt_of_le h1 ?_
    rw [Nat.pow_succ, Nat.mul_comm (2 ^ k) 2, ← Nat.mul_assoc]
    exact Nat.mul_le_mul_right _ (by omega)
theorem digs_of_plain (l : List UInt8) (h : plainD l = true) : ∀ x, x ∈ l.map digV → x ≤ 9 := by
  intro x hx
  obtain ⟨c, hc, rfl⟩ := List.mem_map.1 hx
  exact digV_le c (plainD_digs l h c hc)
theorem zeroL_plain (l : List UInt8) (h : plainD l = true) : plainD (zeroL l) = true := by
  simp only [plainD, List.all_eq_true] at h ⊢
  exact fun c hc => h c ((List.dropWhile_sublist _).subset hc)
theorem magP_lt (whole rest : List UInt8) (hw : plainD whole = true) (hr : plainD rest = true) (h5 : whole.length ≤ 5) : magP whole rest < 6553600001 := by
  have h1 := numD_lt whole 0 hw
  have h2 := bitsP_le 16 (numD 0 whole) (rest.map digV) (digs_of_plain rest hr)
  have h3 := dblP_carry _ (bitsP_digs 16 (numD 0 whole) (rest.map digV) (digs_of_plain rest hr))
  have h4 : 10 ^ whole.length ≤ 100000 := Nat.pow_le_pow_right (by omega) h5
  unfold magP
  omega

/-- Trimmed at both ends of digits: nothing is left just of digits alone. -/
theorem dropWhile_nil {α : Type} (p : α → Bool) : ∀ l : List α, l.dropWhile p = [] ↔ ∀ x, x ∈ l → p x = true
  | [] => by simp
  | x :: l => by
    by_cases h : p x = true
    · simp [List.dropWhile_cons, h, dropWhile_nil p l]
    · simp [List.dropWhile_cons, h]
end Go.Proofs.YtndfdekcdhlgoaaDoor
namespace Go.Proofs.YtndfdekcdhlgoaaDoor

/-- An object of a file. -/
inductive PObj where
  | mk (kind n : Int) (text : List UInt8) (keys : List (List UInt8)) (list : List PObj) (data : List UInt8)
deriving Inhabited
def PObj.kind : PObj → Int | .mk k _ _ _ _ _ => k
def PObj.n : PObj → Int | .mk _ n _ _ _ _ => n
def PObj.text : PObj → List UInt8 | .mk _ _ t _ _ _ => t
def PObj.keys : PObj → List (List UInt8) | .mk _ _ _ k _ _ => k
def PObj.list : PObj → List PObj | .mk _ _ _ _ l _ => l
def PObj.data : PObj → List UInt8 | .mk _ _ _ _ _ d => d
def simpleO (k n : Int) (t : List UInt8) : PObj := .mk k n t [] [] []

def hexV (c : UInt8) : Int :=
  if 48 ≤ c.toNat ∧ c.toNat ≤ 57 then (c.toNat : Int) - 48 else if 97 ≤ c.toNat ∧ c.toNat ≤ 102 then (c.toNat : Int) - 87 else if 65 ≤ c.toNat ∧ c.toNat ≤ 70 then (c.toNat : Int) - 55 else -1
theorem hexV_range (c : UInt8) : -1 ≤ hexV c ∧ hexV c ≤ 15 := by unfold hexV; split <;> (try split) <;> (try split) <;> omega
def wordS (bs : List UInt8) (k : Nat) : List UInt8 := (bs.take (wordF bs k)).drop k

/-- A name's bytes; none: a number sign without its digits. -/
def nameD : List UInt8 → Option (List UInt8)
  | [] => some []
  | c :: r =>
    if c.toNat = 35 then
      match r with
      | a :: b :: r' => if 0 ≤ hexV a ∧ 0 ≤ hexV b then (nameD r').map (UInt8.ofNat (16 * hexV a + hexV b).toNat :: ·) else none
      | _ => none
    else (nameD r).map (c :: ·)
def nameP (bs : List UInt8) (k : Nat) : Except Int (List UInt8 × Nat) :=
  match nameD (wordS bs k) with
  | none => .error 23
  | some out => if out = [] ∨ (0 : UInt8) ∈ out then .error 23 else if 127 < out.length then .error 25 else .ok (out, wordF bs k)

def octB (c : UInt8) : Bool := decide (48 ≤ c.toNat ∧ c.toNat ≤ 55)
def isOct (bs : List UInt8) (k : Nat) : Bool := match bs[k]? with | some c => octB c | none => false
def octV (bs : List UInt8) (k : Nat) : Nat := match bs[k]? with | some c => c.toNat - 48 | none => 0
/-- What an escape stands for, and the place behind it: its byte is d, the place behind that is k. -/
def escP (bs : List UInt8) (k : Nat) (d : UInt8) : List UInt8 × Nat :=
  if d.toNat = 110 then ([10], k) else if d.toNat = 114 then ([13], k) else if d.toNat = 116 then ([9], k) else if d.toNat = 98 then ([8], k)
  else if d.toNat = 102 then ([12], k) else if d.toNat = 10 then ([], k)
  else if d.toNat = 13 then ([], if bs[k]? = some 10 then k + 1 else k)
  else if octB d = false then ([d], k)
  else if isOct bs k = false then ([UInt8.ofNat (d.toNat - 48)], k)
  else if isOct bs (k + 1) = false then ([UInt8.ofNat (8 * (d.toNat - 48) + octV bs k)], k + 1)
  else ([UInt8.ofNat (8 * (8 * (d.toNat - 48) + octV bs k) + octV bs (k + 1))], k + 2)
theorem escP_ge (bs : List UInt8) (k : Nat) (d : UInt8) : k ≤ (escP bs k d).2 := by
  unfold escP
  repeat' split
  all_goals simp only
  all_goals omega
theorem isOct_lt {bs : List UInt8} {k : Nat} (h : isOct bs k = true) : k < bs.length := by
  unfold isOct at h
  cases hb : bs[k]? with
  | none => rw [hb] at h; cases h
  | some c => exact (List.getElem?_eq_some_iff.1 hb).1
theorem escP_le (bs : List UInt8) (k : Nat) (d : UInt8) (h : k ≤ bs.length) : (escP bs k d).2 ≤ bs.length := by
  unfold escP
  repeat' split
  all_goals first
    | exact h
    | (rename_i h13; have := (List.getElem?_eq_some_iff.1 h13).1; simp only; omega)
    | (rename_i h1 h2; exact isOct_lt (by simpa using h1))
    | (rename_i h1 h2; have := isOct_lt (bs := bs) (k := k + 1) (by simpa using h2); simp only; omega)

/-- A string in round brackets, from a place on: its bytes, and the place behind it; none: it has no end. -/
def roundP (bs : List UInt8) (k depth : Nat) (acc : List UInt8) : Option (List UInt8 × Nat) :=
  if h : k < bs.length then
    let c := bs[k]
    if c.toNat = 40 then roundP bs (k + 1) (depth + 1) (acc ++ [c])
    else if c.toNat = 41 then (if depth = 1 then some (acc, k + 1) else roundP bs (k + 1) (depth - 1) (acc ++ [c]))
    else if c.toNat = 92 then
      if h2 : k + 1 < bs.length then roundP bs (escP bs (k + 2) bs[k + 1]).2 depth (acc ++ (escP bs (k + 2) bs[k + 1]).1) else none
    else if c.toNat = 13 then roundP bs (if bs[k + 1]? = some 10 then k + 2 else k + 1) depth (acc ++ [10])
    else roundP bs (k + 1) depth (acc ++ [c])
  else none
termination_by bs.length - k
decreasing_by
  all_goals first
    | omega
    | (have := escP_ge bs (k + 2) bs[k + 1]; omega)
    | (split <;> omega)

/-- A string in pointed brackets; odd: a digit that waits (-1: none). -/
def hexP (bs : List UInt8) : List UInt8 → Nat → Int → List UInt8 → Option (List UInt8 × Nat)
  | [], _, _, _ => none
  | c :: r, k, odd, acc =>
    if blankB c then hexP bs r (k + 1) odd acc
    else if c.toNat = 62 then some (if 0 ≤ odd then acc ++ [UInt8.ofNat (16 * odd).toNat] else acc, k + 1)
    else if hexV c < 0 then none
    else if odd < 0 then hexP bs r (k + 1) (hexV c) acc
    else hexP bs r (k + 1) (-1) (acc ++ [UInt8.ofNat (16 * odd + hexV c).toNat])
/-- Are all bytes blanks and digits? -/
def openP (l : List UInt8) : Bool := l.all fun c => blankB c || decide (0 ≤ hexV c)
def textP (bs : List UInt8) (k : Nat) : Except Int (List UInt8 × Nat) :=
  if bs[k]? = some 40 then
    match roundP bs (k + 1) 1 [] with
    | none => .error 24
    | some (out, j) => if 65535 < out.length then .error 25 else .ok (out, j)
  else
    match hexP bs (bs.drop (k + 1)) (k + 1) (-1) [] with
    | none => if openP (bs.drop (k + 1)) then .error 24 else .error 23
    | some (out, j) => if 65535 < out.length then .error 25 else .ok (out, j)

/-! Words. -/
def hasB (c : UInt8) (l : List UInt8) : Bool := l.contains c
def capN (n : Nat) : Nat := min n 1099511627776
def wholeI (l : List UInt8) : Int := negI (signP l).1 (capN (numD 0 (signP l).2))
def wholeB (l : List UInt8) : Bool := !(signP l).2.isEmpty && plainD (signP l).2 && fitsI (wholeI l)
def badW (l : List UInt8) : Bool := l.any fun c => c.toNat == 101 || c.toNat == 69 || c.toNat == 35 || decide (128 ≤ c.toNat)
/-- What a word is as a number: its kind (2 whole, 3 with a point), the number; false: it is none. -/
def numK (l : List UInt8) : Int := if hasB 46 l then 3 else if l.length ≤ 64 ∧ wholeB l = true then 2 else 0
def numV (l : List UInt8) : Int := if hasB 46 l then parseN l else if l.length ≤ 64 ∧ wholeB l = true then wholeI l else 0
def numO (l : List UInt8) : Bool := if hasB 46 l then parseB l else decide (l.length ≤ 64 ∧ wholeB l = true)
/-- plex.whole. -/
def pwholeB (l : List UInt8) (most : Int) : Bool := decide (l ≠ [] ∧ l.length ≤ 10) && plainD l && decide ((numD 0 l : Int) ≤ most)
/-- A reference that begins with a word, behind which k stands: its number, and the place behind it. -/
def refP (bs : List UInt8) (refs : Bool) (k : Nat) (l : List UInt8) : Option (Nat × Nat) :=
  if refs && pwholeB l 4096 && decide (1 ≤ numD 0 l) && decide (wordS bs (skipF bs k) = [48]) && decide (wordS bs (skipF bs (wordF bs (skipF bs k))) = [82]) then
    some (numD 0 l, wordF bs (skipF bs (wordF bs (skipF bs k)))) else none
def nullW : List UInt8 := [110, 117, 108, 108]
def trueW : List UInt8 := [116, 114, 117, 101]
def falseW : List UInt8 := [102, 97, 108, 115, 101]
/-- A word at a place: the object that it is; none: it is none; the place behind it. -/
def wordO (bs : List UInt8) (refs : Bool) (k : Nat) : Option PObj × Nat :=
  let l := wordS bs k
  let j := wordF bs k
  if l = nullW then (some (simpleO 0 0 []), j) else if l = trueW then (some (simpleO 1 1 []), j) else if l = falseW then (some (simpleO 1 0 []), j)
  else match refP bs refs j l with
    | some (n, j2) => (some (simpleO 8 n []), j2)
    | none => if numO l then (some (simpleO (numK l) (numV l) []), j) else (none, j)
/-- Is nothing said here of the word at a place? -/
def wordBad (bs : List UInt8) (refs : Bool) (k : Nat) : Bool :=
  let l := wordS bs k
  decide (l.length ≤ 64) && badW l && !(decide (l = nullW) || decide (l = trueW) || decide (l = falseW)) && (refP bs refs (wordF bs k) l).isNone

mutual
/-- The object that begins at a place: it, and the place behind it; or the error (99: nothing is said here). -/
def objP (fuel : Nat) (bs : List UInt8) (refs : Bool) (deep : Int) (k : Nat) : Except Int (PObj × Nat) :=
  match fuel with
  | 0 => .error 99
  | f + 1 =>
    match bs[k]? with
    | none => .error 99
    | some c =>
      if c.toNat = 47 then
        match nameP bs (k + 1) with
        | .error e => .error e
        | .ok (s, j) => .ok (simpleO 4 0 s, j)
      else if c.toNat = 91 then (if deep < 1 then .error 25 else listP f bs refs (deep - 1) (k + 1) [])
      else if c.toNat = 40 then
        match textP bs k with
        | .error e => .error e
        | .ok (s, j) => .ok (simpleO 5 0 s, j)
      else if c.toNat = 60 then
        match bs[k + 1]? with
        | none => .error 24
        | some d =>
          if d.toNat = 60 then (if deep < 1 then .error 25 else pairsP f bs refs (deep - 1) (k + 2) [] [])
          else match textP bs k with
            | .error e => .error e
            | .ok (s, j) => .ok (simpleO 5 0 s, j)
      else if wordBad bs refs k then .error 99
      else match wordO bs refs k with
        | (some o, j) => .ok (o, j)
        | (none, _) => .error 23
def listP (fuel : Nat) (bs : List UInt8) (refs : Bool) (deep : Int) (k : Nat) (acc : List PObj) : Except Int (PObj × Nat) :=
  match fuel with
  | 0 => .error 99
  | f + 1 =>
    match bs[skipF bs k]? with
    | none => .error 24
    | some c =>
      if c.toNat = 93 then .ok (.mk 6 0 [] [] acc [], skipF bs k + 1)
      else if 65535 ≤ acc.length then .error 25
      else match objP f bs refs deep (skipF bs k) with
        | .error e => .error e
        | .ok (o, j) => listP f bs refs deep j (acc ++ [o])
def pairsP (fuel : Nat) (bs : List UInt8) (refs : Bool) (deep : Int) (k : Nat) (keys : List (List UInt8)) (acc : List PObj) : Except Int (PObj × Nat) :=
  match fuel with
  | 0 => .error 99
  | f + 1 =>
    match bs[skipF bs k]? with
    | none => .error 24
    | some c =>
      if c.toNat = 62 then
        match bs[skipF bs k + 1]? with
        | none => .error 24
        | some d => if d.toNat = 62 then .ok (.mk 7 0 [] keys acc [], skipF bs k + 2) else .error 23
      else if c.toNat = 47 then
        match nameP bs (skipF bs k + 1) with
        | .error e => .error e
        | .ok (s, j) =>
          if s ∈ keys then .error 23
          else if 65535 ≤ acc.length then .error 25
          else match bs[skipF bs j]? with
            | none => .error 24
            | some _ =>
              match objP f bs refs deep (skipF bs j) with
              | .error e => .error e
              | .ok (o, j2) => pairsP f bs refs deep j2 (keys ++ [s]) (acc ++ [o])
      else .error 23
end
end Go.Proofs.YtndfdekcdhlgoaaDoor
namespace Go.Proofs.YtndfdekcdhlgoaaDoor

/-- A whole number's digits. -/
def digU (n : Nat) : List UInt8 := if n < 10 then [UInt8.ofNat (48 + n)] else digU (n / 10) ++ [UInt8.ofNat (48 + n % 10)]
termination_by n
decreasing_by omega
theorem digU_lt {n : Nat} (h : n < 10) : digU n = [UInt8.ofNat (48 + n)] := by rw [digU, if_pos h]
theorem digU_ge {n : Nat} (h : ¬ n < 10) : digU n = digU (n / 10) ++ [UInt8.ofNat (48 + n % 10)] := by rw [digU, if_neg h]
theorem digU_ne (n : Nat) : digU n ≠ [] := by
  rw [digU]; split <;> simp
theorem digU_len : ∀ (k n : Nat), n < 10 ^ (k + 1) → (digU n).length ≤ k + 1
  | 0, n, h => by rw [digU_lt (by simpa using h)]; simp
  | k + 1, n, h => by
    by_cases h9 : n < 10
    · rw [digU_lt h9]; simp
    · rw [digU_ge h9, List.length_append]
      have := digU_len k (n / 10) (by rw [Nat.pow_succ] at h; omega)
      simp only [List.length_singleton]
      omega
/-- The digits behind the point. -/
def fracD : Nat → Nat → List UInt8
  | 0, _ => []
  | k + 1, f => if f = 0 then [] else UInt8.ofNat (48 + f * 10 / 65536) :: fracD k (f * 10 % 65536)
theorem fracD_zero (k : Nat) : fracD k 0 = [] := by cases k <;> simp [fracD]
theorem fracD_len : ∀ k f, (fracD k f).length ≤ k
  | 0, _ => by simp [fracD]
  | k + 1, f => by
    rw [fracD]
    split
    · simp
    · have := fracD_len k (f * 10 % 65536)
      simp only [List.length_cons]; omega
/-- f is a multiple of 2^(16-k): k digits tell it. -/
def fine : Nat → Nat → Prop
  | k, f => f < 65536 ∧ 2 ^ (16 - k) ∣ f
theorem fine_start (f : Nat) (h : f < 65536) : fine 16 f := ⟨h, by simp⟩
theorem fine_end (f : Nat) (h : fine 0 f) : f = 0 := by
  obtain ⟨h1, k, hk⟩ := h
  simp at hk
  omega
theorem fine_step (k f : Nat) (hk : k < 16) (h : fine (k + 1) f) : fine k (f * 10 % 65536) := by
  obtain ⟨_, m, hm⟩ := h
  refine ⟨Nat.mod_lt _ (by omega), ?_⟩
  have e : 2 ^ (16 - k) = 2 ^ (16 - (k + 1)) * 2 := by
    rw [← Nat.pow_succ]; congr 1; omega
  have h1 : 2 ^ (16 - k) ∣ f * 10 := ⟨5 * m, by rw [hm, e]; generalize 2 ^ (16 - (k + 1)) = p; rw [Nat.mul_assoc, Nat.mul_assoc]; congr 1; omega⟩
  have h2 : 2 ^ (16 - k) ∣ 65536 := by
    have : (65536 : Nat) = 2 ^ (16 - k) * 2 ^ k := by rw [← Nat.pow_add, show 16 - k + k = 16 by omega]
    exact ⟨2 ^ k, this⟩
  exact (Nat.dvd_mod_iff h2).2 h1
def fracT (f : Nat) : List UInt8 := fracD 16 f
def fitsB (n : Int) : Bool := decide (-2147483648 ≤ n ∧ n ≤ 2147483647)
def absU (n : Int) : Nat := n.natAbs
/-- A number with 16 bits behind the point, as it is printed. -/
def printT (n : Int) : List UInt8 :=
  if fitsI n then (if n < 0 then [45] else []) ++ digU (n.natAbs / 65536) ++ (if n.natAbs % 65536 = 0 then [] else 46 :: fracT (n.natAbs % 65536)) else [48]
theorem printT_len (n : Int) : (printT n).length ≤ 23 := by
  unfold printT
  split
  · rename_i h
    unfold fitsI at h
    simp only [decide_eq_true_eq] at h
    have h1 := digU_len 4 (n.natAbs / 65536) (by omega)
    have h2 := fracD_len 16 (n.natAbs % 65536)
    simp only [List.length_append]
    unfold fracT
    split <;> split <;> simp <;> omega
  · simp
/-- A whole number, as it is printed. -/
def decT (n : Int) : List UInt8 := (if n < 0 then [45] else []) ++ digU n.natAbs
def numT (n : Int) : List UInt8 := 32 :: printT n
def smallT (n : Int) : List UInt8 := 32 :: decT n
theorem numT_len (n : Int) : (numT n).length ≤ 24 := by have := printT_len n; simp only [numT, List.length_cons]; omega
def hexC (n : Nat) : UInt8 := if n < 10 then UInt8.ofNat (48 + n) else UInt8.ofNat (87 + n)
def numsT (l : List Int) : List UInt8 := l.flatMap numT
end Go.Proofs.YtndfdekcdhlgoaaDoor
namespace Go.Proofs.YtndfdekcdhlgoaaDoor

structure SegD where
  k : Int
  x0 : Int
  y0 : Int
  x1 : Int
  y1 : Int
  x2 : Int
  y2 : Int
structure ClipD where
  path : List SegD
  eo : Bool
structure ColD where
  space : Int
  p0 : Int
  p1 : Int
  p2 : Int
  p3 : Int
structure PenD where
  width : Int
  cap : Int
  join : Int
  miter : Int
  dash : List Int
  phase : Int
structure MatD where
  m0 : Int
  m1 : Int
  m2 : Int
  m3 : Int
  m4 : Int
  m5 : Int
structure ItemD where
  kind : Int
  path : List SegD
  col : ColD
  clips : List ClipD
  pen : PenD
  font : Int
  mat : MatD
  bytes : List UInt8
structure PageD where
  w : Int
  h : Int
  items : List ItemD

/-! The text. -/
def segT (s : SegD) : List UInt8 :=
  if s.k = 1 then [32, 109] ++ numT s.x0 ++ numT s.y0
  else if s.k = 2 then [32, 108] ++ numT s.x0 ++ numT s.y0
  else if s.k = 3 then [32, 99] ++ numT s.x0 ++ numT s.y0 ++ numT s.x1 ++ numT s.y1 ++ numT s.x2 ++ numT s.y2
  else [32, 104]
def pathT (l : List SegD) : List UInt8 := l.flatMap segT
def clipT (c : ClipD) : List UInt8 := (if c.eo then [101, 111] else []) ++ [99, 108, 105, 112] ++ pathT c.path ++ [10]
def clipsT (l : List ClipD) : List UInt8 := l.flatMap clipT
def ColD.parts (c : ColD) : List Int := [c.p0, c.p1, c.p2, c.p3]
def colT (c : ColD) : List UInt8 := smallT c.space ++ numsT (c.parts.take c.space.toNat)
def byteT (c : UInt8) : List UInt8 := [hexC (c.toNat / 16), hexC (c.toNat % 16)]
def bytesT (l : List UInt8) : List UInt8 := [32, 120] ++ l.flatMap byteT
def penT (p : PenD) : List UInt8 := numT p.width ++ smallT p.cap ++ smallT p.join ++ numT p.miter ++ smallT p.dash.length ++ numsT p.dash ++ numT p.phase
def MatD.list (m : MatD) : List Int := [m.m0, m.m1, m.m2, m.m3, m.m4, m.m5]
def kindT (k : Int) : List UInt8 :=
  if k = 4 then [116, 101, 120, 116] else if k = 3 then [115, 116, 114, 111, 107, 101] else if k = 2 then [101, 111, 102, 105, 108, 108] else [102, 105, 108, 108]
def restT (it : ItemD) : List UInt8 :=
  if it.kind = 4 then smallT it.font ++ numsT it.mat.list ++ bytesT it.bytes
  else if it.kind = 3 then penT it.pen ++ pathT it.path
  else pathT it.path
def itemT (it : ItemD) : List UInt8 := clipsT it.clips ++ kindT it.kind ++ colT it.col ++ restT it ++ [10]
def headT (p : PageD) : List UInt8 := [112, 97, 103, 101] ++ numT p.w ++ numT p.h ++ [10]
def itemsT (l : List ItemD) : List UInt8 := l.flatMap itemT
def pageT (p : PageD) : List UInt8 := headT p ++ itemsT p.items
def pagesT (l : List PageD) : List UInt8 := l.flatMap pageT

/-! How large pages are. -/
def clipW (c : ClipD) : Nat := c.path.length
def itemW (it : ItemD) : Nat := it.path.length + it.bytes.length + it.pen.dash.length + 5 * it.clips.length + (it.clips.map clipW).sum
def pageW (p : PageD) : Nat := 5 * p.items.length + (p.items.map itemW).sum
def pagesW (l : List PageD) : Nat := l.length + (l.map pageW).sum
def lightB (l : List PageD) : Bool := decide (pagesW l < 2000)

/-! What is sound. -/
def pointB (x y : Int) : Bool := fitsI x && fitsI y
def zeroB (x y : Int) : Bool := decide (x = 0 ∧ y = 0)
/-- A segment behind one of a kind. -/
def segB (last : Int) (s : SegD) : Bool :=
  pointB s.x0 s.y0 && pointB s.x1 s.y1 && pointB s.x2 s.y2 &&
  (if s.k = 1 ∨ s.k = 2 then zeroB s.x1 s.y1 && zeroB s.x2 s.y2 else if s.k = 3 then true else if s.k = 4 then zeroB s.x0 s.y0 && zeroB s.x1 s.y1 && zeroB s.x2 s.y2 else false) &&
  (if s.k = 1 then decide (last ≠ 1) else decide (last ≠ 0 ∧ last ≠ 4))
def segsB : Int → List SegD → Bool
  | _, [] => true
  | last, s :: r => segB last s && segsB s.k r
def pathB (l : List SegD) : Bool := decide (l.length ≤ 4096) && segsB 0 l
def clipB (c : ClipD) : Bool := decide (c.path ≠ []) && pathB c.path
def clipsB (l : List ClipD) : Bool := decide (l.length ≤ 16) && l.all clipB
def partB (n : Int) : Bool := decide (0 ≤ n ∧ n ≤ 65536)
def colB (c : ColD) : Bool :=
  decide (c.space = 1 ∨ c.space = 3 ∨ c.space = 4) && partB c.p0 && partB c.p1 && partB c.p2 && partB c.p3 &&
  decide (1 < c.space ∨ c.p1 = 0) && decide (2 < c.space ∨ c.p2 = 0) && decide (3 < c.space ∨ c.p3 = 0)
def posB (n : Int) : Bool := decide (0 ≤ n) && fitsI n
def penB (p : PenD) : Bool :=
  posB p.width && decide (0 ≤ p.cap ∧ p.cap ≤ 2) && decide (0 ≤ p.join ∧ p.join ≤ 2) && decide (65536 ≤ p.miter) && fitsI p.miter && posB p.phase &&
  decide (p.dash.length ≤ 11) && p.dash.all posB && decide (p.dash = [] ∨ ∃ n ∈ p.dash, 0 < n)
def nopenB (p : PenD) : Bool := decide (p.width = 0 ∧ p.cap = 0 ∧ p.join = 0 ∧ p.miter = 0 ∧ p.dash = [] ∧ p.phase = 0)
def itemB (it : ItemD) : Bool :=
  colB it.col && clipsB it.clips &&
  (if it.kind = 4 then it.mat.list.all fitsI && decide (0 ≤ it.font ∧ it.font ≤ 13) && decide (1 ≤ it.bytes.length ∧ it.bytes.length ≤ 65535) && decide (it.path = []) && nopenB it.pen
   else decide (1 ≤ it.kind ∧ it.kind ≤ 3) && decide (it.font = 0) && it.mat.list.all (fun n => decide (n = 0)) && decide (it.bytes = []) && decide (it.path ≠ []) && pathB it.path &&
     (if it.kind = 3 then penB it.pen else nopenB it.pen))
def sideB (n : Int) : Bool := decide (65536 ≤ n ∧ n ≤ 943718400 ∧ n % 65536 = 0)
def pageB (p : PageD) : Bool := sideB p.w && sideB p.h && decide (p.items.length ≤ 4096) && p.items.all itemB
def pagesB (l : List PageD) : Bool := l.all pageB

/-! How long the text is. -/
theorem flatMap_len {α : Type} (f : α → List UInt8) (g : α → Nat) (k : Nat) (h : ∀ a, (f a).length ≤ k + g a) : ∀ l : List α, (l.flatMap f).length ≤ k * l.length + (l.map g).sum
  | [] => by simp
  | a :: l => by
    have h1 := flatMap_len f g k h l
    have h2 := h a
    simp only [List.flatMap_cons, List.length_append, List.length_cons, List.map_cons, List.sum_cons, Nat.mul_add]
    omega
theorem segT_len (s : SegD) : (segT s).length ≤ 146 := by
  have := numT_len s.x0; have := numT_len s.y0; have := numT_len s.x1; have := numT_len s.y1; have := numT_len s.x2; have := numT_len s.y2
  unfold segT
  repeat' split
  all_goals simp only [List.length_append, List.length_cons, List.length_nil]; omega
theorem pathT_len (l : List SegD) : (pathT l).length ≤ 146 * l.length := by
  have := flatMap_len segT (fun _ => 0) 146 (fun s => segT_len s) l
  have h0 : ∀ l : List SegD, (l.map fun _ => 0).sum = 0 := fun l => by induction l <;> simp_all
  rw [h0] at this
  exact this
theorem clipT_len (c : ClipD) : (clipT c).length ≤ 7 + 146 * clipW c := by
  have := pathT_len c.path
  unfold clipT clipW
  split <;> simp only [List.length_append, List.length_cons, List.length_nil] <;> omega
theorem sum_mul (k : Nat) {α : Type} (g : α → Nat) : ∀ l : List α, (l.map fun a => k * g a).sum = k * (l.map g).sum
  | [] => by simp
  | a :: l => by simp [sum_mul k g l, Nat.mul_add]
theorem clipsT_len (l : List ClipD) : (clipsT l).length ≤ 7 * l.length + 146 * (l.map clipW).sum := by
  have := flatMap_len clipT (fun c => 146 * clipW c) 7 clipT_len l
  rw [sum_mul] at this
  exact this
theorem numsT_len (l : List Int) : (numsT l).length ≤ 24 * l.length := by
  have := flatMap_len numT (fun _ => 0) 24 (fun s => numT_len s) l
  have h0 : ∀ l : List Int, (l.map fun _ => 0).sum = 0 := fun l => by induction l <;> simp_all
  rw [h0] at this
  exact this
theorem decT_len2 (n : Int) (h : 0 ≤ n ∧ n ≤ 99) : (decT n).length ≤ 2 := by
  unfold decT
  rw [if_neg (by omega)]
  have := digU_len 1 n.natAbs (by omega)
  simpa using this
theorem smallT_len (n : Int) (h : 0 ≤ n ∧ n ≤ 99) : (smallT n).length ≤ 3 := by
  have := decT_len2 n h
  simp only [smallT, List.length_cons]; omega
theorem colT_len (c : ColD) (h : colB c = true) : (colT c).length ≤ 99 := by
  unfold colB at h
  simp only [Bool.and_eq_true, decide_eq_true_eq] at h
  have h1 := smallT_len c.space (by omega)
  have h2 := numsT_len (c.parts.take c.space.toNat)
  have h3 : (c.parts.take c.space.toNat).length ≤ 4 := by rw [List.length_take]; exact Nat.le_trans (Nat.min_le_right _ _) (Nat.le_refl 4)
  unfold colT
  rw [List.length_append]
  omega
theorem byteT_sum (l : List UInt8) : (l.flatMap byteT).length = 2 * l.length := by
  induction l with
  | nil => rfl
  | cons a l ih => simp only [List.flatMap_cons, List.length_append, ih, List.length_cons, byteT, List.length_nil]; omega
theorem bytesT_len (l : List UInt8) : (bytesT l).length = 2 + 2 * l.length := by
  unfold bytesT
  rw [List.length_append, byteT_sum]
  simp only [List.length_cons, List.length_nil]
theorem penT_len (p : PenD) (h : penB p = true) : (penT p).length ≤ 81 + 24 * p.dash.length := by
  unfold penB at h
  simp only [Bool.and_eq_true, decide_eq_true_eq] at h
  have h1 := numT_len p.width
  have h2 := smallT_len p.cap (by omega)
  have h3 := smallT_len p.join (by omega)
  have h4 := numT_len p.miter
  have h5 := smallT_len p.dash.length (by omega)
  have h6 := numsT_len p.dash
  have h7 := numT_len p.phase
  unfold penT
  simp only [List.length_append]
  omega
theorem kindT_len (k : Int) : (kindT k).length ≤ 6 := by
  unfold kindT
  repeat' split
  all_goals decide
theorem itemT_len (it : ItemD) (h : itemB it = true) : (itemT it).length ≤ 255 + 146 * itemW it := by
  unfold itemB at h
  simp only [Bool.and_eq_true] at h
  obtain ⟨⟨hc, _⟩, hr⟩ := h
  have h1 := clipsT_len it.clips
  have h2 := kindT_len it.kind
  have h3 := colT_len it.col hc
  have h4 : (restT it).length ≤ 149 + 146 * (it.path.length + it.bytes.length + it.pen.dash.length) := by
    unfold restT
    by_cases k4 : it.kind = 4
    · rw [if_pos k4] at hr ⊢
      simp only [Bool.and_eq_true, decide_eq_true_eq] at hr
      have a1 := smallT_len it.font (by omega)
      have a2 := numsT_len it.mat.list
      have a3 := bytesT_len it.bytes
      have a4 : it.mat.list.length = 6 := rfl
      simp only [List.length_append]
      omega
    · rw [if_neg k4] at hr ⊢
      simp only [Bool.and_eq_true, decide_eq_true_eq] at hr
      have a1 := pathT_len it.path
      by_cases k3 : it.kind = 3
      · rw [if_pos k3] at hr ⊢
        have a2 := penT_len it.pen hr.2
        rw [List.length_append]
        omega
      · rw [if_neg k3]
        omega
  unfold itemT itemW
  simp only [List.length_append, List.length_cons, List.length_nil]
  omega
theorem itemsT_len : ∀ l : List ItemD, l.all itemB = true → (itemsT l).length ≤ 255 * l.length + 146 * (l.map itemW).sum
  | [], _ => by simp [itemsT]
  | it :: l, h => by
    simp only [List.all_cons, Bool.and_eq_true] at h
    have h1 := itemsT_len l h.2
    have h2 := itemT_len it h.1
    unfold itemsT at h1 ⊢
    simp only [List.flatMap_cons, List.length_append, List.length_cons, List.map_cons, List.sum_cons, Nat.mul_add]
    omega
theorem headT_len (p : PageD) : (headT p).length ≤ 53 := by
  have := numT_len p.w; have := numT_len p.h
  unfold headT
  simp only [List.length_append, List.length_cons, List.length_nil]
  omega
theorem pageT_len (p : PageD) (h : pageB p = true) : (pageT p).length ≤ 53 + 146 * pageW p := by
  unfold pageB at h
  simp only [Bool.and_eq_true] at h
  have h1 := itemsT_len p.items h.2
  have h2 := headT_len p
  unfold pageT pageW
  rw [List.length_append]
  omega
theorem pagesT_len : ∀ l : List PageD, pagesB l = true → (pagesT l).length ≤ 146 * pagesW l
  | [], _ => by simp [pagesT]
  | p :: l, h => by
    unfold pagesB at h
    simp only [List.all_cons, Bool.and_eq_true] at h
    have h1 := pagesT_len l h.2
    have h2 := pageT_len p h.1
    unfold pagesT pagesW at h1 ⊢
    simp only [List.flatMap_cons, List.length_append, List.length_cons, List.map_cons, List.sum_cons]
    omega
end Go.Proofs.YtndfdekcdhlgoaaDoor
namespace Go.Proofs.YtndfdekcdhlgoaaDoor

theorem dg_toNat (d : Nat) (h : d < 10) : (UInt8.ofNat (48 + d)).toNat = 48 + d := by
  rw [UInt8.toNat_ofNat']; omega
theorem dg_isD (d : Nat) (h : d < 10) : isD (UInt8.ofNat (48 + d)) = true := by
  unfold isD; rw [dg_toNat d h]; simp; omega
theorem dg_val (d : Nat) (h : d < 10) : digV (UInt8.ofNat (48 + d)) = d := by
  unfold digV; rw [dg_toNat d h]; omega
theorem plainD_append (a b : List UInt8) : plainD (a ++ b) = (plainD a && plainD b) := by unfold plainD; rw [List.all_append]
theorem digU_plain (n : Nat) : plainD (digU n) = true := by
  induction n using Nat.strongRecOn with
  | _ n ih =>
    by_cases h : n < 10
    · rw [digU_lt h]; unfold plainD; rw [List.all_cons, dg_isD n h]; rfl
    · rw [digU_ge h, plainD_append, ih _ (by omega)]
      unfold plainD; rw [List.all_cons, dg_isD (n % 10) (by omega)]; rfl
theorem digU_num (n : Nat) : numD 0 (digU n) = n := by
  induction n using Nat.strongRecOn with
  | _ n ih =>
    by_cases h : n < 10
    · rw [digU_lt h]
      show 10 * 0 + digV _ = n
      rw [dg_val n h]; omega
    · rw [digU_ge h, numD_snoc, ih _ (by omega), dg_val _ (by omega)]
      omega
theorem numD_zeroL : ∀ l : List UInt8, numD 0 (zeroL l) = numD 0 l
  | [] => rfl
  | c :: r => by
    by_cases h : (c == 48) = true
    · have hc : c = 48 := by simpa using h
      have e : zeroL (c :: r) = zeroL r := by unfold zeroL; rw [List.dropWhile_cons, if_pos h]
      rw [e, numD_zeroL r, hc]
      rfl
    · have e : zeroL (c :: r) = c :: r := by unfold zeroL; rw [List.dropWhile_cons, if_neg h]
      rw [e]
theorem zeroL_le (l : List UInt8) : (zeroL l).length ≤ l.length := (List.dropWhile_sublist _).length_le
/-- Digits as a whole number. -/
def numL (l : List Nat) : Nat := l.foldl (fun n d => 10 * n + d) 0
theorem foldl_num : ∀ (l : List Nat) (n : Nat), l.foldl (fun n d => 10 * n + d) n = n * 10 ^ l.length + numL l
  | [], n => by simp [numL]
  | d :: r, n => by
    have h1 := foldl_num r (10 * n + d)
    have h2 := foldl_num r (10 * 0 + d)
    unfold numL at h2 ⊢
    rw [List.foldl_cons, h1, List.foldl_cons, h2, List.length_cons, Nat.pow_succ]
    unfold numL
    have e1 : n * (10 ^ r.length * 10) = (10 * n) * 10 ^ r.length := by rw [Nat.mul_comm (10 ^ r.length) 10, ← Nat.mul_assoc, Nat.mul_comm n 10]
    rw [e1, ← Nat.add_assoc, ← Nat.add_mul]
    simp
theorem numL_cons (d : Nat) (r : List Nat) : numL (d :: r) = d * 10 ^ r.length + numL r := by
  have := foldl_num r (10 * 0 + d)
  unfold numL at this ⊢
  rw [List.foldl_cons, this]
  simp
theorem numL_lt : ∀ l : List Nat, (∀ x, x ∈ l → x ≤ 9) → numL l < 10 ^ l.length
  | [], _ => by simp [numL]
  | d :: r, h => by
    rw [numL_cons, List.length_cons, Nat.pow_succ]
    have h1 := numL_lt r (fun x hx => h x (by simp [hx]))
    have h2 := h d (by simp)
    have h3 : d * 10 ^ r.length ≤ 9 * 10 ^ r.length := Nat.mul_le_mul_right _ h2
    omega
theorem dblP_val : ∀ l : List Nat, (∀ x, x ∈ l → x ≤ 9) → 2 * numL l = (dblP l).1 * 10 ^ l.length + numL (dblP l).2
  | [], _ => by simp [dblP, numL]
  | d :: r, h => by
    have h1 := dblP_val r (fun x hx => h x (by simp [hx]))
    rw [dblP, numL_cons, numL_cons, dblP_len, List.length_cons, Nat.pow_succ]
    simp only
    have e : (2 * d + (dblP r).1) = 10 * ((2 * d + (dblP r).1) / 10) + (2 * d + (dblP r).1) % 10 := by omega
    generalize (2 * d + (dblP r).1) / 10 = q at *
    generalize (2 * d + (dblP r).1) % 10 = m at *
    generalize (dblP r).1 = c at *
    generalize 10 ^ r.length = p at *
    have e2 : (2 * d + c) * p = (10 * q + m) * p := by rw [e]
    rw [Nat.add_mul, Nat.add_mul] at e2
    have e3 : q * (p * 10) = 10 * q * p := by rw [Nat.mul_comm p 10, ← Nat.mul_assoc, Nat.mul_comm q 10]
    rw [e3, Nat.mul_add]
    have e4 : 2 * (d * p) = 2 * d * p := by rw [Nat.mul_assoc]
    rw [e4]
    omega
theorem bitsP_val : ∀ (k n : Nat) (l : List Nat), (∀ x, x ∈ l → x ≤ 9) → (n * 10 ^ l.length + numL l) * 2 ^ k = (bitsP k n l).1 * 10 ^ l.length + numL (bitsP k n l).2
  | 0, n, l, _ => by simp [bitsP]
  | k + 1, n, l, h => by
    rw [bitsP]
    have h1 := bitsP_val k (2 * n + (dblP l).1) (dblP l).2 (dblP_digs l)
    rw [dblP_len] at h1
    rw [← h1, Nat.pow_succ, Nat.mul_comm (2 ^ k) 2, ← Nat.mul_assoc]
    congr 1
    have h2 := dblP_val l h
    have e : 2 * n * 10 ^ l.length = n * 10 ^ l.length * 2 := by rw [Nat.mul_comm 2 n, Nat.mul_assoc, Nat.mul_comm 2, ← Nat.mul_assoc]
    rw [Nat.add_mul, Nat.add_mul, e]
    omega
theorem bitsP_exact (n f : Nat) (l : List Nat) (h : ∀ x, x ∈ l → x ≤ 9) (hf : numL l * 65536 = f * 10 ^ l.length) :
    (bitsP 16 n l).1 = n * 65536 + f ∧ numL (bitsP 16 n l).2 = 0 := by
  have h1 := bitsP_val 16 n l h
  have h2 := numL_lt (bitsP 16 n l).2 (bitsP_digs 16 n l h)
  rw [bitsP_len] at h2
  have e : (n * 10 ^ l.length + numL l) * 2 ^ 16 = (n * 65536 + f) * 10 ^ l.length := by
    rw [Nat.add_mul, Nat.add_mul, show (2 : Nat) ^ 16 = 65536 from rfl, hf, Nat.mul_assoc, Nat.mul_comm (10 ^ l.length) 65536, ← Nat.mul_assoc]
  rw [e] at h1
  generalize (bitsP 16 n l).1 = a at *
  generalize numL (bitsP 16 n l).2 = b at *
  generalize 10 ^ l.length = p at *
  generalize n * 65536 + f = c at *
  have hp : 0 < p := by omega
  have hb : b = 0 := by
    have h3 : (c * p) % p = b := by rw [h1, Nat.mul_comm a p, Nat.mul_add_mod]; exact Nat.mod_eq_of_lt h2
    rw [Nat.mul_mod_left] at h3
    exact h3.symm
  subst hb
  refine ⟨?_, rfl⟩
  have : a * p = c * p := by omega
  exact Nat.eq_of_mul_eq_mul_right hp this
theorem dblP_zero (l : List Nat) (h : ∀ x, x ∈ l → x ≤ 9) (h0 : numL l = 0) : (dblP l).1 = 0 := by
  have h1 := dblP_val l h
  rw [h0] at h1
  have hp : 0 < 10 ^ l.length := Nat.pow_pos (by omega)
  rcases Nat.eq_zero_or_pos (dblP l).1 with h2 | h2
  · exact h2
  · have : 1 * 10 ^ l.length ≤ (dblP l).1 * 10 ^ l.length := Nat.mul_le_mul_right _ h2
    omega
theorem fracD_digs : ∀ k f, f < 65536 → plainD (fracD k f) = true
  | 0, _, _ => rfl
  | k + 1, f, h => by
    rw [fracD]
    split
    · rfl
    · have := fracD_digs k (f * 10 % 65536) (Nat.mod_lt _ (by omega))
      unfold plainD at this ⊢
      rw [List.all_cons, this, dg_isD _ (by omega)]; rfl
theorem fracD_val : ∀ k f, k ≤ 16 → f < 65536 → fine k f → numL ((fracD k f).map digV) * 65536 = f * 10 ^ (fracD k f).length
  | 0, f, _, _, h => by rw [fine_end f h]; simp [fracD, numL]
  | k + 1, f, hk, hf, h => by
    by_cases h0 : f = 0
    · subst h0; simp [fracD_zero, numL]
    · have ih := fracD_val k (f * 10 % 65536) (by omega) (Nat.mod_lt _ (by omega)) (fine_step k f (by omega) h)
      rw [fracD, if_neg h0, List.map_cons, numL_cons, dg_val _ (by omega), List.length_map, List.length_cons, Nat.add_mul, ih, Nat.pow_succ]
      have e : f * 10 = f * 10 / 65536 * 65536 + f * 10 % 65536 := by omega
      generalize f * 10 / 65536 = q at *
      generalize f * 10 % 65536 = m at *
      generalize 10 ^ (fracD k m).length = p at *
      have e1 : q * p * 65536 = q * 65536 * p := by rw [Nat.mul_assoc, Nat.mul_comm p, ← Nat.mul_assoc]
      have e2 : f * (p * 10) = f * 10 * p := by rw [Nat.mul_comm p 10, ← Nat.mul_assoc]
      rw [e1, e2, e, Nat.add_mul]
theorem fracT_val (f : Nat) (h : f < 65536) : numL ((fracT f).map digV) * 65536 = f * 10 ^ ((fracT f).map digV).length := by
  rw [List.length_map]
  exact fracD_val 16 f (Nat.le_refl _) h (fine_start f h)
theorem magP_print (whole rest : List UInt8) (n f : Nat) (hn : numD 0 whole = n) (hr : plainD rest = true) (hf : numL (rest.map digV) * 65536 = f * 10 ^ (rest.map digV).length) : magP (zeroL whole) rest = n * 65536 + f := by
  have hd := digs_of_plain rest hr
  obtain ⟨h1, h2⟩ := bitsP_exact n f (rest.map digV) hd hf
  have h3 := dblP_zero _ (bitsP_digs 16 n _ hd) h2
  have hz : numD 0 (zeroL whole) = n := by rw [numD_zeroL, hn]
  unfold magP
  rw [hz]
  generalize bitsP 16 n (rest.map digV) = X at *
  rw [h1, h3, Nat.add_zero]
theorem nodot_plain (l : List UInt8) (h : plainD l = true) : ∀ c ∈ l, (c != 46) = true := by
  intro c hc
  have := plainD_digs l h c hc
  unfold isD at this
  simp only [decide_eq_true_eq] at this
  have : c ≠ 46 := by rintro rfl; simp at this
  simpa using this
theorem dotW_plain (a b : List UInt8) (h : plainD a = true) : dotW (a ++ 46 :: b) = a ∧ dotR (a ++ 46 :: b) = b := by
  have h1 := nodot_plain a h
  unfold dotW dotR
  rw [List.takeWhile_append_of_pos h1, List.dropWhile_append_of_pos h1]
  simp
theorem dotW_none (a : List UInt8) (h : plainD a = true) : dotW a = a ∧ dotR a = [] := by
  have h1 := nodot_plain a h
  unfold dotW dotR
  have h2 : a.takeWhile (fun c => c != 46) = a := by
    have := List.takeWhile_append_of_pos (l₂ := []) h1
    simpa using this
  rw [h2, (dropWhile_nil _ a).2 h1]
  exact ⟨rfl, rfl⟩
theorem signP_digs (a b : List UInt8) (h : plainD a = true) (hne : a ≠ []) : signP (a ++ b) = (false, a ++ b) := by
  match a, hne with
  | c :: r, _ =>
    have := plainD_digs _ h c (by simp)
    unfold isD at this
    simp only [decide_eq_true_eq] at this
    unfold signP
    rw [List.cons_append]
    simp only
    rw [if_neg (by omega), if_neg (by omega)]
theorem signP_minus (a : List UInt8) : signP (45 :: a) = (true, a) := by
  unfold signP; simp
/-- The text of a number's magnitude, with or without a rest. -/
theorem parse_parts (minus : Bool) (s whole rest : List UInt8) (n : Int) (W f : Nat) (hs : signP s = (minus, whole ++ rest)) (hlen : s.length ≤ 64) (hW : W < 65536) (hwd : plainD whole = true) (hwl : whole.length ≤ 5) (hwn : numD 0 whole = W) (hne : whole ≠ [])
    (hrest : (rest = [] ∧ f = 0) ∨ (∃ r, rest = 46 :: r ∧ plainD r = true ∧ numL (r.map digV) * 65536 = f * 10 ^ (r.map digV).length))
    (hn : n = negI minus ((W * 65536 + f : Nat) : Int)) (hfit : fitsI n = true) : parseB s = true ∧ parseN s = n := by
  have key : ∃ r, dotW (whole ++ rest) = whole ∧ dotR (whole ++ rest) = r ∧ plainD r = true ∧ numL (r.map digV) * 65536 = f * 10 ^ (r.map digV).length := by
    rcases hrest with ⟨rfl, rfl⟩ | ⟨r, rfl, h1, h2⟩
    · rw [List.append_nil]
      obtain ⟨a, b⟩ := dotW_none whole hwd
      exact ⟨[], a, b, rfl, by simp [numL]⟩
    · obtain ⟨a, b⟩ := dotW_plain whole r hwd
      exact ⟨r, a, b, h1, h2⟩
  obtain ⟨r, hw, hr, hrp, hrv⟩ := key
  have hm := magP_print whole r W f hwn hrp hrv
  have hz : (zeroL whole).length ≤ 5 := Nat.le_trans (zeroL_le whole) hwl
  have hv : valueN minus whole r = n := by unfold valueN; rw [if_neg (by omega), hm, hn]
  have hB : parseB s = true := by
    unfold parseB
    rw [hs]
    simp only
    rw [decide_eq_true hlen, hw, hr]
    unfold mantOk valueB
    rw [hw, hr, hwd, hrp, hv, hfit, decide_eq_true hz, decide_eq_true (by have := List.length_pos_iff.2 hne; omega)]
    rfl
  refine ⟨hB, ?_⟩
  unfold parseN
  rw [if_pos hB, hs]
  simp only
  rw [hw, hr, hv]
theorem signed_print (n : Int) (body : List UInt8) (h : ∃ a b, body = a ++ b ∧ plainD a = true ∧ a ≠ []) : signP ((if n < 0 then [45] else []) ++ body) = (decide (n < 0), body) := by
  obtain ⟨a, b, rfl, h1, h2⟩ := h
  by_cases hn : n < 0
  · rw [if_pos hn, decide_eq_true hn]
    exact signP_minus _
  · rw [if_neg hn, decide_eq_false hn, List.nil_append]
    exact signP_digs a b h1 h2
theorem negI_abs (n : Int) : negI (decide (n < 0)) (n.natAbs : Int) = n := by
  unfold negI
  by_cases hn : n < 0
  · rw [decide_eq_true hn, if_pos rfl]; omega
  · rw [decide_eq_false hn, if_neg (by simp)]; omega
/-- A number's text, with what may stand behind whole numbers, is read as the number. -/
theorem parse_print_with (n : Int) (z : List UInt8) (h : fitsI n = true) (hz : z = [] ∨ z = [46, 48]) :
    let s := (if n < 0 then [45] else []) ++ digU (n.natAbs / 65536) ++ (if n.natAbs % 65536 = 0 then z else 46 :: fracT (n.natAbs % 65536))
    parseB s = true ∧ parseN s = n := by
  intro s
  have hf := h
  unfold fitsI at hf
  simp only [decide_eq_true_eq] at hf
  have h1 := digU_len 4 (n.natAbs / 65536) (by omega)
  have h2 := fracD_len 16 (n.natAbs % 65536)
  have hzl : z.length ≤ 2 := by rcases hz with rfl | rfl <;> simp
  refine parse_parts (decide (n < 0)) s (digU (n.natAbs / 65536)) (if n.natAbs % 65536 = 0 then z else 46 :: fracT (n.natAbs % 65536)) n (n.natAbs / 65536) (n.natAbs % 65536) ?_ ?_ (by omega) (digU_plain _) h1 (digU_num _) (digU_ne _) ?_ ?_ h
  · show signP ((if n < 0 then [45] else []) ++ digU (n.natAbs / 65536) ++ _) = _
    rw [List.append_assoc]
    exact signed_print n _ ⟨_, _, rfl, digU_plain _, digU_ne _⟩
  · show ((if n < 0 then [45] else []) ++ digU (n.natAbs / 65536) ++ (if n.natAbs % 65536 = 0 then z else 46 :: fracT (n.natAbs % 65536))).length ≤ 64
    simp only [List.length_append]
    unfold fracT
    split <;> split <;> simp <;> omega
  · by_cases h0 : n.natAbs % 65536 = 0
    · rw [if_pos h0, h0]
      rcases hz with rfl | rfl
      · exact .inl ⟨rfl, rfl⟩
      · exact .inr ⟨[48], rfl, rfl, by decide⟩
    · rw [if_neg h0]
      exact .inr ⟨_, rfl, fracD_digs 16 _ (Nat.mod_lt _ (by omega)), fracT_val _ (Nat.mod_lt _ (by omega))⟩
  · have e : n.natAbs / 65536 * 65536 + n.natAbs % 65536 = n.natAbs := by omega
    rw [e]
    exact (negI_abs n).symm
theorem parse_print (n : Int) (h : fitsI n = true) : parseB (printT n) = true ∧ parseN (printT n) = n := by
  have := parse_print_with n [] h (.inl rfl)
  unfold printT
  rw [if_pos h]
  exact this
end Go.Proofs.YtndfdekcdhlgoaaDoor
