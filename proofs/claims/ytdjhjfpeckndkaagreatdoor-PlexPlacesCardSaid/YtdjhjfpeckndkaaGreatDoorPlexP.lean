/- The objects of a file, and the reader of objects, as plain functions on bytes. No program. -/
import Derived.Test.YtdjhjfpeckndkaaGreatDoorDecP
namespace Go.Proofs.YtdjhjfpeckndkaaGreatDoor

/-- An object of a file. -/
inductive PObj where
  | mk (kind n : Int) (text : List UInt8) (keys : List (List UInt8)) (list : List PObj) (data : List UInt8)
deriving Inhabited
def PObj.kind : PObj → Int | .mk k _ _ _ _ _ => k
def PObj.n : PObj → Int | .mk _ n _ _ _ _ => n
def PObj.text : PObj → List UInt8 | .mk _ _ t _ _ _ => t
def PObj.keys : PObj → List (List UInt8) | .mk _ _ _ k _ _ => k
def PObj.list : PObj → List PObj | .mk _ _ _ _ l _ => l
def PObj.data : PObj → List UInt8 | .mk _ _ _ _ _ d => d
def simpleO (k n : Int) (t : List UInt8) : PObj := .mk k n t [] [] []

def hexV (c : UInt8) : Int :=
  if 48 ≤ c.toNat ∧ c.toNat ≤ 57 then (c.toNat : Int) - 48 else if 97 ≤ c.toNat ∧ c.toNat ≤ 102 then (c.toNat : Int) - 87 else if 65 ≤ c.toNat ∧ c.toNat ≤ 70 then (c.toNat : Int) - 55 else -1
theorem hexV_range (c : UInt8) : -1 ≤ hexV c ∧ hexV c ≤ 15 := by unfold hexV; split <;> (try split) <;> (try split) <;> omega
def wordS (bs : List UInt8) (k : Nat) : List UInt8 := (bs.take (wordF bs k)).drop k

/-- A name's bytes; none: a number sign without its digits. -/
def nameD : List UInt8 → Option (List UInt8)
  | [] => some []
  | c :: r =>
    if c.toNat = 35 then
      match r with
      | a :: b :: r' => if 0 ≤ hexV a ∧ 0 ≤ hexV b then (nameD r').map (UInt8.ofNat (16 * hexV a + hexV b).toNat :: ·) else none
      | _ => none
    else (nameD r).map (c :: ·)
def nameP (bs : List UInt8) (k : Nat) : Except Int (List UInt8 × Nat) :=
  match nameD (wordS bs k) with
  | none => .error 23
  | some out => if out = [] ∨ (0 : UInt8) ∈ out then .error 23 else if 127 < out.length then .error 25 else .ok (out, wordF bs k)

def octB (c : UInt8) : Bool := decide (48 ≤ c.toNat ∧ c.toNat ≤ 55)
def isOct (bs : List UInt8) (k : Nat) : Bool := match bs[k]? with | some c => octB c | none => false
def octV (bs : List UInt8) (k : Nat) : Nat := match bs[k]? with | some c => c.toNat - 48 | none => 0
/-- What an escape stands for, and the place behind it: its byte is d, the place behind that is k. -/
def escP (bs : List UInt8) (k : Nat) (d : UInt8) : List UInt8 × Nat :=
  if d.toNat = 110 then ([10], k) else if d.toNat = 114 then ([13], k) else if d.toNat = 116 then ([9], k) else if d.toNat = 98 then ([8], k)
  else if d.toNat = 102 then ([12], k) else if d.toNat = 10 then ([], k)
  else if d.toNat = 13 then ([], if bs[k]? = some 10 then k + 1 else k)
  else if octB d = false then ([d], k)
  else if isOct bs k = false then ([UInt8.ofNat (d.toNat - 48)], k)
  else if isOct bs (k + 1) = false then ([UInt8.ofNat (8 * (d.toNat - 48) + octV bs k)], k + 1)
  else ([UInt8.ofNat (8 * (8 * (d.toNat - 48) + octV bs k) + octV bs (k + 1))], k + 2)
theorem escP_ge (bs : List UInt8) (k : Nat) (d : UInt8) : k ≤ (escP bs k d).2 := by
  unfold escP
  repeat' split
  all_goals simp only
  all_goals omega
theorem isOct_lt {bs : List UInt8} {k : Nat} (h : isOct bs k = true) : k < bs.length := by
  unfold isOct at h
  cases hb : bs[k]? with
  | none => rw [hb] at h; cases h
  | some c => exact (List.getElem?_eq_some_iff.1 hb).1
theorem escP_le (bs : List UInt8) (k : Nat) (d : UInt8) (h : k ≤ bs.length) : (escP bs k d).2 ≤ bs.length := by
  unfold escP
  repeat' split
  all_goals first
    | exact h
    | (rename_i h13; have := (List.getElem?_eq_some_iff.1 h13).1; simp only; omega)
    | (rename_i h1 h2; exact isOct_lt (by simpa using h1))
    | (rename_i h1 h2; have := isOct_lt (bs := bs) (k := k + 1) (by simpa using h2); simp only; omega)

/-- A string in round brackets, from a place on: its bytes, and the place behind it; none: it has no end. -/
def roundP (bs : List UInt8) (k depth : Nat) (acc : List UInt8) : Option (List UInt8 × Nat) :=
  if h : k < bs.length then
    let c := bs[k]
    if c.toNat = 40 then roundP bs (k + 1) (depth + 1) (acc ++ [c])
    else if c.toNat = 41 then (if depth = 1 then some (acc, k + 1) else roundP bs (k + 1) (depth - 1) (acc ++ [c]))
    else if c.toNat = 92 then
      if h2 : k + 1 < bs.length then roundP bs (escP bs (k + 2) bs[k + 1]).2 depth (acc ++ (escP bs (k + 2) bs[k + 1]).1) else none
    else if c.toNat = 13 then roundP bs (if bs[k + 1]? = some 10 then k + 2 else k + 1) depth (acc ++ [10])
    else roundP bs (k + 1) depth (acc ++ [c])
  else none
termination_by bs.length - k
decreasing_by
  all_goals first
    | omega
    | (have := escP_ge bs (k + 2) bs[k + 1]; omega)
    | (split <;> omega)

/-- A string in pointed brackets; odd: a digit that waits (-1: none). -/
def hexP (bs : List UInt8) : List UInt8 → Nat → Int → List UInt8 → Option (List UInt8 × Nat)
  | [], _, _, _ => none
  | c :: r, k, odd, acc =>
    if blankB c then hexP bs r (k + 1) odd acc
    else if c.toNat = 62 then some (if 0 ≤ odd then acc ++ [UInt8.ofNat (16 * odd).toNat] else acc, k + 1)
    else if hexV c < 0 then none
    else if odd < 0 then hexP bs r (k + 1) (hexV c) acc
    else hexP bs r (k + 1) (-1) (acc ++ [UInt8.ofNat (16 * odd + hexV c).toNat])
/-- Are all bytes blanks and digits? -/
def openP (l : List UInt8) : Bool := l.all fun c => blankB c || decide (0 ≤ hexV c)
def textP (bs : List UInt8) (k : Nat) : Except Int (List UInt8 × Nat) :=
  if bs[k]? = some 40 then
    match roundP bs (k + 1) 1 [] with
    | none => .error 24
    | some (out, j) => if 65535 < out.length then .error 25 else .ok (out, j)
  else
    match hexP bs (bs.drop (k + 1)) (k + 1) (-1) [] with
    | none => if openP (bs.drop (k + 1)) then .error 24 else .error 23
    | some (out, j) => if 65535 < out.length then .error 25 else .ok (out, j)

/-! Words. -/
def hasB (c : UInt8) (l : List UInt8) : Bool := l.contains c
def capN (n : Nat) : Nat := min n 1099511627776
def wholeI (l : List UInt8) : Int := negI (signP l).1 (capN (numD 0 (signP l).2))
def wholeB (l : List UInt8) : Bool := !(signP l).2.isEmpty && plainD (signP l).2 && fitsI (wholeI l)
def badW (l : List UInt8) : Bool := l.any fun c => c.toNat == 101 || c.toNat == 69 || c.toNat == 35 || decide (128 ≤ c.toNat)
/-- What a word is as a number: its kind (2 whole, 3 with a point), the number; false: it is none. -/
def numK (l : List UInt8) : Int := if hasB 46 l then 3 else if l.length ≤ 64 ∧ wholeB l = true then 2 else 0
def numV (l : List UInt8) : Int := if hasB 46 l then parseN l else if l.length ≤ 64 ∧ wholeB l = true then wholeI l else 0
def numO (l : List UInt8) : Bool := if hasB 46 l then parseB l else decide (l.length ≤ 64 ∧ wholeB l = true)
/-- plex.whole. -/
def pwholeB (l : List UInt8) (most : Int) : Bool := decide (l ≠ [] ∧ l.length ≤ 10) && plainD l && decide ((numD 0 l : Int) ≤ most)
/-- A reference that begins with a word, behind which k stands: its number, and the place behind it. -/
def refP (bs : List UInt8) (refs : Bool) (k : Nat) (l : List UInt8) : Option (Nat × Nat) :=
  if refs && pwholeB l 4096 && decide (1 ≤ numD 0 l) && decide (wordS bs (skipF bs k) = [48]) && decide (wordS bs (skipF bs (wordF bs (skipF bs k))) = [82]) then
    some (numD 0 l, wordF bs (skipF bs (wordF bs (skipF bs k)))) else none
def nullW : List UInt8 := [110, 117, 108, 108]
def trueW : List UInt8 := [116, 114, 117, 101]
def falseW : List UInt8 := [102, 97, 108, 115, 101]
/-- A word at a place: the object that it is; none: it is none; the place behind it. -/
def wordO (bs : List UInt8) (refs : Bool) (k : Nat) : Option PObj × Nat :=
  let l := wordS bs k
  let j := wordF bs k
  if l = nullW then (some (simpleO 0 0 []), j) else if l = trueW then (some (simpleO 1 1 []), j) else if l = falseW then (some (simpleO 1 0 []), j)
  else match refP bs refs j l with
    | some (n, j2) => (some (simpleO 8 n []), j2)
    | none => if numO l then (some (simpleO (numK l) (numV l) []), j) else (none, j)
/-- Is nothing said here of the word at a place? -/
def wordBad (bs : List UInt8) (refs : Bool) (k : Nat) : Bool :=
  let l := wordS bs k
  decide (l.length ≤ 64) && badW l && !(decide (l = nullW) || decide (l = trueW) || decide (l = falseW)) && (refP bs refs (wordF bs k) l).isNone

mutual
/-- The object that begins at a place: it, and the place behind it; or the error (99: nothing is said here). -/
def objP (fuel : Nat) (bs : List UInt8) (refs : Bool) (deep : Int) (k : Nat) : Except Int (PObj × Nat) :=
  match fuel with
  | 0 => .error 99
  | f + 1 =>
    match bs[k]? with
    | none => .error 99
    | some c =>
      if c.toNat = 47 then
        match nameP bs (k + 1) with
        | .error e => .error e
        | .ok (s, j) => .ok (simpleO 4 0 s, j)
      else if c.toNat = 91 then (if deep < 1 then .error 25 else listP f bs refs (deep - 1) (k + 1) [])
      else if c.toNat = 40 then
        match textP bs k with
        | .error e => .error e
        | .ok (s, j) => .ok (simpleO 5 0 s, j)
      else if c.toNat = 60 then
        match bs[k + 1]? with
        | none => .error 24
        | some d =>
          if d.toNat = 60 then (if deep < 1 then .error 25 else pairsP f bs refs (deep - 1) (k + 2) [] [])
          else match textP bs k with
            | .error e => .error e
            | .ok (s, j) => .ok (simpleO 5 0 s, j)
      else if wordBad bs refs k then .error 99
      else match wordO bs refs k with
        | (some o, j) => .ok (o, j)
        | (none, _) => .error 23
def listP (fuel : Nat) (bs : List UInt8) (refs : Bool) (deep : Int) (k : Nat) (acc : List PObj) : Except Int (PObj × Nat) :=
  match fuel with
  | 0 => .error 99
  | f + 1 =>
    match bs[skipF bs k]? with
    | none => .error 24
    | some c =>
      if c.toNat = 93 then .ok (.mk 6 0 [] [] acc [], skipF bs k + 1)
      else if 65535 ≤ acc.length then .error 25
      else match objP f bs refs deep (skipF bs k) with
        | .error e => .error e
        | .ok (o, j) => listP f bs refs deep j (acc ++ [o])
def pairsP (fuel : Nat) (bs : List UInt8) (refs : Bool) (deep : Int) (k : Nat) (keys : List (List UInt8)) (acc : List PObj) : Except Int (PObj × Nat) :=
  match fuel with
  | 0 => .error 99
  | f + 1 =>
    match bs[skipF bs k]? with
    | none => .error 24
    | some c =>
      if c.toNat = 62 then
        match bs[skipF bs k + 1]? with
        | none => .error 24
        | some d => if d.toNat = 62 then .ok (.mk 7 0 [] keys acc [], skipF bs k + 2) else .error 23
      else if c.toNat = 47 then
        match nameP bs (skipF bs k + 1) with
        | .error e => .error e
        | .ok (s, j) =>
          if s ∈ keys then .error 23
          else if 65535 ≤ acc.length then .error 25
          else match bs[skipF bs j]? with
            | none => .error 24
            | some _ =>
              match objP f bs refs deep (skipF bs j) with
              | .error e => .error e
              | .ok (o, j2) => pairsP f bs refs deep j2 (keys ++ [s]) (acc ++ [o])
      else .error 23
end
end Go.Proofs.YtdjhjfpeckndkaaGreatDoor
