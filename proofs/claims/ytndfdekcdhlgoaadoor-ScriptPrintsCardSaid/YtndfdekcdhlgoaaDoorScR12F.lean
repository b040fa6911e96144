/- Contracts: the reference's SoundItem. -/
import Derived.Test.YtndfdekcdhlgoaaDoorScR12A
import Derived.Test.YtndfdekcdhlgoaaDoorScBase
import Derived.Test.YtndfdekcdhlgoaaDoorScR12C
set_option linter.unusedVariables false
set_option linter.unusedSimpArgs false
namespace Go.Proofs.YtndfdekcdhlgoaaDoor
open Go.RowKit
theorem upto_succ2 {P : Nat → Prop} {m : Nat} (h : ∀ q, q < m → P q) (hm : P m) : ∀ q, q < m + 1 → P q := fun q hq => by
  rcases Nat.lt_or_ge q m with h1 | h1
  · exact h q h1
  · obtain rfl : q = m := by omega
    exact hm
theorem Blk.new3 (w : World) (t : TypeId) (cs : Array Value) {q : Nat} (hq : q = w.heap.size) : Blk (w.alloc (.cells cs t)) q t cs := by rw [hq]; exact Blk.new _ _ _
/-- What is asked of letters. -/
def restB4 (ms : List Int) (fo : Int) (nb np : Nat) (NB : Bool) : Bool := ms.all fitsI && decide (0 ≤ fo ∧ fo ≤ 13) && decide (1 ≤ nb ∧ nb ≤ 65535) && decide (np = 0) && NB
theorem nil_len {α : Type} {l : List α} {n : Nat} (h : l.length = n) : decide (l = []) = decide (n = 0) := by rw [← h, Bool.eq_iff_iff]; simp
theorem rest_four {R : Bool} {d : ItemD} {sp p0 p1 p2 p3 pw pc pj pm pf fo m0 m1 m2 m3 m4 m5 : Int} {path : List SegD} {clips : List ClipD} {dash : List Int} {bytes : List UInt8} {nb np : Nat} {NB : Bool}
    (h : R = restB d) (hd : d = ⟨4, path, ⟨sp, p0, p1, p2, p3⟩, clips, ⟨pw, pc, pj, pm, dash, pf⟩, fo, ⟨m0, m1, m2, m3, m4, m5⟩, bytes⟩) (hp : d.path.length = np) (hb : d.bytes.length = nb) (hn : nopenB ⟨pw, pc, pj, pm, dash, pf⟩ = NB) : R = restB4 [m0, m1, m2, m3, m4, m5] fo nb np NB := by
  subst hd
  rw [h]; unfold restB restB4
  rw [if_pos rfl, hn, nil_len hp, hb]; rfl
theorem four_bad {R : Bool} {ms : List Int} {fo : Int} {nb np : Nat} {NB : Bool} (h : R = restB4 ms fo nb np NB) (m : Nat) (hm : m < ms.length) (hf : fitsI (ms.getD m 0) = false) : R = false := by
  rw [h]; unfold restB4
  have : ms.all fitsI = false := by
    rw [Bool.eq_false_iff]; intro ha
    have := List.all_eq_true.1 ha (ms.getD m 0) (by rw [show ms.getD m 0 = ms[m] by simp [List.getD, hm]]; exact List.getElem_mem hm)
    rw [hf] at this; cases this
  rw [this]; rfl
theorem four_good {R : Bool} {fo m0 m1 m2 m3 m4 m5 : Int} {nb np : Nat} {NB : Bool} (h : R = restB4 [m0, m1, m2, m3, m4, m5] fo nb np NB) (hf : ∀ z, z < 6 → fitsI ([m0, m1, m2, m3, m4, m5].getD z 0) = true) : R = (decide (0 ≤ fo ∧ fo ≤ 13 ∧ 1 ≤ nb ∧ nb ≤ 65535 ∧ np = 0) && NB) := by
  have a0 := hf 0 (by omega); have a1 := hf 1 (by omega); have a2 := hf 2 (by omega); have a3 := hf 3 (by omega); have a4 := hf 4 (by omega); have a5 := hf 5 (by omega)
  simp at a0 a1 a2 a3 a4 a5
  rw [h]; unfold restB4
  simp only [List.all_cons, List.all_nil, a0, a1, a2, a3, a4, a5, Bool.and_true, Bool.true_and]
  rw [Bool.eq_iff_iff]; simp; omega
theorem rest_other {R : Bool} {d : ItemD} {kd sp p0 p1 p2 p3 pw pc pj pm pf fo m0 m1 m2 m3 m4 m5 : Int} {path : List SegD} {clips : List ClipD} {dash : List Int} {bytes : List UInt8} {nb np : Nat}
    (h : R = restB d) (hd : d = ⟨kd, path, ⟨sp, p0, p1, p2, p3⟩, clips, ⟨pw, pc, pj, pm, dash, pf⟩, fo, ⟨m0, m1, m2, m3, m4, m5⟩, bytes⟩) (hk : kd ≠ 4) (hp : d.path.length = np) (hb : d.bytes.length = nb) :
    R = (decide ((1 ≤ kd ∧ kd ≤ 3) ∧ fo = 0 ∧ (m0 = 0 ∧ m1 = 0 ∧ m2 = 0 ∧ m3 = 0 ∧ m4 = 0 ∧ m5 = 0) ∧ nb = 0 ∧ np ≠ 0) && pathB d.path && (if kd = 3 then penB ⟨pw, pc, pj, pm, dash, pf⟩ else nopenB ⟨pw, pc, pj, pm, dash, pf⟩)) := by
  subst hd
  rw [h]; unfold restB
  dsimp only at hp hb ⊢
  rw [if_neg hk]
  congr 1
  congr 1
  rw [Bool.eq_iff_iff]; simp [← hb, ← hp, MatD.list, List.length_eq_zero_iff]
  constructor
  · rintro ⟨⟨⟨⟨h1, h2⟩, h3⟩, h4⟩, h5⟩; exact ⟨h1, h2, h3, h4, h5⟩
  · rintro ⟨h1, h2, h3, h4, h5⟩; exact ⟨⟨⟨⟨h1, h2⟩, h3⟩, h4⟩, h5⟩
theorem rest_bad2 {R : Bool} {d : ItemD} {kd sp p0 p1 p2 p3 pw pc pj pm pf fo m0 m1 m2 m3 m4 m5 : Int} {path : List SegD} {clips : List ClipD} {dash : List Int} {bytes : List UInt8}
    (h : R = restB d) (hd : d = ⟨kd, path, ⟨sp, p0, p1, p2, p3⟩, clips, ⟨pw, pc, pj, pm, dash, pf⟩, fo, ⟨m0, m1, m2, m3, m4, m5⟩, bytes⟩) (hk : kd ≠ 4) (hpb : pathB d.path = false) : R = false := by
  rw [rest_other h hd hk rfl rfl, hpb]; simp
theorem rest_bad {R : Bool} {d : ItemD} {kd sp p0 p1 p2 p3 pw pc pj pm pf fo m0 m1 m2 m3 m4 m5 : Int} {path : List SegD} {clips : List ClipD} {dash : List Int} {bytes : List UInt8} {nb np : Nat}
    (h : R = restB d) (hd : d = ⟨kd, path, ⟨sp, p0, p1, p2, p3⟩, clips, ⟨pw, pc, pj, pm, dash, pf⟩, fo, ⟨m0, m1, m2, m3, m4, m5⟩, bytes⟩) (hk : kd ≠ 4) (hp : d.path.length = np) (hb : d.bytes.length = nb)
    (hx : kd < 1 ∨ 3 < kd ∨ ¬ fo = 0 ∨ ¬(m0 = 0 ∧ m1 = 0 ∧ m2 = 0 ∧ m3 = 0 ∧ m4 = 0 ∧ m5 = 0) ∨ ¬ nb = 0 ∨ np = 0) : R = false := by
  rw [rest_other h hd hk hp hb, decide_eq_false (by intro hc; omega)]; rfl
theorem rest_good {R : Bool} {d : ItemD} {kd sp p0 p1 p2 p3 pw pc pj pm pf fo m0 m1 m2 m3 m4 m5 : Int} {path : List SegD} {clips : List ClipD} {dash : List Int} {bytes : List UInt8} {nb np : Nat}
    (h : R = restB d) (hd : d = ⟨kd, path, ⟨sp, p0, p1, p2, p3⟩, clips, ⟨pw, pc, pj, pm, dash, pf⟩, fo, ⟨m0, m1, m2, m3, m4, m5⟩, bytes⟩) (hk : kd ≠ 4) (hp : d.path.length = np) (hb : d.bytes.length = nb) (hpb : pathB d.path = true)
    (h1 : 1 ≤ kd) (h2 : kd ≤ 3) (h3 : fo = 0) (h4 : m0 = 0 ∧ m1 = 0 ∧ m2 = 0 ∧ m3 = 0 ∧ m4 = 0 ∧ m5 = 0) (h5 : nb = 0) (h6 : ¬ np = 0) :
    R = if kd = 3 then penB ⟨pw, pc, pj, pm, dash, pf⟩ else nopenB ⟨pw, pc, pj, pm, dash, pf⟩ := by
  rw [rest_other h hd hk hp hb, hpb, decide_eq_true (by exact ⟨⟨h1, h2⟩, h3, h4, h5, h6⟩)]; simp
end Go.Proofs.YtndfdekcdhlgoaaDoor
