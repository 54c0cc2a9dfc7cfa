/- oxbowref19.Parse: plain laws of its two loops. -/
import Derived.Test.YthbiiccblcoogaaGreatDoorRefL
set_option linter.unusedVariables false
set_option linter.unusedSimpArgs false
namespace Go.Proofs.YthbiiccblcoogaaGreatDoor
open Go.RowKit

/-- Where the reading of the steps stands. -/
def Loop1 (s : List UInt8) (R : Option (Pat.Pattern × Nat)) (more : Bool) (k : Nat) (l : List Pat.Step) (st : Option Nat) : Prop :=
  match st with
  | none => R = none
  | some p => if more = true then l.length + k = 9 ∧ 1 ≤ k ∧ pStep s k l p = R else l.length ≤ 9 ∧ pAfter s l p = R

/-- Where the reading of the conditions stands. -/
def Loop2 (s : List UInt8) (R : Option (Pat.Pattern × Nat)) (l : List Pat.Step) (more : Bool) (k : Nat) (lc : List Pat.Cond) (st : Option Nat) : Prop :=
  match st with
  | none => R = none
  | some p => if more = true then lc.length + k = 17 ∧ 1 ≤ k ∧ pCond s l k lc p = R else lc.length ≤ 17 ∧ pEnd s l lc p = R

/-- From a state on: a fault's end, or what a place's rest gives. -/
def From (R : Option (Pat.Pattern × Nat)) (f : Nat → Option (Pat.Pattern × Nat)) (st : Option Nat) : Prop :=
  match st with
  | none => R = none
  | some p => f p = R

theorem Agrees.inv {α : Type} {x : α} {st : Option Nat} {y : α} {q : Nat} (h : Agrees (some (y, q)) (x, st)) : x = y ∧ st = some q := by
  injection (show (x, st) = (y, some q) from h) with a b; exact ⟨a, b⟩

theorem Loop1.no {s : List UInt8} {R : Option (Pat.Pattern × Nat)} {k p : Nat} {l : List Pat.Step} (h : l.length ≤ 9 ∧ pAfter s l p = R) : Loop1 s R false k l (some p) := by
  unfold Loop1; simp only; rw [if_neg (by decide)]; exact h
theorem Loop1.yes {s : List UInt8} {R : Option (Pat.Pattern × Nat)} {k p : Nat} {l : List Pat.Step} (h : l.length + k = 9 ∧ 1 ≤ k ∧ pStep s k l p = R) : Loop1 s R true k l (some p) := by
  unfold Loop1; simp only; rw [if_pos trivial]; exact h
theorem Loop1.of_no {s : List UInt8} {R : Option (Pat.Pattern × Nat)} {k p : Nat} {l : List Pat.Step} (h : Loop1 s R false k l (some p)) : l.length ≤ 9 ∧ pAfter s l p = R := by
  unfold Loop1 at h; simp only at h; rw [if_neg (by decide)] at h; exact h
theorem Loop1.of_yes {s : List UInt8} {R : Option (Pat.Pattern × Nat)} {k p : Nat} {l : List Pat.Step} (h : Loop1 s R true k l (some p)) : l.length + k = 9 ∧ 1 ≤ k ∧ pStep s k l p = R := by
  unfold Loop1 at h; simp only at h; rw [if_pos trivial] at h; exact h
theorem Loop2.no {s : List UInt8} {R : Option (Pat.Pattern × Nat)} {k p : Nat} {l : List Pat.Step} {lc : List Pat.Cond} (h : lc.length ≤ 17 ∧ pEnd s l lc p = R) : Loop2 s R l false k lc (some p) := by
  unfold Loop2; simp only; rw [if_neg (by decide)]; exact h
theorem Loop2.yes {s : List UInt8} {R : Option (Pat.Pattern × Nat)} {k p : Nat} {l : List Pat.Step} {lc : List Pat.Cond} (h : lc.length + k = 17 ∧ 1 ≤ k ∧ pCond s l k lc p = R) : Loop2 s R l true k lc (some p) := by
  unfold Loop2; simp only; rw [if_pos trivial]; exact h
theorem Loop2.of_no {s : List UInt8} {R : Option (Pat.Pattern × Nat)} {k p : Nat} {l : List Pat.Step} {lc : List Pat.Cond} (h : Loop2 s R l false k lc (some p)) : lc.length ≤ 17 ∧ pEnd s l lc p = R := by
  unfold Loop2 at h; simp only at h; rw [if_neg (by decide)] at h; exact h
theorem Loop2.of_yes {s : List UInt8} {R : Option (Pat.Pattern × Nat)} {k p : Nat} {l : List Pat.Step} {lc : List Pat.Cond} (h : Loop2 s R l true k lc (some p)) : lc.length + k = 17 ∧ 1 ≤ k ∧ pCond s l k lc p = R := by
  unfold Loop2 at h; simp only at h; rw [if_pos trivial] at h; exact h

theorem loop1_false {s : List UInt8} {R : Option (Pat.Pattern × Nat)} {k p : Nat} {l : List Pat.Step} {x : Pat.Step} {st : Option Nat} (hk : l.length + (k + 1) = 9)
    (hA : Agrees (Pat.step s l.length p) (x, st)) (hP : (match Pat.step s l.length p with | none => none | some (x, q) => pSteps s k (l ++ [x]) q) = R) (hT : nx s st 44 44 = false) : Loop1 s R false k (l ++ [x]) st := by
  rcases h : Pat.step s l.length p with _ | ⟨y, q⟩ <;> rw [h] at hA hP
  · have : st = none := hA
    subst this
    exact hP.symm
  · obtain ⟨rfl, rfl⟩ := hA.inv
    simp only at hP
    have hb : Pat.isB s 44 44 q = false := hT
    unfold pSteps at hP
    rw [hb] at hP
    exact Loop1.no ⟨by simp; omega, hP⟩
theorem loop1_true {s : List UInt8} {R : Option (Pat.Pattern × Nat)} {k p : Nat} {l : List Pat.Step} {x : Pat.Step} {st : Option Nat} (hk : l.length + (k + 1) = 9)
    (hA : Agrees (Pat.step s l.length p) (x, st)) (hP : (match Pat.step s l.length p with | none => none | some (x, q) => pSteps s k (l ++ [x]) q) = R) (hT : nx s st 44 44 = true) : Loop1 s R true k (l ++ [x]) (tk s st 44 44).2 := by
  rcases h : Pat.step s l.length p with _ | ⟨y, q⟩ <;> rw [h] at hA hP
  · have : st = none := hA
    subst this
    cases hT
  · obtain ⟨rfl, rfl⟩ := hA.inv
    simp only at hP
    have hb : Pat.isB s 44 44 q = true := hT
    unfold pSteps at hP
    rw [if_pos hb] at hP
    rw [tk_of_some (isB_one hb)]
    have hl8 : l.length ≠ 8 := fun e => by rw [e, Pat.step, if_pos rfl] at h; cases h
    exact Loop1.yes ⟨by simp; omega, by omega, hP⟩
theorem loop1_stop {s : List UInt8} {R : Option (Pat.Pattern × Nat)} {k : Nat} {l : List Pat.Step} {st : Option Nat} (h : Loop1 s R false k l st) : From R (pAfter s l) st := by
  cases st with
  | none => exact h
  | some p =>
    exact h.of_no.2

/-- Behind ') W'. -/
def pWhere (s : List UInt8) (l : List Pat.Step) (a3 : Nat) : Option (Pat.Pattern × Nat) :=
  if Pat.isB s 72 72 a3 then
    match Pat.word s [69, 82, 69, 32] (a3 + 1) with
    | none => none
    | some a4 => pCond s l 17 [] a4
  else pTail s l [] a3
theorem from_after {s : List UInt8} {R : Option (Pat.Pattern × Nat)} {l : List Pat.Step} {st : Option Nat} (h : From R (pAfter s l) st) : From R (pWhere s l) (wd s st [41, 32, 87]) := by
  cases st with
  | none => rw [wd_none]; exact h
  | some p =>
    have h : pAfter s l p = R := h
    unfold pAfter at h
    rw [wd_some]
    rcases hw : Pat.word s [41, 32, 87] p with _ | a3 <;> rw [hw] at h
    · exact h.symm
    · exact h
theorem where_false {s : List UInt8} {R : Option (Pat.Pattern × Nat)} {l : List Pat.Step} {st : Option Nat} (h : From R (pWhere s l) st) (hT : nx s st 72 72 = false) : From R (pTail s l []) st := by
  cases st with
  | none => exact h
  | some p =>
    have h : pWhere s l p = R := h
    have hb : Pat.isB s 72 72 p = false := hT
    unfold pWhere at h
    rw [hb] at h
    exact h
theorem where_true {s : List UInt8} {R : Option (Pat.Pattern × Nat)} {l : List Pat.Step} {st : Option Nat} (h : From R (pWhere s l) st) (hT : nx s st 72 72 = true) : Loop2 s R l true 17 [] (wd s st [72, 69, 82, 69, 32]) := by
  cases st with
  | none => cases hT
  | some p =>
    have h : pWhere s l p = R := h
    have hb : Pat.isB s 72 72 p = true := hT
    unfold pWhere at h
    rw [if_pos hb] at h
    rw [wd_some, word_isB hb]
    rcases hw : Pat.word s [69, 82, 69, 32] (p + 1) with _ | a4 <;> rw [hw] at h
    · exact h.symm
    · exact Loop2.yes ⟨rfl, by decide, h⟩

theorem loop2_false {s : List UInt8} {R : Option (Pat.Pattern × Nat)} {k p : Nat} {l : List Pat.Step} {lc : List Pat.Cond} {x : Pat.Cond} {st : Option Nat} (hk : lc.length + (k + 1) = 17)
    (hA : Agrees (Pat.cond s lc.length p) (x, st)) (hP : (match Pat.cond s lc.length p with | none => none | some (x, q) => match Pat.word s [32] q with | none => none | some q1 => pMore s l k (lc ++ [x]) q1) = R)
    (hT : nx s (tk s st 32 32).2 65 65 = false) : Loop2 s R l false k (lc ++ [x]) (tk s st 32 32).2 := by
  rcases h : Pat.cond s lc.length p with _ | ⟨y, q⟩ <;> rw [h] at hA hP
  · have : st = none := hA
    subst this
    exact hP.symm
  · obtain ⟨rfl, rfl⟩ := hA.inv
    simp only [word_one] at hP
    rcases h2 : Pat.one s 32 32 q with _ | ⟨c, q1⟩ <;> rw [h2] at hP
    · rw [tk_of_none h2]; exact hP.symm
    · rw [tk_of_some h2] at hT ⊢
      have hb : Pat.isB s 65 65 q1 = false := hT
      simp only [Option.map_some] at hP
      unfold pMore at hP
      rw [hb] at hP
      exact Loop2.no ⟨by simp; omega, hP⟩
theorem loop2_true {s : List UInt8} {R : Option (Pat.Pattern × Nat)} {k p : Nat} {l : List Pat.Step} {lc : List Pat.Cond} {x : Pat.Cond} {st : Option Nat} (hk : lc.length + (k + 1) = 17)
    (hA : Agrees (Pat.cond s lc.length p) (x, st)) (hP : (match Pat.cond s lc.length p with | none => none | some (x, q) => match Pat.word s [32] q with | none => none | some q1 => pMore s l k (lc ++ [x]) q1) = R)
    (hT : nx s (tk s st 32 32).2 65 65 = true) : Loop2 s R l true k (lc ++ [x]) (wd s (tk s st 32 32).2 [65, 78, 68, 32]) := by
  rcases h : Pat.cond s lc.length p with _ | ⟨y, q⟩ <;> rw [h] at hA hP
  · have : st = none := hA
    subst this
    cases hT
  · obtain ⟨rfl, rfl⟩ := hA.inv
    simp only [word_one] at hP
    rcases h2 : Pat.one s 32 32 q with _ | ⟨c, q1⟩ <;> rw [h2] at hP
    · rw [tk_of_none h2] at hT; cases hT
    · rw [tk_of_some h2] at hT ⊢
      have hb : Pat.isB s 65 65 q1 = true := hT
      simp only [Option.map_some] at hP
      unfold pMore at hP
      rw [if_pos hb] at hP
      simp only
      rw [wd_some, word_isB hb]
      have hl : lc.length ≠ 16 := fun e => by rw [e, Pat.cond, if_pos rfl] at h; cases h
      rcases h3 : Pat.word s [78, 68, 32] (q1 + 1) with _ | q2 <;> rw [h3] at hP
      · exact hP.symm
      · exact Loop2.yes ⟨by simp; omega, by omega, hP⟩
theorem loop2_stop {s : List UInt8} {R : Option (Pat.Pattern × Nat)} {k : Nat} {l : List Pat.Step} {lc : List Pat.Cond} {st : Option Nat} (h : Loop2 s R l false k lc st) : From R (pTail s l lc) (tk s st 87 87).2 := by
  cases st with
  | none => exact h
  | some p =>
    have h := h.of_no.2
    unfold pEnd at h
    rw [word_one] at h
    rcases h2 : Pat.one s 87 87 p with _ | ⟨c, q1⟩ <;> rw [h2] at h
    · rw [tk_of_none h2]; exact h.symm
    · rw [tk_of_some h2]; exact h
theorem loop2_zero {s : List UInt8} {R : Option (Pat.Pattern × Nat)} {k : Nat} {l : List Pat.Step} {lc : List Pat.Cond} {st : Option Nat} (h : Loop2 s R l false k lc st) : Loop2 s R l false 0 lc st := by
  cases st with
  | none => exact h
  | some p => exact Loop2.no h.of_no
theorem loop2_none {s : List UInt8} {R : Option (Pat.Pattern × Nat)} {k : Nat} {m : Bool} {l : List Pat.Step} {lc : List Pat.Cond} (h : Loop2 s R l m k lc none) : R = none := h

/-- The end: the number, and that nothing is left. -/
theorem tail_end {s : List UInt8} {R : Option (Pat.Pattern × Nat)} {l : List Pat.Step} {lc : List Pat.Cond} {st : Option Nat} (h : From R (pTail s l lc) st) :
    From R (fun q => some (⟨l, lc, (nm s (wd s st [73, 84, 72, 73, 78, 32]) 48).1⟩, q)) (nm s (wd s st [73, 84, 72, 73, 78, 32]) 48).2 := by
  cases st with
  | none => rw [wd_none]; exact h
  | some p =>
    have h : pTail s l lc p = R := h
    unfold pTail at h
    rw [wd_some]
    rcases hw : Pat.word s [73, 84, 72, 73, 78, 32] p with _ | a <;> rw [hw] at h
    · exact h.symm
    · simp only at h
      rcases hn : Pat.number s 48 a with _ | ⟨v, q⟩ <;> rw [hn] at h
      · rw [nm_of_none hn]; exact h.symm
      · rw [nm_of_some hn]; exact h
end Go.Proofs.YthbiiccblcoogaaGreatDoor
