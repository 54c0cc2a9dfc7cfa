/- The program's reader of patterns: pattern. -/
import Derived.Test.YthbiiccblcoogaaGreatDoorPatJ
import Derived.Deep.AppendLies
import Derived.Deep.RegionLaw
set_option linter.unusedVariables false
set_option linter.unusedSimpArgs false
namespace Go.Proofs.YthbiiccblcoogaaGreatDoor
open Go.RowKit

theorem Oth.grown {b : Nat} {w w' : World} (h : Oth b w w') : w.grownBy w' (some b) := ⟨h.os, h.tape, h.output, h.size, fun k hk hne => h.block k hk (fun e => hne (by rw [e]))⟩

theorem Lb.grown {W W' : World} {B T : Nat} {z : Array Value} {row : Option Nat} (h : Lb W B z T) (hg : W.grownBy W' row) (hb : some B ≠ row) : Lb W' B z T := by
  have := h.lt
  unfold Lb at *
  rw [hg.block _ this hb]; exact h
theorem Rd.grown {w w' : World} {b n : Nat} {s : ByteArray} {row : Option Nat} (h : Rd w b s n) (hg : w.grownBy w' row) (hb : some b ≠ row) : Rd w' b s n := by
  have e : w'.heap[b]? = w.heap[b]? := hg.block _ h.hb hb
  exact ⟨(World.cell?_of_block (w := w) e).trans h.hs, (World.cell?_of_block (w := w) e).trans h.ha, (World.frozen?_of_block (w := w) e).trans h.hf, Nat.lt_of_lt_of_le h.hb hg.size⟩
theorem Oth.ofGrown {b : Nat} {w w1 w2 : World} {row : Option Nat} (h : Oth b w w1) (hg : w1.grownBy w2 row) (hr : ∀ k, row = some k → w.heap.size ≤ k) : Oth b w w2 :=
  ⟨hg.os.trans h.os, hg.tape.trans h.tape, hg.output.trans h.output, Nat.le_trans h.size hg.size,
    fun k hk hb => (hg.block k (Nat.lt_of_lt_of_le hk h.size) (fun e => by have := hr k e.symm; omega)).trans (h.block k hk hb)⟩

theorem info342 : (Tryz.prog.info? 342).map (fun i => (i.zero, i.size, i.bytes)) = some (some (.agg #[.int .u8 0, .int .u8 0, .bool false, .int .i64 0, .int .i64 0]), 5, 24) := by kernel_rfl
theorem info350 : (Tryz.prog.info? 350).map (fun i => (i.zero, i.size, i.bytes)) = some (some (.agg #[.int .u8 0, .int .i64 0, .int .u8 0, .int .i64 0]), 4, 32) := by kernel_rfl

/-- The cells of steps, of conditions. -/
def cellsS (l : List Pat.Step) : List Value := l.flatMap fun x => (encS x).cells.toList
def cellsC (l : List Pat.Cond) : List Value := l.flatMap fun x => (encC x).cells.toList
theorem cellsS_snoc (l : List Pat.Step) (x : Pat.Step) : cellsS (l ++ [x]) = cellsS l ++ [.int .u8 x.kind.toNat, .int .u8 x.name.toNat, .bool x.neg, .int .i64 x.lo, .int .i64 x.hi] := by
  simp [cellsS, encS, Value.cells]
theorem cellsC_snoc (l : List Pat.Cond) (x : Pat.Cond) : cellsC (l ++ [x]) = cellsC l ++ [.int .u8 x.left.toNat, .int .i64 x.op, .int .u8 x.right.toNat, .int .i64 x.add] := by
  simp [cellsC, encC, Value.cells]

theorem step_some (b n A q : Nat) (x : Pat.Step) (s : ByteArray) (w : World) (h : Rd w b s n) (hz : s.size ≤ 4096) (hn : n ≤ s.size) (C : Int) (hC : C = A) (hx : Pat.step s.data.toList A n = some (x, q)) :
    Calls Tryz.prog 252 #[.pointer (some ⟨b, 0, none⟩), .int .i64 C] w fun e w' => e = .returned (.agg #[.int .u8 x.kind.toNat, .int .u8 x.name.toNat, .bool x.neg, .int .i64 x.lo, .int .i64 x.hi]) ∧ Rd w' b s q ∧ Oth b w w' := by
  subst hC; exact PR.of_some (enc := encS) (step_any b n A s w h hz hn) hx
theorem step_none (b n A : Nat) (s : ByteArray) (w : World) (h : Rd w b s n) (hz : s.size ≤ 4096) (hn : n ≤ s.size) (C : Int) (hC : C = A) (hx : Pat.step s.data.toList A n = none) :
    Calls Tryz.prog 252 #[.pointer (some ⟨b, 0, none⟩), .int .i64 C] w fun e w' => Fault e ∧ Oth b w w' := by
  subst hC; exact PR.of_none (step_any b n A s w h hz hn) hx

theorem cond_some (b n A q : Nat) (x : Pat.Cond) (s : ByteArray) (w : World) (h : Rd w b s n) (hz : s.size ≤ 4096) (hn : n ≤ s.size) (C : Int) (hC : C = A) (hx : Pat.cond s.data.toList A n = some (x, q)) :
    Calls Tryz.prog 254 #[.pointer (some ⟨b, 0, none⟩), .int .i64 C] w fun e w' => e = .returned (.agg #[.int .u8 x.left.toNat, .int .i64 x.op, .int .u8 x.right.toNat, .int .i64 x.add]) ∧ Rd w' b s q ∧ Oth b w w' := by
  subst hC; exact PR.of_some (enc := encC) (cond_any b n A s w h hz hn) hx
theorem cond_none (b n A : Nat) (s : ByteArray) (w : World) (h : Rd w b s n) (hz : s.size ≤ 4096) (hn : n ≤ s.size) (C : Int) (hC : C = A) (hx : Pat.cond s.data.toList A n = none) :
    Calls Tryz.prog 254 #[.pointer (some ⟨b, 0, none⟩), .int .i64 C] w fun e w' => Fault e ∧ Oth b w w' := by
  subst hC; exact PR.of_none (cond_any b n A s w h hz hn) hx

theorem num_sz {s : ByteArray} {ul : UInt8} {n q : Nat} {v : Int} (hul : 48 ≤ ul.toNat) (h : Pat.number s.data.toList ul n = some (v, q)) : q ≤ s.size := by
  have := (number_bd hul h).2.2; simpa using this
theorem step_sz {s : ByteArray} {A n q : Nat} {x : Pat.Step} (h : Pat.step s.data.toList A n = some (x, q)) : q ≤ s.size := by
  unfold Pat.step at h
  split at h; · cases h
  simp only at h
  split at h; · cases h
  split at h; · cases h
  split at h; · cases h
  rename_i h3
  split at h
  · split at h; · cases h
    split at h; · cases h
    split at h; · cases h
    split at h; · cases h
    split at h; · cases h
    rename_i h7
    split at h
    · cases h
    · injection h with h; injection h with _ h; subst h; exact one_sz h7
  · injection h with h; injection h with _ h; subst h; exact one_sz h3
theorem cond_sz {s : ByteArray} {A n q : Nat} {x : Pat.Cond} (h : Pat.cond s.data.toList A n = some (x, q)) : q ≤ s.size := by
  unfold Pat.cond at h
  split at h; · cases h
  split at h; · cases h
  split at h; · cases h
  split at h
  · split at h; · cases h
    rename_i hh
    injection h with h; injection h with _ h; subst h; exact num_sz (by decide) hh
  split at h
  · split at h; · cases h
    rename_i hh
    injection h with h; injection h with _ h; subst h; exact num_sz (by decide) hh
  split at h; · cases h
  rename_i h3
  split at h
  · split at h; · cases h
    rename_i hh
    injection h with h; injection h with _ h; subst h; exact num_sz (by decide) hh
  split at h
  · split at h; · cases h
    rename_i hh
    injection h with h; injection h with _ h; subst h; exact num_sz (by decide) hh
  injection h with h; injection h with _ h; subst h; exact one_sz h3

/-! The rest of a pattern's text, from each place where the walk stands. -/
def pTail (s : List UInt8) (st : List Pat.Step) (cs : List Pat.Cond) (a : Nat) : Option (Pat.Pattern × Nat) :=
  match Pat.word s [73, 84, 72, 73, 78, 32] a with
  | none => none
  | some b =>
    match Pat.number s 48 b with
    | none => none
    | some (n, c) => some (⟨st, cs, n⟩, c)
def pEnd (s : List UInt8) (st : List Pat.Step) (cs : List Pat.Cond) (a : Nat) : Option (Pat.Pattern × Nat) :=
  match Pat.word s [87] a with
  | none => none
  | some a6 => pTail s st cs a6
/-- From a condition on. -/
def pCond (s : List UInt8) (st : List Pat.Step) (f : Nat) (cs : List Pat.Cond) (a : Nat) : Option (Pat.Pattern × Nat) :=
  match Pat.conds s f cs a with
  | none => none
  | some (cs, a5) => pEnd s st cs a5
/-- Behind the blank that follows the conditions so far. -/
def pMore (s : List UInt8) (st : List Pat.Step) (f : Nat) (cs : List Pat.Cond) (a : Nat) : Option (Pat.Pattern × Nat) :=
  if Pat.isB s 65 65 a then
    match Pat.word s [78, 68, 32] (a + 1) with
    | none => none
    | some q => pCond s st f cs q
  else pEnd s st cs a
/-- Behind the steps. -/
def pAfter (s : List UInt8) (st : List Pat.Step) (a : Nat) : Option (Pat.Pattern × Nat) :=
  match Pat.word s [41, 32, 87] a with
  | none => none
  | some a3 =>
    if Pat.isB s 72 72 a3 then
      match Pat.word s [69, 82, 69, 32] (a3 + 1) with
      | none => none
      | some a4 => pCond s st 17 [] a4
    else pTail s st [] a3
/-- From a step on. -/
def pStep (s : List UInt8) (f : Nat) (l : List Pat.Step) (a : Nat) : Option (Pat.Pattern × Nat) :=
  match Pat.steps s f l a with
  | none => none
  | some (st, a2) => pAfter s st a2
/-- Behind a step. -/
def pSteps (s : List UInt8) (f : Nat) (l : List Pat.Step) (a : Nat) : Option (Pat.Pattern × Nat) :=
  if Pat.isB s 44 44 a then pStep s f l (a + 1) else pAfter s l a

theorem word_isB {s : List UInt8} {c : UInt8} {ws : List UInt8} {a : Nat} (h : Pat.isB s c c a = true) : Pat.word s (c :: ws) a = Pat.word s ws (a + 1) := by
  unfold Pat.isB at h
  rw [Pat.word]
  unfold Pat.one
  split at h
  · rename_i b hb
    rw [if_pos (of_decide_eq_true h)]
  · cases h
theorem pStep_eq (s : List UInt8) (f : Nat) (l : List Pat.Step) (a : Nat) : pStep s (f + 1) l a =
    match Pat.step s l.length a with
    | none => none
    | some (x, q) => pSteps s f (l ++ [x]) q := by
  unfold pStep pSteps
  rw [Pat.steps]
  rcases Pat.step s l.length a with _ | ⟨x, q⟩
  · rfl
  simp only
  by_cases h : Pat.isB s 44 44 q = true
  · rw [if_pos h, if_pos h]; rfl
  · rw [if_neg h, if_neg h]
theorem pCond_eq (s : List UInt8) (st : List Pat.Step) (f : Nat) (cs : List Pat.Cond) (a : Nat) : pCond s st (f + 1) cs a =
    match Pat.cond s cs.length a with
    | none => none
    | some (x, q) =>
      match Pat.word s [32] q with
      | none => none
      | some q1 => pMore s st f (cs ++ [x]) q1 := by
  unfold pCond pMore
  rw [Pat.conds]
  rcases Pat.cond s cs.length a with _ | ⟨x, q⟩
  · rfl
  simp only [word_one]
  rcases Pat.one s 32 32 q with _ | ⟨y, q1⟩
  · rfl
  simp only [Option.map_some]
  by_cases h : Pat.isB s 65 65 q1 = true
  · rw [if_pos h, if_pos h, word_isB h]
    rcases Pat.word s [78, 68, 32] (q1 + 1) with _ | q2
    · rfl
    · rfl
  · rw [if_neg h, if_neg h]
theorem pattern_eq (s : List UInt8) : Pat.pattern s =
    match Pat.word s [83, 69, 81, 40] 0 with
    | none => none
    | some a1 => pStep s 9 [] a1 := by
  unfold Pat.pattern
  rcases Pat.word s [83, 69, 81, 40] 0 with _ | a1
  · rfl
  simp only [pStep]
  rcases Pat.steps s 9 [] a1 with _ | ⟨st, a2⟩
  · rfl
  simp only [pAfter]
  rcases Pat.word s [41, 32, 87] a2 with _ | a3
  · rfl
  simp only
  by_cases h : Pat.isB s 72 72 a3 = true
  · rw [if_pos h, if_pos h, word_isB h]
    rcases Pat.word s [69, 82, 69, 32] (a3 + 1) with _ | a4
    · rfl
    simp only [pCond]
    rcases Pat.conds s 17 [] a4 with _ | ⟨cs, a5⟩
    · rfl
    simp only [pEnd, word_one]
    rcases Pat.one s 87 87 a5 with _ | ⟨y, a6⟩
    · rfl
    · rfl
  · rw [if_neg h, if_neg h]; rfl
end Go.Proofs.YthbiiccblcoogaaGreatDoor
