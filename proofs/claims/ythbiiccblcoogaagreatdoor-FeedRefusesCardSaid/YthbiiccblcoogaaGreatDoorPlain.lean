/- The language of patterns as plain functions on lists of bytes: what the program's parser and the document's parser both compute, and the two checks of a pattern. Nothing of the program is in sight here. -/
set_option linter.unusedVariables false
set_option linter.unusedSimpArgs false
namespace Pat

structure Step where
  kind : UInt8
  name : UInt8
  neg : Bool
  lo : Int
  hi : Int

structure Cond where
  left : UInt8
  op : Int
  right : UInt8
  add : Int

structure Pattern where
  steps : List Step
  conds : List Cond
  within : Int

/-- The next byte, which must lie from 'lo' up to 'hi'. -/
def one (s : List UInt8) (lo hi : UInt8) (at_ : Nat) : Option (UInt8 × Nat) :=
  match s[at_]? with
  | some b => if lo ≤ b ∧ b ≤ hi then some (b, at_ + 1) else none
  | none => none

/-- Is the next byte one from 'lo' up to 'hi'? -/
def isB (s : List UInt8) (lo hi : UInt8) (at_ : Nat) : Bool :=
  match s[at_]? with
  | some b => decide (lo ≤ b ∧ b ≤ hi)
  | none => false

/-- These bytes. -/
def word (s : List UInt8) : List UInt8 → Nat → Option Nat
  | [], at_ => some at_
  | c :: rest, at_ =>
    match one s c c at_ with
    | some (_, n) => word s rest n
    | none => none

/-- At most so many digits more. -/
def digits (s : List UInt8) : Nat → Int → Nat → Int × Nat
  | 0, n, at_ => (n, at_)
  | k + 1, n, at_ =>
    match one s 48 57 at_ with
    | some (b, q) => digits s k (10 * n + ((b.toNat : Int) - 48)) q
    | none => (n, at_)

def number (s : List UInt8) (least : UInt8) (at_ : Nat) : Option (Int × Nat) :=
  match one s least 57 at_ with
  | some (b, q) => if b = 48 then some (0, q) else some (digits s 8 ((b.toNat : Int) - 48) q)
  | none => none

def step (s : List UInt8) (ahead : Nat) (at_ : Nat) : Option (Step × Nat) :=
  if ahead = 8 then none else
  let neg := isB s 33 33 at_
  let a0 := if neg then at_ + 1 else at_
  match one s 65 90 a0 with
  | none => none
  | some (kind, a1) =>
    match one s 32 32 a1 with
    | none => none
    | some (_, a2) =>
      match one s 97 122 a2 with
      | none => none
      | some (name, a3) =>
        if isB s 123 123 a3 then
          if neg then none else
          match number s 48 (a3 + 1) with
          | none => none
          | some (low, a4) =>
            match one s 44 44 a4 with
            | none => none
            | some (_, a5) =>
              match number s 48 a5 with
              | none => none
              | some (high, a6) =>
                match one s 125 125 a6 with
                | none => none
                | some (_, a7) =>
                  if low < 1 ∨ high < low ∨ 4 < high ∨ high = 1 then none
                  else some (⟨kind, name, false, low, high⟩, a7)
        else some (⟨kind, name, neg, 1, 1⟩, a3)

def op (s : List UInt8) (at_ : Nat) : Option (Int × Nat) :=
  if isB s 60 60 at_ then
    if isB s 61 61 (at_ + 1) then some (1, at_ + 2) else some (0, at_ + 1)
  else if isB s 62 62 at_ then
    if isB s 61 61 (at_ + 1) then some (4, at_ + 2) else some (5, at_ + 1)
  else if isB s 33 33 at_ then
    match one s 61 61 (at_ + 1) with
    | some (_, q) => some (3, q)
    | none => none
  else
    match one s 61 61 at_ with
    | some (_, q) => some (2, q)
    | none => none

def cond (s : List UInt8) (ahead : Nat) (at_ : Nat) : Option (Cond × Nat) :=
  if ahead = 16 then none else
  match one s 97 122 at_ with
  | none => none
  | some (left, a1) =>
    match op s a1 with
    | none => none
    | some (o, a2) =>
      if isB s 45 45 a2 then
        match number s 49 (a2 + 1) with
        | none => none
        | some (n, q) => some (⟨left, o, 0, -n⟩, q)
      else if isB s 48 57 a2 then
        match number s 48 a2 with
        | none => none
        | some (n, q) => some (⟨left, o, 0, n⟩, q)
      else
        match one s 97 122 a2 with
        | none => none
        | some (right, a3) =>
          if isB s 43 43 a3 then
            match number s 49 (a3 + 1) with
            | none => none
            | some (n, q) => some (⟨left, o, right, n⟩, q)
          else if isB s 45 45 a3 then
            match number s 49 (a3 + 1) with
            | none => none
            | some (n, q) => some (⟨left, o, right, -n⟩, q)
          else some (⟨left, o, right, 0⟩, a3)

/-- Steps more, as long as there is a ',' (the fuel: how many there may be at most). -/
def steps (s : List UInt8) : Nat → List Step → Nat → Option (List Step × Nat)
  | 0, _, _ => none
  | k + 1, l, at_ =>
    match step s l.length at_ with
    | none => none
    | some (x, q) => if isB s 44 44 q then steps s k (l ++ [x]) (q + 1) else some (l ++ [x], q)

def conds (s : List UInt8) : Nat → List Cond → Nat → Option (List Cond × Nat)
  | 0, _, _ => none
  | k + 1, l, at_ =>
    match cond s l.length at_ with
    | none => none
    | some (x, q) =>
      match one s 32 32 q with
      | none => none
      | some (_, q1) =>
        if isB s 65 65 q1 then
          match word s [65, 78, 68, 32] q1 with
          | none => none
          | some q2 => conds s k (l ++ [x]) q2
        else some (l ++ [x], q1)

def pattern (s : List UInt8) : Option (Pattern × Nat) :=
  match word s [83, 69, 81, 40] 0 with
  | none => none
  | some a1 =>
    match steps s 9 [] a1 with
    | none => none
    | some (st, a2) =>
      match word s [41, 32, 87] a2 with
      | none => none
      | some a3 =>
        let tail (cs : List Cond) (a : Nat) : Option (Pattern × Nat) :=
          match word s [73, 84, 72, 73, 78, 32] a with
          | none => none
          | some b =>
            match number s 48 b with
            | none => none
            | some (n, c) => some (⟨st, cs, n⟩, c)
        if isB s 72 72 a3 then
          match word s [72, 69, 82, 69, 32] a3 with
          | none => none
          | some a4 =>
            match conds s 17 [] a4 with
            | none => none
            | some (cs, a5) =>
              match one s 87 87 a5 with
              | none => none
              | some (_, a6) => tail cs a6
        else tail [] a3

def parse (s : List UInt8) : Option Pattern :=
  if 4096 < s.length then none else
  match pattern s with
  | none => none
  | some (p, q) => if q < s.length then none else some p

end Pat
