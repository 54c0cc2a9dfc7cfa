/- The program's reader of patterns: step, in the words of the plain language. -/
import Derived.Test.YthbiiccblcoogaaGreatDoorPatI
set_option linter.unusedVariables false
set_option linter.unusedSimpArgs false
namespace Go.Proofs.YthbiiccblcoogaaGreatDoor
open Go.RowKit

theorem word_of_none {l : List UInt8} {c : UInt8} {n : Nat} (h : Pat.one l c c n = none) : Pat.word l (ByteArray.mk #[c]).data.toList n = none := by
  show Pat.word l [c] n = none
  rw [word_one, h]; rfl
theorem word_of_some {l : List UInt8} {c d : UInt8} {n q : Nat} (h : Pat.one l c c n = some (d, q)) : Pat.word l (ByteArray.mk #[c]).data.toList n = some q := by
  show Pat.word l [c] n = some q
  rw [word_one, h]; rfl

/-- What stands behind a step's kind, of a step that isn't negated. -/
def stepTail (l : List UInt8) (kind name : UInt8) (neg : Bool) (a3 : Nat) : Option (Pat.Step × Nat) :=
  if Pat.isB l 123 123 a3 then
    if neg then none else
    match Pat.number l 48 (a3 + 1) with
    | none => none
    | some (low, a4) =>
      match Pat.one l 44 44 a4 with
      | none => none
      | some (_, a5) =>
        match Pat.number l 48 a5 with
        | none => none
        | some (high, a6) =>
          match Pat.one l 125 125 a6 with
          | none => none
          | some (_, a7) =>
            if low < 1 ∨ high < low ∨ 4 < high ∨ high = 1 then none
            else some (⟨kind, name, false, low, high⟩, a7)
  else some (⟨kind, name, neg, 1, 1⟩, a3)

theorem step_eq (l : List UInt8) (A n : Nat) (hA : A ≠ 8) : Pat.step l A n =
    match Pat.one l 65 90 (if Pat.isB l 33 33 n then n + 1 else n) with
    | none => none
    | some (kind, a1) =>
      match Pat.one l 32 32 a1 with
      | none => none
      | some (_, a2) =>
        match Pat.one l 97 122 a2 with
        | none => none
        | some (name, a3) => stepTail l kind name (Pat.isB l 33 33 n) a3 := by
  unfold Pat.step
  rw [if_neg hA]
  rfl

theorem step_any (b n A : Nat) (s : ByteArray) (w : World) (h : Rd w b s n) (hz : s.size ≤ 4096) (hn : n ≤ s.size) :
    Calls Tryz.prog 252 #[.pointer (some ⟨b, 0, none⟩), .int .i64 A] w (PR b s w encS (Pat.step s.data.toList A n)) := by
  by_cases hA : A = 8
  · have ha : ((A : Int) == 8) = true := by rw [beq_iff_eq]; omega
    refine PR.none_of (by unfold Pat.step; rw [if_pos hA]) ?_
    rcases h1 : Pat.isB s.data.toList 33 33 n with _ | _
    · rcases h2 : Pat.one s.data.toList 65 90 n with _ | ⟨c, q1⟩
      · exact step_many_bad b n s A w h hz hn ha h1 h2
      · exact step_many b n q1 s c A w h hz hn ha h1 h2
    · exact step_many_not b n s A w h hz hn ha h1
  · have ha : ((A : Int) == 8) = false := by rw [beq_eq_false_iff_ne]; omega
    rw [step_eq _ _ _ hA]
    rcases h1 : Pat.isB s.data.toList 33 33 n with _ | _
    · simp only [Bool.false_eq_true, if_false]
      rcases h2 : Pat.one s.data.toList 65 90 n with _ | ⟨c, q1⟩
      · exact PR.none_of rfl (step_kind_bad_pos b n s A w h hz hn ha h1 h2)
      simp only
      rcases h3 : Pat.one s.data.toList 32 32 q1 with _ | ⟨x, q2⟩
      · exact PR.none_of rfl (step_blank_bad_pos b n q1 s c A w h hz hn ha h1 h2 (word_of_none h3))
      simp only
      have g3 := word_of_some h3
      rcases h4 : Pat.one s.data.toList 97 122 q2 with _ | ⟨d, q3⟩
      · exact PR.none_of rfl (step_name_bad_pos b n q1 q2 s c A w h hz hn ha h1 h2 g3 h4)
      simp only [stepTail]
      rcases h5 : Pat.isB s.data.toList 123 123 q3 with _ | _
      · exact PR.some_of (by simp) (step_bare_pos b n q1 q2 q3 s c d A w h hz hn ha h1 h2 g3 h4 h5)
      simp only [if_true, Bool.false_eq_true, if_false]
      rcases h6 : Pat.number s.data.toList 48 (q3 + 1) with _ | ⟨lo, q4⟩
      · exact PR.none_of rfl (step_lo_bad b n q1 q2 q3 s c d A w h hz hn ha h1 h2 g3 h4 h5 h6)
      simp only
      rcases h7 : Pat.one s.data.toList 44 44 q4 with _ | ⟨y, q5⟩
      · exact PR.none_of rfl (step_comma_bad b n q1 q2 q3 q4 s c d lo A w h hz hn ha h1 h2 g3 h4 h5 h6 (word_of_none h7))
      simp only
      have g7 := word_of_some h7
      rcases h8 : Pat.number s.data.toList 48 q5 with _ | ⟨hi, q6⟩
      · exact PR.none_of rfl (step_hi_bad b n q1 q2 q3 q4 q5 s c d lo A w h hz hn ha h1 h2 g3 h4 h5 h6 g7 h8)
      simp only
      rcases h9 : Pat.one s.data.toList 125 125 q6 with _ | ⟨z, q7⟩
      · exact PR.none_of rfl (step_close_bad b n q1 q2 q3 q4 q5 q6 s c d lo hi A w h hz hn ha h1 h2 g3 h4 h5 h6 g7 h8 (word_of_none h9))
      simp only
      have g9 := word_of_some h9
      by_cases k1 : lo < 1
      · exact PR.none_of (by rw [if_pos (.inl k1)]) (step_count_a b n q1 q2 q3 q4 q5 q6 q7 s c d lo hi A w h hz hn ha h1 h2 g3 h4 h5 h6 g7 h8 g9 k1)
      by_cases k2 : hi < lo
      · exact PR.none_of (by rw [if_pos (.inr (.inl k2))]) (step_count_b b n q1 q2 q3 q4 q5 q6 q7 s c d lo hi A w h hz hn ha h1 h2 g3 h4 h5 h6 g7 h8 g9 k1 k2)
      by_cases k3 : 4 < hi
      · exact PR.none_of (by rw [if_pos (.inr (.inr (.inl k3)))]) (step_count_c b n q1 q2 q3 q4 q5 q6 q7 s c d lo hi A w h hz hn ha h1 h2 g3 h4 h5 h6 g7 h8 g9 k1 k2 k3)
      by_cases k4 : hi = 1
      · exact PR.none_of (by rw [if_pos (.inr (.inr (.inr k4)))]) (step_count_d b n q1 q2 q3 q4 q5 q6 q7 s c d lo hi A w h hz hn ha h1 h2 g3 h4 h5 h6 g7 h8 g9 k1 k2 k3 (beq_iff_eq.2 k4))
      exact PR.some_of (by rw [if_neg (by rintro (k | k | k | k) <;> contradiction)]) (step_count b n q1 q2 q3 q4 q5 q6 q7 s c d lo hi A w h hz hn ha h1 h2 g3 h4 h5 h6 g7 h8 g9 k1 k2 k3 (beq_eq_false_iff_ne.2 k4))
    · simp only [if_true]
      rcases h2 : Pat.one s.data.toList 65 90 (n + 1) with _ | ⟨c, q1⟩
      · exact PR.none_of rfl (step_kind_bad_not b n s A w h hz hn ha h1 h2)
      simp only
      rcases h3 : Pat.one s.data.toList 32 32 q1 with _ | ⟨x, q2⟩
      · exact PR.none_of rfl (step_blank_bad_not b n q1 s c A w h hz hn ha h1 h2 (word_of_none h3))
      simp only
      have g3 := word_of_some h3
      rcases h4 : Pat.one s.data.toList 97 122 q2 with _ | ⟨d, q3⟩
      · exact PR.none_of rfl (step_name_bad_not b n q1 q2 s c A w h hz hn ha h1 h2 g3 h4)
      simp only [stepTail]
      rcases h5 : Pat.isB s.data.toList 123 123 q3 with _ | _
      · exact PR.some_of (by simp) (step_bare_not b n q1 q2 q3 s c d A w h hz hn ha h1 h2 g3 h4 h5)
      · exact PR.none_of (by simp) (step_not_bounds b n q1 q2 q3 s c d A w h hz hn ha h1 h2 g3 h4 h5)
end Go.Proofs.YthbiiccblcoogaaGreatDoor
