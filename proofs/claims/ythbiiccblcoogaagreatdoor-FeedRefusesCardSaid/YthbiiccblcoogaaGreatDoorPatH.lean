/- The program's reader of patterns: cond, in the words of the plain language. -/
import Derived.Test.YthbiiccblcoogaaGreatDoorPatG
set_option linter.unusedVariables false
set_option linter.unusedSimpArgs false
namespace Go.Proofs.YthbiiccblcoogaaGreatDoor
open Go.RowKit

theorem cond_any (b n A : Nat) (s : ByteArray) (w : World) (h : Rd w b s n) (hz : s.size ≤ 4096) (hn : n ≤ s.size) :
    Calls Tryz.prog 254 #[.pointer (some ⟨b, 0, none⟩), .int .i64 A] w (PR b s w encC (Pat.cond s.data.toList A n)) := by
  by_cases hA : A = 16
  · have ha : ((A : Int) == 16) = true := by rw [beq_iff_eq]; omega
    refine PR.none_of (by unfold Pat.cond; rw [if_pos hA]) ?_
    rcases h1 : Pat.one s.data.toList 97 122 n with _ | ⟨c, q1⟩
    · exact cond_many_bad b n s A w h hz hn ha h1
    · exact cond_many b n q1 s c A w h hz hn ha h1
  · have ha : ((A : Int) == 16) = false := by rw [beq_eq_false_iff_ne]; omega
    unfold Pat.cond
    rw [if_neg hA]
    rcases h1 : Pat.one s.data.toList 97 122 n with _ | ⟨c, q1⟩
    · exact PR.none_of rfl (cond_left_bad b n s A w h hz hn ha h1)
    have hs1 := one_sz h1
    rcases h2 : Pat.op s.data.toList q1 with _ | ⟨o, q2⟩
    · exact PR.none_of (by simp only [h2]) (cond_op_bad b n q1 s c A w h hz hn ha h1 h2)
    simp only [h2]
    rcases h3 : Pat.isB s.data.toList 45 45 q2 with _ | _
    · have p3 := pk_not h3 (by decide)
      have hC : (pk s q2 == 45) = false := by rw [beq_eq_false_iff_ne]; intro hh; rw [hh] at p3; revert p3; decide
      simp only [Bool.false_eq_true, if_false]
      rcases h4 : Pat.isB s.data.toList 48 57 q2 with _ | _
      · have p4 := pk_not h4 (by decide)
        simp only [Bool.false_eq_true, if_false]
        by_cases hlo : (48 : Int) ≤ pk s q2
        · have hhi : ¬ pk s q2 ≤ 57 := by
            rw [show ((48 : UInt8).toNat : Int) = 48 from rfl, show ((57 : UInt8).toNat : Int) = 57 from rfl] at p4
            omega
          rcases h5 : Pat.one s.data.toList 97 122 q2 with _ | ⟨d, q3⟩
          · exact PR.none_of rfl (cond_right_bad_hi b n q1 q2 s c o A w h hz hn ha h1 h2 _ rfl hC hlo hhi h5)
          simp only
          rcases h6 : Pat.isB s.data.toList 43 43 q3 with _ | _
          · simp only [Bool.false_eq_true, if_false]
            rcases h7 : Pat.isB s.data.toList 45 45 q3 with _ | _
            · exact PR.some_of (by simp) (cond_name_hi b n q1 q2 q3 s c d o A w h hz hn ha h1 h2 _ rfl hC hlo hhi h5 h6 h7)
            · rcases h8 : Pat.number s.data.toList 49 (q3 + 1) with _ | ⟨v, q4⟩
              · exact PR.none_of (by simp) (cond_less_bad_hi b n q1 q2 q3 s c d o A w h hz hn ha h1 h2 _ rfl hC hlo hhi h5 h6 h7 h8)
              · exact PR.some_of (by simp) (cond_less_hi b n q1 q2 q3 q4 s c d o v A w h hz hn ha h1 h2 _ rfl hC hlo hhi h5 h6 h7 h8)
          · rcases h8 : Pat.number s.data.toList 49 (q3 + 1) with _ | ⟨v, q4⟩
            · exact PR.none_of (by simp) (cond_plus_bad_hi b n q1 q2 q3 s c d o A w h hz hn ha h1 h2 _ rfl hC hlo hhi h5 h6 h8)
            · exact PR.some_of (by simp) (cond_plus_hi b n q1 q2 q3 q4 s c d o v A w h hz hn ha h1 h2 _ rfl hC hlo hhi h5 h6 h8)
        · rcases h5 : Pat.one s.data.toList 97 122 q2 with _ | ⟨d, q3⟩
          · exact PR.none_of rfl (cond_right_bad_lo b n q1 q2 s c o A w h hz hn ha h1 h2 _ rfl hC hlo h5)
          simp only
          rcases h6 : Pat.isB s.data.toList 43 43 q3 with _ | _
          · simp only [Bool.false_eq_true, if_false]
            rcases h7 : Pat.isB s.data.toList 45 45 q3 with _ | _
            · exact PR.some_of (by simp) (cond_name_lo b n q1 q2 q3 s c d o A w h hz hn ha h1 h2 _ rfl hC hlo h5 h6 h7)
            · rcases h8 : Pat.number s.data.toList 49 (q3 + 1) with _ | ⟨v, q4⟩
              · exact PR.none_of (by simp) (cond_less_bad_lo b n q1 q2 q3 s c d o A w h hz hn ha h1 h2 _ rfl hC hlo h5 h6 h7 h8)
              · exact PR.some_of (by simp) (cond_less_lo b n q1 q2 q3 q4 s c d o v A w h hz hn ha h1 h2 _ rfl hC hlo h5 h6 h7 h8)
          · rcases h8 : Pat.number s.data.toList 49 (q3 + 1) with _ | ⟨v, q4⟩
            · exact PR.none_of (by simp) (cond_plus_bad_lo b n q1 q2 q3 s c d o A w h hz hn ha h1 h2 _ rfl hC hlo h5 h6 h8)
            · exact PR.some_of (by simp) (cond_plus_lo b n q1 q2 q3 q4 s c d o v A w h hz hn ha h1 h2 _ rfl hC hlo h5 h6 h8)
      · have p4 := pk_is h4
        have hlo : (48 : Int) ≤ pk s q2 := p4.1
        have hhi : pk s q2 ≤ 57 := p4.2.1
        simp only [if_true]
        rcases h5 : Pat.number s.data.toList 48 q2 with _ | ⟨v, q3⟩
        · exact PR.none_of rfl (cond_digit_bad b n q1 q2 s c o A w h hz hn ha h1 h2 _ rfl hC hlo hhi h5)
        · exact PR.some_of rfl (cond_digit b n q1 q2 q3 s c o v A w h hz hn ha h1 h2 _ rfl hC hlo hhi h5)
    · have p3 := pk_is h3
      have hC : pk s q2 = 45 := Int.le_antisymm p3.2.1 p3.1
      simp only [if_true]
      rcases h5 : Pat.number s.data.toList 49 (q2 + 1) with _ | ⟨v, q3⟩
      · exact PR.none_of rfl (cond_minus_bad b n q1 q2 s c o A w h hz hn ha h1 h2 _ rfl hC p3.2.2 h5)
      · exact PR.some_of rfl (cond_minus b n q1 q2 q3 s c o v A w h hz hn ha h1 h2 _ rfl hC p3.2.2 h5)
end Go.Proofs.YthbiiccblcoogaaGreatDoor
