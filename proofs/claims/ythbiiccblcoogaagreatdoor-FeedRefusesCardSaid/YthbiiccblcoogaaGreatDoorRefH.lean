/- oxbowref19's op and signed. -/
import Derived.Test.YthbiiccblcoogaaGreatDoorRefG
set_option linter.unusedVariables false
set_option linter.unusedSimpArgs false
namespace Go.Proofs.YthbiiccblcoogaaGreatDoor
open Go.RowKit

/-- What 'op' of the definitions gives. -/
def rop (l : List UInt8) (st : Option Nat) : Int × Option Nat :=
  let st1 := (tk l st 60 62).2
  let same := nx l st1 61 61
  let st2 := if same = true then (tk l st1 61 61).2 else st1
  if nx l st 60 60 = true then (if same = true then 1 else 0, st2)
  else if nx l st 62 62 = true then (if same = true then 4 else 5, st2)
  else if nx l st 33 33 = true then (3, wd l st (ByteArray.mk #[33, 61]).data.toList)
  else (2, (tk l st 61 61).2)

/-- What 'signed' of the definitions gives. -/
def rsigned (l : List UInt8) (st : Option Nat) : Int × Option Nat :=
  if nx l st 45 45 = true then
    let n := nm l (tk l st 45 45).2 49
    (-n.1, n.2)
  else nm l (tk l st 43 43).2 49

theorem nm_bd (s : ByteArray) (st : Option Nat) (ul : UInt8) (hul : 48 ≤ ul.toNat) : 0 ≤ (nm s.data.toList st ul).1 ∧ (nm s.data.toList st ul).1 < 1000000000 := by
  cases st with
  | none => exact ⟨Int.le_refl 0, (by decide : (0 : Int) < 1000000000)⟩
  | some n =>
    unfold nm
    simp only
    split
    · exact ⟨by decide, by decide⟩
    · rename_i v q h
      exact ⟨(number_bd hul h).1, (number_bd hul h).2.1⟩

theorem word_is (b : Nat) (s ws : ByteArray) (st : Option Nat) (w : World) (h : Rr w b s st) (hz : s.size ≤ 4096) (hw : ws.size ≤ 4096) (st' : Option Nat) (hs : wd s.data.toList st ws.data.toList = st') :
    Calls Tryz.prog 40 #[.pointer (some ⟨b, 0, none⟩), .string ws] w fun e w' => e = .returned (.tuple #[]) ∧ Rr w' b s st' ∧ Oth b w w' := by
  subst hs; exact rword_any b s ws st w h hz hw

set_option maxRecDepth 100000 in
set_option maxHeartbeats 1600000 in
theorem rop_le (b : Nat) (s : ByteArray) (st : Option Nat) (T2 : Bool) (T3 : Bool) (w : World) (h : Rr w b s st) (hz : s.size ≤ 4096) (h1 : nx s.data.toList st 60 60 = true) (h2 : nx s.data.toList st 62 62 = T2) (h3 : nx s.data.toList st 33 33 = T3) (h4 : nx s.data.toList (tk s.data.toList st 60 62).2 61 61 = true) :
    Calls Tryz.prog 78 #[.pointer (some ⟨b, 0, none⟩)] w fun e w' => e = .returned (.int .i64 1) ∧ Rr w' b s (tk s.data.toList (tk s.data.toList st 60 62).2 61 61).2 ∧ Oth b w w' := by
  have H1 := Lib.hid h1
  have H2 := Lib.hid h2
  have H3 := Lib.hid h3
  have H4 := Lib.hid h4
  clear h1 h2 h3 h4
  go_enter Tryz.func78, Tryz.ntmps78
  go_wp2_with fail
  refine (next_is b s st 60 60 60 60 rfl rfl _ (by exact h) hz true H1.out).mono ?_
  rintro e w1 ⟨rfl, r1, o1⟩
  go_wp2_with fail
  refine (next_is b s st 62 62 62 62 rfl rfl _ (by exact r1) hz T2 H2.out).mono ?_
  rintro e w2 ⟨rfl, r2, o2⟩
  go_wp2_with fail
  refine (next_is b s st 33 33 33 33 rfl rfl _ (by exact r2) hz T3 H3.out).mono ?_
  rintro e w3 ⟨rfl, r3, o3⟩
  go_wp2_with fail
  refine (take_is b s st 60 62 60 62 rfl rfl _ (by exact r3) hz _ rfl).mono ?_
  rintro e w4 ⟨rfl, r4, o4⟩
  go_wp2_with fail
  refine (next_is b s _ 61 61 61 61 rfl rfl _ (by exact r4) hz true H4.out).mono ?_
  rintro e w5 ⟨rfl, r5, o5⟩
  go_wp2_with fail
  refine (take_is b s _ 61 61 61 61 rfl rfl _ (by exact r5) hz _ rfl).mono ?_
  rintro e w6 ⟨rfl, r6, o6⟩
  go_wp2
  go_ret
  exact ⟨rfl, r6, (((((o1.trans o2).trans o3).trans o4).trans o5).trans o6)⟩

set_option maxRecDepth 100000 in
set_option maxHeartbeats 1600000 in
theorem rop_lt (b : Nat) (s : ByteArray) (st : Option Nat) (T2 : Bool) (T3 : Bool) (w : World) (h : Rr w b s st) (hz : s.size ≤ 4096) (h1 : nx s.data.toList st 60 60 = true) (h2 : nx s.data.toList st 62 62 = T2) (h3 : nx s.data.toList st 33 33 = T3) (h4 : nx s.data.toList (tk s.data.toList st 60 62).2 61 61 = false) :
    Calls Tryz.prog 78 #[.pointer (some ⟨b, 0, none⟩)] w fun e w' => e = .returned (.int .i64 0) ∧ Rr w' b s (tk s.data.toList st 60 62).2 ∧ Oth b w w' := by
  have H1 := Lib.hid h1
  have H2 := Lib.hid h2
  have H3 := Lib.hid h3
  have H4 := Lib.hid h4
  clear h1 h2 h3 h4
  go_enter Tryz.func78, Tryz.ntmps78
  go_wp2_with fail
  refine (next_is b s st 60 60 60 60 rfl rfl _ (by exact h) hz true H1.out).mono ?_
  rintro e w1 ⟨rfl, r1, o1⟩
  go_wp2_with fail
  refine (next_is b s st 62 62 62 62 rfl rfl _ (by exact r1) hz T2 H2.out).mono ?_
  rintro e w2 ⟨rfl, r2, o2⟩
  go_wp2_with fail
  refine (next_is b s st 33 33 33 33 rfl rfl _ (by exact r2) hz T3 H3.out).mono ?_
  rintro e w3 ⟨rfl, r3, o3⟩
  go_wp2_with fail
  refine (take_is b s st 60 62 60 62 rfl rfl _ (by exact r3) hz _ rfl).mono ?_
  rintro e w4 ⟨rfl, r4, o4⟩
  go_wp2_with fail
  refine (next_is b s _ 61 61 61 61 rfl rfl _ (by exact r4) hz false H4.out).mono ?_
  rintro e w5 ⟨rfl, r5, o5⟩
  go_wp2
  go_ret
  exact ⟨rfl, r5, ((((o1.trans o2).trans o3).trans o4).trans o5)⟩

set_option maxRecDepth 100000 in
set_option maxHeartbeats 1600000 in
theorem rop_ge (b : Nat) (s : ByteArray) (st : Option Nat) (T3 : Bool) (w : World) (h : Rr w b s st) (hz : s.size ≤ 4096) (h1 : nx s.data.toList st 60 60 = false) (h2 : nx s.data.toList st 62 62 = true) (h3 : nx s.data.toList st 33 33 = T3) (h4 : nx s.data.toList (tk s.data.toList st 60 62).2 61 61 = true) :
    Calls Tryz.prog 78 #[.pointer (some ⟨b, 0, none⟩)] w fun e w' => e = .returned (.int .i64 4) ∧ Rr w' b s (tk s.data.toList (tk s.data.toList st 60 62).2 61 61).2 ∧ Oth b w w' := by
  have H1 := Lib.hid h1
  have H2 := Lib.hid h2
  have H3 := Lib.hid h3
  have H4 := Lib.hid h4
  clear h1 h2 h3 h4
  go_enter Tryz.func78, Tryz.ntmps78
  go_wp2_with fail
  refine (next_is b s st 60 60 60 60 rfl rfl _ (by exact h) hz false H1.out).mono ?_
  rintro e w1 ⟨rfl, r1, o1⟩
  go_wp2_with fail
  refine (next_is b s st 62 62 62 62 rfl rfl _ (by exact r1) hz true H2.out).mono ?_
  rintro e w2 ⟨rfl, r2, o2⟩
  go_wp2_with fail
  refine (next_is b s st 33 33 33 33 rfl rfl _ (by exact r2) hz T3 H3.out).mono ?_
  rintro e w3 ⟨rfl, r3, o3⟩
  go_wp2_with fail
  refine (take_is b s st 60 62 60 62 rfl rfl _ (by exact r3) hz _ rfl).mono ?_
  rintro e w4 ⟨rfl, r4, o4⟩
  go_wp2_with fail
  refine (next_is b s _ 61 61 61 61 rfl rfl _ (by exact r4) hz true H4.out).mono ?_
  rintro e w5 ⟨rfl, r5, o5⟩
  go_wp2_with fail
  refine (take_is b s _ 61 61 61 61 rfl rfl _ (by exact r5) hz _ rfl).mono ?_
  rintro e w6 ⟨rfl, r6, o6⟩
  go_wp2
  go_ret
  exact ⟨rfl, r6, (((((o1.trans o2).trans o3).trans o4).trans o5).trans o6)⟩

set_option maxRecDepth 100000 in
set_option maxHeartbeats 1600000 in
theorem rop_gt (b : Nat) (s : ByteArray) (st : Option Nat) (T3 : Bool) (w : World) (h : Rr w b s st) (hz : s.size ≤ 4096) (h1 : nx s.data.toList st 60 60 = false) (h2 : nx s.data.toList st 62 62 = true) (h3 : nx s.data.toList st 33 33 = T3) (h4 : nx s.data.toList (tk s.data.toList st 60 62).2 61 61 = false) :
    Calls Tryz.prog 78 #[.pointer (some ⟨b, 0, none⟩)] w fun e w' => e = .returned (.int .i64 5) ∧ Rr w' b s (tk s.data.toList st 60 62).2 ∧ Oth b w w' := by
  have H1 := Lib.hid h1
  have H2 := Lib.hid h2
  have H3 := Lib.hid h3
  have H4 := Lib.hid h4
  clear h1 h2 h3 h4
  go_enter Tryz.func78, Tryz.ntmps78
  go_wp2_with fail
  refine (next_is b s st 60 60 60 60 rfl rfl _ (by exact h) hz false H1.out).mono ?_
  rintro e w1 ⟨rfl, r1, o1⟩
  go_wp2_with fail
  refine (next_is b s st 62 62 62 62 rfl rfl _ (by exact r1) hz true H2.out).mono ?_
  rintro e w2 ⟨rfl, r2, o2⟩
  go_wp2_with fail
  refine (next_is b s st 33 33 33 33 rfl rfl _ (by exact r2) hz T3 H3.out).mono ?_
  rintro e w3 ⟨rfl, r3, o3⟩
  go_wp2_with fail
  refine (take_is b s st 60 62 60 62 rfl rfl _ (by exact r3) hz _ rfl).mono ?_
  rintro e w4 ⟨rfl, r4, o4⟩
  go_wp2_with fail
  refine (next_is b s _ 61 61 61 61 rfl rfl _ (by exact r4) hz false H4.out).mono ?_
  rintro e w5 ⟨rfl, r5, o5⟩
  go_wp2
  go_ret
  exact ⟨rfl, r5, ((((o1.trans o2).trans o3).trans o4).trans o5)⟩

set_option maxRecDepth 100000 in
set_option maxHeartbeats 1600000 in
theorem rop_ne (b : Nat) (s : ByteArray) (st : Option Nat) (w : World) (h : Rr w b s st) (hz : s.size ≤ 4096) (h1 : nx s.data.toList st 60 60 = false) (h2 : nx s.data.toList st 62 62 = false) (h3 : nx s.data.toList st 33 33 = true) :
    Calls Tryz.prog 78 #[.pointer (some ⟨b, 0, none⟩)] w fun e w' => e = .returned (.int .i64 3) ∧ Rr w' b s (wd s.data.toList st (ByteArray.mk #[33, 61]).data.toList) ∧ Oth b w w' := by
  have H1 := Lib.hid h1
  have H2 := Lib.hid h2
  have H3 := Lib.hid h3
  clear h1 h2 h3
  go_enter Tryz.func78, Tryz.ntmps78
  go_wp2_with fail
  refine (next_is b s st 60 60 60 60 rfl rfl _ (by exact h) hz false H1.out).mono ?_
  rintro e w1 ⟨rfl, r1, o1⟩
  go_wp2_with fail
  refine (next_is b s st 62 62 62 62 rfl rfl _ (by exact r1) hz false H2.out).mono ?_
  rintro e w2 ⟨rfl, r2, o2⟩
  go_wp2_with fail
  refine (next_is b s st 33 33 33 33 rfl rfl _ (by exact r2) hz true H3.out).mono ?_
  rintro e w3 ⟨rfl, r3, o3⟩
  go_wp2_with fail
  refine (word_is b s _ st _ (by exact r3) hz (by decide) _ rfl).mono ?_
  rintro e w4 ⟨rfl, r4, o4⟩
  go_wp2
  go_ret
  exact ⟨rfl, r4, (((o1.trans o2).trans o3).trans o4)⟩

set_option maxRecDepth 100000 in
set_option maxHeartbeats 1600000 in
theorem rop_eq (b : Nat) (s : ByteArray) (st : Option Nat) (w : World) (h : Rr w b s st) (hz : s.size ≤ 4096) (h1 : nx s.data.toList st 60 60 = false) (h2 : nx s.data.toList st 62 62 = false) (h3 : nx s.data.toList st 33 33 = false) :
    Calls Tryz.prog 78 #[.pointer (some ⟨b, 0, none⟩)] w fun e w' => e = .returned (.int .i64 2) ∧ Rr w' b s (tk s.data.toList st 61 61).2 ∧ Oth b w w' := by
  have H1 := Lib.hid h1
  have H2 := Lib.hid h2
  have H3 := Lib.hid h3
  clear h1 h2 h3
  go_enter Tryz.func78, Tryz.ntmps78
  go_wp2_with fail
  refine (next_is b s st 60 60 60 60 rfl rfl _ (by exact h) hz false H1.out).mono ?_
  rintro e w1 ⟨rfl, r1, o1⟩
  go_wp2_with fail
  refine (next_is b s st 62 62 62 62 rfl rfl _ (by exact r1) hz false H2.out).mono ?_
  rintro e w2 ⟨rfl, r2, o2⟩
  go_wp2_with fail
  refine (next_is b s st 33 33 33 33 rfl rfl _ (by exact r2) hz false H3.out).mono ?_
  rintro e w3 ⟨rfl, r3, o3⟩
  go_wp2_with fail
  refine (take_is b s st 61 61 61 61 rfl rfl _ (by exact r3) hz _ rfl).mono ?_
  rintro e w4 ⟨rfl, r4, o4⟩
  go_wp2
  go_ret
  exact ⟨rfl, r4, (((o1.trans o2).trans o3).trans o4)⟩

/-- op. -/
theorem rop_any (b : Nat) (s : ByteArray) (st : Option Nat) (w : World) (h : Rr w b s st) (hz : s.size ≤ 4096) :
    Calls Tryz.prog 78 #[.pointer (some ⟨b, 0, none⟩)] w fun e w' => e = .returned (.int .i64 (rop s.data.toList st).1) ∧ Rr w' b s (rop s.data.toList st).2 ∧ Oth b w w' := by
  cases h1 : nx s.data.toList st 60 60 with
  | true =>
    cases h4 : nx s.data.toList (tk s.data.toList st 60 62).2 61 61 with
    | true => simp only [rop, h1, h4, if_true]; exact rop_le b s st _ _ w h hz h1 rfl rfl h4
    | false => simp only [rop, h1, h4, if_true, Bool.false_eq_true, if_false]; exact rop_lt b s st _ _ w h hz h1 rfl rfl h4
  | false =>
    cases h2 : nx s.data.toList st 62 62 with
    | true =>
      cases h4 : nx s.data.toList (tk s.data.toList st 60 62).2 61 61 with
      | true => simp only [rop, h1, h2, h4, if_true, Bool.false_eq_true, if_false]; exact rop_ge b s st _ w h hz h1 h2 rfl h4
      | false => simp only [rop, h1, h2, h4, if_true, Bool.false_eq_true, if_false]; exact rop_gt b s st _ w h hz h1 h2 rfl h4
    | false =>
      cases h3 : nx s.data.toList st 33 33 with
      | true => simp only [rop, h1, h2, h3, if_true, Bool.false_eq_true, if_false]; exact rop_ne b s st w h hz h1 h2 h3
      | false => simp only [rop, h1, h2, h3, Bool.false_eq_true, if_false]; exact rop_eq b s st w h hz h1 h2 h3

set_option maxHeartbeats 1600000 in
theorem rsigned_any (b : Nat) (s : ByteArray) (st : Option Nat) (w : World) (h : Rr w b s st) (hz : s.size ≤ 4096) :
    Calls Tryz.prog 79 #[.pointer (some ⟨b, 0, none⟩)] w fun e w' => e = .returned (.int .i64 (rsigned s.data.toList st).1) ∧ Rr w' b s (rsigned s.data.toList st).2 ∧ Oth b w w' := by
  cases h1 : nx s.data.toList st 45 45 with
  | true =>
    simp only [rsigned, h1, if_true]
    have bd := nm_bd s (tk s.data.toList st 45 45).2 49 (by decide)
    have H1 := Lib.hid h1
    clear h1
    obtain ⟨K, hK⟩ : ∃ K, nm s.data.toList (tk s.data.toList st 45 45).2 49 = K := ⟨_, rfl⟩
    rw [hK] at bd ⊢
    have HK := Lib.hid hK
    clear hK
    obtain ⟨b1, b2⟩ := bd
    go_enter Tryz.func79, Tryz.ntmps79
    go_wp2_with fail
    refine (next_is b s st 45 45 45 45 rfl rfl _ (by exact h) hz true H1.out).mono ?_
    rintro e w1 ⟨rfl, r1, o1⟩
    go_wp2_with fail
    refine (take_is b s st 45 45 45 45 rfl rfl _ (by exact r1) hz _ rfl).mono ?_
    rintro e w2 ⟨rfl, r2, o2⟩
    go_wp2_with fail
    refine (num_is b s _ 49 49 rfl (by decide) _ (by exact r2) hz K HK.out).mono ?_
    rintro e w3 ⟨rfl, r3, o3⟩
    go_wp2
    go_ret
    exact ⟨rfl, r3, (o1.trans o2).trans o3⟩
  | false =>
    simp only [rsigned, h1, Bool.false_eq_true, if_false]
    have H1 := Lib.hid h1
    clear h1
    go_enter Tryz.func79, Tryz.ntmps79
    go_wp2_with fail
    refine (next_is b s st 45 45 45 45 rfl rfl _ (by exact h) hz false H1.out).mono ?_
    rintro e w1 ⟨rfl, r1, o1⟩
    go_wp2_with fail
    refine (take_is b s st 43 43 43 43 rfl rfl _ (by exact r1) hz _ rfl).mono ?_
    rintro e w2 ⟨rfl, r2, o2⟩
    go_wp2_with fail
    refine (num_is b s _ 49 49 rfl (by decide) _ (by exact r2) hz _ rfl).mono ?_
    rintro e w3 ⟨rfl, r3, o3⟩
    go_wp2
    go_ret
    exact ⟨rfl, r3, (o1.trans o2).trans o3⟩
end Go.Proofs.YthbiiccblcoogaaGreatDoor
