/- oxbowref19's step. -/
import Derived.Test.YthbiiccblcoogaaGreatDoorRefF
set_option linter.unusedVariables false
set_option linter.unusedSimpArgs false
namespace Go.Proofs.YthbiiccblcoogaaGreatDoor
open Go.RowKit

set_option maxRecDepth 100000 in
set_option maxHeartbeats 3200000 in
theorem rstep_any (b A : Nat) (s : ByteArray) (st : Option Nat) (w : World) (h : Rr w b s st) (hz : s.size ≤ 4096) (hA : A ≤ 8) :
    Calls Tryz.prog 41 #[.pointer (some ⟨b, 0, none⟩), .int .i64 A] w fun e w' => e = .returned (encS (rstep s.data.toList A st).1) ∧ Rr w' b s (rstep s.data.toList A st).2 ∧ Oth b w w' := by
  obtain ⟨R, hR⟩ : ∃ R, rstep s.data.toList A st = R := ⟨_, rfl⟩
  rw [hR]
  have HR := Lib.hid hR
  clear hR
  have hbb := h.lt
  have S0 := Sg.start h
  obtain ⟨T, hT⟩ : ∃ T, nx s.data.toList st 33 33 = T := ⟨_, rfl⟩
  have HT := Lib.hid hT
  clear hT
  obtain ⟨at0, ca⟩ := S0.at
  have c2 := S0.blk.cell 2 _ rfl
  have cf := fun i => S0.blk.frozen i
  go_enter Tryz.func41, Tryz.ntmps41
  go_upto_if 20 with (go_at_call 42; refine (next_is b s st 33 33 33 33 rfl rfl _ (by exact S0.rd) hz T HT.out).mono ?_; rintro e w1 ⟨rfl, r1, o1⟩; have S1 := S0.via hbb r1 o1; have d2 := S1.blk.cell 2 _ rfl; have df := fun i => S1.blk.frozen i; have S2 := S1.set hbb 2 (.bool T); have e2 := S2.blk.cell 2 _ rfl)
  go_cut [] (fun wr => Sg b s w (rstepHead s.data.toList A st) #[.int .u8 0, .int .u8 0, .bool T, .int .i64 1, .int .i64 1] wr)
  case first =>
    rcases T with _ | _
    · have e : rstepHead s.data.toList A st = st := by unfold rstepHead; rw [HT.out]; rfl
      go_wp2
      go_meet
      rw [e]
      exact S2
    · by_cases h8 : 8 ≤ A
      · have e : rstepHead s.data.toList A st = none := by unfold rstepHead; rw [HT.out, if_pos rfl, if_pos h8]
        have h8' : (8 : Int) ≤ A := by omega
        go_wp2_with fail
        refine (take_is b s st 33 33 33 33 rfl rfl _ (by exact S2.rd) hz _ rfl).mono ?_
        rintro e w3 ⟨rfl, r3, o3⟩
        have S3 := S2.via hbb r3 o3
        go_wp2_with fail
        refine (rfail_any b s _ _ 24 (by decide) _ (by exact r3)).mono ?_
        rintro e w4 ⟨rfl, r4, o4⟩
        go_wp2
        go_meet
        rw [e]
        exact S3.via hbb r4 o4
      · have e : rstepHead s.data.toList A st = (tk s.data.toList st 33 33).2 := by unfold rstepHead; rw [HT.out, if_pos rfl, if_neg h8]
        have h8' : (A : Int) < 8 := by omega
        go_wp2_with fail
        refine (take_is b s st 33 33 33 33 rfl rfl _ (by exact S2.rd) hz _ rfl).mono ?_
        rintro e w3 ⟨rfl, r3, o3⟩
        go_wp2
        go_meet
        rw [e]
        exact S2.via hbb r3 o3
  case rest =>
    have S3 : Sg b s w (rstepHead s.data.toList A st) #[.int .u8 0, .int .u8 0, .bool T, .int .i64 1, .int .i64 1] wc := hcut
    clear hcut S0 S1 S2 c2 cf d2 df e2 ca
    obtain ⟨K, hK⟩ : ∃ K, tk s.data.toList (rstepHead s.data.toList A st) 65 90 = K := ⟨_, rfl⟩
    have HK := Lib.hid hK
    clear hK
    go_upto_if 32 with (go_at_call 43; refine (take_is b s _ 65 90 65 90 rfl rfl _ (by exact S3.rd) hz K HK.out).mono ?_; rintro e w3 ⟨rfl, r3, o3⟩; have S4 := S3.via hbb r3 o3; have d0 := S4.blk.cell 0 _ rfl; have df := fun i => S4.blk.frozen i; have S5 := S4.set hbb 0 (.int .u8 K.1.toNat))
    go_cut [] (fun wr => Sg b s w (if 8 ≤ A then none else K.2) #[.int .u8 K.1.toNat, .int .u8 0, .bool T, .int .i64 1, .int .i64 1] wr)
    case first =>
      by_cases h8 : 8 ≤ A
      · have h8' : (8 : Int) ≤ A := by omega
        go_wp2_with fail
        refine (rfail_any b s _ _ 24 (by decide) _ (by exact S5.rd)).mono ?_
        rintro e w4 ⟨rfl, r4, o4⟩
        go_wp2
        go_meet
        rw [if_pos h8]
        exact S5.via hbb r4 o4
      · have h8' : (A : Int) < 8 := by omega
        go_wp2
        go_meet
        rw [if_neg h8]
        exact S5
    case rest =>
      have S6 : Sg b s w (if 8 ≤ A then none else K.2) #[.int .u8 K.1.toNat, .int .u8 0, .bool T, .int .i64 1, .int .i64 1] wc := hcut
      clear hcut
      obtain ⟨st3, hst3⟩ : ∃ x, (if 8 ≤ A then none else K.2) = x := ⟨_, rfl⟩
      rw [hst3] at S6
      have HS3 := Lib.hid hst3
      clear hst3
      obtain ⟨B, hB⟩ : ∃ B, tk s.data.toList st3 32 32 = B := ⟨_, rfl⟩
      have HB := Lib.hid hB
      clear hB
      obtain ⟨C, hC⟩ : ∃ C, tk s.data.toList B.2 97 122 = C := ⟨_, rfl⟩
      have HC := Lib.hid hC
      clear hC
      obtain ⟨U, hU⟩ : ∃ U, nx s.data.toList C.2 123 123 = U := ⟨_, rfl⟩
      have HU := Lib.hid hU
      clear hU
      have hr : rstep s.data.toList A st = rstepTail s.data.toList K.1 C.1 T C.2 := by
        simp only [rstep, HT.out, HK.out, HS3.out, HB.out, HC.out]
      rw [HR.out] at hr
      unfold rstepTail at hr
      rw [HU.out] at hr
      have HRR := Lib.hid hr
      clear hr HR
      go_wp2_with fail
      refine (take_is b s st3 32 32 32 32 rfl rfl _ (by exact S6.rd) hz B HB.out).mono ?_
      rintro e w7 ⟨rfl, r7, o7⟩
      have S7 := S6.via hbb r7 o7
      go_wp2_with fail
      refine (take_is b s _ 97 122 97 122 rfl rfl _ (by exact r7) hz C HC.out).mono ?_
      rintro e w8 ⟨rfl, r8, o8⟩
      have S8 := S7.via hbb r8 o8
      have i1 := S8.blk.cell 1 _ rfl
      have jf := fun i => S8.blk.frozen i
      have S9 : Sg b s w C.2 #[.int .u8 K.1.toNat, .int .u8 C.1.toNat, .bool T, .int .i64 1, .int .i64 1] (w8.setCell ⟨w.heap.size + 1, 1, none⟩ (.int .u8 C.1.toNat)) := S8.set hbb 1 (.int .u8 C.1.toNat)
      obtain ⟨at8, ca8⟩ := S8.at
      obtain ⟨at9, ca9⟩ := S9.at
      go_upto_if 48 with (go_at_call 42; refine (next_is b s C.2 123 123 123 123 rfl rfl _ (by exact S9.rd) hz U HU.out).mono ?_; rintro e w9 ⟨rfl, r9, o9⟩; have S10 := S9.via hbb r9 o9)
      rcases U with _ | _
      ·
        have e : R = (⟨K.1, C.1, T, 1, 1⟩, C.2) := by rw [HRR.out]; simp
        have y0 := S10.blk.cell 0 _ rfl
        have y1 := S10.blk.cell 1 _ rfl
        have y2 := S10.blk.cell 2 _ rfl
        have y3 := S10.blk.cell 3 _ rfl
        have y4 := S10.blk.cell 4 _ rfl
        have z0 := S10.res.cell 0 _ rfl
        have z1 := S10.res.cell 1 _ rfl
        have z2 := S10.res.cell 2 _ rfl
        have z3 := S10.res.cell 3 _ rfl
        have z4 := S10.res.cell 4 _ rfl
        have yf := fun i => S10.blk.frozen i
        have zf := fun i => S10.res.frozen i
        go_wp2
        have LF := (((((S10.res.set 0 (.int .u8 K.1.toNat)).set 1 (.int .u8 C.1.toNat)).set 2 (.bool T)).set 3 (.int .i64 1)).set 4 (.int .i64 1))
        have q0 := LF.cell 0 _ rfl
        have q1 := LF.cell 1 _ rfl
        have q2 := LF.cell 2 _ rfl
        have q3 := LF.cell 3 _ rfl
        have q4 := LF.cell 4 _ rfl
        refine bodyPost_ret (v := encS ⟨K.1, C.1, T, 1, 1⟩) (by simp only [results, Tryz.results41]; simp [go_sem, q0, q1, q2, q3, q4, encS]) rfl ⟨by rw [e], ?_, ?_⟩
        · rw [e]
          iterate 5 refine Rr.other ?_ _ _ (by dsimp only; omega)
          exact S10.rd
        · iterate 5 refine Oth.new ?_ (Nat.le_refl _) _
          exact S10.oth
      · go_wp2_with fail
        refine (take_is b s _ 123 123 123 123 rfl rfl _ (by exact S10.rd) hz _ rfl).mono ?_
        rintro e w11 ⟨rfl, r11, o11⟩
        have S11 := S10.via hbb r11 o11
        have t2 := S11.blk.cell 2 _ rfl
        rcases T with _ | _
        ·
          obtain ⟨X6, hX6⟩ : ∃ x, (tk s.data.toList C.2 123 123).2 = x := ⟨_, rfl⟩
          rw [hX6] at S11 r11
          obtain ⟨L, hL⟩ : ∃ x, nm s.data.toList X6 48 = x := ⟨_, rfl⟩
          obtain ⟨X8, hX8⟩ : ∃ x, (tk s.data.toList L.2 44 44).2 = x := ⟨_, rfl⟩
          obtain ⟨H, hH⟩ : ∃ x, nm s.data.toList X8 48 = x := ⟨_, rfl⟩
          obtain ⟨X10, hX10⟩ : ∃ x, (tk s.data.toList H.2 125 125).2 = x := ⟨_, rfl⟩
          have hrr := HRR.out
          simp only [if_true, Bool.false_eq_true, if_false, hX6, hL, hX8, hH, hX10] at hrr
          have HRQ := Lib.hid hrr
          have HX8 := Lib.hid hX8
          have HX10 := Lib.hid hX10
          have HL := Lib.hid hL
          have HH := Lib.hid hH
          clear hrr hX6 hL hX8 hH hX10
          go_wp2_with fail
          refine (num_is b s X6 48 48 rfl (by decide) _ (by exact S11.rd) hz L HL.out).mono ?_
          rintro e w12 ⟨rfl, r12, o12⟩
          have S12 := S11.via hbb r12 o12
          go_wp2_with fail
          refine (take_is b s L.2 44 44 44 44 rfl rfl _ (by exact r12) hz _ rfl).mono ?_
          rw [HX8.out]
          rintro e w13 ⟨rfl, r13, o13⟩
          have S13 := S12.via hbb r13 o13
          go_wp2_with fail
          refine (num_is b s X8 48 48 rfl (by decide) _ (by exact r13) hz H HH.out).mono ?_
          rintro e w14 ⟨rfl, r14, o14⟩
          have S14 := S13.via hbb r14 o14
          go_wp2_with fail
          refine (take_is b s H.2 125 125 125 125 rfl rfl _ (by exact r14) hz _ rfl).mono ?_
          rw [HX10.out]
          rintro e w15 ⟨rfl, r15, o15⟩
          have S15 := S14.via hbb r15 o15
          obtain ⟨lo, X7⟩ := L
          obtain ⟨hi, X9⟩ := H
          simp only at HRQ
          have hrq := HRQ.out
          clear HRQ HRR
          by_cases k1 : lo < 1
          · rw [if_pos (.inl k1)] at hrq
            have HRQ := Lib.hid hrq
            clear hrq
            go_wp2_with fail
            refine (rfail_any b s _ _ 22 (by decide) _ (by exact r15)).mono ?_
            rintro e w16 ⟨rfl, r16, o16⟩
            have S16 := S15.via hbb r16 o16
            have e : R = (⟨K.1, C.1, false, 1, 1⟩, none) := HRQ.out
            have y0 := S16.blk.cell 0 _ rfl
            have y1 := S16.blk.cell 1 _ rfl
            have y2 := S16.blk.cell 2 _ rfl
            have y3 := S16.blk.cell 3 _ rfl
            have y4 := S16.blk.cell 4 _ rfl
            have z0 := S16.res.cell 0 _ rfl
            have z1 := S16.res.cell 1 _ rfl
            have z2 := S16.res.cell 2 _ rfl
            have z3 := S16.res.cell 3 _ rfl
            have z4 := S16.res.cell 4 _ rfl
            have yf := fun i => S16.blk.frozen i
            have zf := fun i => S16.res.frozen i
            go_wp2
            have LF := (((((S16.res.set 0 (.int .u8 K.1.toNat)).set 1 (.int .u8 C.1.toNat)).set 2 (.bool false)).set 3 (.int .i64 1)).set 4 (.int .i64 1))
            have q0 := LF.cell 0 _ rfl
            have q1 := LF.cell 1 _ rfl
            have q2 := LF.cell 2 _ rfl
            have q3 := LF.cell 3 _ rfl
            have q4 := LF.cell 4 _ rfl
            refine bodyPost_ret (v := encS ⟨K.1, C.1, false, 1, 1⟩) (by simp only [results, Tryz.results41]; simp [go_sem, q0, q1, q2, q3, q4, encS]) rfl ⟨by rw [e], ?_, ?_⟩
            · rw [e]
              iterate 5 refine Rr.other ?_ _ _ (by dsimp only; omega)
              exact S16.rd
            · iterate 5 refine Oth.new ?_ (Nat.le_refl _) _
              exact S16.oth
          by_cases k2 : hi < lo
          · rw [if_pos (.inr (.inl k2))] at hrq
            have HRQ := Lib.hid hrq
            clear hrq
            go_wp2_with fail
            refine (rfail_any b s _ _ 22 (by decide) _ (by exact r15)).mono ?_
            rintro e w16 ⟨rfl, r16, o16⟩
            have S16 := S15.via hbb r16 o16
            have e : R = (⟨K.1, C.1, false, 1, 1⟩, none) := HRQ.out
            have y0 := S16.blk.cell 0 _ rfl
            have y1 := S16.blk.cell 1 _ rfl
            have y2 := S16.blk.cell 2 _ rfl
            have y3 := S16.blk.cell 3 _ rfl
            have y4 := S16.blk.cell 4 _ rfl
            have z0 := S16.res.cell 0 _ rfl
            have z1 := S16.res.cell 1 _ rfl
            have z2 := S16.res.cell 2 _ rfl
            have z3 := S16.res.cell 3 _ rfl
            have z4 := S16.res.cell 4 _ rfl
            have yf := fun i => S16.blk.frozen i
            have zf := fun i => S16.res.frozen i
            go_wp2
            have LF := (((((S16.res.set 0 (.int .u8 K.1.toNat)).set 1 (.int .u8 C.1.toNat)).set 2 (.bool false)).set 3 (.int .i64 1)).set 4 (.int .i64 1))
            have q0 := LF.cell 0 _ rfl
            have q1 := LF.cell 1 _ rfl
            have q2 := LF.cell 2 _ rfl
            have q3 := LF.cell 3 _ rfl
            have q4 := LF.cell 4 _ rfl
            refine bodyPost_ret (v := encS ⟨K.1, C.1, false, 1, 1⟩) (by simp only [results, Tryz.results41]; simp [go_sem, q0, q1, q2, q3, q4, encS]) rfl ⟨by rw [e], ?_, ?_⟩
            · rw [e]
              iterate 5 refine Rr.other ?_ _ _ (by dsimp only; omega)
              exact S16.rd
            · iterate 5 refine Oth.new ?_ (Nat.le_refl _) _
              exact S16.oth
          by_cases k3 : 4 < hi
          · rw [if_pos (.inr (.inr (.inl k3)))] at hrq
            have HRQ := Lib.hid hrq
            clear hrq
            go_wp2_with fail
            refine (rfail_any b s _ _ 22 (by decide) _ (by exact r15)).mono ?_
            rintro e w16 ⟨rfl, r16, o16⟩
            have S16 := S15.via hbb r16 o16
            have e : R = (⟨K.1, C.1, false, 1, 1⟩, none) := HRQ.out
            have y0 := S16.blk.cell 0 _ rfl
            have y1 := S16.blk.cell 1 _ rfl
            have y2 := S16.blk.cell 2 _ rfl
            have y3 := S16.blk.cell 3 _ rfl
            have y4 := S16.blk.cell 4 _ rfl
            have z0 := S16.res.cell 0 _ rfl
            have z1 := S16.res.cell 1 _ rfl
            have z2 := S16.res.cell 2 _ rfl
            have z3 := S16.res.cell 3 _ rfl
            have z4 := S16.res.cell 4 _ rfl
            have yf := fun i => S16.blk.frozen i
            have zf := fun i => S16.res.frozen i
            go_wp2
            have LF := (((((S16.res.set 0 (.int .u8 K.1.toNat)).set 1 (.int .u8 C.1.toNat)).set 2 (.bool false)).set 3 (.int .i64 1)).set 4 (.int .i64 1))
            have q0 := LF.cell 0 _ rfl
            have q1 := LF.cell 1 _ rfl
            have q2 := LF.cell 2 _ rfl
            have q3 := LF.cell 3 _ rfl
            have q4 := LF.cell 4 _ rfl
            refine bodyPost_ret (v := encS ⟨K.1, C.1, false, 1, 1⟩) (by simp only [results, Tryz.results41]; simp [go_sem, q0, q1, q2, q3, q4, encS]) rfl ⟨by rw [e], ?_, ?_⟩
            · rw [e]
              iterate 5 refine Rr.other ?_ _ _ (by dsimp only; omega)
              exact S16.rd
            · iterate 5 refine Oth.new ?_ (Nat.le_refl _) _
              exact S16.oth
          by_cases k4 : hi < 2
          · rw [if_pos (.inr (.inr (.inr k4)))] at hrq
            have HRQ := Lib.hid hrq
            clear hrq
            go_wp2_with fail
            refine (rfail_any b s _ _ 22 (by decide) _ (by exact r15)).mono ?_
            rintro e w16 ⟨rfl, r16, o16⟩
            have S16 := S15.via hbb r16 o16
            have e : R = (⟨K.1, C.1, false, 1, 1⟩, none) := HRQ.out
            have y0 := S16.blk.cell 0 _ rfl
            have y1 := S16.blk.cell 1 _ rfl
            have y2 := S16.blk.cell 2 _ rfl
            have y3 := S16.blk.cell 3 _ rfl
            have y4 := S16.blk.cell 4 _ rfl
            have z0 := S16.res.cell 0 _ rfl
            have z1 := S16.res.cell 1 _ rfl
            have z2 := S16.res.cell 2 _ rfl
            have z3 := S16.res.cell 3 _ rfl
            have z4 := S16.res.cell 4 _ rfl
            have yf := fun i => S16.blk.frozen i
            have zf := fun i => S16.res.frozen i
            go_wp2
            have LF := (((((S16.res.set 0 (.int .u8 K.1.toNat)).set 1 (.int .u8 C.1.toNat)).set 2 (.bool false)).set 3 (.int .i64 1)).set 4 (.int .i64 1))
            have q0 := LF.cell 0 _ rfl
            have q1 := LF.cell 1 _ rfl
            have q2 := LF.cell 2 _ rfl
            have q3 := LF.cell 3 _ rfl
            have q4 := LF.cell 4 _ rfl
            refine bodyPost_ret (v := encS ⟨K.1, C.1, false, 1, 1⟩) (by simp only [results, Tryz.results41]; simp [go_sem, q0, q1, q2, q3, q4, encS]) rfl ⟨by rw [e], ?_, ?_⟩
            · rw [e]
              iterate 5 refine Rr.other ?_ _ _ (by dsimp only; omega)
              exact S16.rd
            · iterate 5 refine Oth.new ?_ (Nat.le_refl _) _
              exact S16.oth
          · rw [if_neg (by rintro (h | h | h | h) <;> contradiction)] at hrq
            have HRQ := Lib.hid hrq
            clear hrq
            have j3 := S15.blk.cell 3 _ rfl
            have j4 := S15.blk.cell 4 _ rfl
            have jf' := fun i => S15.blk.frozen i
            have S16 : Sg b s w X10 #[.int .u8 K.1.toNat, .int .u8 C.1.toNat, .bool false, .int .i64 lo, .int .i64 hi] ((w15.setCell ⟨w.heap.size + 1, 3, none⟩ (.int .i64 lo)).setCell ⟨w.heap.size + 1, 4, none⟩ (.int .i64 hi)) := (S15.set hbb 3 (.int .i64 lo)).set hbb 4 (.int .i64 hi)
            have e : R = (⟨K.1, C.1, false, lo, hi⟩, X10) := HRQ.out
            have y0 := S16.blk.cell 0 _ rfl
            have y1 := S16.blk.cell 1 _ rfl
            have y2 := S16.blk.cell 2 _ rfl
            have y3 := S16.blk.cell 3 _ rfl
            have y4 := S16.blk.cell 4 _ rfl
            have z0 := S16.res.cell 0 _ rfl
            have z1 := S16.res.cell 1 _ rfl
            have z2 := S16.res.cell 2 _ rfl
            have z3 := S16.res.cell 3 _ rfl
            have z4 := S16.res.cell 4 _ rfl
            have yf := fun i => S16.blk.frozen i
            have zf := fun i => S16.res.frozen i
            go_wp2
            have LF := (((((S16.res.set 0 (.int .u8 K.1.toNat)).set 1 (.int .u8 C.1.toNat)).set 2 (.bool false)).set 3 (.int .i64 lo)).set 4 (.int .i64 hi))
            have q0 := LF.cell 0 _ rfl
            have q1 := LF.cell 1 _ rfl
            have q2 := LF.cell 2 _ rfl
            have q3 := LF.cell 3 _ rfl
            have q4 := LF.cell 4 _ rfl
            refine bodyPost_ret (v := encS ⟨K.1, C.1, false, lo, hi⟩) (by simp only [results, Tryz.results41]; simp [go_sem, q0, q1, q2, q3, q4, encS]) rfl ⟨by rw [e], ?_, ?_⟩
            · rw [e]
              iterate 5 refine Rr.other ?_ _ _ (by dsimp only; omega)
              exact S16.rd
            · iterate 5 refine Oth.new ?_ (Nat.le_refl _) _
              exact S16.oth
        · go_wp2_with fail
          refine (rfail_any b s _ _ 22 (by decide) _ (by exact S11.rd)).mono ?_
          rintro e w12 ⟨rfl, r12, o12⟩
          have S12 := S11.via hbb r12 o12
          have e : R = (⟨K.1, C.1, true, 1, 1⟩, none) := by rw [HRR.out]; simp
          have y0 := S12.blk.cell 0 _ rfl
          have y1 := S12.blk.cell 1 _ rfl
          have y2 := S12.blk.cell 2 _ rfl
          have y3 := S12.blk.cell 3 _ rfl
          have y4 := S12.blk.cell 4 _ rfl
          have z0 := S12.res.cell 0 _ rfl
          have z1 := S12.res.cell 1 _ rfl
          have z2 := S12.res.cell 2 _ rfl
          have z3 := S12.res.cell 3 _ rfl
          have z4 := S12.res.cell 4 _ rfl
          have yf := fun i => S12.blk.frozen i
          have zf := fun i => S12.res.frozen i
          go_wp2
          have LF := (((((S12.res.set 0 (.int .u8 K.1.toNat)).set 1 (.int .u8 C.1.toNat)).set 2 (.bool true)).set 3 (.int .i64 1)).set 4 (.int .i64 1))
          have q0 := LF.cell 0 _ rfl
          have q1 := LF.cell 1 _ rfl
          have q2 := LF.cell 2 _ rfl
          have q3 := LF.cell 3 _ rfl
          have q4 := LF.cell 4 _ rfl
          refine bodyPost_ret (v := encS ⟨K.1, C.1, true, 1, 1⟩) (by simp only [results, Tryz.results41]; simp [go_sem, q0, q1, q2, q3, q4, encS]) rfl ⟨by rw [e], ?_, ?_⟩
          · rw [e]
            iterate 5 refine Rr.other ?_ _ _ (by dsimp only; omega)
            exact S12.rd
          · iterate 5 refine Oth.new ?_ (Nat.le_refl _) _
            exact S12.oth
end Go.Proofs.YthbiiccblcoogaaGreatDoor
