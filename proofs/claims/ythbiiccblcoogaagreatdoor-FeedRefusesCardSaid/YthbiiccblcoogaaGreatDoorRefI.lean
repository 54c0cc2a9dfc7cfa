/- oxbowref19's cond. -/
import Derived.Test.YthbiiccblcoogaaGreatDoorRefH
set_option linter.unusedVariables false
set_option linter.unusedSimpArgs false
namespace Go.Proofs.YthbiiccblcoogaaGreatDoor
open Go.RowKit

/-- What 'cond' of the definitions gives. -/
def rcondTail (l : List UInt8) (left : UInt8) (o : Int) (st : Option Nat) : Pat.Cond × Option Nat :=
  if nx l st 48 57 = true then (⟨left, o, 0, (nm l st 48).1⟩, (nm l st 48).2)
  else if nx l st 45 45 = true then (⟨left, o, 0, (rsigned l st).1⟩, (rsigned l st).2)
  else
    let r := tk l st 97 122
    if nx l r.2 43 43 = true ∨ nx l r.2 45 45 = true then (⟨left, o, r.1, (rsigned l r.2).1⟩, (rsigned l r.2).2)
    else (⟨left, o, r.1, 0⟩, r.2)
def rcond (l : List UInt8) (A : Nat) (st : Option Nat) : Pat.Cond × Option Nat :=
  let a := tk l st 97 122
  let o := rop l (if 16 ≤ A then none else a.2)
  rcondTail l a.1 o.1 o.2

/-- While 'cond' runs: the reader, the result's variable, the condition's. -/
structure Cg (b : Nat) (s : ByteArray) (w : World) (st : Option Nat) (z : Array Value) (wr : World) : Prop where
  rd : Rr wr b s st
  oth : Oth b w wr
  res : Lb wr w.heap.size #[.int .u8 0, .int .i64 0, .int .u8 0, .int .i64 0] 135
  blk : Lb wr (w.heap.size + 1) z 135
theorem Cg.via {b : Nat} {s : ByteArray} {w wr W : World} {st st' : Option Nat} {z : Array Value} (hb : b < w.heap.size) (h : Cg b s w st z wr) (hr : Rr W b s st') (ho : Oth b wr W) : Cg b s w st' z W :=
  ⟨hr, h.oth.trans ho, h.res.oth ho (by omega), h.blk.oth ho (by omega)⟩
theorem Cg.set {b : Nat} {s : ByteArray} {w wr : World} {st : Option Nat} {z : Array Value} (hb : b < w.heap.size) (h : Cg b s w st z wr) (i : Nat) (v : Value) : Cg b s w st (z.setIfInBounds i v) (wr.setCell ⟨w.heap.size + 1, i, none⟩ v) :=
  ⟨h.rd.other _ _ (by dsimp only; omega), h.oth.new (Nat.le_succ _) _, h.res.other _ _ (by dsimp only; omega), h.blk.set i v⟩
theorem Cg.start {b : Nat} {s : ByteArray} {w : World} {st : Option Nat} (h : Rr w b s st) : Cg b s w st #[.int .u8 0, .int .i64 0, .int .u8 0, .int .i64 0]
    ((w.alloc (.cells #[.int .u8 0, .int .i64 0, .int .u8 0, .int .i64 0] 135)).alloc (.cells #[.int .u8 0, .int .i64 0, .int .u8 0, .int .i64 0] 135)) := by
  have h2 := Lb.new (w.alloc (.cells #[.int .u8 0, .int .i64 0, .int .u8 0, .int .i64 0] 135)) #[.int .u8 0, .int .i64 0, .int .u8 0, .int .i64 0] 135
  simp only [sz_alloc] at h2
  exact ⟨(h.alloc _).alloc _, ((Oth.refl b w).alloc _).alloc _, (Lb.new w _ 135).alloc _, h2⟩
theorem Cg.at {b : Nat} {s : ByteArray} {w wr : World} {st : Option Nat} {z : Array Value} (h : Cg b s w st z wr) : ∃ n : Nat, wr.cell? ⟨b, 1, none⟩ = some (.int .i64 n) := by
  obtain ⟨n, e, q, hb, r⟩ := h.rd; exact ⟨n, hb.cell 1 _ rfl⟩
theorem rop_is (b : Nat) (s : ByteArray) (st : Option Nat) (w : World) (h : Rr w b s st) (hz : s.size ≤ 4096) (K : Int × Option Nat) (hK : rop s.data.toList st = K) :
    Calls Tryz.prog 78 #[.pointer (some ⟨b, 0, none⟩)] w fun e w' => e = .returned (.int .i64 K.1) ∧ Rr w' b s K.2 ∧ Oth b w w' := by
  subst hK; exact rop_any b s st w h hz
theorem signed_is (b : Nat) (s : ByteArray) (st : Option Nat) (w : World) (h : Rr w b s st) (hz : s.size ≤ 4096) (K : Int × Option Nat) (hK : rsigned s.data.toList st = K) :
    Calls Tryz.prog 79 #[.pointer (some ⟨b, 0, none⟩)] w fun e w' => e = .returned (.int .i64 K.1) ∧ Rr w' b s K.2 ∧ Oth b w w' := by
  subst hK; exact rsigned_any b s st w h hz

set_option maxRecDepth 100000 in
set_option maxHeartbeats 3200000 in
theorem rcond_any (b A : Nat) (s : ByteArray) (st : Option Nat) (w : World) (h : Rr w b s st) (hz : s.size ≤ 4096) (hA : A ≤ 16) :
    Calls Tryz.prog 44 #[.pointer (some ⟨b, 0, none⟩), .int .i64 A] w fun e w' => e = .returned (encC (rcond s.data.toList A st).1) ∧ Rr w' b s (rcond s.data.toList A st).2 ∧ Oth b w w' := by
  obtain ⟨R, hR⟩ : ∃ R, rcond s.data.toList A st = R := ⟨_, rfl⟩
  rw [hR]
  have HR := Lib.hid hR
  clear hR
  have hbb := h.lt
  have S0 := Cg.start h
  obtain ⟨K, hK⟩ : ∃ K, tk s.data.toList st 97 122 = K := ⟨_, rfl⟩
  have HK := Lib.hid hK
  clear hK
  obtain ⟨at0, ca⟩ := S0.at
  go_enter Tryz.func44, Tryz.ntmps44
  go_upto_if 19 with (go_at_call 43; refine (take_is b s st 97 122 97 122 rfl rfl _ (by exact S0.rd) hz K HK.out).mono ?_; rintro e w1 ⟨rfl, r1, o1⟩; have S1 := S0.via hbb r1 o1; have d0 := S1.blk.cell 0 _ rfl; have df := fun i => S1.blk.frozen i; have S2 := S1.set hbb 0 (.int .u8 K.1.toNat))
  go_cut [] (fun wr => Cg b s w (if 16 ≤ A then none else K.2) #[.int .u8 K.1.toNat, .int .i64 0, .int .u8 0, .int .i64 0] wr)
  case first =>
    by_cases h8 : 16 ≤ A
    · have h8' : (16 : Int) ≤ A := by omega
      go_wp2_with fail
      refine (rfail_any b s _ _ 24 (by decide) _ (by exact S2.rd)).mono ?_
      rintro e w4 ⟨rfl, r4, o4⟩
      go_wp2
      go_meet
      rw [if_pos h8]
      exact S2.via hbb r4 o4
    · have h8' : (A : Int) < 16 := by omega
      go_wp2
      go_meet
      rw [if_neg h8]
      exact S2
  case rest =>
    have S3 : Cg b s w (if 16 ≤ A then none else K.2) #[.int .u8 K.1.toNat, .int .i64 0, .int .u8 0, .int .i64 0] wc := hcut
    clear hcut S0 S1 S2 d0 df ca
    obtain ⟨st3, hst3⟩ : ∃ x, (if 16 ≤ A then none else K.2) = x := ⟨_, rfl⟩
    rw [hst3] at S3
    have HS3 := Lib.hid hst3
    clear hst3
    obtain ⟨O, hO⟩ : ∃ O, rop s.data.toList st3 = O := ⟨_, rfl⟩
    have HO := Lib.hid hO
    clear hO
    have hr : rcond s.data.toList A st = rcondTail s.data.toList K.1 O.1 O.2 := by
      simp only [rcond, HK.out, HS3.out, HO.out]
    rw [HR.out] at hr
    unfold rcondTail at hr
    clear HR
    go_wp2_with fail
    refine (rop_is b s st3 _ (by exact S3.rd) hz O HO.out).mono ?_
    rintro e w5 ⟨rfl, r5, o5⟩
    have S5 := S3.via hbb r5 o5
    have i1 := S5.blk.cell 1 _ rfl
    have jf := fun i => S5.blk.frozen i
    have S6 : Cg b s w O.2 #[.int .u8 K.1.toNat, .int .i64 O.1, .int .u8 0, .int .i64 0] (w5.setCell ⟨w.heap.size + 1, 1, none⟩ (.int .i64 O.1)) := S5.set hbb 1 (.int .i64 O.1)
    cases h1 : nx s.data.toList O.2 48 57 with
    | true =>
      rw [h1, if_pos rfl] at hr
      have H1 := Lib.hid h1
      clear h1
      obtain ⟨N, hN⟩ : ∃ N, nm s.data.toList O.2 48 = N := ⟨_, rfl⟩
      rw [hN] at hr
      have HN := Lib.hid hN
      have HRQ := Lib.hid hr
      clear hN hr
      go_wp2_with fail
      refine (next_is b s O.2 48 57 48 57 rfl rfl _ (by exact S6.rd) hz true H1.out).mono ?_
      rintro e w7 ⟨rfl, r7, o7⟩
      have S7 := S6.via hbb r7 o7
      go_wp2_with fail
      refine (num_is b s O.2 48 48 rfl (by decide) _ (by exact r7) hz N HN.out).mono ?_
      rintro e w8 ⟨rfl, r8, o8⟩
      have S8 := S7.via hbb r8 o8
      have k3 := S8.blk.cell 3 _ rfl
      have kf := fun i => S8.blk.frozen i
      have S9 : Cg b s w N.2 #[.int .u8 K.1.toNat, .int .i64 O.1, .int .u8 0, .int .i64 N.1] (w8.setCell ⟨w.heap.size + 1, 3, none⟩ (.int .i64 N.1)) := S8.set hbb 3 (.int .i64 N.1)
      have e : R = (⟨K.1, O.1, 0, N.1⟩, N.2) := HRQ.out
      have y0 := S9.blk.cell 0 _ rfl
      have y1 := S9.blk.cell 1 _ rfl
      have y2 := S9.blk.cell 2 _ rfl
      have y3 := S9.blk.cell 3 _ rfl
      have z0 := S9.res.cell 0 _ rfl
      have z1 := S9.res.cell 1 _ rfl
      have z2 := S9.res.cell 2 _ rfl
      have z3 := S9.res.cell 3 _ rfl
      have yf := fun i => S9.blk.frozen i
      have zf := fun i => S9.res.frozen i
      go_wp2
      have LF := ((((S9.res.set 0 (.int .u8 K.1.toNat)).set 1 (.int .i64 O.1)).set 2 (.int .u8 0)).set 3 (.int .i64 N.1))
      have q0 := LF.cell 0 _ rfl
      have q1 := LF.cell 1 _ rfl
      have q2 := LF.cell 2 _ rfl
      have q3 := LF.cell 3 _ rfl
      refine bodyPost_ret (v := encC ⟨K.1, O.1, 0, N.1⟩) (by simp only [results, Tryz.results44]; simp [go_sem, q0, q1, q2, q3, encC]) rfl ⟨by rw [e], ?_, ?_⟩
      · rw [e]
        iterate 4 refine Rr.other ?_ _ _ (by dsimp only; omega)
        exact S9.rd
      · iterate 4 refine Oth.new ?_ (Nat.le_refl _) _
        exact S9.oth
    | false =>
      rw [h1, if_neg (by decide)] at hr
      have H1 := Lib.hid h1
      clear h1
      cases h2 : nx s.data.toList O.2 45 45 with
      | true =>
        rw [h2, if_pos rfl] at hr
        have H2 := Lib.hid h2
        clear h2
        obtain ⟨N, hN⟩ : ∃ N, rsigned s.data.toList O.2 = N := ⟨_, rfl⟩
        rw [hN] at hr
        have HN := Lib.hid hN
        have HRQ := Lib.hid hr
        clear hN hr
        go_wp2_with fail
        refine (next_is b s O.2 48 57 48 57 rfl rfl _ (by exact S6.rd) hz false H1.out).mono ?_
        rintro e w7 ⟨rfl, r7, o7⟩
        have S7 := S6.via hbb r7 o7
        go_wp2_with fail
        refine (next_is b s O.2 45 45 45 45 rfl rfl _ (by exact r7) hz true H2.out).mono ?_
        rintro e w8 ⟨rfl, r8, o8⟩
        have S8 := S7.via hbb r8 o8
        go_wp2_with fail
        refine (signed_is b s O.2 _ (by exact r8) hz N HN.out).mono ?_
        rintro e w9 ⟨rfl, r9, o9⟩
        have S9 := S8.via hbb r9 o9
        have k3 := S9.blk.cell 3 _ rfl
        have kf := fun i => S9.blk.frozen i
        have S10 : Cg b s w N.2 #[.int .u8 K.1.toNat, .int .i64 O.1, .int .u8 0, .int .i64 N.1] (w9.setCell ⟨w.heap.size + 1, 3, none⟩ (.int .i64 N.1)) := S9.set hbb 3 (.int .i64 N.1)
        have e : R = (⟨K.1, O.1, 0, N.1⟩, N.2) := HRQ.out
        have y0 := S10.blk.cell 0 _ rfl
        have y1 := S10.blk.cell 1 _ rfl
        have y2 := S10.blk.cell 2 _ rfl
        have y3 := S10.blk.cell 3 _ rfl
        have z0 := S10.res.cell 0 _ rfl
        have z1 := S10.res.cell 1 _ rfl
        have z2 := S10.res.cell 2 _ rfl
        have z3 := S10.res.cell 3 _ rfl
        have yf := fun i => S10.blk.frozen i
        have zf := fun i => S10.res.frozen i
        go_wp2
        have LF := ((((S10.res.set 0 (.int .u8 K.1.toNat)).set 1 (.int .i64 O.1)).set 2 (.int .u8 0)).set 3 (.int .i64 N.1))
        have q0 := LF.cell 0 _ rfl
        have q1 := LF.cell 1 _ rfl
        have q2 := LF.cell 2 _ rfl
        have q3 := LF.cell 3 _ rfl
        refine bodyPost_ret (v := encC ⟨K.1, O.1, 0, N.1⟩) (by simp only [results, Tryz.results44]; simp [go_sem, q0, q1, q2, q3, encC]) rfl ⟨by rw [e], ?_, ?_⟩
        · rw [e]
          iterate 4 refine Rr.other ?_ _ _ (by dsimp only; omega)
          exact S10.rd
        · iterate 4 refine Oth.new ?_ (Nat.le_refl _) _
          exact S10.oth
      | false =>
        rw [h2, if_neg (by decide)] at hr
        have H2 := Lib.hid h2
        clear h2
        obtain ⟨V, hV⟩ : ∃ V, tk s.data.toList O.2 97 122 = V := ⟨_, rfl⟩
        rw [hV] at hr
        have HV := Lib.hid hV
        clear hV
        obtain ⟨P, hP⟩ : ∃ P, nx s.data.toList V.2 43 43 = P := ⟨_, rfl⟩
        obtain ⟨Q, hQ⟩ : ∃ Q, nx s.data.toList V.2 45 45 = Q := ⟨_, rfl⟩
        rw [hP, hQ] at hr
        have HP := Lib.hid hP
        have HQ := Lib.hid hQ
        clear hP hQ
        have HRR := Lib.hid hr
        clear hr
        go_wp2_with fail
        refine (next_is b s O.2 48 57 48 57 rfl rfl _ (by exact S6.rd) hz false H1.out).mono ?_
        rintro e w7 ⟨rfl, r7, o7⟩
        have S7 := S6.via hbb r7 o7
        go_wp2_with fail
        refine (next_is b s O.2 45 45 45 45 rfl rfl _ (by exact r7) hz false H2.out).mono ?_
        rintro e w8 ⟨rfl, r8, o8⟩
        have S8 := S7.via hbb r8 o8
        go_wp2_with fail
        refine (take_is b s O.2 97 122 97 122 rfl rfl _ (by exact r8) hz V HV.out).mono ?_
        rintro e w9 ⟨rfl, r9, o9⟩
        have S9 := S8.via hbb r9 o9
        have k2 := S9.blk.cell 2 _ rfl
        have kf := fun i => S9.blk.frozen i
        have S10 : Cg b s w V.2 #[.int .u8 K.1.toNat, .int .i64 O.1, .int .u8 V.1.toNat, .int .i64 0] (w9.setCell ⟨w.heap.size + 1, 2, none⟩ (.int .u8 V.1.toNat)) := S9.set hbb 2 (.int .u8 V.1.toNat)
        go_wp2_with fail
        refine (next_is b s V.2 43 43 43 43 rfl rfl _ (by exact S10.rd) hz P HP.out).mono ?_
        rintro e w11 ⟨rfl, r11, o11⟩
        have S11 := S10.via hbb r11 o11
        go_wp2_with fail
        refine (next_is b s V.2 45 45 45 45 rfl rfl _ (by exact r11) hz Q HQ.out).mono ?_
        rintro e w12 ⟨rfl, r12, o12⟩
        have S12 := S11.via hbb r12 o12
        have hr := HRR.out
        clear HRR
        rcases P with _ | _
        · rcases Q with _ | _
          · rw [if_neg (by decide)] at hr
            have HRQ := Lib.hid hr
            clear hr
            have e : R = (⟨K.1, O.1, V.1, 0⟩, V.2) := HRQ.out
            have y0 := S12.blk.cell 0 _ rfl
            have y1 := S12.blk.cell 1 _ rfl
            have y2 := S12.blk.cell 2 _ rfl
            have y3 := S12.blk.cell 3 _ rfl
            have z0 := S12.res.cell 0 _ rfl
            have z1 := S12.res.cell 1 _ rfl
            have z2 := S12.res.cell 2 _ rfl
            have z3 := S12.res.cell 3 _ rfl
            have yf := fun i => S12.blk.frozen i
            have zf := fun i => S12.res.frozen i
            go_wp2
            have LF := ((((S12.res.set 0 (.int .u8 K.1.toNat)).set 1 (.int .i64 O.1)).set 2 (.int .u8 V.1.toNat)).set 3 (.int .i64 0))
            have q0 := LF.cell 0 _ rfl
            have q1 := LF.cell 1 _ rfl
            have q2 := LF.cell 2 _ rfl
            have q3 := LF.cell 3 _ rfl
            refine bodyPost_ret (v := encC ⟨K.1, O.1, V.1, 0⟩) (by simp only [results, Tryz.results44]; simp [go_sem, q0, q1, q2, q3, encC]) rfl ⟨by rw [e], ?_, ?_⟩
            · rw [e]
              iterate 4 refine Rr.other ?_ _ _ (by dsimp only; omega)
              exact S12.rd
            · iterate 4 refine Oth.new ?_ (Nat.le_refl _) _
              exact S12.oth
          · rw [if_pos (.inr rfl)] at hr
            obtain ⟨N, hN⟩ : ∃ N, rsigned s.data.toList V.2 = N := ⟨_, rfl⟩
            rw [hN] at hr
            have HN := Lib.hid hN
            have HRQ := Lib.hid hr
            clear hN hr
            go_wp2_with fail
            refine (signed_is b s V.2 _ (by exact S12.rd) hz N HN.out).mono ?_
            rintro e w13 ⟨rfl, r13, o13⟩
            have S13 := S12.via hbb r13 o13
            have k3 := S13.blk.cell 3 _ rfl
            have kf3 := fun i => S13.blk.frozen i
            have S14 : Cg b s w N.2 #[.int .u8 K.1.toNat, .int .i64 O.1, .int .u8 V.1.toNat, .int .i64 N.1] (w13.setCell ⟨w.heap.size + 1, 3, none⟩ (.int .i64 N.1)) := S13.set hbb 3 (.int .i64 N.1)
            have e : R = (⟨K.1, O.1, V.1, N.1⟩, N.2) := HRQ.out
            have y0 := S14.blk.cell 0 _ rfl
            have y1 := S14.blk.cell 1 _ rfl
            have y2 := S14.blk.cell 2 _ rfl
            have y3 := S14.blk.cell 3 _ rfl
            have z0 := S14.res.cell 0 _ rfl
            have z1 := S14.res.cell 1 _ rfl
            have z2 := S14.res.cell 2 _ rfl
            have z3 := S14.res.cell 3 _ rfl
            have yf := fun i => S14.blk.frozen i
            have zf := fun i => S14.res.frozen i
            go_wp2
            have LF := ((((S14.res.set 0 (.int .u8 K.1.toNat)).set 1 (.int .i64 O.1)).set 2 (.int .u8 V.1.toNat)).set 3 (.int .i64 N.1))
            have q0 := LF.cell 0 _ rfl
            have q1 := LF.cell 1 _ rfl
            have q2 := LF.cell 2 _ rfl
            have q3 := LF.cell 3 _ rfl
            refine bodyPost_ret (v := encC ⟨K.1, O.1, V.1, N.1⟩) (by simp only [results, Tryz.results44]; simp [go_sem, q0, q1, q2, q3, encC]) rfl ⟨by rw [e], ?_, ?_⟩
            · rw [e]
              iterate 4 refine Rr.other ?_ _ _ (by dsimp only; omega)
              exact S14.rd
            · iterate 4 refine Oth.new ?_ (Nat.le_refl _) _
              exact S14.oth
        · rw [if_pos (.inl rfl)] at hr
          obtain ⟨N, hN⟩ : ∃ N, rsigned s.data.toList V.2 = N := ⟨_, rfl⟩
          rw [hN] at hr
          have HN := Lib.hid hN
          have HRQ := Lib.hid hr
          clear hN hr
          go_wp2_with fail
          refine (signed_is b s V.2 _ (by exact S12.rd) hz N HN.out).mono ?_
          rintro e w13 ⟨rfl, r13, o13⟩
          have S13 := S12.via hbb r13 o13
          have k3 := S13.blk.cell 3 _ rfl
          have kf3 := fun i => S13.blk.frozen i
          have S14 : Cg b s w N.2 #[.int .u8 K.1.toNat, .int .i64 O.1, .int .u8 V.1.toNat, .int .i64 N.1] (w13.setCell ⟨w.heap.size + 1, 3, none⟩ (.int .i64 N.1)) := S13.set hbb 3 (.int .i64 N.1)
          have e : R = (⟨K.1, O.1, V.1, N.1⟩, N.2) := HRQ.out
          have y0 := S14.blk.cell 0 _ rfl
          have y1 := S14.blk.cell 1 _ rfl
          have y2 := S14.blk.cell 2 _ rfl
          have y3 := S14.blk.cell 3 _ rfl
          have z0 := S14.res.cell 0 _ rfl
          have z1 := S14.res.cell 1 _ rfl
          have z2 := S14.res.cell 2 _ rfl
          have z3 := S14.res.cell 3 _ rfl
          have yf := fun i => S14.blk.frozen i
          have zf := fun i => S14.res.frozen i
          go_wp2
          have LF := ((((S14.res.set 0 (.int .u8 K.1.toNat)).set 1 (.int .i64 O.1)).set 2 (.int .u8 V.1.toNat)).set 3 (.int .i64 N.1))
          have q0 := LF.cell 0 _ rfl
          have q1 := LF.cell 1 _ rfl
          have q2 := LF.cell 2 _ rfl
          have q3 := LF.cell 3 _ rfl
          refine bodyPost_ret (v := encC ⟨K.1, O.1, V.1, N.1⟩) (by simp only [results, Tryz.results44]; simp [go_sem, q0, q1, q2, q3, encC]) rfl ⟨by rw [e], ?_, ?_⟩
          · rw [e]
            iterate 4 refine Rr.other ?_ _ _ (by dsimp only; omega)
            exact S14.rd
          · iterate 4 refine Oth.new ?_ (Nat.le_refl _) _
            exact S14.oth
end Go.Proofs.YthbiiccblcoogaaGreatDoor
