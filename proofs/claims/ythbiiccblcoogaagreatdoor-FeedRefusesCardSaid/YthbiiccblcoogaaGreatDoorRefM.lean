/- oxbowref19.Parse. -/
import Derived.Test.YthbiiccblcoogaaGreatDoorRefN
set_option linter.unusedVariables false
set_option linter.unusedSimpArgs false
namespace Go.Proofs.YthbiiccblcoogaaGreatDoor
open Go.RowKit

theorem info130 : (Tryz.prog.info? 130).map (fun i => (i.zero, i.size, i.bytes)) = some (some (.agg #[.int .u8 0, .int .u8 0, .bool false, .int .i64 0, .int .i64 0]), 5, 24) := by kernel_rfl
theorem info135 : (Tryz.prog.info? 135).map (fun i => (i.zero, i.size, i.bytes)) = some (some (.agg #[.int .u8 0, .int .i64 0, .int .u8 0, .int .i64 0]), 4, 32) := by kernel_rfl

/-- What a call of the definitions' Parse gives. -/
def RPar (w : World) (r : Option Pat.Pattern) (e : Ending) (w' : World) : Prop :=
  Below w.heap.size w w' ∧
  match r with
  | none => ∃ a c, e = .returned (.tuple #[.agg #[.slice none 0 0, .slice none 0 0, .int .i64 0], .int .i64 a, .int .i64 c]) ∧ c ≠ 0
  | some x => ∃ v1 v2, e = .returned (.tuple #[.agg #[v1, v2, .int .i64 x.within], .int .i64 0, .int .i64 0]) ∧
      w'.ownsRow w.heap.size 130 5 v1 x.steps.length (cellsS x.steps) ∧ w'.ownsRow w.heap.size 135 4 v2 x.conds.length (cellsC x.conds)

theorem RPar.no {w w' : World} {r : Option Pat.Pattern} {e : Ending} (hr : r = none) (h : ∃ a c, e = .returned (.tuple #[.agg #[.slice none 0 0, .slice none 0 0, .int .i64 0], .int .i64 a, .int .i64 c]) ∧ c ≠ 0) (hb : Below w.heap.size w w') : RPar w r e w' := by
  subst hr; exact ⟨hb, h⟩
theorem RPar.yes {w w' : World} {r : Option Pat.Pattern} {x : Pat.Pattern} {e : Ending} (hr : r = some x) (h : ∃ v1 v2, e = .returned (.tuple #[.agg #[v1, v2, .int .i64 x.within], .int .i64 0, .int .i64 0]) ∧
      w'.ownsRow w.heap.size 130 5 v1 x.steps.length (cellsS x.steps) ∧ w'.ownsRow w.heap.size 135 4 v2 x.conds.length (cellsC x.conds)) (hb : Below w.heap.size w w') : RPar w r e w' := by
  subst hr; exact ⟨hb, h⟩
theorem parse_bad1 {s : ByteArray} (h : Pat.pattern s.data.toList = none) : Pat.parse s.data.toList = none := by
  unfold Pat.parse; rw [h]; split <;> rfl
theorem parse_bad2 {s : ByteArray} {x : Pat.Pattern} {q : Nat} (h : Pat.pattern s.data.toList = some (x, q)) (hq : q < s.size) : Pat.parse s.data.toList = none := by
  unfold Pat.parse; rw [h]; simp only
  split
  · rfl
  · rw [if_pos (by simpa using hq)]
theorem parse_yes {s : ByteArray} {x : Pat.Pattern} {q : Nat} (hz : s.size ≤ 4096) (h : Pat.pattern s.data.toList = some (x, q)) (hq : ¬ q < s.size) : Pat.parse s.data.toList = some x := by
  unfold Pat.parse; rw [h]; simp only
  rw [if_neg (by simp; omega), if_neg (by simpa using hq)]

set_option maxRecDepth 100000 in
set_option maxHeartbeats 6400000 in
theorem rparse_any (s : ByteArray) (w : World) (hz : s.size ≤ 4096) : Calls Tryz.prog 23 #[.string s] w (RPar w (Pat.parse s.data.toList)) := by
  obtain ⟨R, hR⟩ : ∃ R, Pat.pattern s.data.toList = R := ⟨_, rfl⟩
  obtain ⟨i0, hi0, hz0, hz1, hz2⟩ := info_parts info130
  obtain ⟨j0, hj0, hj1, hj2, hj3⟩ := info_parts info135
  have HR := Lib.hid hR
  clear hR
  have N1 := Lb.new (w.alloc (.cells #[.slice none 0 0, .slice none 0 0, .int .i64 0] 75)) #[.string s, .int .i64 0, .int .i64 0, .int .i64 0] 127
  go_enter Tryz.func23, Tryz.ntmps23
  go_wp2_with fail
  simp only [sz_alloc] at N1
  have Bw := ((Below.refl w.heap.size w).alloc (Nat.le_refl _) (.cells #[.slice none 0 0, .slice none 0 0, .int .i64 0] 75)).alloc (by simp) (.cells #[.string s, .int .i64 0, .int .i64 0, .int .i64 0] 127)
  have Z0 := (Lb.new w #[.slice none 0 0, .slice none 0 0, .int .i64 0] 75).alloc (.cells #[.string s, .int .i64 0, .int .i64 0, .int .i64 0] 127)
  generalize hw0 : (w.alloc (.cells #[.slice none 0 0, .slice none 0 0, .int .i64 0] 75)).alloc (.cells #[.string s, .int .i64 0, .int .i64 0, .int .i64 0] 127) = w0 at *
  have e0 : w.heap.size + 1 + 1 = w0.heap.size := by rw [← hw0]; simp
  rw [e0]
  clear hw0
  obtain ⟨b, hb⟩ : ∃ b, w.heap.size + 1 = b := ⟨_, rfl⟩
  rw [hb] at N1 e0 ⊢
  have hbb : b < w0.heap.size := by omega
  have hwb : w.heap.size < b := by omega
  have S0 : Rt b s w0 [] [] (.slice none 0 0) (.slice none 0 0) (some 0) (w0.alloc (.cells #[.slice none 0 0, .slice none 0 0, .int .i64 0] 75)) :=
    ⟨(Rr.new_ok (n := 0) N1 (Nat.zero_le _)).alloc _, (Oth.refl b w0).alloc _, Lb.new w0 _ 75, World.ownsRow_nil _ _ _ _, World.ownsRow_nil _ _ _ _, .inl rfl⟩
  refine (word_is b s _ (some 0) _ (by exact S0.rd) hz (by decide) _ rfl).mono ?_
  rintro e w1 ⟨rfl, r1, o1⟩
  have S1 := S0.via hbb r1 o1
  go_upto_block 0 with fail
  have L0 : Loop1 s.data.toList R true 9 [] (wd s.data.toList (some 0) (ByteArray.mk #[83, 69, 81, 40]).data.toList) := by
    have hR := HR.out
    rw [pattern_eq] at hR
    rw [wd_some, show (ByteArray.mk #[83, 69, 81, 40]).data.toList = [83, 69, 81, 40] from rfl]
    rcases hw1 : Pat.word s.data.toList [83, 69, 81, 40] 0 with _ | a1 <;> rw [hw1] at hR
    · exact hR.symm
    · exact ⟨rfl, by decide, hR⟩
  generalize wd s.data.toList (some 0) (ByteArray.mk #[83, 69, 81, 40]).data.toList = st1 at *
  go_cut [] (fun wr => ∃ l g c st, Rt b s w0 l [] (.slice g l.length c) (.slice none 0 0) st wr ∧ l.length ≤ 9 ∧ From R (pAfter s.data.toList l) st)
  case first =>
    go_wp2_with fail
    go_loopg [7] 9 (fun k v7 wr => ∃ more l g c st, v7 = .bool more ∧ l.length + k = 9 ∧ Rt b s w0 l [] (.slice g l.length c) (.slice none 0 0) st wr ∧ Loop1 s.data.toList R more k l st)
    case atStart => exact ⟨true, [], none, 0, st1, rfl, rfl, S1, L0⟩
    case round =>
      obtain ⟨more, l, g, c, st, rfl, hlk, S3, hL⟩ := hrel
      have HL := Lib.hid hL
      clear hL
      obtain ⟨n, e, p, hblk, hn, hst⟩ := S3.rd
      have q2 := hblk.cell 2 _ rfl
      rcases more with _ | _
      · have HST := Lib.hid hst
        clear hst
        go_wp2
        go_meet
        refine ⟨l, g, c, st, S3, by omega, ?_⟩
        exact loop1_stop HL.out
      · cases st with
        | none =>
          simp only at hst
          have h0 : (e == 0) = false := beq_eq_false_iff_ne.2 hst
          clear hst
          go_wp2
          go_meet
          exact ⟨l, g, c, none, S3, by omega, HL.out⟩
        | some p' =>
          obtain ⟨he, hp'⟩ := hst
          subst he
          obtain ⟨hk9, hk1, hPS⟩ := HL.out.of_yes
          obtain ⟨k, rfl⟩ : ∃ k, gk = k + 1 := ⟨gk - 1, by omega⟩
          rw [pStep_eq] at hPS
          have HPS := Lib.hid hPS
          clear hPS HL hp'
          have i0' := S3.blk.cell 0 _ rfl
          obtain ⟨X, hX⟩ : ∃ X, rstep s.data.toList l.length (some p') = X := ⟨_, rfl⟩
          have HX := Lib.hid hX
          clear hX
          go_wp2_with fail
          refine (rstep_any b l.length s (some p') _ (by exact S3.rd) hz (by omega)).mono ?_
          rw [HX.out]
          rintro e w2 ⟨rfl, r2, o2⟩
          have S4 := S3.via hbb r2 o2
          obtain ⟨x, st4⟩ := X
          simp only [encS] at *
          have S4' : Rt b s w0 l [] (.slice g l.length c) (.slice none 0 0) st4 w2 := S4
          have A4 := S4.blk.alloc (.cells #[.int .u8 x.kind.toNat, .int .u8 x.name.toNat, .bool x.neg, .int .i64 x.lo, .int .i64 x.hi] 130)
          have m0 := A4.cell 0 _ rfl
          have zlt := S4.lt
          have und72 : Tryz.prog.underlying 72 = some (.slice 130) := by kernel_rfl
          have o3 := (S4.own1.alloc (.cells #[.int .u8 x.kind.toNat, .int .u8 x.name.toNat, .bool x.neg, .int .i64 x.lo, .int .i64 x.hi] 130)).alloc (.cells #[.int .u8 x.kind.toNat, .int .u8 x.name.toNat, .bool x.neg, .int .i64 x.lo, .int .i64 x.hi] 130)
          go_wp2_with (at_builtin; refine wpList_append_lies _ (by rfl) _ _ _ (by rfl) (w0.heap.size + 1) 130 i0 _ 5 24 und72 hi0 hz0 hz1 hz2 rfl (by omega) (.slice g l.length c) l.length (cellsS l) (by rfl) (by exact o3) ⟨w2.heap.size + 1, 0, none⟩ 1 1 [.int .u8 x.kind.toNat, .int .u8 x.name.toNat, .bool x.neg, .int .i64 x.lo, .int .i64 x.hi] (by rfl) (by rfl) (World.news_of_block (cs := #[.int .u8 x.kind.toNat, .int .u8 x.name.toNat, .bool x.neg, .int .i64 x.lo, .int .i64 x.hi]) (t := 130) (fr := (0, 0)) (by simpa using heap_alloc_new (w2.alloc (.cells #[.int .u8 x.kind.toNat, .int .u8 x.name.toNat, .bool x.neg, .int .i64 x.lo, .int .i64 x.hi] 130)) _)) (by simp [Value.oneCell']) (by omega) (by unfold maxLen; omega) (by omega) (by simp; omega) (w2.heap.size + 1 + 1) (by simp) ?_; intro gg cap w4 hown3 hgrow hat hlt; have M3 := ((S4.blk.alloc (.cells #[.int .u8 x.kind.toNat, .int .u8 x.name.toNat, .bool x.neg, .int .i64 x.lo, .int .i64 x.hi] 130)).alloc (.cells #[.int .u8 x.kind.toNat, .int .u8 x.name.toNat, .bool x.neg, .int .i64 x.lo, .int .i64 x.hi] 130)).grown hgrow (fun e => by have := S4.own1.lt _ e.symm; omega); have k3 := M3.cell 0 _ rfl; have k4 := M3.frozen 0)
          have S5 := Rt.appendS (o := .cells #[.int .u8 x.kind.toNat, .int .u8 x.name.toNat, .bool x.neg, .int .i64 x.lo, .int .i64 x.hi] 130) hbb (S4.via hbb (S4.rd.alloc (.cells #[.int .u8 x.kind.toNat, .int .u8 x.name.toNat, .bool x.neg, .int .i64 x.lo, .int .i64 x.hi] 130)) ((Oth.refl b w2).alloc _)) hgrow rfl (by rw [cellsS_snoc]) hown3 (by simpa using hat)
          have el : (l ++ [x]).length = l.length + 1 := by simp
          have agr := rstep_agrees s.data.toList l.length p' (by omega)
          rw [HX.out] at agr
          obtain ⟨T, hT⟩ : ∃ T, nx s.data.toList st4 44 44 = T := ⟨_, rfl⟩
          have HT := Lib.hid hT
          have AG := Lib.hid agr
          clear hT agr hgrow hat hown3 M3 k3 k4 o3 A4 m0
          refine (next_is b s st4 44 44 44 44 rfl rfl _ (by exact S5.rd) hz T HT.out).mono ?_
          rintro e w5 ⟨rfl, r5, o5⟩
          have S6 := S5.via hbb r5 o5
          rcases T with _ | _
          · go_wp2
            go_roundg k
            case measure => omega
            case rel =>
              exact ⟨false, l ++ [x], _, _, st4, rfl, by rw [el]; omega, by rw [el]; exact S6, loop1_false hk9 AG.out HPS.out HT.out⟩
          · go_wp2_with fail
            refine (take_is b s st4 44 44 44 44 rfl rfl _ (by exact S6.rd) hz _ rfl).mono ?_
            rintro e w6 ⟨rfl, r6, o6⟩
            have S7 := S6.via hbb r6 o6
            go_wp2
            go_roundg k
            case measure => omega
            case rel =>
              exact ⟨true, l ++ [x], _, _, _, rfl, by rw [el]; omega, by rw [el]; exact S7, loop1_true hk9 AG.out HPS.out HT.out⟩
  case rest =>
    obtain ⟨l, g, c, st, S2, hl9, hR2⟩ := hcut
    have W2 := from_after hR2
    generalize hst2 : wd s.data.toList st [41, 32, 87] = st2 at *
    have HS2 := Lib.hid hst2
    have HW2 := Lib.hid W2
    clear hR2 hst2 W2
    go_wp2_with fail
    refine (word_is b s _ st _ (by exact S2.rd) hz (by decide) st2 HS2.out).mono ?_
    rintro e w2 ⟨rfl, r2, o2⟩
    have S3 := S2.via hbb r2 o2
    obtain ⟨T, hT⟩ : ∃ T, nx s.data.toList st2 72 72 = T := ⟨_, rfl⟩
    have HT := Lib.hid hT
    clear hT
    go_upto_if 49 with (go_at_call 42; refine (next_is b s st2 72 72 72 72 rfl rfl _ (by exact S3.rd) hz T HT.out).mono ?_; rintro e w3 ⟨rfl, r3, o3⟩)
    have S4 := S3.via hbb r3 o3
    go_cut [] (fun wr => ∃ lc g' c' st, Rt b s w0 l lc (.slice g l.length c) (.slice g' lc.length c') st wr ∧ lc.length ≤ 17 ∧ From R (pTail s.data.toList l lc) st)
    case first =>
      rcases T with _ | _
      · go_wp2
        go_meet
        exact ⟨[], none, 0, st2, S4, by simp, where_false HW2.out HT.out⟩
      · have L2 := where_true HW2.out HT.out
        generalize hst3 : wd s.data.toList st2 [72, 69, 82, 69, 32] = st3 at *
        have HS3 := Lib.hid hst3
        have HL2 := Lib.hid L2
        clear hst3 L2
        go_wp2_with fail
        refine (word_is b s _ st2 _ (by exact S4.rd) hz (by decide) st3 HS3.out).mono ?_
        rintro e w5 ⟨rfl, r5, o5⟩
        have S5 := S4.via hbb r5 o5
        go_upto_block 2 with fail
        go_cut [] (fun wr => ∃ lc g' c' st, Rt b s w0 l lc (.slice g l.length c) (.slice g' lc.length c') st wr ∧ lc.length ≤ 17 ∧ Loop2 s.data.toList R l false 0 lc st)
        case first =>
          go_wp2_with fail
          go_loopg [7] 17 (fun k v7 wr => ∃ more lc g' c' st, v7 = .bool more ∧ lc.length + k = 17 ∧ Rt b s w0 l lc (.slice g l.length c) (.slice g' lc.length c') st wr ∧ Loop2 s.data.toList R l more k lc st)
          case atStart => exact ⟨true, [], none, 0, st3, rfl, rfl, S5, HL2.out⟩
          case round =>
            obtain ⟨more, lc, g', c', st', rfl, hlk, S6, hL⟩ := hrel
            have HL := Lib.hid hL
            clear hL
            obtain ⟨n, e, p, hblk, hn, hst⟩ := S6.rd
            have q2 := hblk.cell 2 _ rfl
            rcases more with _ | _
            · have HST := Lib.hid hst
              clear hst
              go_wp2
              go_meet
              exact ⟨lc, g', c', st', S6, by omega, loop2_zero HL.out⟩
            · cases st' with
              | none =>
                simp only at hst
                have h0 : (e == 0) = false := beq_eq_false_iff_ne.2 hst
                clear hst
                go_wp2
                go_meet
                exact ⟨lc, g', c', none, S6, by omega, HL.out⟩
              | some p' =>
                obtain ⟨he, hp'⟩ := hst
                subst he
                obtain ⟨hk9, hk1, hPS⟩ := HL.out.of_yes
                obtain ⟨k, rfl⟩ : ∃ k, gk = k + 1 := ⟨gk - 1, by omega⟩
                rw [pCond_eq] at hPS
                have HPS := Lib.hid hPS
                clear hPS HL hp'
                have i0' := S6.blk.cell 1 _ rfl
                obtain ⟨X, hX⟩ : ∃ X, rcond s.data.toList lc.length (some p') = X := ⟨_, rfl⟩
                have HX := Lib.hid hX
                clear hX
                go_wp2_with fail
                refine (rcond_any b lc.length s (some p') _ (by exact S6.rd) hz (by omega)).mono ?_
                rw [HX.out]
                rintro e w7 ⟨rfl, r7, o7⟩
                have S7 := S6.via hbb r7 o7
                obtain ⟨x, st4⟩ := X
                simp only [encC] at *
                have S7' : Rt b s w0 l lc (.slice g l.length c) (.slice g' lc.length c') st4 w7 := S7
                have A4 := S7.blk.alloc (.cells #[.int .u8 x.left.toNat, .int .i64 x.op, .int .u8 x.right.toNat, .int .i64 x.add] 135)
                have m0 := A4.cell 1 _ rfl
                have zlt := S7.lt
                have und73 : Tryz.prog.underlying 73 = some (.slice 135) := by kernel_rfl
                have o3 := (S7.own2.alloc (.cells #[.int .u8 x.left.toNat, .int .i64 x.op, .int .u8 x.right.toNat, .int .i64 x.add] 135)).alloc (.cells #[.int .u8 x.left.toNat, .int .i64 x.op, .int .u8 x.right.toNat, .int .i64 x.add] 135)
                go_wp2_with (at_builtin; refine wpList_append_lies _ (by rfl) _ _ _ (by rfl) (w0.heap.size + 1) 135 j0 _ 4 32 und73 hj0 hj1 hj2 hj3 rfl (by omega) (.slice g' lc.length c') lc.length (cellsC lc) (by rfl) (by exact o3) ⟨w7.heap.size + 1, 0, none⟩ 1 1 [.int .u8 x.left.toNat, .int .i64 x.op, .int .u8 x.right.toNat, .int .i64 x.add] (by rfl) (by rfl) (World.news_of_block (cs := #[.int .u8 x.left.toNat, .int .i64 x.op, .int .u8 x.right.toNat, .int .i64 x.add]) (t := 135) (fr := (0, 0)) (by simpa using heap_alloc_new (w7.alloc (.cells #[.int .u8 x.left.toNat, .int .i64 x.op, .int .u8 x.right.toNat, .int .i64 x.add] 135)) _)) (by simp [Value.oneCell']) (by omega) (by unfold maxLen; omega) (by omega) (by simp; omega) (w7.heap.size + 1 + 1) (by simp) ?_; intro gg cap w8 hown3 hgrow hat hlt; have M3 := ((S7.blk.alloc (.cells #[.int .u8 x.left.toNat, .int .i64 x.op, .int .u8 x.right.toNat, .int .i64 x.add] 135)).alloc (.cells #[.int .u8 x.left.toNat, .int .i64 x.op, .int .u8 x.right.toNat, .int .i64 x.add] 135)).grown hgrow (fun e => by have := S7.own2.lt _ e.symm; omega); have k3 := M3.cell 1 _ rfl; have k4 := M3.frozen 1)
                have S8 := Rt.appendC (o := .cells #[.int .u8 x.left.toNat, .int .i64 x.op, .int .u8 x.right.toNat, .int .i64 x.add] 135) hbb (S7.via hbb (S7.rd.alloc (.cells #[.int .u8 x.left.toNat, .int .i64 x.op, .int .u8 x.right.toNat, .int .i64 x.add] 135)) ((Oth.refl b w7).alloc _)) hgrow rfl (by rw [cellsC_snoc]) hown3 (by simpa using hat)
                have el : (lc ++ [x]).length = lc.length + 1 := by simp
                have agr := rcond_agrees s.data.toList lc.length p' (by omega)
                rw [HX.out] at agr
                obtain ⟨st5, hst5⟩ : ∃ st5, (tk s.data.toList st4 32 32).2 = st5 := ⟨_, rfl⟩
                have HS5 := Lib.hid hst5
                obtain ⟨T, hT⟩ : ∃ T, nx s.data.toList st5 65 65 = T := ⟨_, rfl⟩
                have HT := Lib.hid hT
                have AG := Lib.hid agr
                clear hT agr hst5 hgrow hat hown3 M3 k3 k4 o3 A4 m0
                refine (take_is b s st4 32 32 32 32 rfl rfl _ (by exact S8.rd) hz _ rfl).mono ?_
                rw [HS5.out]
                rintro e w9 ⟨rfl, r9, o9⟩
                have S9 := S8.via hbb r9 o9
                go_wp2_with fail
                refine (next_is b s st5 65 65 65 65 rfl rfl _ (by exact S9.rd) hz T HT.out).mono ?_
                rintro e w10 ⟨rfl, r10, o10⟩
                have S10 := S9.via hbb r10 o10
                rcases T with _ | _
                · go_wp2
                  go_roundg k
                  case measure => omega
                  case rel =>
                    exact ⟨false, lc ++ [x], _, _, st5, rfl, by rw [el]; omega, by rw [el]; exact S10, by have h1 := HT.out; rw [← HS5.out] at h1 ⊢; exact loop2_false hk9 AG.out HPS.out h1⟩
                · go_wp2_with fail
                  refine (word_is b s _ st5 _ (by exact S10.rd) hz (by decide) _ rfl).mono ?_
                  rintro e w11 ⟨rfl, r11, o11⟩
                  have S11 := S10.via hbb r11 o11
                  go_wp2
                  go_roundg k
                  case measure => omega
                  case rel =>
                    exact ⟨true, lc ++ [x], _, _, _, rfl, by rw [el]; omega, by rw [el]; exact S11, by have h1 := HT.out; rw [← HS5.out] at h1 ⊢; exact loop2_true hk9 AG.out HPS.out h1⟩
        case rest =>
          obtain ⟨lc, g', c', st', S6, hl17, hL⟩ := hcut
          have hF := loop2_stop hL
          obtain ⟨st6, hst6⟩ : ∃ st6, (tk s.data.toList st' 87 87).2 = st6 := ⟨_, rfl⟩
          rw [hst6] at hF
          have HS6 := Lib.hid hst6
          have HF := Lib.hid hF
          clear hst6 hF hL
          go_wp2_with fail
          refine (take_is b s st' 87 87 87 87 rfl rfl _ (by exact S6.rd) hz _ rfl).mono ?_
          rw [HS6.out]
          rintro e w7 ⟨rfl, r7, o7⟩
          have S7 := S6.via hbb r7 o7
          go_wp2
          go_meet
          exact ⟨lc, g', c', st6, S7, hl17, HF.out⟩
    case rest =>
      obtain ⟨lc, g', c', st', S5, hl17, hF⟩ := hcut
      have hE := tail_end hF
      obtain ⟨st6, hst6⟩ : ∃ st6, wd s.data.toList st' [73, 84, 72, 73, 78, 32] = st6 := ⟨_, rfl⟩
      rw [hst6] at hE
      obtain ⟨N, hN⟩ : ∃ N, nm s.data.toList st6 48 = N := ⟨_, rfl⟩
      rw [hN] at hE
      obtain ⟨v, st7⟩ := N
      simp only at hE
      have HS6 := Lib.hid hst6
      have HN := Lib.hid hN
      have HE := Lib.hid hE
      clear hst6 hF hN hE
      go_wp2_with fail
      refine (word_is b s _ st' _ (by exact S5.rd) hz (by decide) st6 HS6.out).mono ?_
      rintro e w7 ⟨rfl, r7, o7⟩
      have S7 := S5.via hbb r7 o7
      go_wp2_with fail
      refine (num_is b s st6 48 48 rfl (by decide) _ (by exact S7.rd) hz _ HN.out).mono ?_
      simp only
      rintro e w8 ⟨rfl, r8, o8⟩
      have S8 := S7.via hbb r8 o8
      have b2 := S8.blk.cell 2 _ rfl
      have bf := fun i => S8.blk.frozen i
      have F9 := S8.fin.set hbb 2 (.int .i64 v)
      have B9 := S8.blk.set 2 (.int .i64 v)
      have R9 := F9.rd
      obtain ⟨n, e, q, hblk, hn, hst⟩ := F9.rd
      have q0 := hblk.cell 0 _ rfl
      have q1 := hblk.cell 1 _ rfl
      have q2 := hblk.cell 2 _ rfl
      have q3 := hblk.cell 3 _ rfl
      have Zf := fun W (ho : Oth b w0 W) => Z0.oth ho (by omega)
      have HR0 := HR.out
      have HE0 := HE.out
      by_cases hlt : n < s.size
      · have hpn : Pat.parse s.data.toList = none := by
          cases st7 with
          | none => exact parse_bad1 (HR0.trans HE0)
          | some q => exact parse_bad2 (HR0.trans (show R = some (⟨l, lc, v⟩, q) from HE0.symm)) (by rw [← hst.2]; exact hlt)
        have hlt' : decide ((n : Int) < s.size) = true := by simp; omega
        clear hst HE0 HR0
        go_wp2_with fail
        refine (rfail_any b s st7 _ 20 (by decide) _ (by exact R9)).mono ?_
        rintro e2 w10 ⟨rfl, r10, o10⟩
        have OO := F9.oth.trans o10
        have ZZ := Zf _ OO
        obtain ⟨n2, e2, p2, hblk2, hn2, hst2⟩ := r10
        simp only at hst2
        have h0 : (e2 == 0) = false := beq_eq_false_iff_ne.2 hst2
        have h1 : (e2 != 0) = true := by simp [bne, h0]
        have x2 := hblk2.cell 2 _ rfl
        have x3 := hblk2.cell 3 _ rfl
        clear q0 q1 q2 q3 bf b2 hblk hblk2 Zf
        have z0 := ZZ.cell 0 _ rfl
        have z1 := ZZ.cell 1 _ rfl
        have z2 := ZZ.cell 2 _ rfl
        have zf := fun i => ZZ.frozen i
        have nwb : ¬ w.heap.size = b := by omega
        have nwb' : ¬ b = w.heap.size := by omega
        go_wp2_with fail
        go_region
        all_goals
          go_wp2
          have YY := ((ZZ.set 0 (.slice none 0 0)).set 1 (.slice none 0 0)).set 2 (.int .i64 0)
          have y0 := YY.cell 0 _ rfl
          have y1 := YY.cell 1 _ rfl
          have y2 := YY.cell 2 _ rfl
          refine bodyPost_ret (v := .tuple #[.agg #[.slice none 0 0, .slice none 0 0, .int .i64 0], .int .i64 p2, .int .i64 e2]) (by simp only [results, Tryz.results23]; simp [go_sem, y0, y1, y2]) rfl ?_
          exact RPar.no hpn ⟨_, _, rfl, hst2⟩ (((((Bw.trans (OO.below (by omega) (by omega))).setCell (p := ⟨w.heap.size, 0, none⟩) (Nat.le_refl _) _).setCell (p := ⟨w.heap.size, 1, none⟩) (Nat.le_refl _) _).setCell (p := ⟨w.heap.size, 2, none⟩) (Nat.le_refl _) _).drew)
      · have hlt' : decide ((n : Int) < s.size) = false := by simp; omega
        cases st7 with
        | none =>
          have hpn : Pat.parse s.data.toList = none := parse_bad1 (HR0.trans HE0)
          have OO := F9.oth
          have ZZ := Zf _ OO
          have h0 : (e == 0) = false := beq_eq_false_iff_ne.2 hst
          have h1 : (e != 0) = true := by simp [bne, h0]
          have z0 := ZZ.cell 0 _ rfl
          have z1 := ZZ.cell 1 _ rfl
          have z2 := ZZ.cell 2 _ rfl
          have zf := fun i => ZZ.frozen i
          have nwb : ¬ w.heap.size = b := by omega
          have nwb' : ¬ b = w.heap.size := by omega
          have HST := Lib.hid hst
          clear Zf HE0 HR0 hst
          go_wp2_with fail
          go_region
          all_goals
            go_wp2
            have YY := ((ZZ.set 0 (.slice none 0 0)).set 1 (.slice none 0 0)).set 2 (.int .i64 0)
            have y0 := YY.cell 0 _ rfl
            have y1 := YY.cell 1 _ rfl
            have y2 := YY.cell 2 _ rfl
            refine bodyPost_ret (v := .tuple #[.agg #[.slice none 0 0, .slice none 0 0, .int .i64 0], .int .i64 q, .int .i64 e]) (by simp only [results, Tryz.results23]; simp [go_sem, y0, y1, y2]) rfl ?_
            exact RPar.no hpn ⟨_, _, rfl, HST.out⟩ (((((Bw.trans (OO.below (by omega) (by omega))).setCell (p := ⟨w.heap.size, 0, none⟩) (Nat.le_refl _) _).setCell (p := ⟨w.heap.size, 1, none⟩) (Nat.le_refl _) _).setCell (p := ⟨w.heap.size, 2, none⟩) (Nat.le_refl _) _).drew)
        | some q' =>
          obtain ⟨he, hq'⟩ := hst
          subst he
          have hpn : Pat.parse s.data.toList = some ⟨l, lc, v⟩ := parse_yes hz (HR0.trans (show R = some (⟨l, lc, v⟩, q') from HE0.symm)) (by omega)
          have OO := F9.oth
          have ZZ := Zf _ OO
          have u0 := B9.cell 0 _ rfl
          have u1 := B9.cell 1 _ rfl
          have u2 := B9.cell 2 _ rfl
          have z0 := ZZ.cell 0 _ rfl
          have z1 := ZZ.cell 1 _ rfl
          have z2 := ZZ.cell 2 _ rfl
          have zf := fun i => ZZ.frozen i
          have nwb : ¬ w.heap.size = b := by omega
          have nwb' : ¬ b = w.heap.size := by omega
          have nw0 : ¬ w.heap.size = w0.heap.size := by omega
          have nw0' : ¬ w0.heap.size = w.heap.size := by omega
          have O1 := F9.own1
          have O2 := F9.own2
          clear Zf HE0 HR0 hq'
          go_wp2
          have YY := ((ZZ.set 0 (.slice g l.length c)).set 1 (.slice g' lc.length c')).set 2 (.int .i64 v)
          have y0 := YY.cell 0 _ rfl
          have y1 := YY.cell 1 _ rfl
          have y2 := YY.cell 2 _ rfl
          have keep : ∀ {e size n : Nat} {v9 : Value} {xs : List Value}, (w8.setCell ⟨w0.heap.size, 2, none⟩ (.int .i64 v)).ownsRow (w0.heap.size + 1) e size v9 n xs →
              ((((w8.setCell ⟨w0.heap.size, 2, none⟩ (.int .i64 v)).setCell ⟨w.heap.size, 0, none⟩ (.slice g l.length c)).setCell ⟨w.heap.size, 1, none⟩ (.slice g' lc.length c')).setCell ⟨w.heap.size, 2, none⟩ (.int .i64 v)).ownsRow w.heap.size e size v9 n xs := by
            intro e size n v9 xs hh
            have o1 : ∀ i, v9.ownBlock = some i → i = w.heap.size → False := fun i e h => by have := hh.lt i e; omega
            refine own_base (base := w0.heap.size + 1) ?_ (by omega)
            iterate 3 refine ownsRow_setCell_other ?_ (fun e => o1 _ e rfl) _
            exact hh
          refine bodyPost_ret (v := .tuple #[.agg #[.slice g l.length c, .slice g' lc.length c', .int .i64 v], .int .i64 0, .int .i64 0]) (by simp only [results, Tryz.results23]; simp [go_sem, y0, y1, y2]) rfl ?_
          exact RPar.yes hpn ⟨_, _, rfl, keep O1, keep O2⟩ ((((Bw.trans (OO.below (by omega) (by omega))).setCell (p := ⟨w.heap.size, 0, none⟩) (Nat.le_refl _) _).setCell (p := ⟨w.heap.size, 1, none⟩) (Nat.le_refl _) _).setCell (p := ⟨w.heap.size, 2, none⟩) (Nat.le_refl _) _)

set_option maxRecDepth 100000 in
set_option maxHeartbeats 1600000 in
theorem rparse_long (s : ByteArray) (w : World) (hz : 4096 < s.size) (R : Option Pat.Pattern) (hR : R = none) : Calls Tryz.prog 23 #[.string s] w (RPar w R) := by
  have HR := Lib.hid hR
  clear hR
  have ZZ := Lb.new w #[.slice none 0 0, .slice none 0 0, .int .i64 0] 75
  have z0 := ZZ.cell 0 _ rfl
  have z1 := ZZ.cell 1 _ rfl
  have z2 := ZZ.cell 2 _ rfl
  go_enter Tryz.func23, Tryz.ntmps23
  go_wp2
  refine bodyPost_ret (v := .tuple #[.agg #[.slice none 0 0, .slice none 0 0, .int .i64 0], .int .i64 0, .int .i64 5]) (by simp only [results, Tryz.results23]; simp [go_sem]) rfl ?_
  exact RPar.no HR.out ⟨_, _, rfl, by decide⟩ ((Below.refl w.heap.size w).alloc (Nat.le_refl _) _)

/-- Parse. -/
theorem rparse (s : ByteArray) (w : World) : Calls Tryz.prog 23 #[.string s] w (RPar w (Pat.parse s.data.toList)) := by
  by_cases hz : 4096 < s.size
  · exact rparse_long s w hz _ (by unfold Pat.parse; rw [if_pos (by simpa using hz)])
  · exact rparse_any s w (by omega)
end Go.Proofs.YthbiiccblcoogaaGreatDoor
