/- oxbowref20: Make. -/
import Derived.Test.YthbiiccblcoogaaGreatDoorPlnD
set_option linter.unusedVariables false
set_option linter.unusedSimpArgs false
namespace Go.Proofs.YthbiiccblcoogaaGreatDoor
open Go.RowKit

/-- Some plan; nothing old has turned. -/
def SomeP (w : World) (e : Ending) (w' : World) : Prop := (∃ (g : Option Addr) (m c : Nat) (n : Int), e = .returned (.agg #[.slice g m c, .int .i64 n])) ∧ Below w.heap.size w w'

set_option maxRecDepth 100000 in
set_option maxHeartbeats 6400000 in
theorem qmake_any (g1 g2 : Option Addr) (c1 c2 : Nat) (p : Pat.Pattern) (w : World) (gp : GoodP p) (hs : Sv w g1 p.steps) (hc : Cv w g2 p.conds) :
    Calls Tryz.prog 25 #[.agg #[.slice g1 p.steps.length c1, .slice g2 p.conds.length c2, .int .i64 p.within]] w (SomeP w) := by
  have h2 : (p.steps.length : Int) ≤ 8 := by have := gp.s2; omega
  have h3 : (p.conds.length : Int) ≤ 16 := by have := gp.c1; omega
  obtain ⟨i0, hi0, hi1, hi2, hi3⟩ := info_parts info143
  obtain ⟨j0, hj0, hj1, hj2, hj3⟩ := info_parts info146
  have u141 := und141
  have M0 : Mo w.heap.size (.slice g1 p.steps.length c1) (.slice g2 p.conds.length c2) p.within w (((w.alloc (.cells #[.slice g1 p.steps.length c1, .slice g2 p.conds.length c2, .int .i64 p.within] 75)).alloc (.cells #[.slice none 0 0, .int .i64 0] 46)).alloc (.cells #[.slice none 0 0, .int .i64 p.within] 46)) 0 := by
    have n1 := Lb.new (w.alloc (.cells #[.slice g1 p.steps.length c1, .slice g2 p.conds.length c2, .int .i64 p.within] 75)) #[.slice none 0 0, .int .i64 0] 46
    have n2 := Lb.new ((w.alloc (.cells #[.slice g1 p.steps.length c1, .slice g2 p.conds.length c2, .int .i64 p.within] 75)).alloc (.cells #[.slice none 0 0, .int .i64 0] 46)) #[.slice none 0 0, .int .i64 p.within] 46
    simp only [sz_alloc] at n1 n2
    exact ⟨(((Below.refl _ w).alloc (Nat.le_refl _) _).alloc (by simp) _).alloc (by simp; omega) _, ((Lb.new w _ 75).alloc _).alloc _, n1.alloc _, _, 0, [], Nat.le_refl _, n2, World.ownsRow_nil _ _ _ _⟩
  have x0 := M0.hP.cell 0 _ rfl
  go_enter Tryz.func25, Tryz.ntmps25
  go_wp2_with fail
  go_loopw [4] (fun v4 wr => ∃ i : Nat, i ≤ p.steps.length ∧ v4 = .int .i64 i ∧ Mo w.heap.size (.slice g1 p.steps.length c1) (.slice g2 p.conds.length c2) p.within w wr i) (fun v4 _ => 20 - (intOf v4).toNat)
  case atStart => exact ⟨0, Nat.zero_le _, rfl, M0⟩
  case round =>
    obtain ⟨i, hi, rfl, hM⟩ := hrel
    have q0 := hM.hP.cell 0 _ rfl
    by_cases hlt : i < p.steps.length
    · obtain ⟨x, hx⟩ : ∃ x, p.steps[i]? = some x := ⟨p.steps[i], List.getElem?_eq_getElem hlt⟩
      have hii : (i : Int) < p.steps.length := by omega
      have sr := hs.below hM.bl
      obtain ⟨b, rfl, hbb, d0, d1, d2, d3, d4⟩ := sr i x hx
      clear hx
      obtain ⟨wo, hwo⟩ : ∃ wo : World, wo = wr := ⟨_, rfl⟩
      subst hwo
      have K : ∃ a b c d, a = (.int .u8 x.kind.toNat : Value) ∧ b = (.bool x.neg : Value) ∧ c = (.int .i64 x.lo : Value) ∧ d = (.int .i64 x.hi : Value) := ⟨_, _, _, _, rfl, rfl, rfl, rfl⟩
      obtain ⟨ca, cb, cc, cd, ea, eb, ec, ed⟩ := K
      have A0 := hM.below ((Below.refl wo.heap.size wo).alloc (Nat.le_refl _) (.cells #[.int .u8 x.kind.toNat, .int .u8 x.name.toNat, .bool x.neg, .int .i64 x.lo, .int .i64 x.hi] 130)) (Nat.le_refl _)
      have I0 : Mi (wo.heap.size + 1) (wo.alloc (.cells #[.int .u8 x.kind.toNat, .int .u8 x.name.toNat, .bool x.neg, .int .i64 x.lo, .int .i64 x.hi] 130)) ((wo.alloc (.cells #[.int .u8 x.kind.toNat, .int .u8 x.name.toNat, .bool x.neg, .int .i64 x.lo, .int .i64 x.hi] 130)).alloc (.cells #[.int .u8 x.kind.toNat, .bool x.neg, .int .i64 x.lo, .int .i64 x.hi, .slice none 0 0] 143)) ca cb cc cd 0 := by
        have n1 := Lb.new (wo.alloc (.cells #[.int .u8 x.kind.toNat, .int .u8 x.name.toNat, .bool x.neg, .int .i64 x.lo, .int .i64 x.hi] 130)) #[.int .u8 x.kind.toNat, .bool x.neg, .int .i64 x.lo, .int .i64 x.hi, .slice none 0 0] 143
        simp only [sz_alloc] at n1
        rw [ea, eb, ec, ed]
        exact ⟨(Below.refl _ _).alloc (by simp) _, _, 0, [], Nat.le_refl _, n1, World.ownsRow_nil _ _ _ _⟩
      have I1 := I0.hX
      have EA := Lib.hid ea
      have EB := Lib.hid eb
      have EC := Lib.hid ec
      have ED := Lib.hid ed
      clear ea eb ec ed I1
      have zS : (wo.alloc (.cells #[.int .u8 x.kind.toNat, .int .u8 x.name.toNat, .bool x.neg, .int .i64 x.lo, .int .i64 x.hi] 130)).heap.size = wo.heap.size + 1 := by simp
      go_wp2_with fail
      go_loopw [7] (fun v7 wr => ∃ k : Nat, k ≤ p.conds.length ∧ v7 = .int .i64 k ∧ Mi (wo.heap.size + 1) (wo.alloc (.cells #[.int .u8 x.kind.toNat, .int .u8 x.name.toNat, .bool x.neg, .int .i64 x.lo, .int .i64 x.hi] 130)) wr ca cb cc cd k) (fun v7 _ => 30 - (intOf v7).toNat)
      case atStart => exact ⟨0, Nat.zero_le _, rfl, I0⟩
      case round =>
        obtain ⟨k, hk, rfl, hI⟩ := hrel
        have AM := A0.below hI.bl (by rw [zS]; exact Nat.le_refl _)
        have r0 := AM.hP.cell 0 _ rfl
        have r1 := AM.hP.cell 1 _ rfl
        have r2 := AM.hP.cell 2 _ rfl
        have rP := AM.hP.lt
        clear q0 d0 d1 d2 d3 d4 x0
        by_cases hkl : k < p.conds.length
        · obtain ⟨c, hcc⟩ : ∃ c, p.conds[k]? = some c := ⟨p.conds[k], List.getElem?_eq_getElem hkl⟩
          have hkk : (k : Int) < p.conds.length := by omega
          have sr1 := hs.below AM.bl
          have cr1 := hc.below AM.bl
          obtain ⟨b2, rfl, hbb2, t0, t1, t2, t3⟩ := cr1 k c hcc
          clear hcc
          obtain ⟨v, n, xs, hnk, V0⟩ := hI.open
          obtain ⟨g, cp, rfl⟩ := own_slice V0.own
          have A1 := (Below.refl wr.heap.size wr).alloc (Nat.le_refl _) (.cells #[.int .u8 c.left.toNat, .int .i64 c.op, .int .u8 c.right.toNat, .int .i64 c.add] 135)
          have C0 := Lb.new wr #[.int .u8 c.left.toNat, .int .i64 c.op, .int .u8 c.right.toNat, .int .i64 c.add] 135
          have V1 := V0.below A1
          have AM1 := AM.below A1 (Nat.le_refl _)
          have sr2 := sr1.below A1
          go_wp2_with fail
          refine (rfind_any (some ⟨b, 0, none⟩) (some ⟨b2, 0, none⟩) c1 p.conds.length c2 p.within p.steps c.left _ rfl _ (by omega) (by exact sr2)).mono ?_
          rintro e w2 ⟨rfl, hb2⟩
          have C2 := C0.below hb2 C0.lt
          have V2 := V1.below hb2
          have AM2 := AM1.below hb2 (Nat.le_refl _)
          have sr3 := sr2.below hb2
          have hL := pfind_bd p.steps c.left
          have hR := pfind_bd p.steps c.right
          have FR := rfind_any (some ⟨b, 0, none⟩) (some ⟨b2, 0, none⟩) c1 p.conds.length c2 p.within p.steps c.right _ rfl
          have HFR := Lib.hid FR
          clear FR
          generalize pfind p.steps c.left = L at *
          generalize pfind p.steps c.right = R at *
          generalize (c.left.toNat : Int) = CL at *
          generalize (c.right.toNat : Int) = CR at *
          have u0 := C2.cell 0 _ rfl
          have u1 := C2.cell 1 _ rfl
          have u2 := C2.cell 2 _ rfl
          have u3 := C2.cell 3 _ rfl
          have zC := C2.lt
          have hzN := V2.hN
          have hzX := V2.hX
          clear r0 r1 r2 t0 t1 t2 t3 A1 C0 AM AM1 V1 sr1 sr2 cr1 hb2
          by_cases hr : CR = 0
          · subst hr
            by_cases hli : L = i
            · have hl1 : (L == (i : Int)) = true := beq_iff_eq.2 hli
              have V3 := V2.below ((Below.refl _ _).alloc (Nat.le_refl _) (.cells #[.int .i64 c.op, .int .i64 (-1), .int .i64 c.add, .bool false] 146))
              have HLI := Lib.hid hli
              clear hli
              have f4 := V3.x.cell 4 _ rfl
              go_wp2_with (at_builtin; refine wpList_append_lies _ (by rfl) _ _ _ (by rfl) (wo.heap.size + 1 + 1) 146 j0 _ 4 32 u141 hj0 hj1 hj2 hj3 rfl (by omega) (.slice g n cp) n xs (by rfl) (by exact (V3.below ((Below.refl _ _).alloc (Nat.le_refl _) (.cells #[.int .i64 c.op, .int .i64 (-1), .int .i64 c.add, .bool false] 146))).own) ⟨w2.heap.size + 1, 0, none⟩ 1 1 [.int .i64 c.op, .int .i64 (-1), .int .i64 c.add, .bool false] (by rfl) (by rfl) (World.news_of_block (cs := #[.int .i64 c.op, .int .i64 (-1), .int .i64 c.add, .bool false]) (t := 146) (fr := (0, 0)) (by simpa using heap_alloc_new (w2.alloc (.cells #[.int .i64 c.op, .int .i64 (-1), .int .i64 c.add, .bool false] 146)) _)) (by simp [Value.oneCell']) (by omega) (by unfold maxLen; omega) (by omega) (by have := V3.hX; have := V3.hN; simp at *; omega) (w2.heap.size + 1 + 1) (by simp) ?_; intro gg cap w9 hown9 hgrow hat hlt9; have M9 := (V3.x.alloc (.cells #[.int .i64 c.op, .int .i64 (-1), .int .i64 c.add, .bool false] 146)).grown hgrow (fun e => by have := V3.old _ e.symm; have := V3.hX; have := (V3.own.lt _ e.symm); omega); have k4 := M9.cell 4 _ rfl; have k5 := M9.frozen 4)
              go_roundw
              case rel => exact ⟨k + 1, by omega, by go_num, (V3.below ((Below.refl _ _).alloc (Nat.le_refl _) (.cells #[.int .i64 c.op, .int .i64 (-1), .int .i64 c.add, .bool false] 146))).append (by omega) hgrow hown9⟩
              case measure => simp [intOf]; omega
            · have hl1 : (L == (i : Int)) = false := beq_eq_false_iff_ne.2 hli
              have V3 := V2.below ((Below.refl _ _).alloc (Nat.le_refl _) (.cells #[.int .i64 c.op, .int .i64 0, .int .i64 c.add, .bool false] 146))
              clear hli
              go_wp2
              go_roundw
              case rel => exact ⟨k + 1, by omega, by go_num, V3.mi (by omega)⟩
              case measure => simp [intOf]; omega
          · have hr1 : (CR == 0) = false := beq_eq_false_iff_ne.2 hr
            clear hr
            have E2 := (Below.refl w2.heap.size w2).alloc (Nat.le_refl _) (.cells #[.int .i64 c.op, .int .i64 0, .int .i64 c.add, .bool false] 146)
            have V3 := V2.below E2
            have T3 := Lb.new w2 #[.int .i64 c.op, .int .i64 0, .int .i64 c.add, .bool false] 146
            have AM3 := AM2.below E2 (Nat.le_refl _)
            have sr4 := sr3.below E2
            have r0 := AM2.hP.cell 0 _ rfl
            have r1 := AM2.hP.cell 1 _ rfl
            have r2 := AM2.hP.cell 2 _ rfl
            have rP2 := AM2.hP.lt
            have C3 := C2.alloc (.cells #[.int .i64 c.op, .int .i64 0, .int .i64 c.add, .bool false] 146)
            have v2 := C3.cell 2 _ rfl
            go_wp2_with fail
            refine (HFR.out _ (by omega) (by exact sr4)).mono ?_
            rintro e w3 ⟨rfl, hb3⟩
            have V4 := V3.below hb3
            have T4 := T3.below hb3 T3.lt
            have AM4 := AM3.below hb3 (Nat.le_refl _)
            have sr5 := sr4.below hb3
            have hTN : wr.heap.size ≤ w2.heap.size := hzN
            have g0 := T4.cell 0 _ rfl
            have g1 := T4.cell 1 _ rfl
            have g2 := T4.cell 2 _ rfl
            have g3 := T4.cell 3 _ rfl
            have gf := fun i => T4.frozen i
            have zT := T4.lt
            clear r0 r1 r2 u0 u1 u2 u3 v2 C2 C3 V2 V3 AM2 AM3 T3 sr3 sr4 E2 hb3 HFR
            by_cases hli : L = i
            · have hl1 : (L == (i : Int)) = true := beq_iff_eq.2 hli
              by_cases hri : R = i
              · have hr2 : (R == (i : Int)) = true := beq_iff_eq.2 hri
                have hr3 : decide (R < (i : Int)) = false := by simp; omega
                have hl3 : decide (L < (i : Int)) = false := by simp; omega
                have V5 := V4.setT hTN 1 (.int .i64 (-2))
                have T5 := T4.set 1 (.int .i64 (-2))
                have h0 := T5.cell 0 _ rfl
                have h1 := T5.cell 1 _ rfl
                have h2 := T5.cell 2 _ rfl
                have h3 := T5.cell 3 _ rfl
                have HLI := Lib.hid hli
                have HRI := Lib.hid hri
                clear hli hri
                have f4 := V5.x.cell 4 _ rfl
                go_wp2_with (at_builtin; refine wpList_append_lies _ (by rfl) _ _ _ (by rfl) (wo.heap.size + 1 + 1) 146 j0 _ 4 32 u141 hj0 hj1 hj2 hj3 rfl (by omega) (.slice g n cp) n xs (by rfl) (by exact (V5.below ((Below.refl _ _).alloc (Nat.le_refl _) (.cells #[.int .i64 c.op, .int .i64 (-2), .int .i64 c.add, .bool false] 146))).own) ⟨w3.heap.size, 0, none⟩ 1 1 [.int .i64 c.op, .int .i64 (-2), .int .i64 c.add, .bool false] (by rfl) (by rfl) (World.news_of_block (cs := #[.int .i64 c.op, .int .i64 (-2), .int .i64 c.add, .bool false]) (t := 146) (fr := (0, 0)) (by simpa using heap_alloc_new (w3.setCell ⟨w2.heap.size, 1, none⟩ (.int .i64 (-2))) _)) (by simp [Value.oneCell']) (by omega) (by unfold maxLen; omega) (by omega) (by have := V5.hX; have := V5.hN; simp at *; omega) (w3.heap.size + 1) (by simp) ?_; intro gg cap w9 hown9 hgrow hat hlt9; have M9 := (V5.x.alloc (.cells #[.int .i64 c.op, .int .i64 (-2), .int .i64 c.add, .bool false] 146)).grown hgrow (fun e => by have := V5.old _ e.symm; have := V5.hX; have := (V5.own.lt _ e.symm); omega); have k4 := M9.cell 4 _ rfl; have k5 := M9.frozen 4)
                go_roundw
                case rel => exact ⟨k + 1, by omega, by go_num, (V5.below ((Below.refl _ _).alloc (Nat.le_refl _) (.cells #[.int .i64 c.op, .int .i64 (-2), .int .i64 c.add, .bool false] 146))).append (by omega) hgrow hown9⟩
                case measure => simp [intOf]; omega
              · have hr2 : (R == (i : Int)) = false := beq_eq_false_iff_ne.2 hri
                by_cases hrl : R < i
                · have hr3 : decide (R < (i : Int)) = true := by simp; omega
                  have r0 := AM4.hP.cell 0 _ rfl
                  have r1 := AM4.hP.cell 1 _ rfl
                  have r2 := AM4.hP.cell 2 _ rfl
                  have HLI := Lib.hid hli
                  have HRI := Lib.hid hri
                  clear hli hri
                  go_wp2_with fail
                  refine (posi_any (some ⟨b, 0, none⟩) (some ⟨b2, 0, none⟩) c1 p.conds.length c2 p.within p.steps _ (by omega) (by exact sr5) R (by omega) (by omega)).mono ?_
                  rintro e w5 ⟨⟨n5, rfl⟩, hb5⟩
                  have V5 := (V4.below hb5).setT hTN 1 (.int .i64 n5)
                  have T5 := (T4.below hb5 T4.lt)
                  have x1 := T5.cell 1 _ rfl
                  have xf := fun i => T5.frozen i
                  have T6 := T5.set 1 (.int .i64 n5)
                  have h0 := T6.cell 0 _ rfl
                  have h1 := T6.cell 1 _ rfl
                  have h2 := T6.cell 2 _ rfl
                  have h3 := T6.cell 3 _ rfl
                  have zT5 := T5.lt
                  clear g0 g1 g2 g3 gf r0 r1 r2
                  have f4 := V5.x.cell 4 _ rfl
                  go_wp2_with (at_builtin; refine wpList_append_lies _ (by rfl) _ _ _ (by rfl) (wo.heap.size + 1 + 1) 146 j0 _ 4 32 u141 hj0 hj1 hj2 hj3 rfl (by omega) (.slice g n cp) n xs (by rfl) (by exact (V5.below ((Below.refl _ _).alloc (Nat.le_refl _) (.cells #[.int .i64 c.op, .int .i64 n5, .int .i64 c.add, .bool false] 146))).own) ⟨w5.heap.size, 0, none⟩ 1 1 [.int .i64 c.op, .int .i64 n5, .int .i64 c.add, .bool false] (by rfl) (by rfl) (World.news_of_block (cs := #[.int .i64 c.op, .int .i64 n5, .int .i64 c.add, .bool false]) (t := 146) (fr := (0, 0)) (by simpa using heap_alloc_new (w5.setCell ⟨w2.heap.size, 1, none⟩ (.int .i64 n5)) _)) (by simp [Value.oneCell']) (by omega) (by unfold maxLen; omega) (by omega) (by have := V5.hX; have := V5.hN; simp at *; omega) (w5.heap.size + 1) (by simp) ?_; intro gg cap w9 hown9 hgrow hat hlt9; have M9 := (V5.x.alloc (.cells #[.int .i64 c.op, .int .i64 n5, .int .i64 c.add, .bool false] 146)).grown hgrow (fun e => by have := V5.old _ e.symm; have := V5.hX; have := (V5.own.lt _ e.symm); omega); have k4 := M9.cell 4 _ rfl; have k5 := M9.frozen 4)
                  go_roundw
                  case rel => exact ⟨k + 1, by omega, by go_num, (V5.below ((Below.refl _ _).alloc (Nat.le_refl _) (.cells #[.int .i64 c.op, .int .i64 n5, .int .i64 c.add, .bool false] 146))).append (by omega) hgrow hown9⟩
                  case measure => simp [intOf]; omega
                · have hr3 : decide (R < (i : Int)) = false := by simp; omega
                  have HLI := Lib.hid hli
                  clear hli hri
                  go_wp2
                  go_roundw
                  case rel => exact ⟨k + 1, by omega, by go_num, V4.mi (by omega)⟩
                  case measure => simp [intOf]; omega
            · have hl1 : (L == (i : Int)) = false := beq_eq_false_iff_ne.2 hli
              by_cases hri : R = i
              · have hr2 : (R == (i : Int)) = true := beq_iff_eq.2 hri
                by_cases hll : L < i
                · have hl3 : decide (L < (i : Int)) = true := by simp; omega
                  have r0 := AM4.hP.cell 0 _ rfl
                  have r1 := AM4.hP.cell 1 _ rfl
                  have r2 := AM4.hP.cell 2 _ rfl
                  have HRI := Lib.hid hri
                  clear hli hri
                  go_wp2_with fail
                  refine (posi_any (some ⟨b, 0, none⟩) (some ⟨b2, 0, none⟩) c1 p.conds.length c2 p.within p.steps _ (by omega) (by exact sr5) L (by omega) (by omega)).mono ?_
                  rintro e w5 ⟨⟨n5, rfl⟩, hb5⟩
                  have V5 := ((V4.below hb5).setT hTN 1 (.int .i64 n5)).setT hTN 3 (.bool true)
                  have T5 := (T4.below hb5 T4.lt)
                  have x1 := T5.cell 1 _ rfl
                  have x3 := T5.cell 3 _ rfl
                  have xf := fun i => T5.frozen i
                  have T6 := (T5.set 1 (.int .i64 n5))
                  have y3 := T6.cell 3 _ rfl
                  have yf := fun i => T6.frozen i
                  have T7 := (T6.set 3 (.bool true))
                  have h0 := T7.cell 0 _ rfl
                  have h1 := T7.cell 1 _ rfl
                  have h2 := T7.cell 2 _ rfl
                  have h3 := T7.cell 3 _ rfl
                  have zT5 := T5.lt
                  clear g0 g1 g2 g3 gf r0 r1 r2
                  have f4 := V5.x.cell 4 _ rfl
                  go_wp2_with (at_builtin; refine wpList_append_lies _ (by rfl) _ _ _ (by rfl) (wo.heap.size + 1 + 1) 146 j0 _ 4 32 u141 hj0 hj1 hj2 hj3 rfl (by omega) (.slice g n cp) n xs (by rfl) (by exact (V5.below ((Below.refl _ _).alloc (Nat.le_refl _) (.cells #[.int .i64 c.op, .int .i64 n5, .int .i64 c.add, .bool true] 146))).own) ⟨w5.heap.size, 0, none⟩ 1 1 [.int .i64 c.op, .int .i64 n5, .int .i64 c.add, .bool true] (by rfl) (by rfl) (World.news_of_block (cs := #[.int .i64 c.op, .int .i64 n5, .int .i64 c.add, .bool true]) (t := 146) (fr := (0, 0)) (by simpa using heap_alloc_new ((w5.setCell ⟨w2.heap.size, 1, none⟩ (.int .i64 n5)).setCell ⟨w2.heap.size, 3, none⟩ (.bool true)) _)) (by simp [Value.oneCell']) (by omega) (by unfold maxLen; omega) (by omega) (by have := V5.hX; have := V5.hN; simp at *; omega) (w5.heap.size + 1) (by simp) ?_; intro gg cap w9 hown9 hgrow hat hlt9; have M9 := (V5.x.alloc (.cells #[.int .i64 c.op, .int .i64 n5, .int .i64 c.add, .bool true] 146)).grown hgrow (fun e => by have := V5.old _ e.symm; have := V5.hX; have := (V5.own.lt _ e.symm); omega); have k4 := M9.cell 4 _ rfl; have k5 := M9.frozen 4)
                  go_roundw
                  case rel => exact ⟨k + 1, by omega, by go_num, (V5.below ((Below.refl _ _).alloc (Nat.le_refl _) (.cells #[.int .i64 c.op, .int .i64 n5, .int .i64 c.add, .bool true] 146))).append (by omega) hgrow hown9⟩
                  case measure => simp [intOf]; omega
                · have hl3 : decide (L < (i : Int)) = false := by simp; omega
                  have HRI := Lib.hid hri
                  clear hli hri
                  go_wp2
                  go_roundw
                  case rel => exact ⟨k + 1, by omega, by go_num, V4.mi (by omega)⟩
                  case measure => simp [intOf]; omega
              · have hr2 : (R == (i : Int)) = false := beq_eq_false_iff_ne.2 hri
                clear hli hri
                go_wp2
                go_roundw
                case rel => exact ⟨k + 1, by omega, by go_num, V4.mi (by omega)⟩
                case measure => simp [intOf]; omega
        · have hkk : ¬ (k : Int) < p.conds.length := by omega
          obtain ⟨v', n', xs', hn', hX', hown'⟩ := hI.hX
          obtain ⟨g', cp', rfl⟩ := own_slice hown'
          rw [EA.out, EB.out, EC.out, ED.out] at hX'
          obtain ⟨v, n, xs, hn, hO, hown⟩ := AM.hO
          obtain ⟨g, cp, rfl⟩ := own_slice hown
          generalize (x.kind.toNat : Int) = KX at *
          generalize (x.name.toNat : Int) = NX at *
          have x0' := hX'.cell 0 _ rfl
          have x1' := hX'.cell 1 _ rfl
          have x2' := hX'.cell 2 _ rfl
          have x3' := hX'.cell 3 _ rfl
          have x4' := hX'.cell 4 _ rfl
          have o0' := hO.cell 0 _ rfl
          have hOl := hO.lt
          have own2 := hown.alloc (.cells #[.int .u8 KX, .bool x.neg, .int .i64 x.lo, .int .i64 x.hi, .slice g' n' cp'] 143)
          have EE := (Below.refl wr.heap.size wr).alloc (Nat.le_refl _) (.cells #[.int .u8 KX, .bool x.neg, .int .i64 x.lo, .int .i64 x.hi, .slice g' n' cp'] 143)
          go_wp2_with (at_builtin; refine wpList_append_lies _ (by rfl) _ _ _ (by rfl) (w.heap.size + 3) 143 i0 _ 5 48 und44 hi0 hi1 hi2 hi3 rfl (by omega) (.slice g n cp) n xs (by rfl) (by exact own2) ⟨wr.heap.size, 0, none⟩ 1 1 [.int .u8 KX, .bool x.neg, .int .i64 x.lo, .int .i64 x.hi, .slice g' n' cp'] (by rfl) (by rfl) (World.news_of_block (cs := #[.int .u8 KX, .bool x.neg, .int .i64 x.lo, .int .i64 x.hi, .slice g' n' cp']) (t := 143) (fr := (0, 0)) (heap_alloc_new wr _)) (by simp [Value.oneCell']) (by omega) (by unfold maxLen; omega) (by omega) (by simp; omega) (wr.heap.size + 1) (by simp) ?_; intro gg cap w9 hown9 hgrow hat hlt9; have M9 := (hO.alloc (.cells #[.int .u8 KX, .bool x.neg, .int .i64 x.lo, .int .i64 x.hi, .slice g' n' cp'] 143)).grown hgrow (fun e => by have := hown.lt _ e.symm; omega); have k4 := M9.cell 0 _ rfl; have k5 := M9.frozen 0)
          go_roundw
          case rel => exact ⟨i + 1, by omega, by go_num, (AM.below EE (Nat.le_refl _)).append (hO.alloc _) own2 hn hgrow hown9⟩
          case measure => simp [intOf]; omega
    · have hii : ¬ (i : Int) < p.steps.length := by omega
      obtain ⟨v, n, xs, hn, hO, hown⟩ := hM.hO
      obtain ⟨g, cp, rfl⟩ := own_slice hown
      have o0 := hO.cell 0 _ rfl
      have o1 := hO.cell 1 _ rfl
      have z0 := hM.hR.cell 0 _ rfl
      have z1 := hM.hR.cell 1 _ rfl
      have zf := fun i => hM.hR.frozen i
      go_wp2
      have Y := (hM.hR.set 0 (.slice g n cp)).set 1 (.int .i64 p.within)
      have y0 := Y.cell 0 _ rfl
      have y1 := Y.cell 1 _ rfl
      refine bodyPost_ret (v := .agg #[.slice g n cp, .int .i64 p.within]) (by simp only [results, Tryz.results25]; simp [go_sem, y0, y1]) rfl ?_
      exact ⟨⟨_, _, _, _, rfl⟩, (hM.bl.setCell (p := ⟨w.heap.size + 1, 0, none⟩) (Nat.le_succ _) _).setCell (p := ⟨w.heap.size + 1, 1, none⟩) (Nat.le_succ _) _⟩
end Go.Proofs.YthbiiccblcoogaaGreatDoor
