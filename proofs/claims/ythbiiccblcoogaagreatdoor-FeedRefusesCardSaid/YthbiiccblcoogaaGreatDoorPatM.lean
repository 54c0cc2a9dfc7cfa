/- The walk of 'pattern'. -/
import Derived.Test.YthbiiccblcoogaaGreatDoorPatL
set_option linter.unusedVariables false
set_option linter.unusedSimpArgs false
namespace Go.Proofs.YthbiiccblcoogaaGreatDoor
open Go.RowKit

set_option maxRecDepth 100000 in
set_option maxHeartbeats 6400000 in
theorem pattern_any (b : Nat) (s : ByteArray) (w : World) (h : Rd w b s 0) (hz : s.size ≤ 4096) :
    Calls Tryz.prog 169 #[.pointer (some ⟨b, 0, none⟩)] w (PatR b s w (Pat.pattern s.data.toList)) := by
  obtain ⟨R, hR⟩ : ∃ R, Pat.pattern s.data.toList = R := ⟨_, rfl⟩
  rw [hR]
  rw [pattern_eq] at hR
  obtain ⟨i0, hi0, hz0, hz1, hz2⟩ := info_parts info342
  obtain ⟨j0, hj0, hj1, hj2, hj3⟩ := info_parts info350
  have hbb := h.hb
  rcases h1 : Pat.word s.data.toList [83, 69, 81, 40] 0 with _ | a1
  · rw [h1] at hR
    have HR := Lib.hid hR
    have H1 := Lib.hid h1
    clear h1 hR
    go_enter Tryz.func169, Tryz.ntmps169
    go_wp2_with fail
    refine (word_none b 0 s _ _ (by exact h.alloc _) hz (by decide) (Nat.zero_le _) H1.out).mono ?_
    rintro e w1 ⟨⟨a, c, rfl, hf⟩, ho1⟩
    exact ⟨rfl, PatR.bad HR.out.symm ⟨a, c, rfl, hf⟩ (((Oth.refl b w).alloc _).trans ho1)⟩
  rw [h1] at hR
  simp only at hR
  have hs1 : a1 ≤ s.size := word_sz (Nat.zero_le _) h1
  have H1 := Lib.hid h1
  clear h1
  rw [pStep_eq] at hR
  go_enter Tryz.func169, Tryz.ntmps169
  rcases h2 : Pat.step s.data.toList 0 a1 with _ | ⟨x1, q1⟩
  · rw [show ([] : List Pat.Step).length = 0 from rfl, h2] at hR
    have HR := Lib.hid hR
    have H2 := Lib.hid h2
    clear h2 hR
    go_wp2_with fail
    refine (word_some b 0 a1 s _ _ (by exact h.alloc _) hz (by decide) (Nat.zero_le _) H1.out).mono ?_
    rintro e w1 ⟨rfl, hrd1, ho1⟩
    have L1 := (Lb.new w #[.slice none 0 0, .slice none 0 0, .int .i64 0] 242).oth ho1 (by omega)
    have O1 := ((Oth.refl b w).alloc _).trans ho1
    have z1 := L1.lt
    have c0 := L1.cell 0 _ rfl
    go_wp2_with fail
    go_region_law (refine ended w ?_ ?_; go_simp; go_at_call 252; refine (step_none b a1 0 s _ (by exact hrd1.drew) hz hs1 0 rfl H2.out).mono ?_; rintro e w2 ⟨⟨a, c, rfl, hf⟩, ho2⟩; exact ⟨rfl, PatR.bad HR.out.symm ⟨a, c, rfl, hf⟩ (O1.trans ho2.undrew)⟩)
    all_goals trivial
  rw [show ([] : List Pat.Step).length = 0 from rfl, h2] at hR
  simp only [List.nil_append] at hR
  have hq1 : q1 ≤ s.size := step_sz h2
  have HR := Lib.hid hR
  have H2 := Lib.hid h2
  clear h2 hR
  go_wp2_with fail
  refine (word_some b 0 a1 s _ _ (by exact h.alloc _) hz (by decide) (Nat.zero_le _) H1.out).mono ?_
  rintro e w1 ⟨rfl, hrd1, ho1⟩
  have L1 := (Lb.new w #[.slice none 0 0, .slice none 0 0, .int .i64 0] 242).oth ho1 (by omega)
  have O1 := ((Oth.refl b w).alloc _).trans ho1
  have S1 : St b s w [] [] (.slice none 0 0) (.slice none 0 0) a1 w1 := ⟨hs1, hrd1, O1, L1, World.ownsRow_nil _ _ _ _, World.ownsRow_nil _ _ _ _, .inl rfl⟩
  have z1 := L1.lt
  have c0 := L1.cell 0 _ rfl
  go_wp2_with fail
  go_cut [] (fun wr => ∃ g c, St b s w [x1] [] (.slice g 1 c) (.slice none 0 0) q1 wr)
  case first =>
    go_region_law (first | (refine step_append_lies _ (by rfl) _ _ _ (by rfl) (w.heap.size + 1) 342 i0 _ 5 24 Tryz.underlying239 hi0 hz0 hz1 hz2 rfl (by omega) (.slice none 0 0) 0 [] (by rfl) (World.ownsRow_nil _ _ _ _) ⟨w2.heap.size, 0, none⟩ 1 1 [.int .u8 x1.kind.toNat, .int .u8 x1.name.toNat, .bool x1.neg, .int .i64 x1.lo, .int .i64 x1.hi] (by rfl) (by rfl) (World.news_of_block (cs := #[.int .u8 x1.kind.toNat, .int .u8 x1.name.toNat, .bool x1.neg, .int .i64 x1.lo, .int .i64 x1.hi]) (t := 342) (fr := (0, 0)) (heap_alloc_new w2 _)) (by simp [Value.oneCell']) (by omega) (by unfold maxLen; omega) (by omega) (by have := S2.lt; simp; omega) (w2.heap.size + 1) (by simp) ?_; intro gg cap w3 hown3 hgrow hat hlt; have M3 := (S2.blk.alloc (.cells #[.int .u8 x1.kind.toNat, .int .u8 x1.name.toNat, .bool x1.neg, .int .i64 x1.lo, .int .i64 x1.hi] 342)).grown hgrow (by simp [Value.ownBlock]); have k3 := M3.cell 0 _ rfl; have k4 := M3.frozen 0) | (go_simp; go_at_call 252; refine (step_some b a1 0 q1 x1 s _ (by exact hrd1.drew) hz hs1 0 rfl H2.out).mono ?_; rintro e w2 ⟨rfl, hrd2, ho2⟩; have S2 := S1.via hbb hq1 hrd2 ho2.undrew; have k0 := S2.blk.cell 0 _ rfl; have k5 := fun o => (S2.blk.alloc o).cell 0 _ rfl))
    all_goals
      go_wp2
      go_meet
      exact ⟨_, _, St.appendS (ls := []) (x := x1) hbb S2 hgrow rfl (by simp [cellsS, encS, Value.cells]) hown3 hat⟩
  case rest =>
    obtain ⟨g1, c1, S2⟩ := hcut
    go_upto_block 0 with fail
    go_cut [] (fun wr => ∃ l g c p, St b s w l [] (.slice g l.length c) (.slice none 0 0) p wr ∧ pAfter s.data.toList l p = R)
    case first =>
      go_wp2_with fail
      go_loopg [] 8 (fun k wr => ∃ l g c p, l.length + k = 9 ∧ 1 ≤ k ∧ St b s w l [] (.slice g l.length c) (.slice none 0 0) p wr ∧ pSteps s.data.toList k l p = R)
      case atStart => exact ⟨[x1], g1, c1, q1, rfl, by omega, S2, HR.out⟩
      case round =>
        obtain ⟨l, g, c, p, hlk, hk1, S3, hR⟩ := hrel
        obtain ⟨k, rfl⟩ : ∃ k, gk = k + 1 := ⟨gk - 1, by omega⟩
        unfold pSteps at hR
        have hp := S3.le
        have hrd := S3.rd
        rcases hb : Pat.isB s.data.toList 44 44 p with _ | _
        · rw [hb] at hR
          have HR := Lib.hid hR
          have HB := Lib.hid hb
          clear hb hR
          go_wp2_with (go_at_call 253; refine (has_is b p p s 44 44 false _ (by exact hrd) hz hp rfl HB.out rfl).mono ?_; rintro e w2 ⟨rfl, hrd2, ho2⟩)
          go_meet
          exact ⟨l, g, c, p, S3.via hbb hp hrd2 ho2, HR.out⟩
        · rw [hb] at hR
          simp only [if_true] at hR
          rw [pStep_eq] at hR
          have hp1 : p + 1 ≤ s.size := isB_le hb
          have HB := Lib.hid hb
          clear hb
          rcases h3 : Pat.step s.data.toList l.length (p + 1) with _ | ⟨x, q⟩
          · rw [h3] at hR
            have HR := Lib.hid hR
            have H3 := Lib.hid h3
            clear h3 hR
            go_wp2_with (go_at_call 253; refine (has_is b p (p + 1) s 44 44 true _ (by exact hrd) hz hp rfl HB.out rfl).mono ?_; rintro e w2 ⟨rfl, hrd2, ho2⟩)
            have S4 := S3.via hbb hp1 hrd2 ho2
            have z4 := S4.lt
            have c0 := S4.blk.cell 0 _ rfl
            go_wp2_with fail
            go_region_law (refine ended w ?_ ?_; go_simp; go_at_call 252; refine (step_none b (p + 1) l.length s _ (by exact hrd2.drew) hz hp1 _ rfl H3.out).mono ?_; rintro e w3 ⟨⟨a, c, rfl, hf⟩, ho3⟩; exact ⟨rfl, PatR.bad HR.out.symm ⟨a, c, rfl, hf⟩ (S4.oth.trans ho3.undrew)⟩)
            all_goals trivial
          · rw [h3] at hR
            simp only at hR
            have hq : q ≤ s.size := step_sz h3
            have hl8 : l.length ≠ 8 := fun e => by rw [e, Pat.step, if_pos rfl] at h3; cases h3
            have HR := Lib.hid hR
            have H3 := Lib.hid h3
            clear h3 hR
            go_wp2_with (go_at_call 253; refine (has_is b p (p + 1) s 44 44 true _ (by exact hrd) hz hp rfl HB.out rfl).mono ?_; rintro e w2 ⟨rfl, hrd2, ho2⟩)
            have S4 := S3.via hbb hp1 hrd2 ho2
            have z4 := S4.lt
            have c0 := S4.blk.cell 0 _ rfl
            go_wp2_with fail
            go_region_law (first | (refine step_append_lies _ (by rfl) _ _ _ (by rfl) (w.heap.size + 1) 342 i0 _ 5 24 Tryz.underlying239 hi0 hz0 hz1 hz2 rfl (by omega) (.slice g l.length c) l.length (cellsS l) (by rfl) (S5.own1.alloc _) ⟨w3.heap.size, 0, none⟩ 1 1 [.int .u8 x.kind.toNat, .int .u8 x.name.toNat, .bool x.neg, .int .i64 x.lo, .int .i64 x.hi] (by rfl) (by rfl) (World.news_of_block (cs := #[.int .u8 x.kind.toNat, .int .u8 x.name.toNat, .bool x.neg, .int .i64 x.lo, .int .i64 x.hi]) (t := 342) (fr := (0, 0)) (heap_alloc_new w3 _)) (by simp [Value.oneCell']) (by omega) (by unfold maxLen; omega) (by omega) (by have := S5.lt; simp; omega) (w3.heap.size + 1) (by simp) ?_; intro gg cap w4 hown3 hgrow hat hlt; have M3 := (S5.blk.alloc (.cells #[.int .u8 x.kind.toNat, .int .u8 x.name.toNat, .bool x.neg, .int .i64 x.lo, .int .i64 x.hi] 342)).grown hgrow (fun e => by have := S5.own1.lt _ e.symm; omega); have k3 := M3.cell 0 _ rfl; have k4 := M3.frozen 0) | (go_simp; go_at_call 252; refine (step_some b (p + 1) l.length q x s _ (by exact hrd2.drew) hz hp1 _ rfl H3.out).mono ?_; rintro e w3 ⟨rfl, hrd3, ho3⟩; have S5 := S4.via hbb hq hrd3 ho3.undrew; have k0 := S5.blk.cell 0 _ rfl; have k5 := fun o => (S5.blk.alloc o).cell 0 _ rfl))
            all_goals
              go_wp2
              go_roundg k
              case measure => omega
              case rel =>
                have S6 := St.appendS (n := l.length + 1) hbb S5 hgrow rfl (by rw [cellsS_snoc]) hown3 hat
                exact ⟨l ++ [x], _, _, q, by simp; omega, by omega, by simpa using S6, HR.out⟩
    case rest =>
      obtain ⟨l, g, c, p, S2, hR⟩ := hcut
      unfold pAfter at hR
      have hp := S2.le
      have hrd := S2.rd
      rcases h4 : Pat.word s.data.toList [41, 32, 87] p with _ | a3
      · rw [h4] at hR
        have HR := Lib.hid hR
        have H4 := Lib.hid h4
        clear h4 hR
        go_wp2_with fail
        refine (word_none b p s _ _ (by exact hrd) hz (by decide) hp H4.out).mono ?_
        rintro e w2 ⟨⟨a, c, rfl, hf⟩, ho2⟩
        exact ⟨rfl, PatR.bad HR.out.symm ⟨a, c, rfl, hf⟩ (S2.oth.trans ho2)⟩
      rw [h4] at hR
      simp only at hR
      have ha3 : a3 ≤ s.size := word_sz hp h4
      have HR := Lib.hid hR
      have H4 := Lib.hid h4
      clear h4 hR
      go_wp2_with fail
      refine (word_some b p a3 s _ _ (by exact hrd) hz (by decide) hp H4.out).mono ?_
      rintro e w2 ⟨rfl, hrd2, ho2⟩
      have S3 := S2.via hbb ha3 hrd2 ho2
      obtain ⟨T, hT⟩ : ∃ T, Pat.isB s.data.toList 72 72 a3 = T := ⟨_, rfl⟩
      have HT := Lib.hid hT
      clear hT
      go_upto_if 27 with (go_at_call 253; refine (has_is b a3 (if T then a3 + 1 else a3) s 72 72 T _ (by exact hrd2) hz ha3 rfl HT.out rfl).mono ?_; rintro e w3 ⟨rfl, hrd3, ho3⟩)
      go_cut [] (fun wr => ∃ lc g' c' q, St b s w l lc (.slice g l.length c) (.slice g' lc.length c') q wr ∧ pTail s.data.toList l lc q = R)
      case first =>
        have hR := HR.out
        have h5 := HT.out
        clear HR HT
        rcases T with _ | _
        · rw [h5] at hR
          have HR := Lib.hid hR
          have H5 := Lib.hid h5
          clear h5 hR
          go_wp2
          go_meet
          exact ⟨[], none, 0, a3, S3.via hbb ha3 hrd3 ho3, HR.out⟩
        rw [h5] at hR
        simp only [if_true] at hR
        have ha4 : a3 + 1 ≤ s.size := isB_le h5
        simp only [if_true] at hrd3
        have H5 := Lib.hid h5
        clear h5
        rcases h6 : Pat.word s.data.toList [69, 82, 69, 32] (a3 + 1) with _ | a4
        · rw [h6] at hR
          have HR := Lib.hid hR
          have H6 := Lib.hid h6
          clear h6 hR
          go_wp2_with fail
          refine (word_none b (a3 + 1) s _ _ (by exact hrd3) hz (by decide) ha4 H6.out).mono ?_
          rintro e w4 ⟨⟨a, c, rfl, hf⟩, ho4⟩
          exact ⟨rfl, PatR.bad HR.out.symm ⟨a, c, rfl, hf⟩ ((S3.oth.trans ho3).trans ho4)⟩
        rw [h6] at hR
        simp only at hR
        have hb4 : a4 ≤ s.size := word_sz ha4 h6
        have H6 := Lib.hid h6
        clear h6
        rw [pCond_eq] at hR
        go_wp2_with fail
        refine (word_some b (a3 + 1) a4 s _ _ (by exact hrd3) hz (by decide) ha4 H6.out).mono ?_
        rintro e w4 ⟨rfl, hrd4, ho4⟩
        have S4 := S3.via hbb hb4 hrd4 (ho3.trans ho4)
        have z4 := S4.lt
        have c1 := S4.blk.cell 1 _ rfl
        rcases h7 : Pat.cond s.data.toList 0 a4 with _ | ⟨x, q⟩
        · rw [show ([] : List Pat.Cond).length = 0 from rfl, h7] at hR
          have HR := Lib.hid hR
          have H7 := Lib.hid h7
          clear h7 hR
          go_wp2_with fail
          go_region_law (refine ended w ?_ ?_; go_simp; go_at_call 254; refine (cond_none b a4 0 s _ (by exact hrd4.drew) hz hb4 0 rfl H7.out).mono ?_; rintro e w5 ⟨⟨a, c, rfl, hf⟩, ho5⟩; exact ⟨rfl, PatR.bad HR.out.symm ⟨a, c, rfl, hf⟩ (S4.oth.trans ho5.undrew)⟩)
          all_goals trivial
        rw [show ([] : List Pat.Cond).length = 0 from rfl, h7] at hR
        simp only [List.nil_append] at hR
        have hq : q ≤ s.size := cond_sz h7
        have HR := Lib.hid hR
        have H7 := Lib.hid h7
        clear h7 hR
        go_wp2_with fail
        go_cut [] (fun wr => ∃ g' c', St b s w l [x] (.slice g l.length c) (.slice g' 1 c') q wr)
        case first =>
          go_region_law (first | (refine step_append_lies _ (by rfl) _ _ _ (by rfl) (w.heap.size + 1) 350 j0 _ 4 32 Tryz.underlying240 hj0 hj1 hj2 hj3 rfl (by omega) (.slice none 0 0) 0 [] (by rfl) (S5.own2.alloc _) ⟨w5.heap.size, 0, none⟩ 1 1 [.int .u8 x.left.toNat, .int .i64 x.op, .int .u8 x.right.toNat, .int .i64 x.add] (by rfl) (by rfl) (World.news_of_block (cs := #[.int .u8 x.left.toNat, .int .i64 x.op, .int .u8 x.right.toNat, .int .i64 x.add]) (t := 350) (fr := (0, 0)) (heap_alloc_new w5 _)) (by simp [Value.oneCell']) (by omega) (by unfold maxLen; omega) (by omega) (by have := S5.lt; simp; omega) (w5.heap.size + 1) (by simp) ?_; intro gg cap w6 hown3 hgrow hat hlt; have M3 := (S5.blk.alloc (.cells #[.int .u8 x.left.toNat, .int .i64 x.op, .int .u8 x.right.toNat, .int .i64 x.add] 350)).grown hgrow (fun e => by have := S5.own2.lt _ e.symm; omega); have k3 := M3.cell 1 _ rfl; have k4 := M3.frozen 1) | (go_simp; go_at_call 254; refine (cond_some b a4 0 q x s _ (by exact hrd4.drew) hz hb4 0 rfl H7.out).mono ?_; rintro e w5 ⟨rfl, hrd5, ho5⟩; have S5 := S4.via hbb hq hrd5 ho5.undrew; have k0 := S5.blk.cell 1 _ rfl; have k5 := fun o => (S5.blk.alloc o).cell 1 _ rfl))
          all_goals
            go_wp2
            go_meet
            exact ⟨_, _, St.appendC (lc := []) (x := x) hbb S5 hgrow rfl (by simp [cellsC, encC, Value.cells]) hown3 hat⟩
        case rest =>
          obtain ⟨g2, c2, S6⟩ := hcut
          have hR := HR.out
          clear HR
          have hrd6 := S6.rd
          rcases h8 : Pat.word s.data.toList [32] q with _ | q1
          · rw [h8] at hR
            have HR := Lib.hid hR
            have H8 := Lib.hid h8
            clear h8 hR
            go_wp2_with fail
            refine (word_none b q s _ _ (by exact hrd6) hz (by decide) hq H8.out).mono ?_
            rintro e w7 ⟨⟨a, c, rfl, hf⟩, ho7⟩
            exact ⟨rfl, PatR.bad HR.out.symm ⟨a, c, rfl, hf⟩ (S6.oth.trans ho7)⟩
          rw [h8] at hR
          simp only at hR
          have hq1 : q1 ≤ s.size := word_sz hq h8
          have HR := Lib.hid hR
          have H8 := Lib.hid h8
          clear h8 hR
          go_wp2_with fail
          refine (word_some b q q1 s _ _ (by exact hrd6) hz (by decide) hq H8.out).mono ?_
          rintro e w7 ⟨rfl, hrd7, ho7⟩
          have S7 := S6.via hbb hq1 hrd7 ho7
          go_upto_block 2 with fail
          go_cut [] (fun wr => ∃ lc g' c' q, St b s w l lc (.slice g l.length c) (.slice g' lc.length c') q wr ∧ pEnd s.data.toList l lc q = R)
          case first =>
            go_wp2_with fail
            go_loopg [] 16 (fun k wr => ∃ lc g' c' q, lc.length + k = 17 ∧ 1 ≤ k ∧ St b s w l lc (.slice g l.length c) (.slice g' lc.length c') q wr ∧ pMore s.data.toList l k lc q = R)
            case atStart => exact ⟨[x], g2, c2, q1, rfl, by omega, S7, HR.out⟩
            case round =>
              obtain ⟨lc, g', c', p, hlk, hk1, S8, hR⟩ := hrel
              obtain ⟨k, rfl⟩ : ∃ k, gk = k + 1 := ⟨gk - 1, by omega⟩
              unfold pMore at hR
              have hp := S8.le
              have hrd := S8.rd
              rcases hb : Pat.isB s.data.toList 65 65 p with _ | _
              · rw [hb] at hR
                have HR := Lib.hid hR
                have HB := Lib.hid hb
                clear hb hR
                go_wp2_with (go_at_call 253; refine (has_is b p p s 65 65 false _ (by exact hrd) hz hp rfl HB.out rfl).mono ?_; rintro e w9 ⟨rfl, hrd9, ho9⟩)
                go_meet
                exact ⟨lc, g', c', p, S8.via hbb hp hrd9 ho9, HR.out⟩
              rw [hb] at hR
              simp only [if_true] at hR
              have hp1 : p + 1 ≤ s.size := isB_le hb
              have HB := Lib.hid hb
              clear hb
              go_wp2_with (go_at_call 253; refine (has_is b p (p + 1) s 65 65 true _ (by exact hrd) hz hp rfl HB.out rfl).mono ?_; rintro e w9 ⟨rfl, hrd9, ho9⟩)
              rcases h9 : Pat.word s.data.toList [78, 68, 32] (p + 1) with _ | a9
              · rw [h9] at hR
                have HR := Lib.hid hR
                have H9 := Lib.hid h9
                clear h9 hR
                refine (word_none b (p + 1) s _ _ (by exact hrd9) hz (by decide) hp1 H9.out).mono ?_
                rintro e w10 ⟨⟨a, c, rfl, hf⟩, ho10⟩
                exact ⟨rfl, PatR.bad HR.out.symm ⟨a, c, rfl, hf⟩ ((S8.oth.trans ho9).trans ho10)⟩
              rw [h9] at hR
              simp only at hR
              have ha9 : a9 ≤ s.size := word_sz hp1 h9
              have H9 := Lib.hid h9
              clear h9
              rw [pCond_eq] at hR
              refine (word_some b (p + 1) a9 s _ _ (by exact hrd9) hz (by decide) hp1 H9.out).mono ?_
              rintro e w10 ⟨rfl, hrd10, ho10⟩
              have S10 := S8.via hbb ha9 hrd10 (ho9.trans ho10)
              have z10 := S10.lt
              have d1 := S10.blk.cell 1 _ rfl
              rcases h10 : Pat.cond s.data.toList lc.length a9 with _ | ⟨y, q⟩
              · rw [h10] at hR
                have HR := Lib.hid hR
                have H10 := Lib.hid h10
                clear h10 hR
                go_wp2_with fail
                go_region_law (refine ended w ?_ ?_; go_simp; go_at_call 254; refine (cond_none b a9 lc.length s _ (by exact hrd10.drew) hz ha9 _ rfl H10.out).mono ?_; rintro e w11 ⟨⟨a, c, rfl, hf⟩, ho11⟩; exact ⟨rfl, PatR.bad HR.out.symm ⟨a, c, rfl, hf⟩ (S10.oth.trans ho11.undrew)⟩)
                all_goals trivial
              rw [h10] at hR
              simp only at hR
              have hq : q ≤ s.size := cond_sz h10
              have hl16 : lc.length ≠ 16 := fun e => by rw [e, Pat.cond, if_pos rfl] at h10; cases h10
              have HR := Lib.hid hR
              have H10 := Lib.hid h10
              clear h10 hR
              go_wp2_with fail
              go_cut [] (fun wr => ∃ g5 c5, St b s w l (lc ++ [y]) (.slice g l.length c) (.slice g5 (lc.length + 1) c5) q wr)
              case first =>
                go_region_law (first | (refine step_append_lies _ (by rfl) _ _ _ (by rfl) (w.heap.size + 1) 350 j0 _ 4 32 Tryz.underlying240 hj0 hj1 hj2 hj3 rfl (by omega) (.slice g' lc.length c') lc.length (cellsC lc) (by rfl) (S11.own2.alloc _) ⟨w11.heap.size, 0, none⟩ 1 1 [.int .u8 y.left.toNat, .int .i64 y.op, .int .u8 y.right.toNat, .int .i64 y.add] (by rfl) (by rfl) (World.news_of_block (cs := #[.int .u8 y.left.toNat, .int .i64 y.op, .int .u8 y.right.toNat, .int .i64 y.add]) (t := 350) (fr := (0, 0)) (heap_alloc_new w11 _)) (by simp [Value.oneCell']) (by omega) (by unfold maxLen; omega) (by omega) (by have := S11.lt; simp; omega) (w11.heap.size + 1) (by simp) ?_; intro gg cap w12 hown3 hgrow hat hlt; have M3 := (S11.blk.alloc (.cells #[.int .u8 y.left.toNat, .int .i64 y.op, .int .u8 y.right.toNat, .int .i64 y.add] 350)).grown hgrow (fun e => by have := S11.own2.lt _ e.symm; omega); have k3 := M3.cell 1 _ rfl; have k4 := M3.frozen 1) | (go_simp; go_at_call 254; refine (cond_some b a9 lc.length q y s _ (by exact hrd10.drew) hz ha9 _ rfl H10.out).mono ?_; rintro e w11 ⟨rfl, hrd11, ho11⟩; have S11 := S10.via hbb hq hrd11 ho11.undrew; have k0 := S11.blk.cell 1 _ rfl; have k5 := fun o => (S11.blk.alloc o).cell 1 _ rfl))
                all_goals
                  go_wp2
                  go_meet
                  exact ⟨_, _, St.appendC hbb S11 hgrow rfl (by rw [cellsC_snoc]) hown3 hat⟩
              case rest =>
                obtain ⟨g5, c5, S12⟩ := hcut
                have hR := HR.out
                clear HR
                have hrd12 := S12.rd
                rcases h11 : Pat.word s.data.toList [32] q with _ | q2
                · rw [h11] at hR
                  have HR := Lib.hid hR
                  have H11 := Lib.hid h11
                  clear h11 hR
                  go_wp2_with fail
                  refine (word_none b q s _ _ (by exact hrd12) hz (by decide) hq H11.out).mono ?_
                  rintro e w13 ⟨⟨a, c, rfl, hf⟩, ho13⟩
                  exact ⟨rfl, PatR.bad HR.out.symm ⟨a, c, rfl, hf⟩ (S12.oth.trans ho13)⟩
                rw [h11] at hR
                simp only at hR
                have hq2 : q2 ≤ s.size := word_sz hq h11
                have HR := Lib.hid hR
                have H11 := Lib.hid h11
                clear h11 hR
                go_wp2_with fail
                refine (word_some b q q2 s _ _ (by exact hrd12) hz (by decide) hq H11.out).mono ?_
                rintro e w13 ⟨rfl, hrd13, ho13⟩
                have S13 := S12.via hbb hq2 hrd13 ho13
                go_wp2
                go_roundg k
                case measure => omega
                case rel => exact ⟨lc ++ [y], g5, c5, q2, by simp; omega, by omega, by simpa using S13, HR.out⟩
          case rest =>
            obtain ⟨lc, g', c', p, S8, hR⟩ := hcut
            unfold pEnd at hR
            have hp := S8.le
            have hrd := S8.rd
            rcases h12 : Pat.word s.data.toList [87] p with _ | a6
            · rw [h12] at hR
              have HR := Lib.hid hR
              have H12 := Lib.hid h12
              clear h12 hR
              go_wp2_with fail
              refine (word_none b p s _ _ (by exact hrd) hz (by decide) hp H12.out).mono ?_
              rintro e w9 ⟨⟨a, c, rfl, hf⟩, ho9⟩
              exact ⟨rfl, PatR.bad HR.out.symm ⟨a, c, rfl, hf⟩ (S8.oth.trans ho9)⟩
            rw [h12] at hR
            simp only at hR
            have ha6 : a6 ≤ s.size := word_sz hp h12
            have HR := Lib.hid hR
            have H12 := Lib.hid h12
            clear h12 hR
            go_wp2_with fail
            refine (word_some b p a6 s _ _ (by exact hrd) hz (by decide) hp H12.out).mono ?_
            rintro e w9 ⟨rfl, hrd9, ho9⟩
            go_wp2
            go_meet
            exact ⟨lc, g', c', a6, S8.via hbb ha6 hrd9 ho9, HR.out⟩
      case rest =>
        obtain ⟨lc, g', c', p, S8, hR⟩ := hcut
        unfold pTail at hR
        have hp := S8.le
        have hrd := S8.rd
        rcases h12 : Pat.word s.data.toList [73, 84, 72, 73, 78, 32] p with _ | a6
        · rw [h12] at hR
          have HR := Lib.hid hR
          have H12 := Lib.hid h12
          clear h12 hR
          go_wp2_with fail
          refine (word_none b p s _ _ (by exact hrd) hz (by decide) hp H12.out).mono ?_
          rintro e w9 ⟨⟨a, c, rfl, hf⟩, ho9⟩
          exact ⟨rfl, PatR.bad HR.out.symm ⟨a, c, rfl, hf⟩ (S8.oth.trans ho9)⟩
        rw [h12] at hR
        simp only at hR
        have ha6 : a6 ≤ s.size := word_sz hp h12
        have H12 := Lib.hid h12
        clear h12
        rcases h13 : Pat.number s.data.toList 48 a6 with _ | ⟨nn, q⟩
        · rw [h13] at hR
          have HR := Lib.hid hR
          have H13 := Lib.hid h13
          clear h13 hR
          go_wp2_with fail
          refine (word_some b p a6 s _ _ (by exact hrd) hz (by decide) hp H12.out).mono ?_
          rintro e w9 ⟨rfl, hrd9, ho9⟩
          go_wp2_with fail
          refine (PR.of_none (number_any b a6 s 48 48 _ (by exact hrd9) hz ha6 rfl (by decide)) H13.out).mono ?_
          rintro e w10 ⟨⟨a, c, rfl, hf⟩, ho10⟩
          exact ⟨rfl, PatR.bad HR.out.symm ⟨a, c, rfl, hf⟩ ((S8.oth.trans ho9).trans ho10)⟩
        rw [h13] at hR
        simp only at hR
        have hq : q ≤ s.size := num_sz (by decide) h13
        have HR := Lib.hid hR
        have H13 := Lib.hid h13
        clear h13 hR
        go_wp2_with fail
        refine (word_some b p a6 s _ _ (by exact hrd) hz (by decide) hp H12.out).mono ?_
        rintro e w9 ⟨rfl, hrd9, ho9⟩
        go_wp2_with fail
        refine (PR.of_some (number_any b a6 s 48 48 _ (by exact hrd9) hz ha6 rfl (by decide)) H13.out).mono ?_
        rintro e w10 ⟨rfl, hrd10, ho10⟩
        have S10 := S8.via hbb hq hrd10 (ho9.trans ho10)
        have e0 := S10.blk.cell 0 _ rfl
        have e1 := S10.blk.cell 1 _ rfl
        have e2 := S10.blk.cell 2 _ rfl
        have ef := fun i => S10.blk.frozen i
        have S11 := S10.blk.set 2 (.int .i64 nn)
        have f0 := S11.cell 0 _ rfl
        have f1 := S11.cell 1 _ rfl
        have f2 := S11.cell 2 _ rfl
        have ff := fun i => S11.frozen i
        go_wp2
        have LF := (((S11.set 0 (.slice g l.length c)).set 1 (.slice g' lc.length c')).set 2 (.int .i64 nn))
        have q0 := LF.cell 0 _ rfl
        have q1 := LF.cell 1 _ rfl
        have q2 := LF.cell 2 _ rfl
        refine bodyPost_ret (v := .agg #[.slice g l.length c, .slice g' lc.length c', .int .i64 nn]) (by simp only [results, Tryz.results169]; simp [go_sem, q0, q1, q2]) rfl ?_
        exact PatR.good HR.out ((((S10.fin.set hbb _ _).set hbb _ _).set hbb _ _).set hbb _ _)
end Go.Proofs.YthbiiccblcoogaaGreatDoor
