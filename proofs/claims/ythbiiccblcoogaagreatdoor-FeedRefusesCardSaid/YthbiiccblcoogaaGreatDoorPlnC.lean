/- oxbowref20: Check. -/
import Derived.Test.YthbiiccblcoogaaGreatDoorPlnB
set_option linter.unusedVariables false
set_option linter.unusedSimpArgs false
namespace Go.Proofs.YthbiiccblcoogaaGreatDoor
open Go.RowKit

/-- What a call of the definitions' Check gives. -/
def QChk (p : Pat.Pattern) (w : World) (e : Ending) (w' : World) : Prop :=
  (∃ a E : Int, e = .returned (.tuple #[.int .i64 a, .int .i64 E]) ∧ ((E = 0 ∧ Okay p) ∨ (E ≠ 0 ∧ ¬ Okay p))) ∧ Below w.heap.size w w'
theorem QChk.bad {p : Pat.Pattern} {w w' : World} {a E : Int} (hE : E ≠ 0) (h : ¬ Okay p) (hb : Below w.heap.size w w') : QChk p w (.returned (.tuple #[.int .i64 a, .int .i64 E])) w' :=
  ⟨⟨a, E, rfl, .inr ⟨hE, h⟩⟩, hb⟩
theorem QChk.good {p : Pat.Pattern} {w w' : World} {a : Int} (h : Okay p) (hb : Below w.heap.size w w') : QChk p w (.returned (.tuple #[.int .i64 a, .int .i64 0])) w' :=
  ⟨⟨a, 0, rfl, .inl ⟨rfl, h⟩⟩, hb⟩

set_option maxRecDepth 100000 in
set_option maxHeartbeats 3200000 in
theorem qcheck_any (g1 g2 : Option Addr) (c1 c2 : Nat) (p : Pat.Pattern) (w : World) (gp : GoodP p) (hs : Sv w g1 p.steps) (hc : Cv w g2 p.conds) :
    Calls Tryz.prog 24 #[.agg #[.slice g1 p.steps.length c1, .slice g2 p.conds.length c2, .int .i64 p.within]] w (QChk p w) := by
  have h1 : (1 : Int) ≤ p.steps.length := by have := gp.s1; omega
  have h2 : (p.steps.length : Int) ≤ 8 := by have := gp.s2; omega
  have h3 : (p.conds.length : Int) ≤ 16 := by have := gp.c1; omega
  have h4 := gp.w1
  have h5 : p.within ≤ 9007199254740992 := by have := gp.w2; omega
  have B0 := (Below.refl w.heap.size w).alloc (Nat.le_refl _) (.cells #[.slice g1 p.steps.length c1, .slice g2 p.conds.length c2, .int .i64 p.within] 75)
  have X0 := Lb.new w #[.slice g1 p.steps.length c1, .slice g2 p.conds.length c2, .int .i64 p.within] 75
  have x0 := X0.cell 0 _ rfl
  have x1 := X0.cell 1 _ rfl
  have x2 := X0.cell 2 _ rfl
  have hBi := gp.binds
  have hS := gp.st
  have hC := gp.cd
  have hne : ((p.steps.length : Int) == 0) = false := beq_eq_false_iff_ne.2 (by omega)
  go_enter Tryz.func24, Tryz.ntmps24
  go_wp2_with fail
  go_loopw [5, 6] (fun v5 v6 wr => ∃ i : Nat, i ≤ p.steps.length ∧ v6 = .int .i64 i ∧ v5 = .int .i64 (bindsOf (p.steps.take i)) ∧ Below (w.heap.size + 1) (w.alloc (.cells #[.slice g1 p.steps.length c1, .slice g2 p.conds.length c2, .int .i64 p.within] 75)) wr ∧ ∀ (j : Nat) x, j < i → p.steps[j]? = some x → stepE p.steps j x = 0) (fun _ v6 _ => 20 - (intOf v6).toNat)
  case atStart => exact ⟨0, Nat.zero_le _, rfl, rfl, Below.refl _ _, fun j x hj => absurd hj (Nat.not_lt_zero _)⟩
  case round =>
    obtain ⟨i, hi, rfl, rfl, hb, hno⟩ := hrel
    have hBw : Below w.heap.size w wr := B0.trans (hb.mono (Nat.le_succ _))
    have hX := X0.below hb (by omega)
    have i0 := hX.cell 0 _ rfl
    have i1 := hX.cell 1 _ rfl
    have i2 := hX.cell 2 _ rfl
    by_cases hlt : i < p.steps.length
    · obtain ⟨x, hx⟩ : ∃ x, p.steps[i]? = some x := ⟨p.steps[i], List.getElem?_eq_getElem hlt⟩
      have hii : (i : Int) < p.steps.length := by omega
      have gx := hS i x hx
      have hbi := hBi i hi
      have hbt := bindsOf_take hx
      have sr := hs.below hBw
      have g1' := gx.l1
      have g2' := gx.l2
      have g3' := gx.l3
      have hwr : w.heap.size + 1 ≤ wr.heap.size := by have := hb.size; simpa using this
      obtain ⟨E, hE⟩ : ∃ E, stepE p.steps i x = E := ⟨_, rfl⟩
      have HX := Lib.hid hx
      have HN := Lib.hid hno
      have HT := Lib.hid hbt
      have HE := Lib.hid hE
      clear hx hno hbt hE
      go_wp2_with fail
      refine (qstep_any g1 g2 c1 p.conds.length c2 i p.within p.steps x _ (by omega) (by exact sr) HX.out gx E HE.out).mono ?_
      rintro e w2 ⟨rfl, hb2⟩
      have hbb2 := hb.trans (hb2.mono hwr)
      have hX2 := hX.below hb2 hX.lt
      have j0 := hX2.cell 0 _ rfl
      have s2 := sr.below hb2
      obtain ⟨b, rfl, hbb, d0, d1, d2, d3, d4⟩ := s2 i x HX.out
      clear sr hX i0 i1 i2 hb2 x0 x1 x2
      by_cases h0 : E = 0
      · subst h0
        rcases hng : x.neg with _ | _ <;> rw [hng] at d2 HT
        · go_wp2
          go_roundw
          case rel =>
            refine ⟨i + 1, by omega, by go_num, ?_, hbb2, fun j y hj hy => ?_⟩
            · rw [HT.out]; simp
            · by_cases hji : j = i
              · subst hji; rw [HX.out] at hy; injection hy with hy; subst hy; exact HE.out
              · exact HN.out j y (by omega) hy
          case measure => simp [intOf]; omega
        · go_wp2
          go_roundw
          case rel =>
            refine ⟨i + 1, by omega, by go_num, ?_, hbb2, fun j y hj hy => ?_⟩
            · rw [HT.out]; simp
            · by_cases hji : j = i
              · subst hji; rw [HX.out] at hy; injection hy with hy; subst hy; exact HE.out
              · exact HN.out j y (by omega) hy
          case measure => simp [intOf]; omega
      · have hE0 : (E != 0) = true := by rw [bne_iff_ne]; exact h0
        have H0 := Lib.hid h0
        clear h0
        go_wp2
        go_ret2
        exact QChk.bad H0.out (fun h => by have h1 := h.1 i x HX.out; rw [HE.out] at h1; exact H0.out h1) (B0.trans (hbb2.mono (Nat.le_succ _)))
    · have hii : ¬ (i : Int) < p.steps.length := by omega
      have hil : i = p.steps.length := by omega
      subst hil
      rw [List.take_length] at *
      have hbb := (hBi _ (Nat.le_refl _))
      rw [List.take_length] at hbb
      have HN := Lib.hid hno
      clear hno
      by_cases h16 : 16 < bindsOf p.steps
      · have HB : Okay p → False := fun h => by have := h.2.1; omega
        generalize bindsOf p.steps = N at *
        have HB' := Lib.hid HB
        clear HB
        go_wp2
        go_ret2
        exact QChk.bad (by decide) HB'.out hBw
      · have h16' : bindsOf p.steps ≤ 16 := by omega
        clear h16
        have HB := Lib.hid h16'
        obtain ⟨N, hN⟩ : ∃ N, bindsOf p.steps = N := ⟨_, rfl⟩
        rw [hN] at h16' hbb ⊢
        clear hN
        obtain ⟨wo, hwo⟩ : ∃ wo : World, wo = wr := ⟨_, rfl⟩
        subst hwo
        go_wp2_with fail
        go_loopw [8] (fun v8 wr => ∃ i : Nat, i ≤ p.conds.length ∧ v8 = .int .i64 i ∧ Below (w.heap.size + 1) (w.alloc (.cells #[.slice g1 p.steps.length c1, .slice g2 p.conds.length c2, .int .i64 p.within] 75)) wr ∧ ∀ (j : Nat) c, j < i → p.conds[j]? = some c → condE p.steps c = 0) (fun v8 _ => 30 - (intOf v8).toNat)
        case atStart => exact ⟨0, Nat.zero_le _, rfl, hb, fun j x hj => absurd hj (Nat.not_lt_zero _)⟩
        case round =>
          obtain ⟨i, hi, rfl, hb', hno⟩ := hrel
          have hBr : Below w.heap.size w wr := B0.trans (hb'.mono (Nat.le_succ _))
          have hXr := X0.below hb' (by omega)
          have m0 := hXr.cell 0 _ rfl
          have m1 := hXr.cell 1 _ rfl
          have m2 := hXr.cell 2 _ rfl
          clear i0 i1 i2 x0 x1 x2 hX
          by_cases hlt : i < p.conds.length
          · obtain ⟨x, hx⟩ : ∃ x, p.conds[i]? = some x := ⟨p.conds[i], List.getElem?_eq_getElem hlt⟩
            have hii' : (i : Int) < p.conds.length := by omega
            have gx := hC i x hx
            have sr := hs.below hBr
            have cr := hc.below hBr
            obtain ⟨b, rfl, hbb', d0, d1, d2, d3⟩ := cr i x hx
            obtain ⟨E, hE⟩ : ∃ E, condE p.steps x = E := ⟨_, rfl⟩
            have HX := Lib.hid hx
            have HN' := Lib.hid hno
            have HE := Lib.hid hE
            have hwr : w.heap.size + 1 ≤ wr.heap.size := by have := hb'.size; simpa using this
            clear hx hno hE
            go_wp2
            go_still_tail 6, mix
            change wpList _ _ _ _ _ wr.drew
            go_wp2_with fail
            refine (qcond_any g1 _ c1 p.conds.length c2 p.within p.steps x _ (by omega) (by exact sr) gx E HE.out).mono ?_
            rintro e w2 ⟨rfl, hb2⟩
            have hb2' : Below wr.heap.size wr w2 := ((Below.refl _ wr).drew).trans hb2
            have hbb2 := hb'.trans (hb2'.mono hwr)
            have hX2 := hXr.below hb2' hXr.lt
            have j0 := hX2.cell 0 _ rfl
            have j1 := hX2.cell 1 _ rfl
            clear d0 d1 d2 d3 m0 m1 m2 sr cr hb2 hb2'
            by_cases h0 : E = 0
            · subst h0
              go_wp2
              go_roundw
              case rel =>
                refine ⟨i + 1, by omega, by go_num, hbb2, fun j y hj hy => ?_⟩
                by_cases hji : j = i
                · subst hji; rw [HX.out] at hy; injection hy with hy; subst hy; exact HE.out
                · exact HN'.out j y (by omega) hy
              case measure => simp [intOf]; omega
            · have hE0 : (E != 0) = true := by rw [bne_iff_ne]; exact h0
              have H0 := Lib.hid h0
              clear h0
              go_wp2
              go_ret2
              exact QChk.bad H0.out (fun h => by have h1 := h.2.2 i x HX.out; rw [HE.out] at h1; exact H0.out h1) (B0.trans (hbb2.mono (Nat.le_succ _)))
          · have hii' : ¬ (i : Int) < p.conds.length := by omega
            have hil : i = p.conds.length := by omega
            subst hil
            have HN' := Lib.hid hno
            clear hno
            go_wp2
            go_ret2
            exact QChk.good ⟨fun j x hx => HN.out j x (List.getElem?_eq_some_iff.1 hx).1 hx, HB.out, fun j x hx => HN'.out j x (List.getElem?_eq_some_iff.1 hx).1 hx⟩ hBr
end Go.Proofs.YthbiiccblcoogaaGreatDoor
